-- PRINTED BY print.sh 35421559b90ae4d0a3588c463048766b98c2df88dd9212a6774a882060cdf62d: not written by this session
import Derived.Test.YtmgmpdlceepjdaaPVintFirstx0
import Derived.Test.YtmgmpdlceepjdaaPVintFirstx1
import Derived.Test.YtmgmpdlceepjdaaPVintFirstx2
namespace Go.Proofs.Ytmgmpdlceepjdaa.PVintFirst
open Go.RowKit Go.Proofs.YtmgmpdlceepjdaaW.PrintWords Go.Proofs.YtmgmpdlceepjdaaW.PrintLast Go.Proofs.YtmgmpdlceepjdaaW.PrintMore
attribute [local go_sem] max2_int min2_int max_two min_two max_three min_three max_four min_four   -- for this text's walks alone
set_option linter.unusedVariables false
set_option linter.unusedSimpArgs false

/-! ### catchwordlaw01_VintFirst: function 7 -/
def catchwordlaw01_VintFirst.j0 : Nat → Int → Int → Bool → List Int → List Int → Bool → Option (Bool)
  | 0, _, _, _, _, _, _ => none
  | k + 1, x0, x1, x5, x6, x7, x31 => if x31 = true then (if x5 = true then (if x0 = x1 then ((catchwordref01_Bytes.f k x6 x7).bind fun t191 => (some t191)) else (some true)) else (some false)) else (if (x7.length : Int) < (x6.length : Int) then (if 0 ≤ (x7.length : Int) then (if (x7.length : Int) ≤ (x6.length : Int) then (if (x7.length : Int) ≤ (x7.length : Int) then ((catchwordref01_Bytes.f k (x6.take ((x7.length : Int) : Int).toNat) (x7.take ((x7.length : Int) : Int).toNat)).bind fun t200 => (if t200 = true then (some false) else (if x0 < x1 then (if (x6.length : Int) ≤ (x7.length : Int) then (some true) else (if x0 > x1 then (some (decide ((x7.length : Int) ≤ (x6.length : Int)))) else (some false))) else (if x0 > x1 then (some (decide ((x7.length : Int) ≤ (x6.length : Int)))) else (some false))))) else (none)) else (none)) else (none)) else (if 0 ≤ (x6.length : Int) then (if (x6.length : Int) ≤ (x6.length : Int) then (if (x6.length : Int) ≤ (x7.length : Int) then ((catchwordref01_Bytes.f k (x6.take ((x6.length : Int) : Int).toNat) (x7.take ((x6.length : Int) : Int).toNat)).bind fun t209 => (if t209 = true then (some false) else (if x0 < x1 then (some true) else (if x0 > x1 then (some (decide ((x7.length : Int) ≤ (x6.length : Int)))) else (some false))))) else (none)) else (none)) else (none)))
def catchwordlaw01_VintFirst.f (k : Nat) (a0 : Int) (a1 : Int) : Option (Bool) := (catchwordlaw01_awake.f k).bind fun t184 => ((vint_Put.f k a0).bind fun t185 => ((vint_Put.f k a1).bind fun t188 => (if t184 = true then (if (t185.length : Int) = 0 then (catchwordlaw01_VintFirst.j0 k a0 a1 t184 t185 t188 true) else (if (t188.length : Int) = 0 then (catchwordlaw01_VintFirst.j0 k a0 a1 t184 t185 t188 true) else (catchwordlaw01_VintFirst.j0 k a0 a1 t184 t185 t188 (a0 == a1)))) else (catchwordlaw01_VintFirst.j0 k a0 a1 t184 t185 t188 true))))
theorem catchwordlaw01_VintFirst.mono_l : ∀ k, (∀ y0 y1 y2 y3 y4 y5, LeO (catchwordlaw01_VintFirst.j0 k y0 y1 y2 y3 y4 y5) (catchwordlaw01_VintFirst.j0 (k + 1) y0 y1 y2 y3 y4 y5))
  | 0 => fun _ _ _ _ _ _ r h => by simp [catchwordlaw01_VintFirst.j0] at h
  | k + 1 => by
    have ih0 := catchwordlaw01_VintFirst.mono_l k
    · intro y0 y1 y2 y3 y4 y5
      unfold catchwordlaw01_VintFirst.j0
      repeat' first
      | (with_reducible exact ih0 _ _ _ _ _ _)
      | (with_reducible exact catchwordlaw01_awake.mono _)
      | (with_reducible exact catchwordref01_Bytes.mono _ _ _)
      | (with_reducible exact vint_Put.mono _ _)
      | (with_reducible exact LeO.refl _)
      | (with_reducible exact LeO.none _)
      | (with_reducible refine LeO.ite ?_ ?_)
      | (with_reducible refine LeO.bind ?_ (fun _ => ?_))
      | exact ih0 _ _ _ _ _ _
      | exact catchwordlaw01_awake.mono _
      | exact catchwordref01_Bytes.mono _ _ _
      | exact vint_Put.mono _ _
      | exact LeO.none _
      | refine LeO.ite ?_ ?_
      | refine LeO.bind ?_ (fun _ => ?_)
theorem catchwordlaw01_VintFirst.mono : ∀ a0 a1 k, LeO (catchwordlaw01_VintFirst.f k a0 a1) (catchwordlaw01_VintFirst.f (k + 1) a0 a1) := by
  intro a0 a1 k
  have ih0 := catchwordlaw01_VintFirst.mono_l k
  unfold catchwordlaw01_VintFirst.f
  repeat' first
      | (with_reducible exact ih0 _ _ _ _ _ _)
      | (with_reducible exact catchwordlaw01_awake.mono _)
      | (with_reducible exact catchwordref01_Bytes.mono _ _ _)
      | (with_reducible exact vint_Put.mono _ _)
      | (with_reducible exact LeO.refl _)
      | (with_reducible exact LeO.none _)
      | (with_reducible refine LeO.ite ?_ ?_)
      | (with_reducible refine LeO.bind ?_ (fun _ => ?_))
      | exact ih0 _ _ _ _ _ _
      | exact catchwordlaw01_awake.mono _
      | exact catchwordref01_Bytes.mono _ _ _
      | exact vint_Put.mono _ _
      | exact LeO.none _
      | refine LeO.ite ?_ ?_
      | refine LeO.bind ?_ (fun _ => ?_)
set_option maxHeartbeats 8000000 in
set_option maxRecDepth 100000 in
theorem catchwordlaw01_VintFirst.calls (k : Nat) (a0 : Int) (a1 : Int) (r : Bool) (w : World) (h : catchwordlaw01_VintFirst.f k a0 a1 = some r) :
    Calls Try.prog 7 #[.int .i64 a0, .int .i64 a1] w fun e w' => e = .returned (.bool r) ∧ Below w.heap.size w w' := by
  have HB := Aside0.mk (Below.refl w.heap.size w)
  have H : ((catchwordlaw01_awake.f k).bind fun t184 => ((vint_Put.f k a0).bind fun t185 => ((vint_Put.f k a1).bind fun t188 => (if t184 = true then (if (t185.length : Int) = 0 then (catchwordlaw01_VintFirst.j0 k a0 a1 t184 t185 t188 true) else (if (t188.length : Int) = 0 then (catchwordlaw01_VintFirst.j0 k a0 a1 t184 t185 t188 true) else (catchwordlaw01_VintFirst.j0 k a0 a1 t184 t185 t188 (a0 == a1)))) else (catchwordlaw01_VintFirst.j0 k a0 a1 t184 t185 t188 true))))) = some r := h
  clear h
  replace H := Option.bind_eq_some_iff.mp H
  obtain ⟨t184, A30, H⟩ := H
  replace H : ((vint_Put.f k a0).bind fun t185 => ((vint_Put.f k a1).bind fun t188 => (if t184 = true then (if (t185.length : Int) = 0 then (catchwordlaw01_VintFirst.j0 k a0 a1 t184 t185 t188 true) else (if (t188.length : Int) = 0 then (catchwordlaw01_VintFirst.j0 k a0 a1 t184 t185 t188 true) else (catchwordlaw01_VintFirst.j0 k a0 a1 t184 t185 t188 (a0 == a1)))) else (catchwordlaw01_VintFirst.j0 k a0 a1 t184 t185 t188 true)))) = some r := H
  have A3 := Aside0.mk A30
  clear A30
  replace H := Option.bind_eq_some_iff.mp H
  obtain ⟨t185, A40, H⟩ := H
  replace H : ((vint_Put.f k a1).bind fun t188 => (if t184 = true then (if (t185.length : Int) = 0 then (catchwordlaw01_VintFirst.j0 k a0 a1 t184 t185 t188 true) else (if (t188.length : Int) = 0 then (catchwordlaw01_VintFirst.j0 k a0 a1 t184 t185 t188 true) else (catchwordlaw01_VintFirst.j0 k a0 a1 t184 t185 t188 (a0 == a1)))) else (catchwordlaw01_VintFirst.j0 k a0 a1 t184 t185 t188 true))) = some r := H
  have A4 := Aside0.mk A40
  clear A40
  replace H := Option.bind_eq_some_iff.mp H
  obtain ⟨t188, A50, H⟩ := H
  replace H : (if t184 = true then (if (t185.length : Int) = 0 then (catchwordlaw01_VintFirst.j0 k a0 a1 t184 t185 t188 true) else (if (t188.length : Int) = 0 then (catchwordlaw01_VintFirst.j0 k a0 a1 t184 t185 t188 true) else (catchwordlaw01_VintFirst.j0 k a0 a1 t184 t185 t188 (a0 == a1)))) else (catchwordlaw01_VintFirst.j0 k a0 a1 t184 t185 t188 true)) = some r := H
  have A5 := Aside0.mk A50
  clear A50
  have HC6 := Aside0.mk H
  clear H
  go_enter Try.func7, Try.ntmps7
  go_upto_region 4 with (first | (go_at_call 9; (with_reducible refine (catchwordlaw01_awake.calls k  t184 _ A3.out).mono ?_); rintro e w7 ⟨rfl, hb⟩; have n0_ := Aside0.mk (below_step (by repeat (first | (with_reducible first | exact HB.out | apply below_alloc | apply pw_below_drewN | apply below_drew1) | exact HB.out)) hb); clear HB; have HB := n0_; clear n0_; (try clear hb); (try clear hb2); (try clear hk); (try clear hi)) | (go_at_call 13; (with_reducible refine (vint_Put.calls k a0 t185 _ A4.out).mono ?_); rintro e w8 ⟨v186, rfl, ho0, hb⟩; have n0_ := Aside0.mk (Kd.R_lower ho0 (below_size (by repeat (first | (with_reducible first | exact HB.out | apply below_alloc | apply pw_below_drewN | apply below_drew1) | exact HB.out)))); have n1_ := Aside0.mk (below_step (by repeat (first | (with_reducible first | exact HB.out | apply below_alloc | apply pw_below_drewN | apply below_drew1) | exact HB.out)) hb); clear HB; have HO187 := n0_; have HB := n1_; clear n0_ n1_; (try clear hb); (try clear hb2); (try clear hk); (try clear hi); (try clear ho0)) | (go_at_call 13; (with_reducible refine (vint_Put.calls k a1 t188 _ A5.out).mono ?_); rintro e w9 ⟨v189, rfl, ho0, hb⟩; have n0_ := Aside0.mk (Kd.R_elder' (by (with_reducible repeat (first | apply Kd.R_alloc | apply Kd.R_drewN | apply Kd.R_drew)); exact HO187.out) (Kd.R_base ho0) hb); have n1_ := Aside0.mk (Kd.R_lower (Kd.R_new' ho0 (Kd.R_lt (by (with_reducible repeat (first | apply Kd.R_alloc | apply Kd.R_drewN | apply Kd.R_drew)); exact HO187.out))) (below_size (by repeat (first | (with_reducible first | exact HB.out | apply below_alloc | apply pw_below_drewN | apply below_drew1) | exact HB.out)))); have n2_ := Aside0.mk (below_step (by repeat (first | (with_reducible first | exact HB.out | apply below_alloc | apply pw_below_drewN | apply below_drew1) | exact HB.out)) hb); clear HO187; clear HB; have HO187 := n0_; have HO190 := n1_; have HB := n2_; clear n0_ n1_ n2_; (try clear hb); (try clear hb2); (try clear hk); (try clear hi); (try clear ho0)))
  repeat (go_quiet (first | (go_at_call 9; (with_reducible refine (catchwordlaw01_awake.calls k  t184 _ A3.out).mono ?_); rintro e w7 ⟨rfl, hb⟩; have n0_ := Aside0.mk (below_step (by repeat (first | (with_reducible first | exact HB.out | apply below_alloc | apply pw_below_drewN | apply below_drew1) | exact HB.out)) hb); clear HB; have HB := n0_; clear n0_; (try clear hb); (try clear hb2); (try clear hk); (try clear hi)) | (go_at_call 13; (with_reducible refine (vint_Put.calls k a0 t185 _ A4.out).mono ?_); rintro e w8 ⟨v186, rfl, ho0, hb⟩; have n0_ := Aside0.mk (Kd.R_lower ho0 (below_size (by repeat (first | (with_reducible first | exact HB.out | apply below_alloc | apply pw_below_drewN | apply below_drew1) | exact HB.out)))); have n1_ := Aside0.mk (below_step (by repeat (first | (with_reducible first | exact HB.out | apply below_alloc | apply pw_below_drewN | apply below_drew1) | exact HB.out)) hb); clear HB; have HO187 := n0_; have HB := n1_; clear n0_ n1_; (try clear hb); (try clear hb2); (try clear hk); (try clear hi); (try clear ho0)) | (go_at_call 13; (with_reducible refine (vint_Put.calls k a1 t188 _ A5.out).mono ?_); rintro e w9 ⟨v189, rfl, ho0, hb⟩; have n0_ := Aside0.mk (Kd.R_elder' (by (with_reducible repeat (first | apply Kd.R_alloc | apply Kd.R_drewN | apply Kd.R_drew)); exact HO187.out) (Kd.R_base ho0) hb); have n1_ := Aside0.mk (Kd.R_lower (Kd.R_new' ho0 (Kd.R_lt (by (with_reducible repeat (first | apply Kd.R_alloc | apply Kd.R_drewN | apply Kd.R_drew)); exact HO187.out))) (below_size (by repeat (first | (with_reducible first | exact HB.out | apply below_alloc | apply pw_below_drewN | apply below_drew1) | exact HB.out)))); have n2_ := Aside0.mk (below_step (by repeat (first | (with_reducible first | exact HB.out | apply below_alloc | apply pw_below_drewN | apply below_drew1) | exact HB.out)) hb); clear HO187; clear HB; have HO187 := n0_; have HO190 := n1_; have HB := n2_; clear n0_ n1_ n2_; (try clear hb); (try clear hb2); (try clear hk); (try clear hi); (try clear ho0))); go_upto_region 4 with (first | (go_at_call 9; (with_reducible refine (catchwordlaw01_awake.calls k  t184 _ A3.out).mono ?_); rintro e w7 ⟨rfl, hb⟩; have n0_ := Aside0.mk (below_step (by repeat (first | (with_reducible first | exact HB.out | apply below_alloc | apply pw_below_drewN | apply below_drew1) | exact HB.out)) hb); clear HB; have HB := n0_; clear n0_; (try clear hb); (try clear hb2); (try clear hk); (try clear hi)) | (go_at_call 13; (with_reducible refine (vint_Put.calls k a0 t185 _ A4.out).mono ?_); rintro e w8 ⟨v186, rfl, ho0, hb⟩; have n0_ := Aside0.mk (Kd.R_lower ho0 (below_size (by repeat (first | (with_reducible first | exact HB.out | apply below_alloc | apply pw_below_drewN | apply below_drew1) | exact HB.out)))); have n1_ := Aside0.mk (below_step (by repeat (first | (with_reducible first | exact HB.out | apply below_alloc | apply pw_below_drewN | apply below_drew1) | exact HB.out)) hb); clear HB; have HO187 := n0_; have HB := n1_; clear n0_ n1_; (try clear hb); (try clear hb2); (try clear hk); (try clear hi); (try clear ho0)) | (go_at_call 13; (with_reducible refine (vint_Put.calls k a1 t188 _ A5.out).mono ?_); rintro e w9 ⟨v189, rfl, ho0, hb⟩; have n0_ := Aside0.mk (Kd.R_elder' (by (with_reducible repeat (first | apply Kd.R_alloc | apply Kd.R_drewN | apply Kd.R_drew)); exact HO187.out) (Kd.R_base ho0) hb); have n1_ := Aside0.mk (Kd.R_lower (Kd.R_new' ho0 (Kd.R_lt (by (with_reducible repeat (first | apply Kd.R_alloc | apply Kd.R_drewN | apply Kd.R_drew)); exact HO187.out))) (below_size (by repeat (first | (with_reducible first | exact HB.out | apply below_alloc | apply pw_below_drewN | apply below_drew1) | exact HB.out)))); have n2_ := Aside0.mk (below_step (by repeat (first | (with_reducible first | exact HB.out | apply below_alloc | apply pw_below_drewN | apply below_drew1) | exact HB.out)) hb); clear HO187; clear HB; have HO187 := n0_; have HO190 := n1_; have HB := n2_; clear n0_ n1_ n2_; (try clear hb); (try clear hb2); (try clear hk); (try clear hi); (try clear ho0))))
  (try simp only [Act.put, List.setIfInBounds_toArray, List.set_cons_zero, List.set_cons_succ])
  go_cut [31] (fun v31 wc => ∃ (kq : Nat) (x31_5 : Bool), v31 = .bool x31_5 ∧ Aside0 (catchwordlaw01_VintFirst.j0 kq a0 a1 t184 t185 t188 x31_5 = some r) ∧ Aside0 (kq ≤ k) ∧ Aside0 (Kd.R (Kd.int .u8) 5 wc w.heap.size (fun k_ => some k_ ≠ (v189 : Value).ownBlock) v186 t185) ∧ Aside0 (Kd.R (Kd.int .u8) 5 wc w.heap.size (fun k_ => some k_ ≠ (v186 : Value).ownBlock) v189 t188) ∧ Aside0 (Below w.heap.size w wc))
  case first =>
    have H := HC6.out
    clear HC6
    by_cases c10 : t184 = true
    · subst c10
      have H1 : (if (t185.length : Int) = 0 then (catchwordlaw01_VintFirst.j0 k a0 a1 true t185 t188 true) else (if (t188.length : Int) = 0 then (catchwordlaw01_VintFirst.j0 k a0 a1 true t185 t188 true) else (catchwordlaw01_VintFirst.j0 k a0 a1 true t185 t188 (a0 == a1)))) = some r := by rw [if_pos rfl] at H; exact H
      clear H
      have H := H1
      clear H1
      by_cases c11 : (t185.length : Int) = 0
      · rw [if_pos c11] at H
        have c11b0 : ((t185.length : Int) == 0) = true := beq_iff_eq.mpr c11
        have c11b1 : ((t185.length : Int) != 0) = false := bne_eq_false_iff_eq.mpr c11
        clear c11
        (first | rw [c11b0] | (simp only [i64_w, i32_w]; rw [c11b0]) | skip)
        have H' := Aside0.mk H
        clear H
        obtain ⟨Ao12, co12, eo12⟩ := Kd.R_slice HO187.out
        subst eo12
        go_wp2
        repeat (go_quiet (fail); try go_wp2)
        go_meet
        case rel => exact ⟨_, (true), (by first | rfl | (simp; done) | (simp [*]; done)), H', ⟨by first | omega | exact Nat.le_refl _⟩, ⟨by (with_reducible repeat (first | apply Kd.R_alloc | apply Kd.R_drewN | apply Kd.R_drew)); exact Kd.R_mono HO187.out (fun _ hk => hk.2)⟩, ⟨by (with_reducible repeat (first | apply Kd.R_alloc | apply Kd.R_drewN | apply Kd.R_drew)); exact Kd.R_mono HO190.out (fun _ hk => hk.2)⟩, ⟨by repeat (first | (with_reducible first | exact HB.out | apply below_alloc | apply pw_below_drewN | apply below_drew1) | exact HB.out)⟩⟩
      · rw [if_neg c11] at H
        have c11b0 : ((t185.length : Int) == 0) = false := beq_eq_false_iff_ne.mpr c11
        have c11b1 : ((t185.length : Int) != 0) = true := bne_iff_ne.mpr c11
        have c11b2 : ¬ (t185 = []) := fun h_ => c11 (by rw [h_]; rfl)
        (first | rw [c11b0] | (simp only [i64_w, i32_w]; rw [c11b0]) | skip)
        by_cases c13 : (t188.length : Int) = 0
        · rw [if_pos c13] at H
          have c13b0 : ((t188.length : Int) == 0) = true := beq_iff_eq.mpr c13
          have c13b1 : ((t188.length : Int) != 0) = false := bne_eq_false_iff_eq.mpr c13
          clear c13
          have H' := Aside0.mk H
          clear H
          obtain ⟨Ao14, co14, eo14⟩ := Kd.R_slice HO187.out
          subst eo14
          obtain ⟨Ao15, co15, eo15⟩ := Kd.R_slice HO190.out
          subst eo15
          go_wp2
          repeat (go_quiet (fail); try go_wp2)
          go_meet
          case rel => exact ⟨_, (true), (by first | rfl | (simp; done) | (simp [*]; done)), H', ⟨by first | omega | exact Nat.le_refl _⟩, ⟨by (with_reducible repeat (first | apply Kd.R_alloc | apply Kd.R_drewN | apply Kd.R_drew)); exact Kd.R_mono HO187.out (fun _ hk => hk.2)⟩, ⟨by (with_reducible repeat (first | apply Kd.R_alloc | apply Kd.R_drewN | apply Kd.R_drew)); exact Kd.R_mono HO190.out (fun _ hk => hk.2)⟩, ⟨by repeat (first | (with_reducible first | exact HB.out | apply below_alloc | apply pw_below_drewN | apply below_drew1) | exact HB.out)⟩⟩
        · rw [if_neg c13] at H
          have c13b0 : ((t188.length : Int) == 0) = false := beq_eq_false_iff_ne.mpr c13
          have c13b1 : ((t188.length : Int) != 0) = true := bne_iff_ne.mpr c13
          have c13b2 : ¬ (t188 = []) := fun h_ => c13 (by rw [h_]; rfl)
          have H' := Aside0.mk H
          clear H
          obtain ⟨Ao16, co16, eo16⟩ := Kd.R_slice HO187.out
          subst eo16
          obtain ⟨Ao17, co17, eo17⟩ := Kd.R_slice HO190.out
          subst eo17
          go_wp2
          repeat (go_quiet (fail); try go_wp2)
          go_meet
          case rel => exact ⟨_, ((a0 == a1)), (by first | rfl | (simp; done) | (simp [*]; done)), H', ⟨by first | omega | exact Nat.le_refl _⟩, ⟨by (with_reducible repeat (first | apply Kd.R_alloc | apply Kd.R_drewN | apply Kd.R_drew)); exact Kd.R_mono HO187.out (fun _ hk => hk.2)⟩, ⟨by (with_reducible repeat (first | apply Kd.R_alloc | apply Kd.R_drewN | apply Kd.R_drew)); exact Kd.R_mono HO190.out (fun _ hk => hk.2)⟩, ⟨by repeat (first | (with_reducible first | exact HB.out | apply below_alloc | apply pw_below_drewN | apply below_drew1) | exact HB.out)⟩⟩
    · replace c10 := Bool.eq_false_iff.mpr c10
      subst c10
      have H1 : (catchwordlaw01_VintFirst.j0 k a0 a1 false t185 t188 true) = some r := by rw [if_neg (show ¬ (false = true) by decide)] at H; exact H
      clear H
      have H := H1
      clear H1
      have H' := Aside0.mk H
      clear H
      go_wp2
      repeat (go_quiet (fail); try go_wp2)
      go_meet
      case rel => exact ⟨_, (true), (by first | rfl | (simp; done) | (simp [*]; done)), H', ⟨by first | omega | exact Nat.le_refl _⟩, ⟨by (with_reducible repeat (first | apply Kd.R_alloc | apply Kd.R_drewN | apply Kd.R_drew)); exact Kd.R_mono HO187.out (fun _ hk => hk.2)⟩, ⟨by (with_reducible repeat (first | apply Kd.R_alloc | apply Kd.R_drewN | apply Kd.R_drew)); exact Kd.R_mono HO190.out (fun _ hk => hk.2)⟩, ⟨by repeat (first | (with_reducible first | exact HB.out | apply below_alloc | apply pw_below_drewN | apply below_drew1) | exact HB.out)⟩⟩
  case rest =>
    clear HC6
    try clear c1
    try clear p2
    try clear c7
    try clear c10
    try clear c11
    try clear c11b0
    try clear c11b1
    try clear c11b2
    try clear c13
    try clear c13b0
    try clear c13b1
    try clear c13b2
    obtain ⟨kq, x31_5, rfl, HA, HJ5, HO_6, HO_7, HB⟩ := hcut
    cases kq with
    | zero => exact absurd HA.out (by simp [catchwordlaw01_VintFirst.j0])
    | succ kj5 =>
      have H := HA.out
      clear HA
      simp only [catchwordlaw01_VintFirst.j0] at H
      by_cases c18 : x31_5 = true
      · subst c18
        have H1 : (if t184 = true then (if a0 = a1 then ((catchwordref01_Bytes.f kj5 t185 t188).bind fun t191 => (some t191)) else (some true)) else (some false)) = some r := by rw [if_pos rfl] at H; exact H
        clear H
        have H := H1
        clear H1
        by_cases c19 : t184 = true
        · subst c19
          have H1 : (if a0 = a1 then ((catchwordref01_Bytes.f kj5 t185 t188).bind fun t191 => (some t191)) else (some true)) = some r := by rw [if_pos rfl] at H; exact H
          clear H
          have H := H1
          clear H1
          by_cases c20 : a0 = a1
          · rw [if_pos c20] at H
            have c20b0 : (a0 == a1) = true := beq_iff_eq.mpr c20
            have c20b1 : (a0 != a1) = false := bne_eq_false_iff_eq.mpr c20
            clear c20
            replace H := Option.bind_eq_some_iff.mp H
            obtain ⟨t191, A210, H⟩ := H
            replace H : (some t191) = some r := H
            have A21 := Aside0.mk A210
            clear A210
            obtain rfl := Option.some.inj H
            obtain ⟨Ao22, co22, eo22⟩ := Kd.R_slice HO_6.out
            subst eo22
            obtain ⟨Ao23, co23, eo23⟩ := Kd.R_slice HO_7.out
            subst eo23
            go_wp2_with (first | (go_at_call 12; (with_reducible refine (catchwordref01_Bytes.calls kj5 _ _ t185 _ _ t188 t191 _ ?side1 ?side2 ?side3 ?side4 A21.out).mono ?_); (case side1 => repeat (first | exact (Kd.R_reads' HO_6.out).2.2 | (with_reducible refine Kd.C_alloc ?_ _) | (with_reducible refine Kd.C_drewN ?_ _) | (with_reducible refine Kd.C_drew ?_))); (case side2 => exact (Kd.R_reads' HO_6.out).2.1); (case side3 => repeat (first | exact (Kd.R_reads' HO_7.out).2.2 | (with_reducible refine Kd.C_alloc ?_ _) | (with_reducible refine Kd.C_drewN ?_ _) | (with_reducible refine Kd.C_drew ?_))); (case side4 => exact (Kd.R_reads' HO_7.out).2.1); rintro e w' ⟨rfl, ⟨nd, rfl⟩⟩; (try first | exact ⟨rfl, _, World.drewN_drewN _ _ _⟩ | exact ⟨rfl, _, Eq.trans (World.drewN_drewN _ _ _) (congrArg (World.drewN _) (Nat.add_assoc _ _ _))⟩)))
            repeat (go_quiet (first | (go_at_call 12; (with_reducible refine (catchwordref01_Bytes.calls kj5 _ _ t185 _ _ t188 t191 _ ?side1 ?side2 ?side3 ?side4 A21.out).mono ?_); (case side1 => repeat (first | exact (Kd.R_reads' HO_6.out).2.2 | (with_reducible refine Kd.C_alloc ?_ _) | (with_reducible refine Kd.C_drewN ?_ _) | (with_reducible refine Kd.C_drew ?_))); (case side2 => exact (Kd.R_reads' HO_6.out).2.1); (case side3 => repeat (first | exact (Kd.R_reads' HO_7.out).2.2 | (with_reducible refine Kd.C_alloc ?_ _) | (with_reducible refine Kd.C_drewN ?_ _) | (with_reducible refine Kd.C_drew ?_))); (case side4 => exact (Kd.R_reads' HO_7.out).2.1); rintro e w' ⟨rfl, ⟨nd, rfl⟩⟩; (try first | exact ⟨rfl, _, World.drewN_drewN _ _ _⟩ | exact ⟨rfl, _, Eq.trans (World.drewN_drewN _ _ _) (congrArg (World.drewN _) (Nat.add_assoc _ _ _))⟩))); try go_wp2_with (first | (go_at_call 12; (with_reducible refine (catchwordref01_Bytes.calls kj5 _ _ t185 _ _ t188 t191 _ ?side1 ?side2 ?side3 ?side4 A21.out).mono ?_); (case side1 => repeat (first | exact (Kd.R_reads' HO_6.out).2.2 | (with_reducible refine Kd.C_alloc ?_ _) | (with_reducible refine Kd.C_drewN ?_ _) | (with_reducible refine Kd.C_drew ?_))); (case side2 => exact (Kd.R_reads' HO_6.out).2.1); (case side3 => repeat (first | exact (Kd.R_reads' HO_7.out).2.2 | (with_reducible refine Kd.C_alloc ?_ _) | (with_reducible refine Kd.C_drewN ?_ _) | (with_reducible refine Kd.C_drew ?_))); (case side4 => exact (Kd.R_reads' HO_7.out).2.1); rintro e w' ⟨rfl, ⟨nd, rfl⟩⟩; (try first | exact ⟨rfl, _, World.drewN_drewN _ _ _⟩ | exact ⟨rfl, _, Eq.trans (World.drewN_drewN _ _ _) (congrArg (World.drewN _) (Nat.add_assoc _ _ _))⟩))))
            go_ret
            exact ⟨by first | rfl | (simp [errW_none, errW_some] <;> rfl) | (simp [*, errW_none, errW_some] <;> rfl), by repeat (first | (with_reducible first | exact HB.out | apply below_alloc | apply pw_below_drewN | apply below_drew1) | exact HB.out)⟩
          · rw [if_neg c20] at H
            have c20b0 : (a0 == a1) = false := beq_eq_false_iff_ne.mpr c20
            have c20b1 : (a0 != a1) = true := bne_iff_ne.mpr c20
            obtain rfl := Option.some.inj H
            go_wp2
            repeat (go_quiet (fail); try go_wp2)
            go_ret
            exact ⟨by first | rfl | (simp [errW_none, errW_some] <;> rfl) | (simp [*, errW_none, errW_some] <;> rfl), by repeat (first | (with_reducible first | exact HB.out | apply below_alloc | apply pw_below_drewN | apply below_drew1) | exact HB.out)⟩
        · replace c19 := Bool.eq_false_iff.mpr c19
          subst c19
          have H1 : (some false) = some r := by rw [if_neg (show ¬ (false = true) by decide)] at H; exact H
          clear H
          have H := H1
          clear H1
          obtain rfl := Option.some.inj H
          go_wp2
          repeat (go_quiet (fail); try go_wp2)
          go_ret
          exact ⟨by first | rfl | (simp [errW_none, errW_some] <;> rfl) | (simp [*, errW_none, errW_some] <;> rfl), by repeat (first | (with_reducible first | exact HB.out | apply below_alloc | apply pw_below_drewN | apply below_drew1) | exact HB.out)⟩
      · replace c18 := Bool.eq_false_iff.mpr c18
        subst c18
        have H1 : (if (t188.length : Int) < (t185.length : Int) then (if 0 ≤ (t188.length : Int) then (if (t188.length : Int) ≤ (t185.length : Int) then (if (t188.length : Int) ≤ (t188.length : Int) then ((catchwordref01_Bytes.f kj5 (t185.take ((t188.length : Int) : Int).toNat) (t188.take ((t188.length : Int) : Int).toNat)).bind fun t200 => (if t200 = true then (some false) else (if a0 < a1 then (if (t185.length : Int) ≤ (t188.length : Int) then (some true) else (if a0 > a1 then (some (decide ((t188.length : Int) ≤ (t185.length : Int)))) else (some false))) else (if a0 > a1 then (some (decide ((t188.length : Int) ≤ (t185.length : Int)))) else (some false))))) else (none)) else (none)) else (none)) else (if 0 ≤ (t185.length : Int) then (if (t185.length : Int) ≤ (t185.length : Int) then (if (t185.length : Int) ≤ (t188.length : Int) then ((catchwordref01_Bytes.f kj5 (t185.take ((t185.length : Int) : Int).toNat) (t188.take ((t185.length : Int) : Int).toNat)).bind fun t209 => (if t209 = true then (some false) else (if a0 < a1 then (some true) else (if a0 > a1 then (some (decide ((t188.length : Int) ≤ (t185.length : Int)))) else (some false))))) else (none)) else (none)) else (none))) = some r := by rw [if_neg (show ¬ (false = true) by decide)] at H; exact H
        clear H
        have H := H1
        clear H1
        by_cases c24 : (t188.length : Int) < (t185.length : Int)
        · rw [if_pos c24] at H
          have c24b0 : decide ((t188.length : Int) < (t185.length : Int)) = true := decide_eq_true c24
          have c24b1 : decide (t188.length < t185.length) = true := decide_eq_true (Int.ofNat_lt.mp c24)
          clear c24
          by_cases c25 : 0 ≤ (t188.length : Int)
          · rw [if_pos c25] at H
            have c25b0 := eq_true c25
            have c25b1 : decide (0 ≤ (t188.length : Int)) = true := decide_eq_true c25
            clear c25
            by_cases c26 : (t188.length : Int) ≤ (t185.length : Int)
            · rw [if_pos c26] at H
              have c26b0 := eq_true c26
              have c26b1 : decide ((t188.length : Int) ≤ (t185.length : Int)) = true := decide_eq_true c26
              clear c26
              obtain ⟨y192, hy192⟩ : ∃ y_ : List Int, y_ = (t185.take ((t188.length : Int) : Int).toNat) := ⟨_, rfl⟩
              replace H : (if (t188.length : Int) ≤ (t188.length : Int) then ((catchwordref01_Bytes.f kj5 y192 (t188.take ((t188.length : Int) : Int).toNat)).bind fun t200 => (if t200 = true then (some false) else (if a0 < a1 then (if (t185.length : Int) ≤ (t188.length : Int) then (some true) else (if a0 > a1 then (some (decide ((t188.length : Int) ≤ (t185.length : Int)))) else (some false))) else (if a0 > a1 then (some (decide ((t188.length : Int) ≤ (t185.length : Int)))) else (some false))))) else (none)) = some r := by first | (rw [hy192]; with_reducible exact H) | (have H2_ := (Option.bind_some _ _).symm.trans H; rw [hy192]; with_reducible exact H2_) | (have H2_ := (Option.bind_some _ _).symm.trans H; with_reducible exact H2_) | with_reducible exact H | (rw [hy192]; exact H) | exact H
              have Ny192 := Aside0.mk hy192
              clear hy192
              have c27b0 := eq_true (of_decide_eq_true (by first | (with_reducible assumption) | assumption) : 0 ≤ (t188.length : Int))
              by_cases c28 : (t188.length : Int) ≤ (t188.length : Int)
              · rw [if_pos c28] at H
                have c28b0 := eq_true c28
                have c28b1 : decide ((t188.length : Int) ≤ (t188.length : Int)) = true := decide_eq_true c28
                clear c28
                obtain ⟨y196, hy196⟩ : ∃ y_ : List Int, y_ = (t188.take ((t188.length : Int) : Int).toNat) := ⟨_, rfl⟩
                replace H : ((catchwordref01_Bytes.f kj5 y192 y196).bind fun t200 => (if t200 = true then (some false) else (if a0 < a1 then (if (t185.length : Int) ≤ (t188.length : Int) then (some true) else (if a0 > a1 then (some (decide ((t188.length : Int) ≤ (t185.length : Int)))) else (some false))) else (if a0 > a1 then (some (decide ((t188.length : Int) ≤ (t185.length : Int)))) else (some false))))) = some r := by first | (rw [hy196]; with_reducible exact H) | (have H2_ := (Option.bind_some _ _).symm.trans H; rw [hy196]; with_reducible exact H2_) | (have H2_ := (Option.bind_some _ _).symm.trans H; with_reducible exact H2_) | with_reducible exact H | (rw [hy196]; exact H) | exact H
                have Ny196 := Aside0.mk hy196
                clear hy196
                replace H := Option.bind_eq_some_iff.mp H
                obtain ⟨t200, A290, H⟩ := H
                replace H : (if t200 = true then (some false) else (if a0 < a1 then (if (t185.length : Int) ≤ (t188.length : Int) then (some true) else (if a0 > a1 then (some (decide ((t188.length : Int) ≤ (t185.length : Int)))) else (some false))) else (if a0 > a1 then (some (decide ((t188.length : Int) ≤ (t185.length : Int)))) else (some false)))) = some r := H
                have A29 := Aside0.mk A290
                clear A290
                by_cases c30 : t200 = true
                · subst c30
                  have H1 : (some false) = some r := by rw [if_pos rfl] at H; exact H
                  clear H
                  have H := H1
                  clear H1
                  obtain rfl := Option.some.inj H
                  obtain ⟨Ao31, co31, eo31⟩ := Kd.R_slice HO_6.out
                  subst eo31
                  obtain ⟨Ao32, co32, eo32⟩ := Kd.R_slice HO_7.out
                  subst eo32
                  have q33 : ((t188.length : Int) : Int) ≤ ((t185.length : Int) : Int) := of_decide_eq_true (by first | (with_reducible assumption) | assumption)
                  obtain ⟨i033, hi033, _, hsz33, _⟩ := info_parts info5
                  have hroom33 : t185.length ≤ co31 := (Kd.R_reads' HO_6.out).2.1
                  have hC33 : Kd.C (Kd.int .u8) _ Ao31 t185.length t185 := (Kd.R_reads' HO_6.out).2.2
                  have hcut33 := cut_to (P := Try.prog) 22 5 .i64 Try.underlying22 hi033 Ao31 t185.length co31 (t188.length : Int) (of_decide_eq_true (by first | (with_reducible assumption) | assumption)) q33 hroom33
                  have hr33 := Kd.C_take (m := ((t188.length : Int) : Int).toNat) hC33 (by omega)
                  have hy33 : y192.length = ((t188.length : Int) : Int).toNat := (by rw [Ny192.out, List.length_take]; omega)
                  rw [← Ny192.out] at hr33
                  rw [← hy33] at hcut33
                  have HR195 := Aside0.mk hr33
                  have HC195 := Aside0.mk (show y192.length ≤ co31 from by omega)
                  clear hr33 hC33 hroom33 hi033 hsz33
                  have KY33 := Aside0.mk hy33
                  clear hy33
                  have KL33 := Aside0.mk (show ((t188.length : Int) : Int).toNat ≤ t185.length from by omega)
                  replace q33 := eq_true q33
                  have q34 : ((t188.length : Int) : Int) ≤ ((t188.length : Int) : Int) := of_decide_eq_true (by first | (with_reducible assumption) | assumption)
                  obtain ⟨i034, hi034, _, hsz34, _⟩ := info_parts info5
                  have hroom34 : t188.length ≤ co32 := (Kd.R_reads' HO_7.out).2.1
                  have hC34 : Kd.C (Kd.int .u8) _ Ao32 t188.length t188 := (Kd.R_reads' HO_7.out).2.2
                  have hcut34 := cut_to (P := Try.prog) 22 5 .i64 Try.underlying22 hi034 Ao32 t188.length co32 (t188.length : Int) (of_decide_eq_true (by first | (with_reducible assumption) | assumption)) q34 hroom34
                  have hr34 := Kd.C_take (m := ((t188.length : Int) : Int).toNat) hC34 (by omega)
                  have hy34 : y196.length = ((t188.length : Int) : Int).toNat := (by rw [Ny196.out, List.length_take]; omega)
                  rw [← Ny196.out] at hr34
                  rw [← hy34] at hcut34
                  have HR199 := Aside0.mk hr34
                  have HC199 := Aside0.mk (show y196.length ≤ co32 from by omega)
                  clear hr34 hC34 hroom34 hi034 hsz34
                  have KY34 := Aside0.mk hy34
                  clear hy34
                  have KL34 := Aside0.mk (show ((t188.length : Int) : Int).toNat ≤ t188.length from by omega)
                  replace q34 := eq_true q34
                  go_wp2_with (first | (go_at_call 12; (with_reducible refine (catchwordref01_Bytes.calls kj5 _ _ y192 _ _ y196 true _ ?side1 ?side2 ?side3 ?side4 A29.out).mono ?_); (case side1 => repeat (first | exact (by repeat (first | (with_reducible exact HR195.out) | (with_reducible refine Kd.C_alloc ?_ _) | (with_reducible refine Kd.C_drewN ?_ _) | (with_reducible refine Kd.C_drew ?_) | exact HR195.out)) | (with_reducible refine Kd.C_alloc ?_ _) | (with_reducible refine Kd.C_drewN ?_ _) | (with_reducible refine Kd.C_drew ?_))); (case side2 => exact HC195.out); (case side3 => repeat (first | exact (by repeat (first | (with_reducible exact HR199.out) | (with_reducible refine Kd.C_alloc ?_ _) | (with_reducible refine Kd.C_drewN ?_ _) | (with_reducible refine Kd.C_drew ?_) | exact HR199.out)) | (with_reducible refine Kd.C_alloc ?_ _) | (with_reducible refine Kd.C_drewN ?_ _) | (with_reducible refine Kd.C_drew ?_))); (case side4 => exact HC199.out); rintro e w' ⟨rfl, ⟨nd, rfl⟩⟩; (try first | exact ⟨rfl, _, World.drewN_drewN _ _ _⟩ | exact ⟨rfl, _, Eq.trans (World.drewN_drewN _ _ _) (congrArg (World.drewN _) (Nat.add_assoc _ _ _))⟩)))
                  repeat (go_quiet (first | (go_at_call 12; (with_reducible refine (catchwordref01_Bytes.calls kj5 _ _ y192 _ _ y196 true _ ?side1 ?side2 ?side3 ?side4 A29.out).mono ?_); (case side1 => repeat (first | exact (by repeat (first | (with_reducible exact HR195.out) | (with_reducible refine Kd.C_alloc ?_ _) | (with_reducible refine Kd.C_drewN ?_ _) | (with_reducible refine Kd.C_drew ?_) | exact HR195.out)) | (with_reducible refine Kd.C_alloc ?_ _) | (with_reducible refine Kd.C_drewN ?_ _) | (with_reducible refine Kd.C_drew ?_))); (case side2 => exact HC195.out); (case side3 => repeat (first | exact (by repeat (first | (with_reducible exact HR199.out) | (with_reducible refine Kd.C_alloc ?_ _) | (with_reducible refine Kd.C_drewN ?_ _) | (with_reducible refine Kd.C_drew ?_) | exact HR199.out)) | (with_reducible refine Kd.C_alloc ?_ _) | (with_reducible refine Kd.C_drewN ?_ _) | (with_reducible refine Kd.C_drew ?_))); (case side4 => exact HC199.out); rintro e w' ⟨rfl, ⟨nd, rfl⟩⟩; (try first | exact ⟨rfl, _, World.drewN_drewN _ _ _⟩ | exact ⟨rfl, _, Eq.trans (World.drewN_drewN _ _ _) (congrArg (World.drewN _) (Nat.add_assoc _ _ _))⟩))); try go_wp2_with (first | (go_at_call 12; (with_reducible refine (catchwordref01_Bytes.calls kj5 _ _ y192 _ _ y196 true _ ?side1 ?side2 ?side3 ?side4 A29.out).mono ?_); (case side1 => repeat (first | exact (by repeat (first | (with_reducible exact HR195.out) | (with_reducible refine Kd.C_alloc ?_ _) | (with_reducible refine Kd.C_drewN ?_ _) | (with_reducible refine Kd.C_drew ?_) | exact HR195.out)) | (with_reducible refine Kd.C_alloc ?_ _) | (with_reducible refine Kd.C_drewN ?_ _) | (with_reducible refine Kd.C_drew ?_))); (case side2 => exact HC195.out); (case side3 => repeat (first | exact (by repeat (first | (with_reducible exact HR199.out) | (with_reducible refine Kd.C_alloc ?_ _) | (with_reducible refine Kd.C_drewN ?_ _) | (with_reducible refine Kd.C_drew ?_) | exact HR199.out)) | (with_reducible refine Kd.C_alloc ?_ _) | (with_reducible refine Kd.C_drewN ?_ _) | (with_reducible refine Kd.C_drew ?_))); (case side4 => exact HC199.out); rintro e w' ⟨rfl, ⟨nd, rfl⟩⟩; (try first | exact ⟨rfl, _, World.drewN_drewN _ _ _⟩ | exact ⟨rfl, _, Eq.trans (World.drewN_drewN _ _ _) (congrArg (World.drewN _) (Nat.add_assoc _ _ _))⟩))))
                  go_ret
                  exact ⟨by first | rfl | (simp [errW_none, errW_some] <;> rfl) | (simp [*, errW_none, errW_some] <;> rfl), by repeat (first | (with_reducible first | exact HB.out | apply below_alloc | apply pw_below_drewN | apply below_drew1) | exact HB.out)⟩
                · replace c30 := Bool.eq_false_iff.mpr c30
                  subst c30
                  have H1 : (if a0 < a1 then (if (t185.length : Int) ≤ (t188.length : Int) then (some true) else (if a0 > a1 then (some (decide ((t188.length : Int) ≤ (t185.length : Int)))) else (some false))) else (if a0 > a1 then (some (decide ((t188.length : Int) ≤ (t185.length : Int)))) else (some false))) = some r := by rw [if_neg (show ¬ (false = true) by decide)] at H; exact H
                  clear H
                  have H := H1
                  clear H1
                  by_cases c35 : a0 < a1
                  · rw [if_pos c35] at H
                    have c35b0 : decide (a0 < a1) = true := decide_eq_true c35
                    clear c35
                    by_cases c36 : (t185.length : Int) ≤ (t188.length : Int)
                    · rw [if_pos c36] at H
                      have c36b0 : decide ((t185.length : Int) ≤ (t188.length : Int)) = true := decide_eq_true c36
                      have c36b1 : decide (t185.length ≤ t188.length) = true := decide_eq_true (Int.ofNat_le.mp c36)
                      clear c36
                      obtain rfl := Option.some.inj H
                      obtain ⟨Ao37, co37, eo37⟩ := Kd.R_slice HO_6.out
                      subst eo37
                      obtain ⟨Ao38, co38, eo38⟩ := Kd.R_slice HO_7.out
                      subst eo38
                      have q39 : ((t188.length : Int) : Int) ≤ ((t185.length : Int) : Int) := of_decide_eq_true (by first | (with_reducible assumption) | assumption)
                      obtain ⟨i039, hi039, _, hsz39, _⟩ := info_parts info5
                      have hroom39 : t185.length ≤ co37 := (Kd.R_reads' HO_6.out).2.1
                      have hC39 : Kd.C (Kd.int .u8) _ Ao37 t185.length t185 := (Kd.R_reads' HO_6.out).2.2
                      have hcut39 := cut_to (P := Try.prog) 22 5 .i64 Try.underlying22 hi039 Ao37 t185.length co37 (t188.length : Int) (of_decide_eq_true (by first | (with_reducible assumption) | assumption)) q39 hroom39
                      have hr39 := Kd.C_take (m := ((t188.length : Int) : Int).toNat) hC39 (by omega)
                      have hy39 : y192.length = ((t188.length : Int) : Int).toNat := (by rw [Ny192.out, List.length_take]; omega)
                      rw [← Ny192.out] at hr39
                      rw [← hy39] at hcut39
                      have HR195 := Aside0.mk hr39
                      have HC195 := Aside0.mk (show y192.length ≤ co37 from by omega)
                      clear hr39 hC39 hroom39 hi039 hsz39
                      have KY39 := Aside0.mk hy39
                      clear hy39
                      have KL39 := Aside0.mk (show ((t188.length : Int) : Int).toNat ≤ t185.length from by omega)
                      replace q39 := eq_true q39
                      have q40 : ((t188.length : Int) : Int) ≤ ((t188.length : Int) : Int) := of_decide_eq_true (by first | (with_reducible assumption) | assumption)
                      obtain ⟨i040, hi040, _, hsz40, _⟩ := info_parts info5
                      have hroom40 : t188.length ≤ co38 := (Kd.R_reads' HO_7.out).2.1
                      have hC40 : Kd.C (Kd.int .u8) _ Ao38 t188.length t188 := (Kd.R_reads' HO_7.out).2.2
                      have hcut40 := cut_to (P := Try.prog) 22 5 .i64 Try.underlying22 hi040 Ao38 t188.length co38 (t188.length : Int) (of_decide_eq_true (by first | (with_reducible assumption) | assumption)) q40 hroom40
                      have hr40 := Kd.C_take (m := ((t188.length : Int) : Int).toNat) hC40 (by omega)
                      have hy40 : y196.length = ((t188.length : Int) : Int).toNat := (by rw [Ny196.out, List.length_take]; omega)
                      rw [← Ny196.out] at hr40
                      rw [← hy40] at hcut40
                      have HR199 := Aside0.mk hr40
                      have HC199 := Aside0.mk (show y196.length ≤ co38 from by omega)
                      clear hr40 hC40 hroom40 hi040 hsz40
                      have KY40 := Aside0.mk hy40
                      clear hy40
                      have KL40 := Aside0.mk (show ((t188.length : Int) : Int).toNat ≤ t188.length from by omega)
                      replace q40 := eq_true q40
                      go_wp2_with (first | (go_at_call 12; (with_reducible refine (catchwordref01_Bytes.calls kj5 _ _ y192 _ _ y196 false _ ?side1 ?side2 ?side3 ?side4 A29.out).mono ?_); (case side1 => repeat (first | exact (by repeat (first | (with_reducible exact HR195.out) | (with_reducible refine Kd.C_alloc ?_ _) | (with_reducible refine Kd.C_drewN ?_ _) | (with_reducible refine Kd.C_drew ?_) | exact HR195.out)) | (with_reducible refine Kd.C_alloc ?_ _) | (with_reducible refine Kd.C_drewN ?_ _) | (with_reducible refine Kd.C_drew ?_))); (case side2 => exact HC195.out); (case side3 => repeat (first | exact (by repeat (first | (with_reducible exact HR199.out) | (with_reducible refine Kd.C_alloc ?_ _) | (with_reducible refine Kd.C_drewN ?_ _) | (with_reducible refine Kd.C_drew ?_) | exact HR199.out)) | (with_reducible refine Kd.C_alloc ?_ _) | (with_reducible refine Kd.C_drewN ?_ _) | (with_reducible refine Kd.C_drew ?_))); (case side4 => exact HC199.out); rintro e w' ⟨rfl, ⟨nd, rfl⟩⟩; (try first | exact ⟨rfl, _, World.drewN_drewN _ _ _⟩ | exact ⟨rfl, _, Eq.trans (World.drewN_drewN _ _ _) (congrArg (World.drewN _) (Nat.add_assoc _ _ _))⟩)))
                      repeat (go_quiet (first | (go_at_call 12; (with_reducible refine (catchwordref01_Bytes.calls kj5 _ _ y192 _ _ y196 false _ ?side1 ?side2 ?side3 ?side4 A29.out).mono ?_); (case side1 => repeat (first | exact (by repeat (first | (with_reducible exact HR195.out) | (with_reducible refine Kd.C_alloc ?_ _) | (with_reducible refine Kd.C_drewN ?_ _) | (with_reducible refine Kd.C_drew ?_) | exact HR195.out)) | (with_reducible refine Kd.C_alloc ?_ _) | (with_reducible refine Kd.C_drewN ?_ _) | (with_reducible refine Kd.C_drew ?_))); (case side2 => exact HC195.out); (case side3 => repeat (first | exact (by repeat (first | (with_reducible exact HR199.out) | (with_reducible refine Kd.C_alloc ?_ _) | (with_reducible refine Kd.C_drewN ?_ _) | (with_reducible refine Kd.C_drew ?_) | exact HR199.out)) | (with_reducible refine Kd.C_alloc ?_ _) | (with_reducible refine Kd.C_drewN ?_ _) | (with_reducible refine Kd.C_drew ?_))); (case side4 => exact HC199.out); rintro e w' ⟨rfl, ⟨nd, rfl⟩⟩; (try first | exact ⟨rfl, _, World.drewN_drewN _ _ _⟩ | exact ⟨rfl, _, Eq.trans (World.drewN_drewN _ _ _) (congrArg (World.drewN _) (Nat.add_assoc _ _ _))⟩))); try go_wp2_with (first | (go_at_call 12; (with_reducible refine (catchwordref01_Bytes.calls kj5 _ _ y192 _ _ y196 false _ ?side1 ?side2 ?side3 ?side4 A29.out).mono ?_); (case side1 => repeat (first | exact (by repeat (first | (with_reducible exact HR195.out) | (with_reducible refine Kd.C_alloc ?_ _) | (with_reducible refine Kd.C_drewN ?_ _) | (with_reducible refine Kd.C_drew ?_) | exact HR195.out)) | (with_reducible refine Kd.C_alloc ?_ _) | (with_reducible refine Kd.C_drewN ?_ _) | (with_reducible refine Kd.C_drew ?_))); (case side2 => exact HC195.out); (case side3 => repeat (first | exact (by repeat (first | (with_reducible exact HR199.out) | (with_reducible refine Kd.C_alloc ?_ _) | (with_reducible refine Kd.C_drewN ?_ _) | (with_reducible refine Kd.C_drew ?_) | exact HR199.out)) | (with_reducible refine Kd.C_alloc ?_ _) | (with_reducible refine Kd.C_drewN ?_ _) | (with_reducible refine Kd.C_drew ?_))); (case side4 => exact HC199.out); rintro e w' ⟨rfl, ⟨nd, rfl⟩⟩; (try first | exact ⟨rfl, _, World.drewN_drewN _ _ _⟩ | exact ⟨rfl, _, Eq.trans (World.drewN_drewN _ _ _) (congrArg (World.drewN _) (Nat.add_assoc _ _ _))⟩))))
                      go_ret
                      exact ⟨by first | rfl | (simp [errW_none, errW_some] <;> rfl) | (simp [*, errW_none, errW_some] <;> rfl), by repeat (first | (with_reducible first | exact HB.out | apply below_alloc | apply pw_below_drewN | apply below_drew1) | exact HB.out)⟩
                    · rw [if_neg c36] at H
                      have c36b0 : decide ((t185.length : Int) ≤ (t188.length : Int)) = false := decide_eq_false c36
                      have c36b1 : decide (t185.length ≤ t188.length) = false := decide_eq_false (fun h => c36 (Int.ofNat_le.mpr h))
                      clear c36
                      by_cases c41 : a0 > a1
                      · rw [if_pos c41] at H
                        have c41b0 : decide (a1 < a0) = true := decide_eq_true c41
                        clear c41
                        obtain rfl := Option.some.inj H
                        obtain ⟨Ao42, co42, eo42⟩ := Kd.R_slice HO_6.out
                        subst eo42
                        obtain ⟨Ao43, co43, eo43⟩ := Kd.R_slice HO_7.out
                        subst eo43
                        have q44 : ((t188.length : Int) : Int) ≤ ((t185.length : Int) : Int) := of_decide_eq_true (by first | (with_reducible assumption) | assumption)
                        obtain ⟨i044, hi044, _, hsz44, _⟩ := info_parts info5
                        have hroom44 : t185.length ≤ co42 := (Kd.R_reads' HO_6.out).2.1
                        have hC44 : Kd.C (Kd.int .u8) _ Ao42 t185.length t185 := (Kd.R_reads' HO_6.out).2.2
                        have hcut44 := cut_to (P := Try.prog) 22 5 .i64 Try.underlying22 hi044 Ao42 t185.length co42 (t188.length : Int) (of_decide_eq_true (by first | (with_reducible assumption) | assumption)) q44 hroom44
                        have hr44 := Kd.C_take (m := ((t188.length : Int) : Int).toNat) hC44 (by omega)
                        have hy44 : y192.length = ((t188.length : Int) : Int).toNat := (by rw [Ny192.out, List.length_take]; omega)
                        rw [← Ny192.out] at hr44
                        rw [← hy44] at hcut44
                        have HR195 := Aside0.mk hr44
                        have HC195 := Aside0.mk (show y192.length ≤ co42 from by omega)
                        clear hr44 hC44 hroom44 hi044 hsz44
                        have KY44 := Aside0.mk hy44
                        clear hy44
                        have KL44 := Aside0.mk (show ((t188.length : Int) : Int).toNat ≤ t185.length from by omega)
                        replace q44 := eq_true q44
                        have q45 : ((t188.length : Int) : Int) ≤ ((t188.length : Int) : Int) := of_decide_eq_true (by first | (with_reducible assumption) | assumption)
                        obtain ⟨i045, hi045, _, hsz45, _⟩ := info_parts info5
                        have hroom45 : t188.length ≤ co43 := (Kd.R_reads' HO_7.out).2.1
                        have hC45 : Kd.C (Kd.int .u8) _ Ao43 t188.length t188 := (Kd.R_reads' HO_7.out).2.2
                        have hcut45 := cut_to (P := Try.prog) 22 5 .i64 Try.underlying22 hi045 Ao43 t188.length co43 (t188.length : Int) (of_decide_eq_true (by first | (with_reducible assumption) | assumption)) q45 hroom45
                        have hr45 := Kd.C_take (m := ((t188.length : Int) : Int).toNat) hC45 (by omega)
                        have hy45 : y196.length = ((t188.length : Int) : Int).toNat := (by rw [Ny196.out, List.length_take]; omega)
                        rw [← Ny196.out] at hr45
                        rw [← hy45] at hcut45
                        have HR199 := Aside0.mk hr45
                        have HC199 := Aside0.mk (show y196.length ≤ co43 from by omega)
                        clear hr45 hC45 hroom45 hi045 hsz45
                        have KY45 := Aside0.mk hy45
                        clear hy45
                        have KL45 := Aside0.mk (show ((t188.length : Int) : Int).toNat ≤ t188.length from by omega)
                        replace q45 := eq_true q45
                        go_wp2_with (first | (go_at_call 12; (with_reducible refine (catchwordref01_Bytes.calls kj5 _ _ y192 _ _ y196 false _ ?side1 ?side2 ?side3 ?side4 A29.out).mono ?_); (case side1 => repeat (first | exact (by repeat (first | (with_reducible exact HR195.out) | (with_reducible refine Kd.C_alloc ?_ _) | (with_reducible refine Kd.C_drewN ?_ _) | (with_reducible refine Kd.C_drew ?_) | exact HR195.out)) | (with_reducible refine Kd.C_alloc ?_ _) | (with_reducible refine Kd.C_drewN ?_ _) | (with_reducible refine Kd.C_drew ?_))); (case side2 => exact HC195.out); (case side3 => repeat (first | exact (by repeat (first | (with_reducible exact HR199.out) | (with_reducible refine Kd.C_alloc ?_ _) | (with_reducible refine Kd.C_drewN ?_ _) | (with_reducible refine Kd.C_drew ?_) | exact HR199.out)) | (with_reducible refine Kd.C_alloc ?_ _) | (with_reducible refine Kd.C_drewN ?_ _) | (with_reducible refine Kd.C_drew ?_))); (case side4 => exact HC199.out); rintro e w' ⟨rfl, ⟨nd, rfl⟩⟩; (try first | exact ⟨rfl, _, World.drewN_drewN _ _ _⟩ | exact ⟨rfl, _, Eq.trans (World.drewN_drewN _ _ _) (congrArg (World.drewN _) (Nat.add_assoc _ _ _))⟩)))
                        repeat (go_quiet (first | (go_at_call 12; (with_reducible refine (catchwordref01_Bytes.calls kj5 _ _ y192 _ _ y196 false _ ?side1 ?side2 ?side3 ?side4 A29.out).mono ?_); (case side1 => repeat (first | exact (by repeat (first | (with_reducible exact HR195.out) | (with_reducible refine Kd.C_alloc ?_ _) | (with_reducible refine Kd.C_drewN ?_ _) | (with_reducible refine Kd.C_drew ?_) | exact HR195.out)) | (with_reducible refine Kd.C_alloc ?_ _) | (with_reducible refine Kd.C_drewN ?_ _) | (with_reducible refine Kd.C_drew ?_))); (case side2 => exact HC195.out); (case side3 => repeat (first | exact (by repeat (first | (with_reducible exact HR199.out) | (with_reducible refine Kd.C_alloc ?_ _) | (with_reducible refine Kd.C_drewN ?_ _) | (with_reducible refine Kd.C_drew ?_) | exact HR199.out)) | (with_reducible refine Kd.C_alloc ?_ _) | (with_reducible refine Kd.C_drewN ?_ _) | (with_reducible refine Kd.C_drew ?_))); (case side4 => exact HC199.out); rintro e w' ⟨rfl, ⟨nd, rfl⟩⟩; (try first | exact ⟨rfl, _, World.drewN_drewN _ _ _⟩ | exact ⟨rfl, _, Eq.trans (World.drewN_drewN _ _ _) (congrArg (World.drewN _) (Nat.add_assoc _ _ _))⟩))); try go_wp2_with (first | (go_at_call 12; (with_reducible refine (catchwordref01_Bytes.calls kj5 _ _ y192 _ _ y196 false _ ?side1 ?side2 ?side3 ?side4 A29.out).mono ?_); (case side1 => repeat (first | exact (by repeat (first | (with_reducible exact HR195.out) | (with_reducible refine Kd.C_alloc ?_ _) | (with_reducible refine Kd.C_drewN ?_ _) | (with_reducible refine Kd.C_drew ?_) | exact HR195.out)) | (with_reducible refine Kd.C_alloc ?_ _) | (with_reducible refine Kd.C_drewN ?_ _) | (with_reducible refine Kd.C_drew ?_))); (case side2 => exact HC195.out); (case side3 => repeat (first | exact (by repeat (first | (with_reducible exact HR199.out) | (with_reducible refine Kd.C_alloc ?_ _) | (with_reducible refine Kd.C_drewN ?_ _) | (with_reducible refine Kd.C_drew ?_) | exact HR199.out)) | (with_reducible refine Kd.C_alloc ?_ _) | (with_reducible refine Kd.C_drewN ?_ _) | (with_reducible refine Kd.C_drew ?_))); (case side4 => exact HC199.out); rintro e w' ⟨rfl, ⟨nd, rfl⟩⟩; (try first | exact ⟨rfl, _, World.drewN_drewN _ _ _⟩ | exact ⟨rfl, _, Eq.trans (World.drewN_drewN _ _ _) (congrArg (World.drewN _) (Nat.add_assoc _ _ _))⟩))))
                        go_ret
                        exact ⟨by first | rfl | (simp [errW_none, errW_some] <;> rfl) | (simp [*, errW_none, errW_some] <;> rfl), by repeat (first | (with_reducible first | exact HB.out | apply below_alloc | apply pw_below_drewN | apply below_drew1) | exact HB.out)⟩
                      · rw [if_neg c41] at H
                        have c41b0 : decide (a1 < a0) = false := decide_eq_false c41
                        clear c41
                        obtain rfl := Option.some.inj H
                        obtain ⟨Ao46, co46, eo46⟩ := Kd.R_slice HO_6.out
                        subst eo46
                        obtain ⟨Ao47, co47, eo47⟩ := Kd.R_slice HO_7.out
                        subst eo47
                        have q48 : ((t188.length : Int) : Int) ≤ ((t185.length : Int) : Int) := of_decide_eq_true (by first | (with_reducible assumption) | assumption)
                        obtain ⟨i048, hi048, _, hsz48, _⟩ := info_parts info5
                        have hroom48 : t185.length ≤ co46 := (Kd.R_reads' HO_6.out).2.1
                        have hC48 : Kd.C (Kd.int .u8) _ Ao46 t185.length t185 := (Kd.R_reads' HO_6.out).2.2
                        have hcut48 := cut_to (P := Try.prog) 22 5 .i64 Try.underlying22 hi048 Ao46 t185.length co46 (t188.length : Int) (of_decide_eq_true (by first | (with_reducible assumption) | assumption)) q48 hroom48
                        have hr48 := Kd.C_take (m := ((t188.length : Int) : Int).toNat) hC48 (by omega)
                        have hy48 : y192.length = ((t188.length : Int) : Int).toNat := (by rw [Ny192.out, List.length_take]; omega)
                        rw [← Ny192.out] at hr48
                        rw [← hy48] at hcut48
                        have HR195 := Aside0.mk hr48
                        have HC195 := Aside0.mk (show y192.length ≤ co46 from by omega)
                        clear hr48 hC48 hroom48 hi048 hsz48
                        have KY48 := Aside0.mk hy48
                        clear hy48
                        have KL48 := Aside0.mk (show ((t188.length : Int) : Int).toNat ≤ t185.length from by omega)
                        replace q48 := eq_true q48
                        have q49 : ((t188.length : Int) : Int) ≤ ((t188.length : Int) : Int) := of_decide_eq_true (by first | (with_reducible assumption) | assumption)
                        obtain ⟨i049, hi049, _, hsz49, _⟩ := info_parts info5
                        have hroom49 : t188.length ≤ co47 := (Kd.R_reads' HO_7.out).2.1
                        have hC49 : Kd.C (Kd.int .u8) _ Ao47 t188.length t188 := (Kd.R_reads' HO_7.out).2.2
                        have hcut49 := cut_to (P := Try.prog) 22 5 .i64 Try.underlying22 hi049 Ao47 t188.length co47 (t188.length : Int) (of_decide_eq_true (by first | (with_reducible assumption) | assumption)) q49 hroom49
                        have hr49 := Kd.C_take (m := ((t188.length : Int) : Int).toNat) hC49 (by omega)
                        have hy49 : y196.length = ((t188.length : Int) : Int).toNat := (by rw [Ny196.out, List.length_take]; omega)
                        rw [← Ny196.out] at hr49
                        rw [← hy49] at hcut49
                        have HR199 := Aside0.mk hr49
                        have HC199 := Aside0.mk (show y196.length ≤ co47 from by omega)
                        clear hr49 hC49 hroom49 hi049 hsz49
                        have KY49 := Aside0.mk hy49
                        clear hy49
                        have KL49 := Aside0.mk (show ((t188.length : Int) : Int).toNat ≤ t188.length from by omega)
                        replace q49 := eq_true q49
                        go_wp2_with (first | (go_at_call 12; (with_reducible refine (catchwordref01_Bytes.calls kj5 _ _ y192 _ _ y196 false _ ?side1 ?side2 ?side3 ?side4 A29.out).mono ?_); (case side1 => repeat (first | exact (by repeat (first | (with_reducible exact HR195.out) | (with_reducible refine Kd.C_alloc ?_ _) | (with_reducible refine Kd.C_drewN ?_ _) | (with_reducible refine Kd.C_drew ?_) | exact HR195.out)) | (with_reducible refine Kd.C_alloc ?_ _) | (with_reducible refine Kd.C_drewN ?_ _) | (with_reducible refine Kd.C_drew ?_))); (case side2 => exact HC195.out); (case side3 => repeat (first | exact (by repeat (first | (with_reducible exact HR199.out) | (with_reducible refine Kd.C_alloc ?_ _) | (with_reducible refine Kd.C_drewN ?_ _) | (with_reducible refine Kd.C_drew ?_) | exact HR199.out)) | (with_reducible refine Kd.C_alloc ?_ _) | (with_reducible refine Kd.C_drewN ?_ _) | (with_reducible refine Kd.C_drew ?_))); (case side4 => exact HC199.out); rintro e w' ⟨rfl, ⟨nd, rfl⟩⟩; (try first | exact ⟨rfl, _, World.drewN_drewN _ _ _⟩ | exact ⟨rfl, _, Eq.trans (World.drewN_drewN _ _ _) (congrArg (World.drewN _) (Nat.add_assoc _ _ _))⟩)))
                        repeat (go_quiet (first | (go_at_call 12; (with_reducible refine (catchwordref01_Bytes.calls kj5 _ _ y192 _ _ y196 false _ ?side1 ?side2 ?side3 ?side4 A29.out).mono ?_); (case side1 => repeat (first | exact (by repeat (first | (with_reducible exact HR195.out) | (with_reducible refine Kd.C_alloc ?_ _) | (with_reducible refine Kd.C_drewN ?_ _) | (with_reducible refine Kd.C_drew ?_) | exact HR195.out)) | (with_reducible refine Kd.C_alloc ?_ _) | (with_reducible refine Kd.C_drewN ?_ _) | (with_reducible refine Kd.C_drew ?_))); (case side2 => exact HC195.out); (case side3 => repeat (first | exact (by repeat (first | (with_reducible exact HR199.out) | (with_reducible refine Kd.C_alloc ?_ _) | (with_reducible refine Kd.C_drewN ?_ _) | (with_reducible refine Kd.C_drew ?_) | exact HR199.out)) | (with_reducible refine Kd.C_alloc ?_ _) | (with_reducible refine Kd.C_drewN ?_ _) | (with_reducible refine Kd.C_drew ?_))); (case side4 => exact HC199.out); rintro e w' ⟨rfl, ⟨nd, rfl⟩⟩; (try first | exact ⟨rfl, _, World.drewN_drewN _ _ _⟩ | exact ⟨rfl, _, Eq.trans (World.drewN_drewN _ _ _) (congrArg (World.drewN _) (Nat.add_assoc _ _ _))⟩))); try go_wp2_with (first | (go_at_call 12; (with_reducible refine (catchwordref01_Bytes.calls kj5 _ _ y192 _ _ y196 false _ ?side1 ?side2 ?side3 ?side4 A29.out).mono ?_); (case side1 => repeat (first | exact (by repeat (first | (with_reducible exact HR195.out) | (with_reducible refine Kd.C_alloc ?_ _) | (with_reducible refine Kd.C_drewN ?_ _) | (with_reducible refine Kd.C_drew ?_) | exact HR195.out)) | (with_reducible refine Kd.C_alloc ?_ _) | (with_reducible refine Kd.C_drewN ?_ _) | (with_reducible refine Kd.C_drew ?_))); (case side2 => exact HC195.out); (case side3 => repeat (first | exact (by repeat (first | (with_reducible exact HR199.out) | (with_reducible refine Kd.C_alloc ?_ _) | (with_reducible refine Kd.C_drewN ?_ _) | (with_reducible refine Kd.C_drew ?_) | exact HR199.out)) | (with_reducible refine Kd.C_alloc ?_ _) | (with_reducible refine Kd.C_drewN ?_ _) | (with_reducible refine Kd.C_drew ?_))); (case side4 => exact HC199.out); rintro e w' ⟨rfl, ⟨nd, rfl⟩⟩; (try first | exact ⟨rfl, _, World.drewN_drewN _ _ _⟩ | exact ⟨rfl, _, Eq.trans (World.drewN_drewN _ _ _) (congrArg (World.drewN _) (Nat.add_assoc _ _ _))⟩))))
                        go_ret
                        exact ⟨by first | rfl | (simp [errW_none, errW_some] <;> rfl) | (simp [*, errW_none, errW_some] <;> rfl), by repeat (first | (with_reducible first | exact HB.out | apply below_alloc | apply pw_below_drewN | apply below_drew1) | exact HB.out)⟩
                  · rw [if_neg c35] at H
                    have c35b0 : decide (a0 < a1) = false := decide_eq_false c35
                    clear c35
                    by_cases c50 : a0 > a1
                    · rw [if_pos c50] at H
                      have c50b0 : decide (a1 < a0) = true := decide_eq_true c50
                      clear c50
                      obtain rfl := Option.some.inj H
                      obtain ⟨Ao51, co51, eo51⟩ := Kd.R_slice HO_6.out
                      subst eo51
                      obtain ⟨Ao52, co52, eo52⟩ := Kd.R_slice HO_7.out
                      subst eo52
                      have q53 : ((t188.length : Int) : Int) ≤ ((t185.length : Int) : Int) := of_decide_eq_true (by first | (with_reducible assumption) | assumption)
                      obtain ⟨i053, hi053, _, hsz53, _⟩ := info_parts info5
                      have hroom53 : t185.length ≤ co51 := (Kd.R_reads' HO_6.out).2.1
                      have hC53 : Kd.C (Kd.int .u8) _ Ao51 t185.length t185 := (Kd.R_reads' HO_6.out).2.2
                      have hcut53 := cut_to (P := Try.prog) 22 5 .i64 Try.underlying22 hi053 Ao51 t185.length co51 (t188.length : Int) (of_decide_eq_true (by first | (with_reducible assumption) | assumption)) q53 hroom53
                      have hr53 := Kd.C_take (m := ((t188.length : Int) : Int).toNat) hC53 (by omega)
                      have hy53 : y192.length = ((t188.length : Int) : Int).toNat := (by rw [Ny192.out, List.length_take]; omega)
                      rw [← Ny192.out] at hr53
                      rw [← hy53] at hcut53
                      have HR195 := Aside0.mk hr53
                      have HC195 := Aside0.mk (show y192.length ≤ co51 from by omega)
                      clear hr53 hC53 hroom53 hi053 hsz53
                      have KY53 := Aside0.mk hy53
                      clear hy53
                      have KL53 := Aside0.mk (show ((t188.length : Int) : Int).toNat ≤ t185.length from by omega)
                      replace q53 := eq_true q53
                      have q54 : ((t188.length : Int) : Int) ≤ ((t188.length : Int) : Int) := of_decide_eq_true (by first | (with_reducible assumption) | assumption)
                      obtain ⟨i054, hi054, _, hsz54, _⟩ := info_parts info5
                      have hroom54 : t188.length ≤ co52 := (Kd.R_reads' HO_7.out).2.1
                      have hC54 : Kd.C (Kd.int .u8) _ Ao52 t188.length t188 := (Kd.R_reads' HO_7.out).2.2
                      have hcut54 := cut_to (P := Try.prog) 22 5 .i64 Try.underlying22 hi054 Ao52 t188.length co52 (t188.length : Int) (of_decide_eq_true (by first | (with_reducible assumption) | assumption)) q54 hroom54
                      have hr54 := Kd.C_take (m := ((t188.length : Int) : Int).toNat) hC54 (by omega)
                      have hy54 : y196.length = ((t188.length : Int) : Int).toNat := (by rw [Ny196.out, List.length_take]; omega)
                      rw [← Ny196.out] at hr54
                      rw [← hy54] at hcut54
                      have HR199 := Aside0.mk hr54
                      have HC199 := Aside0.mk (show y196.length ≤ co52 from by omega)
                      clear hr54 hC54 hroom54 hi054 hsz54
                      have KY54 := Aside0.mk hy54
                      clear hy54
                      have KL54 := Aside0.mk (show ((t188.length : Int) : Int).toNat ≤ t188.length from by omega)
                      replace q54 := eq_true q54
                      go_wp2_with (first | (go_at_call 12; (with_reducible refine (catchwordref01_Bytes.calls kj5 _ _ y192 _ _ y196 false _ ?side1 ?side2 ?side3 ?side4 A29.out).mono ?_); (case side1 => repeat (first | exact (by repeat (first | (with_reducible exact HR195.out) | (with_reducible refine Kd.C_alloc ?_ _) | (with_reducible refine Kd.C_drewN ?_ _) | (with_reducible refine Kd.C_drew ?_) | exact HR195.out)) | (with_reducible refine Kd.C_alloc ?_ _) | (with_reducible refine Kd.C_drewN ?_ _) | (with_reducible refine Kd.C_drew ?_))); (case side2 => exact HC195.out); (case side3 => repeat (first | exact (by repeat (first | (with_reducible exact HR199.out) | (with_reducible refine Kd.C_alloc ?_ _) | (with_reducible refine Kd.C_drewN ?_ _) | (with_reducible refine Kd.C_drew ?_) | exact HR199.out)) | (with_reducible refine Kd.C_alloc ?_ _) | (with_reducible refine Kd.C_drewN ?_ _) | (with_reducible refine Kd.C_drew ?_))); (case side4 => exact HC199.out); rintro e w' ⟨rfl, ⟨nd, rfl⟩⟩; (try first | exact ⟨rfl, _, World.drewN_drewN _ _ _⟩ | exact ⟨rfl, _, Eq.trans (World.drewN_drewN _ _ _) (congrArg (World.drewN _) (Nat.add_assoc _ _ _))⟩)))
                      repeat (go_quiet (first | (go_at_call 12; (with_reducible refine (catchwordref01_Bytes.calls kj5 _ _ y192 _ _ y196 false _ ?side1 ?side2 ?side3 ?side4 A29.out).mono ?_); (case side1 => repeat (first | exact (by repeat (first | (with_reducible exact HR195.out) | (with_reducible refine Kd.C_alloc ?_ _) | (with_reducible refine Kd.C_drewN ?_ _) | (with_reducible refine Kd.C_drew ?_) | exact HR195.out)) | (with_reducible refine Kd.C_alloc ?_ _) | (with_reducible refine Kd.C_drewN ?_ _) | (with_reducible refine Kd.C_drew ?_))); (case side2 => exact HC195.out); (case side3 => repeat (first | exact (by repeat (first | (with_reducible exact HR199.out) | (with_reducible refine Kd.C_alloc ?_ _) | (with_reducible refine Kd.C_drewN ?_ _) | (with_reducible refine Kd.C_drew ?_) | exact HR199.out)) | (with_reducible refine Kd.C_alloc ?_ _) | (with_reducible refine Kd.C_drewN ?_ _) | (with_reducible refine Kd.C_drew ?_))); (case side4 => exact HC199.out); rintro e w' ⟨rfl, ⟨nd, rfl⟩⟩; (try first | exact ⟨rfl, _, World.drewN_drewN _ _ _⟩ | exact ⟨rfl, _, Eq.trans (World.drewN_drewN _ _ _) (congrArg (World.drewN _) (Nat.add_assoc _ _ _))⟩))); try go_wp2_with (first | (go_at_call 12; (with_reducible refine (catchwordref01_Bytes.calls kj5 _ _ y192 _ _ y196 false _ ?side1 ?side2 ?side3 ?side4 A29.out).mono ?_); (case side1 => repeat (first | exact (by repeat (first | (with_reducible exact HR195.out) | (with_reducible refine Kd.C_alloc ?_ _) | (with_reducible refine Kd.C_drewN ?_ _) | (with_reducible refine Kd.C_drew ?_) | exact HR195.out)) | (with_reducible refine Kd.C_alloc ?_ _) | (with_reducible refine Kd.C_drewN ?_ _) | (with_reducible refine Kd.C_drew ?_))); (case side2 => exact HC195.out); (case side3 => repeat (first | exact (by repeat (first | (with_reducible exact HR199.out) | (with_reducible refine Kd.C_alloc ?_ _) | (with_reducible refine Kd.C_drewN ?_ _) | (with_reducible refine Kd.C_drew ?_) | exact HR199.out)) | (with_reducible refine Kd.C_alloc ?_ _) | (with_reducible refine Kd.C_drewN ?_ _) | (with_reducible refine Kd.C_drew ?_))); (case side4 => exact HC199.out); rintro e w' ⟨rfl, ⟨nd, rfl⟩⟩; (try first | exact ⟨rfl, _, World.drewN_drewN _ _ _⟩ | exact ⟨rfl, _, Eq.trans (World.drewN_drewN _ _ _) (congrArg (World.drewN _) (Nat.add_assoc _ _ _))⟩))))
                      go_ret
                      exact ⟨by first | rfl | (simp [errW_none, errW_some] <;> rfl) | (simp [*, errW_none, errW_some] <;> rfl), by repeat (first | (with_reducible first | exact HB.out | apply below_alloc | apply pw_below_drewN | apply below_drew1) | exact HB.out)⟩
                    · rw [if_neg c50] at H
                      have c50b0 : decide (a1 < a0) = false := decide_eq_false c50
                      clear c50
                      obtain rfl := Option.some.inj H
                      obtain ⟨Ao55, co55, eo55⟩ := Kd.R_slice HO_6.out
                      subst eo55
                      obtain ⟨Ao56, co56, eo56⟩ := Kd.R_slice HO_7.out
                      subst eo56
                      have q57 : ((t188.length : Int) : Int) ≤ ((t185.length : Int) : Int) := of_decide_eq_true (by first | (with_reducible assumption) | assumption)
                      obtain ⟨i057, hi057, _, hsz57, _⟩ := info_parts info5
                      have hroom57 : t185.length ≤ co55 := (Kd.R_reads' HO_6.out).2.1
                      have hC57 : Kd.C (Kd.int .u8) _ Ao55 t185.length t185 := (Kd.R_reads' HO_6.out).2.2
                      have hcut57 := cut_to (P := Try.prog) 22 5 .i64 Try.underlying22 hi057 Ao55 t185.length co55 (t188.length : Int) (of_decide_eq_true (by first | (with_reducible assumption) | assumption)) q57 hroom57
                      have hr57 := Kd.C_take (m := ((t188.length : Int) : Int).toNat) hC57 (by omega)
                      have hy57 : y192.length = ((t188.length : Int) : Int).toNat := (by rw [Ny192.out, List.length_take]; omega)
                      rw [← Ny192.out] at hr57
                      rw [← hy57] at hcut57
                      have HR195 := Aside0.mk hr57
                      have HC195 := Aside0.mk (show y192.length ≤ co55 from by omega)
                      clear hr57 hC57 hroom57 hi057 hsz57
                      have KY57 := Aside0.mk hy57
                      clear hy57
                      have KL57 := Aside0.mk (show ((t188.length : Int) : Int).toNat ≤ t185.length from by omega)
                      replace q57 := eq_true q57
                      have q58 : ((t188.length : Int) : Int) ≤ ((t188.length : Int) : Int) := of_decide_eq_true (by first | (with_reducible assumption) | assumption)
                      obtain ⟨i058, hi058, _, hsz58, _⟩ := info_parts info5
                      have hroom58 : t188.length ≤ co56 := (Kd.R_reads' HO_7.out).2.1
                      have hC58 : Kd.C (Kd.int .u8) _ Ao56 t188.length t188 := (Kd.R_reads' HO_7.out).2.2
                      have hcut58 := cut_to (P := Try.prog) 22 5 .i64 Try.underlying22 hi058 Ao56 t188.length co56 (t188.length : Int) (of_decide_eq_true (by first | (with_reducible assumption) | assumption)) q58 hroom58
                      have hr58 := Kd.C_take (m := ((t188.length : Int) : Int).toNat) hC58 (by omega)
                      have hy58 : y196.length = ((t188.length : Int) : Int).toNat := (by rw [Ny196.out, List.length_take]; omega)
                      rw [← Ny196.out] at hr58
                      rw [← hy58] at hcut58
                      have HR199 := Aside0.mk hr58
                      have HC199 := Aside0.mk (show y196.length ≤ co56 from by omega)
                      clear hr58 hC58 hroom58 hi058 hsz58
                      have KY58 := Aside0.mk hy58
                      clear hy58
                      have KL58 := Aside0.mk (show ((t188.length : Int) : Int).toNat ≤ t188.length from by omega)
                      replace q58 := eq_true q58
                      go_wp2_with (first | (go_at_call 12; (with_reducible refine (catchwordref01_Bytes.calls kj5 _ _ y192 _ _ y196 false _ ?side1 ?side2 ?side3 ?side4 A29.out).mono ?_); (case side1 => repeat (first | exact (by repeat (first | (with_reducible exact HR195.out) | (with_reducible refine Kd.C_alloc ?_ _) | (with_reducible refine Kd.C_drewN ?_ _) | (with_reducible refine Kd.C_drew ?_) | exact HR195.out)) | (with_reducible refine Kd.C_alloc ?_ _) | (with_reducible refine Kd.C_drewN ?_ _) | (with_reducible refine Kd.C_drew ?_))); (case side2 => exact HC195.out); (case side3 => repeat (first | exact (by repeat (first | (with_reducible exact HR199.out) | (with_reducible refine Kd.C_alloc ?_ _) | (with_reducible refine Kd.C_drewN ?_ _) | (with_reducible refine Kd.C_drew ?_) | exact HR199.out)) | (with_reducible refine Kd.C_alloc ?_ _) | (with_reducible refine Kd.C_drewN ?_ _) | (with_reducible refine Kd.C_drew ?_))); (case side4 => exact HC199.out); rintro e w' ⟨rfl, ⟨nd, rfl⟩⟩; (try first | exact ⟨rfl, _, World.drewN_drewN _ _ _⟩ | exact ⟨rfl, _, Eq.trans (World.drewN_drewN _ _ _) (congrArg (World.drewN _) (Nat.add_assoc _ _ _))⟩)))
                      repeat (go_quiet (first | (go_at_call 12; (with_reducible refine (catchwordref01_Bytes.calls kj5 _ _ y192 _ _ y196 false _ ?side1 ?side2 ?side3 ?side4 A29.out).mono ?_); (case side1 => repeat (first | exact (by repeat (first | (with_reducible exact HR195.out) | (with_reducible refine Kd.C_alloc ?_ _) | (with_reducible refine Kd.C_drewN ?_ _) | (with_reducible refine Kd.C_drew ?_) | exact HR195.out)) | (with_reducible refine Kd.C_alloc ?_ _) | (with_reducible refine Kd.C_drewN ?_ _) | (with_reducible refine Kd.C_drew ?_))); (case side2 => exact HC195.out); (case side3 => repeat (first | exact (by repeat (first | (with_reducible exact HR199.out) | (with_reducible refine Kd.C_alloc ?_ _) | (with_reducible refine Kd.C_drewN ?_ _) | (with_reducible refine Kd.C_drew ?_) | exact HR199.out)) | (with_reducible refine Kd.C_alloc ?_ _) | (with_reducible refine Kd.C_drewN ?_ _) | (with_reducible refine Kd.C_drew ?_))); (case side4 => exact HC199.out); rintro e w' ⟨rfl, ⟨nd, rfl⟩⟩; (try first | exact ⟨rfl, _, World.drewN_drewN _ _ _⟩ | exact ⟨rfl, _, Eq.trans (World.drewN_drewN _ _ _) (congrArg (World.drewN _) (Nat.add_assoc _ _ _))⟩))); try go_wp2_with (first | (go_at_call 12; (with_reducible refine (catchwordref01_Bytes.calls kj5 _ _ y192 _ _ y196 false _ ?side1 ?side2 ?side3 ?side4 A29.out).mono ?_); (case side1 => repeat (first | exact (by repeat (first | (with_reducible exact HR195.out) | (with_reducible refine Kd.C_alloc ?_ _) | (with_reducible refine Kd.C_drewN ?_ _) | (with_reducible refine Kd.C_drew ?_) | exact HR195.out)) | (with_reducible refine Kd.C_alloc ?_ _) | (with_reducible refine Kd.C_drewN ?_ _) | (with_reducible refine Kd.C_drew ?_))); (case side2 => exact HC195.out); (case side3 => repeat (first | exact (by repeat (first | (with_reducible exact HR199.out) | (with_reducible refine Kd.C_alloc ?_ _) | (with_reducible refine Kd.C_drewN ?_ _) | (with_reducible refine Kd.C_drew ?_) | exact HR199.out)) | (with_reducible refine Kd.C_alloc ?_ _) | (with_reducible refine Kd.C_drewN ?_ _) | (with_reducible refine Kd.C_drew ?_))); (case side4 => exact HC199.out); rintro e w' ⟨rfl, ⟨nd, rfl⟩⟩; (try first | exact ⟨rfl, _, World.drewN_drewN _ _ _⟩ | exact ⟨rfl, _, Eq.trans (World.drewN_drewN _ _ _) (congrArg (World.drewN _) (Nat.add_assoc _ _ _))⟩))))
                      go_ret
                      exact ⟨by first | rfl | (simp [errW_none, errW_some] <;> rfl) | (simp [*, errW_none, errW_some] <;> rfl), by repeat (first | (with_reducible first | exact HB.out | apply below_alloc | apply pw_below_drewN | apply below_drew1) | exact HB.out)⟩
              · rw [if_neg c28] at H
                exact absurd H (by simp)
            · rw [if_neg c26] at H
              exact absurd H (by simp)
          · rw [if_neg c25] at H
            exact absurd H (by simp)
        · rw [if_neg c24] at H
          have c24b0 : decide ((t188.length : Int) < (t185.length : Int)) = false := decide_eq_false c24
          have c24b1 : decide (t188.length < t185.length) = false := decide_eq_false (fun h => c24 (Int.ofNat_lt.mpr h))
          clear c24
          by_cases c59 : 0 ≤ (t185.length : Int)
          · rw [if_pos c59] at H
            have c59b0 := eq_true c59
            have c59b1 : decide (0 ≤ (t185.length : Int)) = true := decide_eq_true c59
            clear c59
            by_cases c60 : (t185.length : Int) ≤ (t185.length : Int)
            · rw [if_pos c60] at H
              have c60b0 := eq_true c60
              have c60b1 : decide ((t185.length : Int) ≤ (t185.length : Int)) = true := decide_eq_true c60
              clear c60
              obtain ⟨y201, hy201⟩ : ∃ y_ : List Int, y_ = (t185.take ((t185.length : Int) : Int).toNat) := ⟨_, rfl⟩
              replace H : (if (t185.length : Int) ≤ (t188.length : Int) then ((catchwordref01_Bytes.f kj5 y201 (t188.take ((t185.length : Int) : Int).toNat)).bind fun t209 => (if t209 = true then (some false) else (if a0 < a1 then (some true) else (if a0 > a1 then (some (decide ((t188.length : Int) ≤ (t185.length : Int)))) else (some false))))) else (none)) = some r := by first | (rw [hy201]; with_reducible exact H) | (have H2_ := (Option.bind_some _ _).symm.trans H; rw [hy201]; with_reducible exact H2_) | (have H2_ := (Option.bind_some _ _).symm.trans H; with_reducible exact H2_) | with_reducible exact H | (rw [hy201]; exact H) | exact H
              have Ny201 := Aside0.mk hy201
              clear hy201
              have c61b0 := eq_true (of_decide_eq_true (by first | (with_reducible assumption) | assumption) : 0 ≤ (t185.length : Int))
              by_cases c62 : (t185.length : Int) ≤ (t188.length : Int)
              · rw [if_pos c62] at H
                have c62b0 := eq_true c62
                have c62b1 : decide ((t185.length : Int) ≤ (t188.length : Int)) = true := decide_eq_true c62
                clear c62
                obtain ⟨y205, hy205⟩ : ∃ y_ : List Int, y_ = (t188.take ((t185.length : Int) : Int).toNat) := ⟨_, rfl⟩
                replace H : ((catchwordref01_Bytes.f kj5 y201 y205).bind fun t209 => (if t209 = true then (some false) else (if a0 < a1 then (some true) else (if a0 > a1 then (some (decide ((t188.length : Int) ≤ (t185.length : Int)))) else (some false))))) = some r := by first | (rw [hy205]; with_reducible exact H) | (have H2_ := (Option.bind_some _ _).symm.trans H; rw [hy205]; with_reducible exact H2_) | (have H2_ := (Option.bind_some _ _).symm.trans H; with_reducible exact H2_) | with_reducible exact H | (rw [hy205]; exact H) | exact H
                have Ny205 := Aside0.mk hy205
                clear hy205
                replace H := Option.bind_eq_some_iff.mp H
                obtain ⟨t209, A630, H⟩ := H
                replace H : (if t209 = true then (some false) else (if a0 < a1 then (some true) else (if a0 > a1 then (some (decide ((t188.length : Int) ≤ (t185.length : Int)))) else (some false)))) = some r := H
                have A63 := Aside0.mk A630
                clear A630
                by_cases c64 : t209 = true
                · subst c64
                  have H1 : (some false) = some r := by rw [if_pos rfl] at H; exact H
                  clear H
                  have H := H1
                  clear H1
                  obtain rfl := Option.some.inj H
                  obtain ⟨Ao65, co65, eo65⟩ := Kd.R_slice HO_6.out
                  subst eo65
                  obtain ⟨Ao66, co66, eo66⟩ := Kd.R_slice HO_7.out
                  subst eo66
                  have q67 : ((t185.length : Int) : Int) ≤ ((t185.length : Int) : Int) := of_decide_eq_true (by first | (with_reducible assumption) | assumption)
                  obtain ⟨i067, hi067, _, hsz67, _⟩ := info_parts info5
                  have hroom67 : t185.length ≤ co65 := (Kd.R_reads' HO_6.out).2.1
                  have hC67 : Kd.C (Kd.int .u8) _ Ao65 t185.length t185 := (Kd.R_reads' HO_6.out).2.2
                  have hcut67 := cut_to (P := Try.prog) 22 5 .i64 Try.underlying22 hi067 Ao65 t185.length co65 (t185.length : Int) (of_decide_eq_true (by first | (with_reducible assumption) | assumption)) q67 hroom67
                  have hr67 := Kd.C_take (m := ((t185.length : Int) : Int).toNat) hC67 (by omega)
                  have hy67 : y201.length = ((t185.length : Int) : Int).toNat := (by rw [Ny201.out, List.length_take]; omega)
                  rw [← Ny201.out] at hr67
                  rw [← hy67] at hcut67
                  have HR204 := Aside0.mk hr67
                  have HC204 := Aside0.mk (show y201.length ≤ co65 from by omega)
                  clear hr67 hC67 hroom67 hi067 hsz67
                  have KY67 := Aside0.mk hy67
                  clear hy67
                  have KL67 := Aside0.mk (show ((t185.length : Int) : Int).toNat ≤ t185.length from by omega)
                  replace q67 := eq_true q67
                  have q68 : ((t185.length : Int) : Int) ≤ ((t188.length : Int) : Int) := of_decide_eq_true (by first | (with_reducible assumption) | assumption)
                  obtain ⟨i068, hi068, _, hsz68, _⟩ := info_parts info5
                  have hroom68 : t188.length ≤ co66 := (Kd.R_reads' HO_7.out).2.1
                  have hC68 : Kd.C (Kd.int .u8) _ Ao66 t188.length t188 := (Kd.R_reads' HO_7.out).2.2
                  have hcut68 := cut_to (P := Try.prog) 22 5 .i64 Try.underlying22 hi068 Ao66 t188.length co66 (t185.length : Int) (of_decide_eq_true (by first | (with_reducible assumption) | assumption)) q68 hroom68
                  have hr68 := Kd.C_take (m := ((t185.length : Int) : Int).toNat) hC68 (by omega)
                  have hy68 : y205.length = ((t185.length : Int) : Int).toNat := (by rw [Ny205.out, List.length_take]; omega)
                  rw [← Ny205.out] at hr68
                  rw [← hy68] at hcut68
                  have HR208 := Aside0.mk hr68
                  have HC208 := Aside0.mk (show y205.length ≤ co66 from by omega)
                  clear hr68 hC68 hroom68 hi068 hsz68
                  have KY68 := Aside0.mk hy68
                  clear hy68
                  have KL68 := Aside0.mk (show ((t185.length : Int) : Int).toNat ≤ t188.length from by omega)
                  replace q68 := eq_true q68
                  go_wp2_with (first | (go_at_call 12; (with_reducible refine (catchwordref01_Bytes.calls kj5 _ _ y201 _ _ y205 true _ ?side1 ?side2 ?side3 ?side4 A63.out).mono ?_); (case side1 => repeat (first | exact (by repeat (first | (with_reducible exact HR204.out) | (with_reducible refine Kd.C_alloc ?_ _) | (with_reducible refine Kd.C_drewN ?_ _) | (with_reducible refine Kd.C_drew ?_) | exact HR204.out)) | (with_reducible refine Kd.C_alloc ?_ _) | (with_reducible refine Kd.C_drewN ?_ _) | (with_reducible refine Kd.C_drew ?_))); (case side2 => exact HC204.out); (case side3 => repeat (first | exact (by repeat (first | (with_reducible exact HR208.out) | (with_reducible refine Kd.C_alloc ?_ _) | (with_reducible refine Kd.C_drewN ?_ _) | (with_reducible refine Kd.C_drew ?_) | exact HR208.out)) | (with_reducible refine Kd.C_alloc ?_ _) | (with_reducible refine Kd.C_drewN ?_ _) | (with_reducible refine Kd.C_drew ?_))); (case side4 => exact HC208.out); rintro e w' ⟨rfl, ⟨nd, rfl⟩⟩; (try first | exact ⟨rfl, _, World.drewN_drewN _ _ _⟩ | exact ⟨rfl, _, Eq.trans (World.drewN_drewN _ _ _) (congrArg (World.drewN _) (Nat.add_assoc _ _ _))⟩)))
                  repeat (go_quiet (first | (go_at_call 12; (with_reducible refine (catchwordref01_Bytes.calls kj5 _ _ y201 _ _ y205 true _ ?side1 ?side2 ?side3 ?side4 A63.out).mono ?_); (case side1 => repeat (first | exact (by repeat (first | (with_reducible exact HR204.out) | (with_reducible refine Kd.C_alloc ?_ _) | (with_reducible refine Kd.C_drewN ?_ _) | (with_reducible refine Kd.C_drew ?_) | exact HR204.out)) | (with_reducible refine Kd.C_alloc ?_ _) | (with_reducible refine Kd.C_drewN ?_ _) | (with_reducible refine Kd.C_drew ?_))); (case side2 => exact HC204.out); (case side3 => repeat (first | exact (by repeat (first | (with_reducible exact HR208.out) | (with_reducible refine Kd.C_alloc ?_ _) | (with_reducible refine Kd.C_drewN ?_ _) | (with_reducible refine Kd.C_drew ?_) | exact HR208.out)) | (with_reducible refine Kd.C_alloc ?_ _) | (with_reducible refine Kd.C_drewN ?_ _) | (with_reducible refine Kd.C_drew ?_))); (case side4 => exact HC208.out); rintro e w' ⟨rfl, ⟨nd, rfl⟩⟩; (try first | exact ⟨rfl, _, World.drewN_drewN _ _ _⟩ | exact ⟨rfl, _, Eq.trans (World.drewN_drewN _ _ _) (congrArg (World.drewN _) (Nat.add_assoc _ _ _))⟩))); try go_wp2_with (first | (go_at_call 12; (with_reducible refine (catchwordref01_Bytes.calls kj5 _ _ y201 _ _ y205 true _ ?side1 ?side2 ?side3 ?side4 A63.out).mono ?_); (case side1 => repeat (first | exact (by repeat (first | (with_reducible exact HR204.out) | (with_reducible refine Kd.C_alloc ?_ _) | (with_reducible refine Kd.C_drewN ?_ _) | (with_reducible refine Kd.C_drew ?_) | exact HR204.out)) | (with_reducible refine Kd.C_alloc ?_ _) | (with_reducible refine Kd.C_drewN ?_ _) | (with_reducible refine Kd.C_drew ?_))); (case side2 => exact HC204.out); (case side3 => repeat (first | exact (by repeat (first | (with_reducible exact HR208.out) | (with_reducible refine Kd.C_alloc ?_ _) | (with_reducible refine Kd.C_drewN ?_ _) | (with_reducible refine Kd.C_drew ?_) | exact HR208.out)) | (with_reducible refine Kd.C_alloc ?_ _) | (with_reducible refine Kd.C_drewN ?_ _) | (with_reducible refine Kd.C_drew ?_))); (case side4 => exact HC208.out); rintro e w' ⟨rfl, ⟨nd, rfl⟩⟩; (try first | exact ⟨rfl, _, World.drewN_drewN _ _ _⟩ | exact ⟨rfl, _, Eq.trans (World.drewN_drewN _ _ _) (congrArg (World.drewN _) (Nat.add_assoc _ _ _))⟩))))
                  go_ret
                  exact ⟨by first | rfl | (simp [errW_none, errW_some] <;> rfl) | (simp [*, errW_none, errW_some] <;> rfl), by repeat (first | (with_reducible first | exact HB.out | apply below_alloc | apply pw_below_drewN | apply below_drew1) | exact HB.out)⟩
                · replace c64 := Bool.eq_false_iff.mpr c64
                  subst c64
                  have H1 : (if a0 < a1 then (some true) else (if a0 > a1 then (some (decide ((t188.length : Int) ≤ (t185.length : Int)))) else (some false))) = some r := by rw [if_neg (show ¬ (false = true) by decide)] at H; exact H
                  clear H
                  have H := H1
                  clear H1
                  by_cases c69 : a0 < a1
                  · rw [if_pos c69] at H
                    have c69b0 : decide (a0 < a1) = true := decide_eq_true c69
                    clear c69
                    obtain rfl := Option.some.inj H
                    obtain ⟨Ao70, co70, eo70⟩ := Kd.R_slice HO_6.out
                    subst eo70
                    obtain ⟨Ao71, co71, eo71⟩ := Kd.R_slice HO_7.out
                    subst eo71
                    have q72 : ((t185.length : Int) : Int) ≤ ((t185.length : Int) : Int) := of_decide_eq_true (by first | (with_reducible assumption) | assumption)
                    obtain ⟨i072, hi072, _, hsz72, _⟩ := info_parts info5
                    have hroom72 : t185.length ≤ co70 := (Kd.R_reads' HO_6.out).2.1
                    have hC72 : Kd.C (Kd.int .u8) _ Ao70 t185.length t185 := (Kd.R_reads' HO_6.out).2.2
                    have hcut72 := cut_to (P := Try.prog) 22 5 .i64 Try.underlying22 hi072 Ao70 t185.length co70 (t185.length : Int) (of_decide_eq_true (by first | (with_reducible assumption) | assumption)) q72 hroom72
                    have hr72 := Kd.C_take (m := ((t185.length : Int) : Int).toNat) hC72 (by omega)
                    have hy72 : y201.length = ((t185.length : Int) : Int).toNat := (by rw [Ny201.out, List.length_take]; omega)
                    rw [← Ny201.out] at hr72
                    rw [← hy72] at hcut72
                    have HR204 := Aside0.mk hr72
                    have HC204 := Aside0.mk (show y201.length ≤ co70 from by omega)
                    clear hr72 hC72 hroom72 hi072 hsz72
                    have KY72 := Aside0.mk hy72
                    clear hy72
                    have KL72 := Aside0.mk (show ((t185.length : Int) : Int).toNat ≤ t185.length from by omega)
                    replace q72 := eq_true q72
                    have q73 : ((t185.length : Int) : Int) ≤ ((t188.length : Int) : Int) := of_decide_eq_true (by first | (with_reducible assumption) | assumption)
                    obtain ⟨i073, hi073, _, hsz73, _⟩ := info_parts info5
                    have hroom73 : t188.length ≤ co71 := (Kd.R_reads' HO_7.out).2.1
                    have hC73 : Kd.C (Kd.int .u8) _ Ao71 t188.length t188 := (Kd.R_reads' HO_7.out).2.2
                    have hcut73 := cut_to (P := Try.prog) 22 5 .i64 Try.underlying22 hi073 Ao71 t188.length co71 (t185.length : Int) (of_decide_eq_true (by first | (with_reducible assumption) | assumption)) q73 hroom73
                    have hr73 := Kd.C_take (m := ((t185.length : Int) : Int).toNat) hC73 (by omega)
                    have hy73 : y205.length = ((t185.length : Int) : Int).toNat := (by rw [Ny205.out, List.length_take]; omega)
                    rw [← Ny205.out] at hr73
                    rw [← hy73] at hcut73
                    have HR208 := Aside0.mk hr73
                    have HC208 := Aside0.mk (show y205.length ≤ co71 from by omega)
                    clear hr73 hC73 hroom73 hi073 hsz73
                    have KY73 := Aside0.mk hy73
                    clear hy73
                    have KL73 := Aside0.mk (show ((t185.length : Int) : Int).toNat ≤ t188.length from by omega)
                    replace q73 := eq_true q73
                    go_wp2_with (first | (go_at_call 12; (with_reducible refine (catchwordref01_Bytes.calls kj5 _ _ y201 _ _ y205 false _ ?side1 ?side2 ?side3 ?side4 A63.out).mono ?_); (case side1 => repeat (first | exact (by repeat (first | (with_reducible exact HR204.out) | (with_reducible refine Kd.C_alloc ?_ _) | (with_reducible refine Kd.C_drewN ?_ _) | (with_reducible refine Kd.C_drew ?_) | exact HR204.out)) | (with_reducible refine Kd.C_alloc ?_ _) | (with_reducible refine Kd.C_drewN ?_ _) | (with_reducible refine Kd.C_drew ?_))); (case side2 => exact HC204.out); (case side3 => repeat (first | exact (by repeat (first | (with_reducible exact HR208.out) | (with_reducible refine Kd.C_alloc ?_ _) | (with_reducible refine Kd.C_drewN ?_ _) | (with_reducible refine Kd.C_drew ?_) | exact HR208.out)) | (with_reducible refine Kd.C_alloc ?_ _) | (with_reducible refine Kd.C_drewN ?_ _) | (with_reducible refine Kd.C_drew ?_))); (case side4 => exact HC208.out); rintro e w' ⟨rfl, ⟨nd, rfl⟩⟩; (try first | exact ⟨rfl, _, World.drewN_drewN _ _ _⟩ | exact ⟨rfl, _, Eq.trans (World.drewN_drewN _ _ _) (congrArg (World.drewN _) (Nat.add_assoc _ _ _))⟩)))
                    repeat (go_quiet (first | (go_at_call 12; (with_reducible refine (catchwordref01_Bytes.calls kj5 _ _ y201 _ _ y205 false _ ?side1 ?side2 ?side3 ?side4 A63.out).mono ?_); (case side1 => repeat (first | exact (by repeat (first | (with_reducible exact HR204.out) | (with_reducible refine Kd.C_alloc ?_ _) | (with_reducible refine Kd.C_drewN ?_ _) | (with_reducible refine Kd.C_drew ?_) | exact HR204.out)) | (with_reducible refine Kd.C_alloc ?_ _) | (with_reducible refine Kd.C_drewN ?_ _) | (with_reducible refine Kd.C_drew ?_))); (case side2 => exact HC204.out); (case side3 => repeat (first | exact (by repeat (first | (with_reducible exact HR208.out) | (with_reducible refine Kd.C_alloc ?_ _) | (with_reducible refine Kd.C_drewN ?_ _) | (with_reducible refine Kd.C_drew ?_) | exact HR208.out)) | (with_reducible refine Kd.C_alloc ?_ _) | (with_reducible refine Kd.C_drewN ?_ _) | (with_reducible refine Kd.C_drew ?_))); (case side4 => exact HC208.out); rintro e w' ⟨rfl, ⟨nd, rfl⟩⟩; (try first | exact ⟨rfl, _, World.drewN_drewN _ _ _⟩ | exact ⟨rfl, _, Eq.trans (World.drewN_drewN _ _ _) (congrArg (World.drewN _) (Nat.add_assoc _ _ _))⟩))); try go_wp2_with (first | (go_at_call 12; (with_reducible refine (catchwordref01_Bytes.calls kj5 _ _ y201 _ _ y205 false _ ?side1 ?side2 ?side3 ?side4 A63.out).mono ?_); (case side1 => repeat (first | exact (by repeat (first | (with_reducible exact HR204.out) | (with_reducible refine Kd.C_alloc ?_ _) | (with_reducible refine Kd.C_drewN ?_ _) | (with_reducible refine Kd.C_drew ?_) | exact HR204.out)) | (with_reducible refine Kd.C_alloc ?_ _) | (with_reducible refine Kd.C_drewN ?_ _) | (with_reducible refine Kd.C_drew ?_))); (case side2 => exact HC204.out); (case side3 => repeat (first | exact (by repeat (first | (with_reducible exact HR208.out) | (with_reducible refine Kd.C_alloc ?_ _) | (with_reducible refine Kd.C_drewN ?_ _) | (with_reducible refine Kd.C_drew ?_) | exact HR208.out)) | (with_reducible refine Kd.C_alloc ?_ _) | (with_reducible refine Kd.C_drewN ?_ _) | (with_reducible refine Kd.C_drew ?_))); (case side4 => exact HC208.out); rintro e w' ⟨rfl, ⟨nd, rfl⟩⟩; (try first | exact ⟨rfl, _, World.drewN_drewN _ _ _⟩ | exact ⟨rfl, _, Eq.trans (World.drewN_drewN _ _ _) (congrArg (World.drewN _) (Nat.add_assoc _ _ _))⟩))))
                    go_ret
                    exact ⟨by first | rfl | (simp [errW_none, errW_some] <;> rfl) | (simp [*, errW_none, errW_some] <;> rfl), by repeat (first | (with_reducible first | exact HB.out | apply below_alloc | apply pw_below_drewN | apply below_drew1) | exact HB.out)⟩
                  · rw [if_neg c69] at H
                    have c69b0 : decide (a0 < a1) = false := decide_eq_false c69
                    clear c69
                    by_cases c74 : a0 > a1
                    · rw [if_pos c74] at H
                      have c74b0 : decide (a1 < a0) = true := decide_eq_true c74
                      clear c74
                      obtain rfl := Option.some.inj H
                      obtain ⟨Ao75, co75, eo75⟩ := Kd.R_slice HO_6.out
                      subst eo75
                      obtain ⟨Ao76, co76, eo76⟩ := Kd.R_slice HO_7.out
                      subst eo76
                      have q77 : ((t185.length : Int) : Int) ≤ ((t185.length : Int) : Int) := of_decide_eq_true (by first | (with_reducible assumption) | assumption)
                      obtain ⟨i077, hi077, _, hsz77, _⟩ := info_parts info5
                      have hroom77 : t185.length ≤ co75 := (Kd.R_reads' HO_6.out).2.1
                      have hC77 : Kd.C (Kd.int .u8) _ Ao75 t185.length t185 := (Kd.R_reads' HO_6.out).2.2
                      have hcut77 := cut_to (P := Try.prog) 22 5 .i64 Try.underlying22 hi077 Ao75 t185.length co75 (t185.length : Int) (of_decide_eq_true (by first | (with_reducible assumption) | assumption)) q77 hroom77
                      have hr77 := Kd.C_take (m := ((t185.length : Int) : Int).toNat) hC77 (by omega)
                      have hy77 : y201.length = ((t185.length : Int) : Int).toNat := (by rw [Ny201.out, List.length_take]; omega)
                      rw [← Ny201.out] at hr77
                      rw [← hy77] at hcut77
                      have HR204 := Aside0.mk hr77
                      have HC204 := Aside0.mk (show y201.length ≤ co75 from by omega)
                      clear hr77 hC77 hroom77 hi077 hsz77
                      have KY77 := Aside0.mk hy77
                      clear hy77
                      have KL77 := Aside0.mk (show ((t185.length : Int) : Int).toNat ≤ t185.length from by omega)
                      replace q77 := eq_true q77
                      have q78 : ((t185.length : Int) : Int) ≤ ((t188.length : Int) : Int) := of_decide_eq_true (by first | (with_reducible assumption) | assumption)
                      obtain ⟨i078, hi078, _, hsz78, _⟩ := info_parts info5
                      have hroom78 : t188.length ≤ co76 := (Kd.R_reads' HO_7.out).2.1
                      have hC78 : Kd.C (Kd.int .u8) _ Ao76 t188.length t188 := (Kd.R_reads' HO_7.out).2.2
                      have hcut78 := cut_to (P := Try.prog) 22 5 .i64 Try.underlying22 hi078 Ao76 t188.length co76 (t185.length : Int) (of_decide_eq_true (by first | (with_reducible assumption) | assumption)) q78 hroom78
                      have hr78 := Kd.C_take (m := ((t185.length : Int) : Int).toNat) hC78 (by omega)
                      have hy78 : y205.length = ((t185.length : Int) : Int).toNat := (by rw [Ny205.out, List.length_take]; omega)
                      rw [← Ny205.out] at hr78
                      rw [← hy78] at hcut78
                      have HR208 := Aside0.mk hr78
                      have HC208 := Aside0.mk (show y205.length ≤ co76 from by omega)
                      clear hr78 hC78 hroom78 hi078 hsz78
                      have KY78 := Aside0.mk hy78
                      clear hy78
                      have KL78 := Aside0.mk (show ((t185.length : Int) : Int).toNat ≤ t188.length from by omega)
                      replace q78 := eq_true q78
                      go_wp2_with (first | (go_at_call 12; (with_reducible refine (catchwordref01_Bytes.calls kj5 _ _ y201 _ _ y205 false _ ?side1 ?side2 ?side3 ?side4 A63.out).mono ?_); (case side1 => repeat (first | exact (by repeat (first | (with_reducible exact HR204.out) | (with_reducible refine Kd.C_alloc ?_ _) | (with_reducible refine Kd.C_drewN ?_ _) | (with_reducible refine Kd.C_drew ?_) | exact HR204.out)) | (with_reducible refine Kd.C_alloc ?_ _) | (with_reducible refine Kd.C_drewN ?_ _) | (with_reducible refine Kd.C_drew ?_))); (case side2 => exact HC204.out); (case side3 => repeat (first | exact (by repeat (first | (with_reducible exact HR208.out) | (with_reducible refine Kd.C_alloc ?_ _) | (with_reducible refine Kd.C_drewN ?_ _) | (with_reducible refine Kd.C_drew ?_) | exact HR208.out)) | (with_reducible refine Kd.C_alloc ?_ _) | (with_reducible refine Kd.C_drewN ?_ _) | (with_reducible refine Kd.C_drew ?_))); (case side4 => exact HC208.out); rintro e w' ⟨rfl, ⟨nd, rfl⟩⟩; (try first | exact ⟨rfl, _, World.drewN_drewN _ _ _⟩ | exact ⟨rfl, _, Eq.trans (World.drewN_drewN _ _ _) (congrArg (World.drewN _) (Nat.add_assoc _ _ _))⟩)))
                      repeat (go_quiet (first | (go_at_call 12; (with_reducible refine (catchwordref01_Bytes.calls kj5 _ _ y201 _ _ y205 false _ ?side1 ?side2 ?side3 ?side4 A63.out).mono ?_); (case side1 => repeat (first | exact (by repeat (first | (with_reducible exact HR204.out) | (with_reducible refine Kd.C_alloc ?_ _) | (with_reducible refine Kd.C_drewN ?_ _) | (with_reducible refine Kd.C_drew ?_) | exact HR204.out)) | (with_reducible refine Kd.C_alloc ?_ _) | (with_reducible refine Kd.C_drewN ?_ _) | (with_reducible refine Kd.C_drew ?_))); (case side2 => exact HC204.out); (case side3 => repeat (first | exact (by repeat (first | (with_reducible exact HR208.out) | (with_reducible refine Kd.C_alloc ?_ _) | (with_reducible refine Kd.C_drewN ?_ _) | (with_reducible refine Kd.C_drew ?_) | exact HR208.out)) | (with_reducible refine Kd.C_alloc ?_ _) | (with_reducible refine Kd.C_drewN ?_ _) | (with_reducible refine Kd.C_drew ?_))); (case side4 => exact HC208.out); rintro e w' ⟨rfl, ⟨nd, rfl⟩⟩; (try first | exact ⟨rfl, _, World.drewN_drewN _ _ _⟩ | exact ⟨rfl, _, Eq.trans (World.drewN_drewN _ _ _) (congrArg (World.drewN _) (Nat.add_assoc _ _ _))⟩))); try go_wp2_with (first | (go_at_call 12; (with_reducible refine (catchwordref01_Bytes.calls kj5 _ _ y201 _ _ y205 false _ ?side1 ?side2 ?side3 ?side4 A63.out).mono ?_); (case side1 => repeat (first | exact (by repeat (first | (with_reducible exact HR204.out) | (with_reducible refine Kd.C_alloc ?_ _) | (with_reducible refine Kd.C_drewN ?_ _) | (with_reducible refine Kd.C_drew ?_) | exact HR204.out)) | (with_reducible refine Kd.C_alloc ?_ _) | (with_reducible refine Kd.C_drewN ?_ _) | (with_reducible refine Kd.C_drew ?_))); (case side2 => exact HC204.out); (case side3 => repeat (first | exact (by repeat (first | (with_reducible exact HR208.out) | (with_reducible refine Kd.C_alloc ?_ _) | (with_reducible refine Kd.C_drewN ?_ _) | (with_reducible refine Kd.C_drew ?_) | exact HR208.out)) | (with_reducible refine Kd.C_alloc ?_ _) | (with_reducible refine Kd.C_drewN ?_ _) | (with_reducible refine Kd.C_drew ?_))); (case side4 => exact HC208.out); rintro e w' ⟨rfl, ⟨nd, rfl⟩⟩; (try first | exact ⟨rfl, _, World.drewN_drewN _ _ _⟩ | exact ⟨rfl, _, Eq.trans (World.drewN_drewN _ _ _) (congrArg (World.drewN _) (Nat.add_assoc _ _ _))⟩))))
                      go_ret
                      exact ⟨by first | rfl | (simp [errW_none, errW_some] <;> rfl) | (simp [*, errW_none, errW_some] <;> rfl), by repeat (first | (with_reducible first | exact HB.out | apply below_alloc | apply pw_below_drewN | apply below_drew1) | exact HB.out)⟩
                    · rw [if_neg c74] at H
                      have c74b0 : decide (a1 < a0) = false := decide_eq_false c74
                      clear c74
                      obtain rfl := Option.some.inj H
                      obtain ⟨Ao79, co79, eo79⟩ := Kd.R_slice HO_6.out
                      subst eo79
                      obtain ⟨Ao80, co80, eo80⟩ := Kd.R_slice HO_7.out
                      subst eo80
                      have q81 : ((t185.length : Int) : Int) ≤ ((t185.length : Int) : Int) := of_decide_eq_true (by first | (with_reducible assumption) | assumption)
                      obtain ⟨i081, hi081, _, hsz81, _⟩ := info_parts info5
                      have hroom81 : t185.length ≤ co79 := (Kd.R_reads' HO_6.out).2.1
                      have hC81 : Kd.C (Kd.int .u8) _ Ao79 t185.length t185 := (Kd.R_reads' HO_6.out).2.2
                      have hcut81 := cut_to (P := Try.prog) 22 5 .i64 Try.underlying22 hi081 Ao79 t185.length co79 (t185.length : Int) (of_decide_eq_true (by first | (with_reducible assumption) | assumption)) q81 hroom81
                      have hr81 := Kd.C_take (m := ((t185.length : Int) : Int).toNat) hC81 (by omega)
                      have hy81 : y201.length = ((t185.length : Int) : Int).toNat := (by rw [Ny201.out, List.length_take]; omega)
                      rw [← Ny201.out] at hr81
                      rw [← hy81] at hcut81
                      have HR204 := Aside0.mk hr81
                      have HC204 := Aside0.mk (show y201.length ≤ co79 from by omega)
                      clear hr81 hC81 hroom81 hi081 hsz81
                      have KY81 := Aside0.mk hy81
                      clear hy81
                      have KL81 := Aside0.mk (show ((t185.length : Int) : Int).toNat ≤ t185.length from by omega)
                      replace q81 := eq_true q81
                      have q82 : ((t185.length : Int) : Int) ≤ ((t188.length : Int) : Int) := of_decide_eq_true (by first | (with_reducible assumption) | assumption)
                      obtain ⟨i082, hi082, _, hsz82, _⟩ := info_parts info5
                      have hroom82 : t188.length ≤ co80 := (Kd.R_reads' HO_7.out).2.1
                      have hC82 : Kd.C (Kd.int .u8) _ Ao80 t188.length t188 := (Kd.R_reads' HO_7.out).2.2
                      have hcut82 := cut_to (P := Try.prog) 22 5 .i64 Try.underlying22 hi082 Ao80 t188.length co80 (t185.length : Int) (of_decide_eq_true (by first | (with_reducible assumption) | assumption)) q82 hroom82
                      have hr82 := Kd.C_take (m := ((t185.length : Int) : Int).toNat) hC82 (by omega)
                      have hy82 : y205.length = ((t185.length : Int) : Int).toNat := (by rw [Ny205.out, List.length_take]; omega)
                      rw [← Ny205.out] at hr82
                      rw [← hy82] at hcut82
                      have HR208 := Aside0.mk hr82
                      have HC208 := Aside0.mk (show y205.length ≤ co80 from by omega)
                      clear hr82 hC82 hroom82 hi082 hsz82
                      have KY82 := Aside0.mk hy82
                      clear hy82
                      have KL82 := Aside0.mk (show ((t185.length : Int) : Int).toNat ≤ t188.length from by omega)
                      replace q82 := eq_true q82
                      go_wp2_with (first | (go_at_call 12; (with_reducible refine (catchwordref01_Bytes.calls kj5 _ _ y201 _ _ y205 false _ ?side1 ?side2 ?side3 ?side4 A63.out).mono ?_); (case side1 => repeat (first | exact (by repeat (first | (with_reducible exact HR204.out) | (with_reducible refine Kd.C_alloc ?_ _) | (with_reducible refine Kd.C_drewN ?_ _) | (with_reducible refine Kd.C_drew ?_) | exact HR204.out)) | (with_reducible refine Kd.C_alloc ?_ _) | (with_reducible refine Kd.C_drewN ?_ _) | (with_reducible refine Kd.C_drew ?_))); (case side2 => exact HC204.out); (case side3 => repeat (first | exact (by repeat (first | (with_reducible exact HR208.out) | (with_reducible refine Kd.C_alloc ?_ _) | (with_reducible refine Kd.C_drewN ?_ _) | (with_reducible refine Kd.C_drew ?_) | exact HR208.out)) | (with_reducible refine Kd.C_alloc ?_ _) | (with_reducible refine Kd.C_drewN ?_ _) | (with_reducible refine Kd.C_drew ?_))); (case side4 => exact HC208.out); rintro e w' ⟨rfl, ⟨nd, rfl⟩⟩; (try first | exact ⟨rfl, _, World.drewN_drewN _ _ _⟩ | exact ⟨rfl, _, Eq.trans (World.drewN_drewN _ _ _) (congrArg (World.drewN _) (Nat.add_assoc _ _ _))⟩)))
                      repeat (go_quiet (first | (go_at_call 12; (with_reducible refine (catchwordref01_Bytes.calls kj5 _ _ y201 _ _ y205 false _ ?side1 ?side2 ?side3 ?side4 A63.out).mono ?_); (case side1 => repeat (first | exact (by repeat (first | (with_reducible exact HR204.out) | (with_reducible refine Kd.C_alloc ?_ _) | (with_reducible refine Kd.C_drewN ?_ _) | (with_reducible refine Kd.C_drew ?_) | exact HR204.out)) | (with_reducible refine Kd.C_alloc ?_ _) | (with_reducible refine Kd.C_drewN ?_ _) | (with_reducible refine Kd.C_drew ?_))); (case side2 => exact HC204.out); (case side3 => repeat (first | exact (by repeat (first | (with_reducible exact HR208.out) | (with_reducible refine Kd.C_alloc ?_ _) | (with_reducible refine Kd.C_drewN ?_ _) | (with_reducible refine Kd.C_drew ?_) | exact HR208.out)) | (with_reducible refine Kd.C_alloc ?_ _) | (with_reducible refine Kd.C_drewN ?_ _) | (with_reducible refine Kd.C_drew ?_))); (case side4 => exact HC208.out); rintro e w' ⟨rfl, ⟨nd, rfl⟩⟩; (try first | exact ⟨rfl, _, World.drewN_drewN _ _ _⟩ | exact ⟨rfl, _, Eq.trans (World.drewN_drewN _ _ _) (congrArg (World.drewN _) (Nat.add_assoc _ _ _))⟩))); try go_wp2_with (first | (go_at_call 12; (with_reducible refine (catchwordref01_Bytes.calls kj5 _ _ y201 _ _ y205 false _ ?side1 ?side2 ?side3 ?side4 A63.out).mono ?_); (case side1 => repeat (first | exact (by repeat (first | (with_reducible exact HR204.out) | (with_reducible refine Kd.C_alloc ?_ _) | (with_reducible refine Kd.C_drewN ?_ _) | (with_reducible refine Kd.C_drew ?_) | exact HR204.out)) | (with_reducible refine Kd.C_alloc ?_ _) | (with_reducible refine Kd.C_drewN ?_ _) | (with_reducible refine Kd.C_drew ?_))); (case side2 => exact HC204.out); (case side3 => repeat (first | exact (by repeat (first | (with_reducible exact HR208.out) | (with_reducible refine Kd.C_alloc ?_ _) | (with_reducible refine Kd.C_drewN ?_ _) | (with_reducible refine Kd.C_drew ?_) | exact HR208.out)) | (with_reducible refine Kd.C_alloc ?_ _) | (with_reducible refine Kd.C_drewN ?_ _) | (with_reducible refine Kd.C_drew ?_))); (case side4 => exact HC208.out); rintro e w' ⟨rfl, ⟨nd, rfl⟩⟩; (try first | exact ⟨rfl, _, World.drewN_drewN _ _ _⟩ | exact ⟨rfl, _, Eq.trans (World.drewN_drewN _ _ _) (congrArg (World.drewN _) (Nat.add_assoc _ _ _))⟩))))
                      go_ret
                      exact ⟨by first | rfl | (simp [errW_none, errW_some] <;> rfl) | (simp [*, errW_none, errW_some] <;> rfl), by repeat (first | (with_reducible first | exact HB.out | apply below_alloc | apply pw_below_drewN | apply below_drew1) | exact HB.out)⟩
              · rw [if_neg c62] at H
                exact absurd H (by simp)
            · rw [if_neg c60] at H
              exact absurd H (by simp)
          · rw [if_neg c59] at H
            exact absurd H (by simp)

/-- THE ONE PURE STATEMENT of catchwordlaw01_VintFirst: yours. -/
def catchwordlaw01_VintFirst.Pure : Prop := ∀ (a0 : Int) (a1 : Int), (Lit.int .i64 a0).wf = true → (Lit.int .i64 a1).wf = true → ∃ k, catchwordlaw01_VintFirst.f k a0 a1 = some true
theorem catchwordlaw01_VintFirst.walk (P : catchwordlaw01_VintFirst.Pure) (a0 : Int) (a1 : Int) (w : World) (w0 : (Lit.int .i64 a0).wf = true) (w1 : (Lit.int .i64 a1).wf = true) :
    Calls Try.prog 7 #[.int .i64 a0, .int .i64 a1] w fun e w' => e = .returned (.bool true) ∧ Below w.heap.size w w' := by
  obtain ⟨k, h⟩ := P a0 a1 w0 w1
  refine (catchwordlaw01_VintFirst.calls k a0 a1 true w h).mono ?_
  rintro e w' ⟨rfl, hd⟩
  exact ⟨rfl, hd⟩

end Go.Proofs.Ytmgmpdlceepjdaa.PVintFirst
