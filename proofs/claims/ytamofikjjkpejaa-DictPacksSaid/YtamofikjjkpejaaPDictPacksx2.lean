-- LAID BY this session's own printer (wip/pr): Lean checks it
import Derived.Test.YtamofikjjkpejaaPDictPacksx0
import Derived.Test.YtamofikjjkpejaaPDictPacksx1
import Derived.Test.YtamofikjjkpejaaDConv
import Derived.Test.YtamofikjjkpejaaDStr
namespace Go.Proofs.Ytamofikjjkpejaa.PDictPacks
open Go.RowKit Go.Proofs.YtamofikjjkpejaaW.PrintWords Go.Proofs.YtamofikjjkpejaaW.PrintLast Go.Proofs.YtamofikjjkpejaaW.PrintMore
attribute [local go_sem] max2_int min2_int max_two min_two max_three min_three max_four min_four   -- for this text's walks alone
set_option linter.unusedVariables false
set_option linter.unusedSimpArgs false

attribute [local go_sem] Go.Proofs.Ytamofikjjkpejaa.DStr.str_leq
/-! ### dict_Or: function 19 -/
mutual
def dict_Or.l0 : Nat → List (List ByteArray) → List Int → List (List ByteArray) → Int → Int → Option (List ByteArray)
 | 0, _, _, _, _, _ => none
 | k + 1, x0, x4, x16, x17, x18 => if x18 < x17 then (if 0 ≤ x18 then (if x18 < (x16.length : Int) then ((dict_May.f k (rd_L1 x16 x18)).bind fun t123 => (if t123 = true then (dict_Or.l0 k x0 x4 x16 x17 (wrap64 (x18 + 1))) else (some ([] : List ByteArray)))) else (none)) else (none)) else (dict_Or.l1 k x0 ([] : List ByteArray) x4)
def dict_Or.l1 : Nat → List (List ByteArray) → List ByteArray → List Int → Option (List ByteArray)
 | 0, _, _, _ => none
 | k + 1, x0, x3, x4 => dict_Or.l2 k x0 x3 x4 (-1) x0 (x0.length : Int) 0
def dict_Or.l2 : Nat → List (List ByteArray) → List ByteArray → List Int → Int → List (List ByteArray) → Int → Int → Option (List ByteArray)
 | 0, _, _, _, _, _, _, _ => none
 | k + 1, x0, x3, x4, x7, x26, x27, x28 => if x28 < x27 then (if 0 ≤ x28 then (if x28 < (x26.length : Int) then (if x28 < (x4.length : Int) then (if (rd x4 x28) < ((rd_L1 x26 x28).length : Int) then (if x7 = (-1) then (dict_Or.l2 k x0 x3 x4 x28 x26 x27 (wrap64 (x28 + 1))) else (if 0 ≤ (rd x4 x28) then (if 0 ≤ x7 then (if x7 < (x0.length : Int) then (if x7 < (x4.length : Int) then (if 0 ≤ (rd x4 x7) then (if (rd x4 x7) < ((rd_L1 x0 x7).length : Int) then (if (Op.bytesLess ((rdOf ByteArray.empty (rd_L1 x26 x28) (rd x4 x28)).toList) ((rdOf ByteArray.empty (rd_L1 x0 x7) (rd x4 x7)).toList)) = true then (dict_Or.l2 k x0 x3 x4 x28 x26 x27 (wrap64 (x28 + 1))) else (dict_Or.l2 k x0 x3 x4 x7 x26 x27 (wrap64 (x28 + 1)))) else (none)) else (none)) else (none)) else (none)) else (none)) else (none))) else (dict_Or.l2 k x0 x3 x4 x7 x26 x27 (wrap64 (x28 + 1)))) else (none)) else (none)) else (none)) else (if x7 = (-1) then (some x3) else (if 0 ≤ x7 then (if x7 < (x0.length : Int) then (if x7 < (x4.length : Int) then (if 0 ≤ (rd x4 x7) then (if (rd x4 x7) < ((rd_L1 x0 x7).length : Int) then (if x3.length < 8796093022208 then ((some (x3 ++ [rdOf ByteArray.empty (rd_L1 x0 x7) (rd x4 x7)] : List ByteArray)).bind fun y134 => (if (y134.length : Int) > 200 then (some ([] : List ByteArray)) else (dict_Or.l3 k x0 y134 x4 (rdOf ByteArray.empty (rd_L1 x0 x7) (rd x4 x7)) x0 (x0.length : Int) 0))) else (none)) else (none)) else (none)) else (none)) else (none)) else (none)))
def dict_Or.l3 : Nat → List (List ByteArray) → List ByteArray → List Int → ByteArray → List (List ByteArray) → Int → Int → Option (List ByteArray)
 | 0, _, _, _, _, _, _, _ => none
 | k + 1, x0, x3, x4, x10, x86, x87, x88 => if x88 < x87 then (if 0 ≤ x88 then (if x88 < (x86.length : Int) then (if x88 < (x4.length : Int) then (if (rd x4 x88) < ((rd_L1 x86 x88).length : Int) then (if 0 ≤ (rd x4 x88) then (if (rdOf ByteArray.empty (rd_L1 x86 x88) (rd x4 x88)).toList = x10.toList then (dict_Or.l3 k x0 x3 (x4.set (x88 : Int).toNat (wrap64 ((rd x4 x88) + 1))) x10 x86 x87 (wrap64 (x88 + 1))) else (dict_Or.l3 k x0 x3 x4 x10 x86 x87 (wrap64 (x88 + 1)))) else (none)) else (dict_Or.l3 k x0 x3 x4 x10 x86 x87 (wrap64 (x88 + 1)))) else (none)) else (none)) else (none)) else (dict_Or.l1 k x0 x3 x4)
end
def dict_Or.f (k : Nat) (l0 : List (List ByteArray)) : Option (List ByteArray) := if 0 ≤ (l0.length : Int) then (if ((l0.length : Int) : Int).toNat ≤ 35184372088832 then (dict_Or.l0 k l0 (List.replicate ((l0.length : Int) : Int).toNat 0) l0 (l0.length : Int) 0) else (none)) else (none)
theorem dict_Or.mono_l : ∀ k, (∀ y0 y1 y2 y3 y4, LeO (dict_Or.l0 k y0 y1 y2 y3 y4) (dict_Or.l0 (k + 1) y0 y1 y2 y3 y4)) ∧ (∀ y0 y1 y2, LeO (dict_Or.l1 k y0 y1 y2) (dict_Or.l1 (k + 1) y0 y1 y2)) ∧ (∀ y0 y1 y2 y3 y4 y5 y6, LeO (dict_Or.l2 k y0 y1 y2 y3 y4 y5 y6) (dict_Or.l2 (k + 1) y0 y1 y2 y3 y4 y5 y6)) ∧ (∀ y0 y1 y2 y3 y4 y5 y6, LeO (dict_Or.l3 k y0 y1 y2 y3 y4 y5 y6) (dict_Or.l3 (k + 1) y0 y1 y2 y3 y4 y5 y6))
 | 0 => ⟨fun _ _ _ _ _ r h => by simp [dict_Or.l0] at h, fun _ _ _ r h => by simp [dict_Or.l1] at h, fun _ _ _ _ _ _ _ r h => by simp [dict_Or.l2] at h, fun _ _ _ _ _ _ _ r h => by simp [dict_Or.l3] at h⟩
 | k + 1 => by
  obtain ⟨ih0, ih1, ih2, ih3⟩ := dict_Or.mono_l k
  refine ⟨?_, ?_, ?_, ?_⟩
  ·intro y0 y1 y2 y3 y4
   unfold dict_Or.l0
   repeat' first
   | (with_reducible exact ih0 _ _ _ _ _)
   | (with_reducible exact ih1 _ _ _)
   | (with_reducible exact ih2 _ _ _ _ _ _ _)
   | (with_reducible exact ih3 _ _ _ _ _ _ _)
   | (with_reducible exact dict_May.mono _ _)
   | (with_reducible exact LeO.refl _)
   | (with_reducible exact LeO.none _)
   | (with_reducible refine LeO.ite ?_ ?_)
   | (with_reducible refine LeO.bind ?_ (fun _ => ?_))
   | exact ih0 _ _ _ _ _
   | exact ih1 _ _ _
   | exact ih2 _ _ _ _ _ _ _
   | exact ih3 _ _ _ _ _ _ _
   | exact dict_May.mono _ _
   | exact LeO.none _
   | refine LeO.ite ?_ ?_
   | refine LeO.bind ?_ (fun _ => ?_)
  ·intro y0 y1 y2
   unfold dict_Or.l1
   repeat' first
   | (with_reducible exact ih0 _ _ _ _ _)
   | (with_reducible exact ih1 _ _ _)
   | (with_reducible exact ih2 _ _ _ _ _ _ _)
   | (with_reducible exact ih3 _ _ _ _ _ _ _)
   | (with_reducible exact dict_May.mono _ _)
   | (with_reducible exact LeO.refl _)
   | (with_reducible exact LeO.none _)
   | (with_reducible refine LeO.ite ?_ ?_)
   | (with_reducible refine LeO.bind ?_ (fun _ => ?_))
   | exact ih0 _ _ _ _ _
   | exact ih1 _ _ _
   | exact ih2 _ _ _ _ _ _ _
   | exact ih3 _ _ _ _ _ _ _
   | exact dict_May.mono _ _
   | exact LeO.none _
   | refine LeO.ite ?_ ?_
   | refine LeO.bind ?_ (fun _ => ?_)
  ·intro y0 y1 y2 y3 y4 y5 y6
   unfold dict_Or.l2
   repeat' first
   | (with_reducible exact ih0 _ _ _ _ _)
   | (with_reducible exact ih1 _ _ _)
   | (with_reducible exact ih2 _ _ _ _ _ _ _)
   | (with_reducible exact ih3 _ _ _ _ _ _ _)
   | (with_reducible exact dict_May.mono _ _)
   | (with_reducible exact LeO.refl _)
   | (with_reducible exact LeO.none _)
   | (with_reducible refine LeO.ite ?_ ?_)
   | (with_reducible refine LeO.bind ?_ (fun _ => ?_))
   | exact ih0 _ _ _ _ _
   | exact ih1 _ _ _
   | exact ih2 _ _ _ _ _ _ _
   | exact ih3 _ _ _ _ _ _ _
   | exact dict_May.mono _ _
   | exact LeO.none _
   | refine LeO.ite ?_ ?_
   | refine LeO.bind ?_ (fun _ => ?_)
  ·intro y0 y1 y2 y3 y4 y5 y6
   unfold dict_Or.l3
   repeat' first
   | (with_reducible exact ih0 _ _ _ _ _)
   | (with_reducible exact ih1 _ _ _)
   | (with_reducible exact ih2 _ _ _ _ _ _ _)
   | (with_reducible exact ih3 _ _ _ _ _ _ _)
   | (with_reducible exact dict_May.mono _ _)
   | (with_reducible exact LeO.refl _)
   | (with_reducible exact LeO.none _)
   | (with_reducible refine LeO.ite ?_ ?_)
   | (with_reducible refine LeO.bind ?_ (fun _ => ?_))
   | exact ih0 _ _ _ _ _
   | exact ih1 _ _ _
   | exact ih2 _ _ _ _ _ _ _
   | exact ih3 _ _ _ _ _ _ _
   | exact dict_May.mono _ _
   | exact LeO.none _
   | refine LeO.ite ?_ ?_
   | refine LeO.bind ?_ (fun _ => ?_)
theorem dict_Or.mono : ∀ a0 k, LeO (dict_Or.f k a0) (dict_Or.f (k + 1) a0) := by
 intro a0 k
 obtain ⟨ih0, ih1, ih2, ih3⟩ := dict_Or.mono_l k
 unfold dict_Or.f
 repeat' first
   | (with_reducible exact ih0 _ _ _ _ _)
   | (with_reducible exact ih1 _ _ _)
   | (with_reducible exact ih2 _ _ _ _ _ _ _)
   | (with_reducible exact ih3 _ _ _ _ _ _ _)
   | (with_reducible exact dict_May.mono _ _)
   | (with_reducible exact LeO.refl _)
   | (with_reducible exact LeO.none _)
   | (with_reducible refine LeO.ite ?_ ?_)
   | (with_reducible refine LeO.bind ?_ (fun _ => ?_))
   | exact ih0 _ _ _ _ _
   | exact ih1 _ _ _
   | exact ih2 _ _ _ _ _ _ _
   | exact ih3 _ _ _ _ _ _ _
   | exact dict_May.mono _ _
   | exact LeO.none _
   | refine LeO.ite ?_ ?_
   | refine LeO.bind ?_ (fun _ => ?_)
def sl_ : List Value → Nat → Value
  | [], _ => undef
  | v :: _, 0 => v
  | _ :: t, n + 1 => sl_ t n
theorem add_zero_ (g n : Nat) : (⟨g, 0, none⟩ : Addr).add n = ⟨g, n, none⟩ := by
  simp [Addr.add]
  omega
theorem frame_ex_ {R : (Nat → Value) → Prop} {F : (Nat → Value) → Act} {t : List Value} {d : List Deferred} (h1 : R (sl_ t)) (h2 : Act.mk t.toArray d = F (sl_ t)) : ∃ u, R u ∧ Act.mk t.toArray d = F u := ⟨_, h1, h2⟩
open Classical in
theorem scope_ghost_ {P : Program} {a : Act} {w : World} {Q : Exit → Act → World → Prop} {c rest : Code} (l : Nat) (I : Nat → Act → World → Prop) (hf : findLabel c l = some (Code.skip.seq rest))
    (pass : ∀ n a w, I n a w → ∀ (J : Nat → Act → World → Prop) (K : Act → World → Prop), (∀ k a' w', I k a' w' → J k a' w') → (∀ a' w', Handed J n a' w' → K a' w') → rest.wp P (Exit.jump l K Q) a w)
    (first : ∀ K : Act → World → Prop, (∀ n a w, I n a w → rest.wp P (Exit.jump l K Q) a w) → c.wp P (Exit.jump l K Q) a w) : (Code.scope c).wp P Q a w := by
  have key : ∀ a w, (∃ n, I n a w) → rest.wp P (Exit.jump l (fun a' w' => (∃ n, I n a' w') ∧ leastOf (fun n => I n a' w') < leastOf (fun n => I n a w)) Q) a w := by
    intro a w hI
    refine pass _ a w (leastOf_spec hI).1 (fun n a w => I n a w) _ (fun _ _ _ h => h) (fun a' w' h => ?_)
    obtain ⟨n', hlt, hI'⟩ := h
    exact ⟨⟨n', hI'⟩, Nat.lt_of_le_of_lt ((leastOf_spec (p := fun n => I n a' w') ⟨n', hI'⟩).2 n' hI') hlt⟩
  refine wp_scope_jumps l (fun a w => ∃ n, I n a w) (fun a w => leastOf (fun n => I n a w)) hf (first _ (fun n a w hI => wp_mono (key a w ⟨n, hI⟩) ?_)) (fun a w hI => wp_seq (wp_skip (key a w hI)))
  intro e a' w' h
  cases e with
  | goto l' => exact ⟨h.1, h.2.1⟩
  | normal => exact h
  | exit id => exact h
  | ret => exact h
  | panic ch => exact h
  | outgrown => exact h
set_option maxHeartbeats 8000000 in
set_option maxRecDepth 100000 in
theorem dict_Or.calls (k : Nat) (A0 : Option Addr) (c0 : Nat) (l0 : List (List ByteArray)) (r : List ByteArray) (w : World) (hr0 : Kd.C (Kd.slice 9 Kd.string) w A0 l0.length l0) (hc0 : l0.length ≤ c0) (h : dict_Or.f k l0 = some r) :
  Calls Try.prog 19 #[.slice A0 l0.length c0] w fun e w' => ∃ v0_ : Value, e = .returned (v0_) ∧ Kd.R Kd.string 9 w' w.heap.size (fun _ => True) v0_ r ∧ Below w.heap.size w w' := by
 have HR0 := Aside0.mk hr0
 have HC0 := Aside0.mk hc0
 clear hr0 hc0
 have HB := Aside0.mk (Below.refl w.heap.size w)
 have H : (if 0 ≤ (l0.length : Int) then (if ((l0.length : Int) : Int).toNat ≤ 35184372088832 then (dict_Or.l0 k l0 (List.replicate ((l0.length : Int) : Int).toNat 0) l0 (l0.length : Int) 0) else (none)) else (none)) = some r := h
 clear h
 by_cases c2 : 0 ≤ (l0.length : Int)
 ·rw [if_pos c2] at H
  have c2b0 := eq_true c2
  have c2b1 : decide (0 ≤ (l0.length : Int)) = true := decide_eq_true c2
  clear c2
  by_cases c3 : ((l0.length : Int) : Int).toNat ≤ 35184372088832
  ·rw [if_pos c3] at H
   have c3b0 := eq_true c3
   have c3b1 : decide (((l0.length : Int) : Int).toNat ≤ 35184372088832) = true := decide_eq_true c3
   clear c3
   obtain ⟨y119, hy119⟩ : ∃ y_ : List Int, y_ = (List.replicate ((l0.length : Int) : Int).toNat 0) := ⟨_, rfl⟩
   replace H : (dict_Or.l0 k l0 y119 l0 (l0.length : Int) 0) = some r := by first | (rw [hy119]; with_reducible exact H) | (have H2_ := (Option.bind_some _ _).symm.trans H; rw [hy119]; with_reducible exact H2_) | (have H2_ := (Option.bind_some _ _).symm.trans H; with_reducible exact H2_) | with_reducible exact H | (rw [hy119]; exact H) | exact H
   have Ny119 := Aside0.mk hy119
   clear hy119
   have H' := Aside0.mk H
   clear H
   go_enter Try.func19, Try.ntmps19
   go_wp2
   refine scope_ghost_ 0 (fun kq a' w' => ∃ u : Nat → Value, (∃ (x3_2 : List ByteArray) (x4_2 : List Int), Aside0 (dict_Or.l1 kq l0 x3_2 x4_2 = some r) ∧ Aside0 (kq ≤ k) ∧ Aside0 (Kd.R Kd.string 9 w' w.heap.size (fun _ => True) (u 3) x3_2) ∧ Aside0 (Kd.R (Kd.int .i64) 3 w' w.heap.size (fun _ => True) (u 4) x4_2) ∧ Aside0 (Below w.heap.size w w')) ∧ a' = { tmps := #[.slice A0 l0.length c0, u 1, u 2, u 3, u 4, u 5, u 6, u 7, u 8, u 9, u 10, u 11, u 12, u 13, u 14, u 15, u 16, u 17, u 18, u 19, u 20, u 21, u 22, u 23, u 24, u 25, u 26, u 27, u 28, u 29, u 30, u 31, u 32, u 33, u 34, u 35, u 36, u 37, u 38, u 39, u 40, u 41, u 42, u 43, u 44, u 45, u 46, u 47, u 48, u 49, u 50, u 51, u 52, u 53, u 54, u 55, u 56, u 57, u 58, u 59, u 60, u 61, u 62, u 63, u 64, u 65, u 66, u 67, u 68, u 69, u 70, u 71, u 72, u 73, u 74, u 75, u 76, u 77, u 78, u 79, u 80, u 81, u 82, u 83, u 84, u 85, u 86, u 87, u 88, u 89, u 90, u 91, u 92, u 93, u 94, u 95, u 96, u 97, u 98, u 99, u 100, u 101, u 102, u 103, u 104, u 105, u 106, u 107, u 108, u 109, u 110, u 111, u 112, u 113, u 114, u 115, u 116, u 117], defers := [] }) (by rfl) ?pass ?first
   case first =>
    intro K_ hpass0_
    have hpass_ := Aside0.mk hpass0_
    clear hpass0_
    go_wp2_with (first | ((with_reducible refine gate_dst (N := 15) rfl ?_); refine Kd.R_make (Kd.int .i64) _ 3 rfl (N := 15) rfl 45 _ _ rfl (l0.length : Int) rfl rfl Try.underlying45 (.int .i64 0) 8 info3 rfl (by decide) (by omega) 0 (ok := fun _ => True) (okp := fun _ => True) rfl (fun _ hk => hk) trivial (of_decide_eq_true (by first | (with_reducible assumption) | assumption)) (Nat.le_trans (Nat.mul_le_mul_right _ (of_decide_eq_true (by first | (with_reducible assumption) | assumption) : (l0.length : Int).toNat ≤ 35184372088832)) (by omega)) (Below.refl _ _) (Nat.le_refl _) ?_; intro v120 w4 ho5 hb hg_ hnew_; clear hg_ hnew_; (first | rw [← Ny119.out] at ho5 | (simp only [Int.reduceToNat] at ho5; rw [← Ny119.out] at ho5)); have n0_ := Aside0.mk (Kd.R_lower ho5 (below_size (by repeat (first | (with_reducible first | exact HB.out | apply below_alloc | apply pw_below_drewN | apply below_drew1) | exact HB.out)))); have n1_ := Aside0.mk (below_step (by repeat (first | (with_reducible first | exact HB.out | apply below_alloc | apply pw_below_drewN | apply below_drew1) | exact HB.out)) hb); clear HB; have HO121 := n0_; have HB := n1_; clear n0_ n1_; clear hb ho5))
    repeat (go_quiet (first | ((with_reducible refine gate_dst (N := 15) rfl ?_); refine Kd.R_make (Kd.int .i64) _ 3 rfl (N := 15) rfl 45 _ _ rfl (l0.length : Int) rfl rfl Try.underlying45 (.int .i64 0) 8 info3 rfl (by decide) (by omega) 0 (ok := fun _ => True) (okp := fun _ => True) rfl (fun _ hk => hk) trivial (of_decide_eq_true (by first | (with_reducible assumption) | assumption)) (Nat.le_trans (Nat.mul_le_mul_right _ (of_decide_eq_true (by first | (with_reducible assumption) | assumption) : (l0.length : Int).toNat ≤ 35184372088832)) (by omega)) (Below.refl _ _) (Nat.le_refl _) ?_; intro v120 w4 ho5 hb hg_ hnew_; clear hg_ hnew_; (first | rw [← Ny119.out] at ho5 | (simp only [Int.reduceToNat] at ho5; rw [← Ny119.out] at ho5)); have n0_ := Aside0.mk (Kd.R_lower ho5 (below_size (by repeat (first | (with_reducible first | exact HB.out | apply below_alloc | apply pw_below_drewN | apply below_drew1) | exact HB.out)))); have n1_ := Aside0.mk (below_step (by repeat (first | (with_reducible first | exact HB.out | apply below_alloc | apply pw_below_drewN | apply below_drew1) | exact HB.out)) hb); clear HB; have HO121 := n0_; have HB := n1_; clear n0_ n1_; clear hb ho5)); try go_wp2_with (first | ((with_reducible refine gate_dst (N := 15) rfl ?_); refine Kd.R_make (Kd.int .i64) _ 3 rfl (N := 15) rfl 45 _ _ rfl (l0.length : Int) rfl rfl Try.underlying45 (.int .i64 0) 8 info3 rfl (by decide) (by omega) 0 (ok := fun _ => True) (okp := fun _ => True) rfl (fun _ hk => hk) trivial (of_decide_eq_true (by first | (with_reducible assumption) | assumption)) (Nat.le_trans (Nat.mul_le_mul_right _ (of_decide_eq_true (by first | (with_reducible assumption) | assumption) : (l0.length : Int).toNat ≤ 35184372088832)) (by omega)) (Below.refl _ _) (Nat.le_refl _) ?_; intro v120 w4 ho5 hb hg_ hnew_; clear hg_ hnew_; (first | rw [← Ny119.out] at ho5 | (simp only [Int.reduceToNat] at ho5; rw [← Ny119.out] at ho5)); have n0_ := Aside0.mk (Kd.R_lower ho5 (below_size (by repeat (first | (with_reducible first | exact HB.out | apply below_alloc | apply pw_below_drewN | apply below_drew1) | exact HB.out)))); have n1_ := Aside0.mk (below_step (by repeat (first | (with_reducible first | exact HB.out | apply below_alloc | apply pw_below_drewN | apply below_drew1) | exact HB.out)) hb); clear HB; have HO121 := n0_; have HB := n1_; clear n0_ n1_; clear hb ho5)))
    go_loopg [18] k (fun kq v18 w' => ∃ (x18_1 : Int), v18 = .int .i64 x18_1 ∧ Aside0 (dict_Or.l0 kq l0 y119 l0 (l0.length : Int) x18_1 = some r) ∧ Aside0 (kq ≤ k) ∧ Aside0 (Kd.R (Kd.int .i64) 3 w' w.heap.size (fun _ => True) v120 y119) ∧ Aside0 (Below w.heap.size w w'))
    case atStart => exact ⟨(0), (by first | rfl | (simp; done) | (simp [*]; done)), H', ⟨Nat.le_refl _⟩, ⟨by (with_reducible repeat (first | apply Kd.R_alloc | apply Kd.R_drewN | apply Kd.R_drew)); exact HO121.out⟩, ⟨by repeat (first | (with_reducible first | exact HB.out | apply below_alloc | apply pw_below_drewN | apply below_drew1) | exact HB.out)⟩⟩
    case round =>
     clear H'
     try clear c1
     try clear c2
     try clear c2b0
     try clear c2b1
     try clear p2
     try clear c3
     try clear c3b0
     try clear c3b1
     obtain ⟨x18_1, rfl, HA, HK1, HO_4, HB⟩ := hrel
     cases gk with
     | zero => exact absurd HA.out (by simp [dict_Or.l0])
     | succ k1 =>
      have H := HA.out
      clear HA
      simp only [dict_Or.l0] at H
      by_cases c6 : x18_1 < (l0.length : Int)
      ·rw [if_pos c6] at H
       have c6b0 : decide (x18_1 < (l0.length : Int)) = true := decide_eq_true c6
       clear c6
       by_cases c7 : 0 ≤ x18_1
       ·rw [if_pos c7] at H
        have c7b0 : decide (0 ≤ x18_1) = true := decide_eq_true c7
        clear c7
        by_cases c8 : x18_1 < (l0.length : Int)
        ·rw [if_pos c8] at H
         have c8b0 : decide (x18_1 < (l0.length : Int)) = true := decide_eq_true c8
         clear c8
         replace H := Option.bind_eq_some_iff.mp H
         obtain ⟨t123, A90, H⟩ := H
         replace H : (if t123 = true then (dict_Or.l0 k1 l0 y119 l0 (l0.length : Int) (wrap64 (x18_1 + 1))) else (some ([] : List ByteArray))) = some r := H
         have A9 := Aside0.mk A90
         clear A90
         by_cases c10 : t123 = true
         ·subst c10
          have H1 : (dict_Or.l0 k1 l0 y119 l0 (l0.length : Int) (wrap64 (x18_1 + 1))) = some r := by rw [if_pos rfl] at H; exact H
          clear H
          have H := H1
          clear H1
          have H' := Aside0.mk H
          clear H
          have p122 : 0 ≤ (x18_1 : Int) := of_decide_eq_true (by first | (with_reducible assumption) | assumption)
          have q122 : x18_1 < (l0.length : Int) := of_decide_eq_true (by first | (with_reducible assumption) | assumption)
          obtain ⟨ad122, A122_0, c122_0, e122, hx122_0, hl122_0, hi122_0⟩ := at_L1 HR0.out x18_1 p122 q122
          cases e122
          replace hx122_0 := (HB.out.cell (World.block_lt_of_cell? w _ hx122_0)).trans hx122_0
          have HR122_0 := Aside0.mk hi122_0
          have HC122_0 := Aside0.mk hl122_0
          clear hi122_0 hl122_0
          replace p122 := eq_true p122
          replace q122 := eq_true q122
          go_wp2_with (first | (go_at_call 12; (with_reducible refine (dict_May.calls k1 _ _ (rd_L1 l0 x18_1) true _ ?side1 ?side2 A9.out).mono ?_); (case side1 => repeat (first | exact (Kd.C_below HR122_0.out HB.out) | (with_reducible refine Kd.C_alloc ?_ _) | (with_reducible refine Kd.C_drewN ?_ _) | (with_reducible refine Kd.C_drew ?_))); (case side2 => exact HC122_0.out); rintro e w' ⟨rfl, ⟨nd, rfl⟩⟩; (try first | exact ⟨rfl, _, World.drewN_drewN _ _ _⟩ | exact ⟨rfl, _, Eq.trans (World.drewN_drewN _ _ _) (congrArg (World.drewN _) (Nat.add_assoc _ _ _))⟩)))
          repeat (go_quiet (first | (go_at_call 12; (with_reducible refine (dict_May.calls k1 _ _ (rd_L1 l0 x18_1) true _ ?side1 ?side2 A9.out).mono ?_); (case side1 => repeat (first | exact (Kd.C_below HR122_0.out HB.out) | (with_reducible refine Kd.C_alloc ?_ _) | (with_reducible refine Kd.C_drewN ?_ _) | (with_reducible refine Kd.C_drew ?_))); (case side2 => exact HC122_0.out); rintro e w' ⟨rfl, ⟨nd, rfl⟩⟩; (try first | exact ⟨rfl, _, World.drewN_drewN _ _ _⟩ | exact ⟨rfl, _, Eq.trans (World.drewN_drewN _ _ _) (congrArg (World.drewN _) (Nat.add_assoc _ _ _))⟩))); try go_wp2_with (first | (go_at_call 12; (with_reducible refine (dict_May.calls k1 _ _ (rd_L1 l0 x18_1) true _ ?side1 ?side2 A9.out).mono ?_); (case side1 => repeat (first | exact (Kd.C_below HR122_0.out HB.out) | (with_reducible refine Kd.C_alloc ?_ _) | (with_reducible refine Kd.C_drewN ?_ _) | (with_reducible refine Kd.C_drew ?_))); (case side2 => exact HC122_0.out); rintro e w' ⟨rfl, ⟨nd, rfl⟩⟩; (try first | exact ⟨rfl, _, World.drewN_drewN _ _ _⟩ | exact ⟨rfl, _, Eq.trans (World.drewN_drewN _ _ _) (congrArg (World.drewN _) (Nat.add_assoc _ _ _))⟩))))
          go_roundg k1
          case measure => have := HK1.out; omega
          case rel => exact ⟨(wrap64 (x18_1 + 1)), (by first | rfl | (simp; done) | (simp [*]; done)), H', ⟨by have := HK1.out; omega⟩, ⟨by (with_reducible repeat (first | apply Kd.R_alloc | apply Kd.R_drewN | apply Kd.R_drew)); exact HO_4.out⟩, ⟨by repeat (first | (with_reducible first | exact HB.out | apply below_alloc | apply pw_below_drewN | apply below_drew1) | exact HB.out)⟩⟩
         ·replace c10 := Bool.eq_false_iff.mpr c10
          subst c10
          have H1 : (some ([] : List ByteArray)) = some r := by rw [if_neg (show ¬ (false = true) by decide)] at H; exact H
          clear H
          have H := H1
          clear H1
          obtain rfl := Option.some.inj H
          have p122 : 0 ≤ (x18_1 : Int) := of_decide_eq_true (by first | (with_reducible assumption) | assumption)
          have q122 : x18_1 < (l0.length : Int) := of_decide_eq_true (by first | (with_reducible assumption) | assumption)
          obtain ⟨ad122, A122_0, c122_0, e122, hx122_0, hl122_0, hi122_0⟩ := at_L1 HR0.out x18_1 p122 q122
          cases e122
          replace hx122_0 := (HB.out.cell (World.block_lt_of_cell? w _ hx122_0)).trans hx122_0
          have HR122_0 := Aside0.mk hi122_0
          have HC122_0 := Aside0.mk hl122_0
          clear hi122_0 hl122_0
          replace p122 := eq_true p122
          replace q122 := eq_true q122
          go_wp2_with (first | (go_at_call 12; (with_reducible refine (dict_May.calls k1 _ _ (rd_L1 l0 x18_1) false _ ?side1 ?side2 A9.out).mono ?_); (case side1 => repeat (first | exact (Kd.C_below HR122_0.out HB.out) | (with_reducible refine Kd.C_alloc ?_ _) | (with_reducible refine Kd.C_drewN ?_ _) | (with_reducible refine Kd.C_drew ?_))); (case side2 => exact HC122_0.out); rintro e w' ⟨rfl, ⟨nd, rfl⟩⟩; (try first | exact ⟨rfl, _, World.drewN_drewN _ _ _⟩ | exact ⟨rfl, _, Eq.trans (World.drewN_drewN _ _ _) (congrArg (World.drewN _) (Nat.add_assoc _ _ _))⟩)))
          repeat (go_quiet (first | (go_at_call 12; (with_reducible refine (dict_May.calls k1 _ _ (rd_L1 l0 x18_1) false _ ?side1 ?side2 A9.out).mono ?_); (case side1 => repeat (first | exact (Kd.C_below HR122_0.out HB.out) | (with_reducible refine Kd.C_alloc ?_ _) | (with_reducible refine Kd.C_drewN ?_ _) | (with_reducible refine Kd.C_drew ?_))); (case side2 => exact HC122_0.out); rintro e w' ⟨rfl, ⟨nd, rfl⟩⟩; (try first | exact ⟨rfl, _, World.drewN_drewN _ _ _⟩ | exact ⟨rfl, _, Eq.trans (World.drewN_drewN _ _ _) (congrArg (World.drewN _) (Nat.add_assoc _ _ _))⟩))); try go_wp2_with (first | (go_at_call 12; (with_reducible refine (dict_May.calls k1 _ _ (rd_L1 l0 x18_1) false _ ?side1 ?side2 A9.out).mono ?_); (case side1 => repeat (first | exact (Kd.C_below HR122_0.out HB.out) | (with_reducible refine Kd.C_alloc ?_ _) | (with_reducible refine Kd.C_drewN ?_ _) | (with_reducible refine Kd.C_drew ?_))); (case side2 => exact HC122_0.out); rintro e w' ⟨rfl, ⟨nd, rfl⟩⟩; (try first | exact ⟨rfl, _, World.drewN_drewN _ _ _⟩ | exact ⟨rfl, _, Eq.trans (World.drewN_drewN _ _ _) (congrArg (World.drewN _) (Nat.add_assoc _ _ _))⟩))))
          (try simp only [Exit.inBlock, Exit.then, Exit.jump])
          go_ret
          exact ⟨_, by first | rfl | (simp [errW_none, errW_some] <;> rfl) | (simp [*, errW_none, errW_some] <;> rfl), by first | exact Kd.R_nil _ _ _ _ _ | exact Kd.N_nil _ _ _ _ _ | exact Kd.V_nil _ _ _ _ _ | exact Kd.Q_nil _ _ _ _ _ | exact Kd.S_nil _ _ _ _ _, by repeat (first | (with_reducible first | exact HB.out | apply below_alloc | apply pw_below_drewN | apply below_drew1) | exact HB.out)⟩
        ·rw [if_neg c8] at H
         exact absurd H (by simp)
       ·rw [if_neg c7] at H
        exact absurd H (by simp)
      ·rw [if_neg c6] at H
       have c6b0 : decide (x18_1 < (l0.length : Int)) = false := decide_eq_false c6
       clear c6
       have H' := Aside0.mk H
       clear H
       go_wp2
       repeat (go_quiet (fail); try go_wp2)
       go_step3
       go_step
       go_step
       refine hpass_.out k1 _ _ ?_
       refine frame_ex_ ?_ rfl
       simp only [sl_]
       exact ⟨(([] : List ByteArray)), (y119), H', ⟨by have := HK1.out; omega⟩, ⟨by first | exact Kd.R_nil _ _ _ _ _ | exact Kd.N_nil _ _ _ _ _ | exact Kd.V_nil _ _ _ _ _ | exact Kd.Q_nil _ _ _ _ _ | exact Kd.S_nil _ _ _ _ _⟩, ⟨by (with_reducible repeat (first | apply Kd.R_alloc | apply Kd.R_drewN | apply Kd.R_drew)); exact HO_4.out⟩, ⟨by repeat (first | (with_reducible first | exact HB.out | apply below_alloc | apply pw_below_drewN | apply below_drew1) | exact HB.out)⟩⟩
   case pass =>
    intro gk a_ wr hinv J_ K_ hJ0_ hK0_
    have hJ_ := Aside0.mk hJ0_
    have hK_ := Aside0.mk hK0_
    clear hJ0_ hK0_
    obtain ⟨u, hrel, rfl⟩ := hinv
    generalize u 3 = u3 at hrel ⊢
    generalize u 4 = u4 at hrel ⊢
    have HK1 := Aside0.mk (Nat.le_refl k)
    clear H'
    try clear c1
    try clear p1
    try clear q1
    try clear hx1
    try clear c2
    try clear c2b0
    try clear c2b1
    try clear p2
    try clear c3
    try clear c3b0
    try clear c3b1
    try clear c6
    try clear c6b0
    try clear p6
    try clear c7
    try clear c7b0
    try clear c8
    try clear c8b0
    try clear c10
    try clear hx122_0
    try clear p122
    try clear p2
    try clear q122
    obtain ⟨x3_2, x4_2, HA, HK2, HO_3, HO_4, HB⟩ := hrel
    cases gk with
    | zero => exact absurd HA.out (by simp [dict_Or.l1])
    | succ k2 =>
     have H := HA.out
     clear HA
     simp only [dict_Or.l1] at H
     have H' := Aside0.mk H
     clear H
     go_wp2
     repeat (go_quiet (fail); try go_wp2)
     go_loopg [7, 28] k2 (fun kq v7 v28 w' => ∃ (x7_3 : Int) (x28_3 : Int), v7 = .int .i64 x7_3 ∧ v28 = .int .i64 x28_3 ∧ Aside0 (dict_Or.l2 kq l0 x3_2 x4_2 x7_3 l0 (l0.length : Int) x28_3 = some r) ∧ Aside0 (kq ≤ k2) ∧ Aside0 (Kd.R Kd.string 9 w' w.heap.size (fun _ => True) u3 x3_2) ∧ Aside0 (Kd.R (Kd.int .i64) 3 w' w.heap.size (fun _ => True) u4 x4_2) ∧ Aside0 (Below w.heap.size w w'))
     case atStart => exact ⟨((-1)), (0), (by first | rfl | (simp; done) | (simp [*]; done)), (by first | rfl | (simp; done) | (simp [*]; done)), H', ⟨Nat.le_refl _⟩, ⟨by (with_reducible repeat (first | apply Kd.R_alloc | apply Kd.R_drewN | apply Kd.R_drew)); exact HO_3.out⟩, ⟨by (with_reducible repeat (first | apply Kd.R_alloc | apply Kd.R_drewN | apply Kd.R_drew)); exact HO_4.out⟩, ⟨by repeat (first | (with_reducible first | exact HB.out | apply below_alloc | apply pw_below_drewN | apply below_drew1) | exact HB.out)⟩⟩
     case round =>
      clear H'
      try clear c1
      try clear p1
      try clear q1
      try clear hx1
      try clear c2
      try clear c2b0
      try clear c2b1
      try clear p2
      try clear c3
      try clear c3b0
      try clear c3b1
      try clear c6
      try clear c6b0
      try clear p6
      try clear c7
      try clear c7b0
      try clear c8
      try clear c8b0
      try clear c10
      try clear hx122_0
      try clear p1
      try clear p122
      try clear p2
      try clear p6
      try clear q1
      try clear q122
      obtain ⟨x7_3, x28_3, rfl, rfl, HA, HK3, HO_3, HO_4, HB⟩ := hrel
      cases gk with
      | zero => exact absurd HA.out (by simp [dict_Or.l2])
      | succ k3 =>
       have H := HA.out
       clear HA
       simp only [dict_Or.l2] at H
       by_cases c11 : x28_3 < (l0.length : Int)
       ·rw [if_pos c11] at H
        have c11b0 : decide (x28_3 < (l0.length : Int)) = true := decide_eq_true c11
        clear c11
        by_cases c12 : 0 ≤ x28_3
        ·rw [if_pos c12] at H
         have c12b0 : decide (0 ≤ x28_3) = true := decide_eq_true c12
         clear c12
         by_cases c13 : x28_3 < (l0.length : Int)
         ·rw [if_pos c13] at H
          have c13b0 : decide (x28_3 < (l0.length : Int)) = true := decide_eq_true c13
          clear c13
          by_cases c14 : x28_3 < (x4_2.length : Int)
          ·rw [if_pos c14] at H
           have c14b0 : decide (x28_3 < (x4_2.length : Int)) = true := decide_eq_true c14
           clear c14
           by_cases c15 : (rd x4_2 x28_3) < ((rd_L1 l0 x28_3).length : Int)
           ·rw [if_pos c15] at H
            have c15b0 : decide ((rd x4_2 x28_3) < ((rd_L1 l0 x28_3).length : Int)) = true := decide_eq_true c15
            clear c15
            by_cases c16 : x7_3 = (-1)
            ·rw [if_pos c16] at H
             have c16b0 : (x7_3 == (-1)) = true := beq_iff_eq.mpr c16
             have c16b1 : (x7_3 != (-1)) = false := bne_eq_false_iff_eq.mpr c16
             clear c16
             have H' := Aside0.mk H
             clear H
             have p124 : 0 ≤ (x28_3 : Int) := of_decide_eq_true (by first | (with_reducible assumption) | assumption)
             have q124 : x28_3 < (l0.length : Int) := of_decide_eq_true (by first | (with_reducible assumption) | assumption)
             obtain ⟨ad124, A124_0, c124_0, e124, hx124_0, hl124_0, hi124_0⟩ := at_L1 HR0.out x28_3 p124 q124
             cases e124
             replace hx124_0 := (HB.out.cell (World.block_lt_of_cell? w _ hx124_0)).trans hx124_0
             have HR124_0 := Aside0.mk hi124_0
             have HC124_0 := Aside0.mk hl124_0
             clear hi124_0 hl124_0
             replace p124 := eq_true p124
             replace q124 := eq_true q124
             obtain ⟨Ao17, co17, eo17⟩ := Kd.R_slice HO_4.out
             subst eo17
             have p125 : 0 ≤ (x28_3 : Int) := of_decide_eq_true (by first | (with_reducible assumption) | assumption)
             have q125 : x28_3 < (x4_2.length : Int) := of_decide_eq_true (by first | (with_reducible assumption) | assumption)
             obtain ⟨ad125, e125, hx125_0⟩ := Kd.at_int (Kd.R_reads' HO_4.out).2.2 x28_3 p125 q125
             cases e125
             replace p125 := eq_true p125
             replace q125 := eq_true q125
             go_wp2
             repeat (go_quiet (fail); try go_wp2)
             (try simp only [add_zero_] at *)
             go_roundg k3
             case measure => have := HK1.out; have := HK2.out; have := HK3.out; omega
             case rel => exact ⟨(x28_3), (wrap64 (x28_3 + 1)), (by first | rfl | (simp; done) | (simp [*]; done)), (by first | rfl | (simp; done) | (simp [*]; done)), H', ⟨by have := HK1.out; have := HK2.out; have := HK3.out; omega⟩, ⟨by (with_reducible repeat (first | apply Kd.R_alloc | apply Kd.R_drewN | apply Kd.R_drew)); exact HO_3.out⟩, ⟨by (with_reducible repeat (first | apply Kd.R_alloc | apply Kd.R_drewN | apply Kd.R_drew)); exact HO_4.out⟩, ⟨by repeat (first | (with_reducible first | exact HB.out | apply below_alloc | apply pw_below_drewN | apply below_drew1) | exact HB.out)⟩⟩
            ·rw [if_neg c16] at H
             have c16b0 : (x7_3 == (-1)) = false := beq_eq_false_iff_ne.mpr c16
             have c16b1 : (x7_3 != (-1)) = true := bne_iff_ne.mpr c16
             by_cases c18 : 0 ≤ (rd x4_2 x28_3)
             ·rw [if_pos c18] at H
              have c18b0 : decide (0 ≤ (rd x4_2 x28_3)) = true := decide_eq_true c18
              clear c18
              by_cases c19 : 0 ≤ x7_3
              ·rw [if_pos c19] at H
               have c19b0 : decide (0 ≤ x7_3) = true := decide_eq_true c19
               clear c19
               by_cases c20 : x7_3 < (l0.length : Int)
               ·rw [if_pos c20] at H
                have c20b0 : decide (x7_3 < (l0.length : Int)) = true := decide_eq_true c20
                clear c20
                by_cases c21 : x7_3 < (x4_2.length : Int)
                ·rw [if_pos c21] at H
                 have c21b0 : decide (x7_3 < (x4_2.length : Int)) = true := decide_eq_true c21
                 clear c21
                 by_cases c22 : 0 ≤ (rd x4_2 x7_3)
                 ·rw [if_pos c22] at H
                  have c22b0 : decide (0 ≤ (rd x4_2 x7_3)) = true := decide_eq_true c22
                  clear c22
                  by_cases c23 : (rd x4_2 x7_3) < ((rd_L1 l0 x7_3).length : Int)
                  ·rw [if_pos c23] at H
                   have c23b0 : decide ((rd x4_2 x7_3) < ((rd_L1 l0 x7_3).length : Int)) = true := decide_eq_true c23
                   clear c23
                   by_cases c24 : (Op.bytesLess ((rdOf ByteArray.empty (rd_L1 l0 x28_3) (rd x4_2 x28_3)).toList) ((rdOf ByteArray.empty (rd_L1 l0 x7_3) (rd x4_2 x7_3)).toList)) = true
                   ·rw [if_pos c24] at H
                    have c24b0 : (Op.bytesLess ((rdOf ByteArray.empty (rd_L1 l0 x28_3) (rd x4_2 x28_3)).toList) ((rdOf ByteArray.empty (rd_L1 l0 x7_3) (rd x4_2 x7_3)).toList)) = true := c24
                    clear c24
                    have H' := Aside0.mk H
                    clear H
                    have p124 : 0 ≤ (x28_3 : Int) := of_decide_eq_true (by first | (with_reducible assumption) | assumption)
                    have q124 : x28_3 < (l0.length : Int) := of_decide_eq_true (by first | (with_reducible assumption) | assumption)
                    obtain ⟨ad124, A124_0, c124_0, e124, hx124_0, hl124_0, hi124_0⟩ := at_L1 HR0.out x28_3 p124 q124
                    cases e124
                    replace hx124_0 := (HB.out.cell (World.block_lt_of_cell? w _ hx124_0)).trans hx124_0
                    have HR124_0 := Aside0.mk hi124_0
                    have HC124_0 := Aside0.mk hl124_0
                    clear hi124_0 hl124_0
                    replace p124 := eq_true p124
                    replace q124 := eq_true q124
                    obtain ⟨Ao25, co25, eo25⟩ := Kd.R_slice HO_4.out
                    subst eo25
                    have p125 : 0 ≤ (x28_3 : Int) := of_decide_eq_true (by first | (with_reducible assumption) | assumption)
                    have q125 : x28_3 < (x4_2.length : Int) := of_decide_eq_true (by first | (with_reducible assumption) | assumption)
                    obtain ⟨ad125, e125, hx125_0⟩ := Kd.at_int (Kd.R_reads' HO_4.out).2.2 x28_3 p125 q125
                    cases e125
                    replace p125 := eq_true p125
                    replace q125 := eq_true q125
                    have p126 : 0 ≤ (x28_3 : Int) := of_decide_eq_true (by first | (with_reducible assumption) | assumption)
                    have q126 : x28_3 < (x4_2.length : Int) := of_decide_eq_true (by first | (with_reducible assumption) | assumption)
                    obtain ⟨ad126, e126, hx126_0⟩ := Kd.at_int (Kd.R_reads' HO_4.out).2.2 x28_3 p126 q126
                    obtain rfl : ad125 = ad126 := (by injection e126)
                    replace p126 := eq_true p126
                    replace q126 := eq_true q126
                    have p127 : 0 ≤ ((rd x4_2 x28_3) : Int) := of_decide_eq_true (by first | (with_reducible assumption) | assumption)
                    have q127 : (rd x4_2 x28_3) < ((rd_L1 l0 x28_3).length : Int) := of_decide_eq_true (by first | (with_reducible assumption) | assumption)
                    obtain ⟨ad127, e127, hx127_0⟩ := Kd.at_string HR124_0.out (rd x4_2 x28_3) p127 q127
                    cases e127
                    replace hx127_0 := (HB.out.cell (World.block_lt_of_cell? w _ hx127_0)).trans hx127_0
                    replace p127 := eq_true p127
                    replace q127 := eq_true q127
                    have p128 : 0 ≤ (x7_3 : Int) := of_decide_eq_true (by first | (with_reducible assumption) | assumption)
                    have q128 : x7_3 < (l0.length : Int) := of_decide_eq_true (by first | (with_reducible assumption) | assumption)
                    obtain ⟨ad128, A128_0, c128_0, e128, hx128_0, hl128_0, hi128_0⟩ := at_L1 HR0.out x7_3 p128 q128
                    obtain rfl : ad124 = ad128 := (by injection e128)
                    replace hx128_0 := (HB.out.cell (World.block_lt_of_cell? w _ hx128_0)).trans hx128_0
                    have HR128_0 := Aside0.mk hi128_0
                    have HC128_0 := Aside0.mk hl128_0
                    clear hi128_0 hl128_0
                    replace p128 := eq_true p128
                    replace q128 := eq_true q128
                    have p129 : 0 ≤ (x7_3 : Int) := of_decide_eq_true (by first | (with_reducible assumption) | assumption)
                    have q129 : x7_3 < (x4_2.length : Int) := of_decide_eq_true (by first | (with_reducible assumption) | assumption)
                    obtain ⟨ad129, e129, hx129_0⟩ := Kd.at_int (Kd.R_reads' HO_4.out).2.2 x7_3 p129 q129
                    obtain rfl : ad125 = ad129 := (by injection e129)
                    replace p129 := eq_true p129
                    replace q129 := eq_true q129
                    have p130 : 0 ≤ ((rd x4_2 x7_3) : Int) := of_decide_eq_true (by first | (with_reducible assumption) | assumption)
                    have q130 : (rd x4_2 x7_3) < ((rd_L1 l0 x7_3).length : Int) := of_decide_eq_true (by first | (with_reducible assumption) | assumption)
                    obtain ⟨ad130, e130, hx130_0⟩ := Kd.at_string HR128_0.out (rd x4_2 x7_3) p130 q130
                    cases e130
                    replace hx130_0 := (HB.out.cell (World.block_lt_of_cell? w _ hx130_0)).trans hx130_0
                    replace p130 := eq_true p130
                    replace q130 := eq_true q130
                    go_wp2
                    repeat (go_quiet (fail); try go_wp2)
                    (try simp only [add_zero_] at *)
                    go_roundg k3
                    case measure => have := HK1.out; have := HK2.out; have := HK3.out; omega
                    case rel => exact ⟨(x28_3), (wrap64 (x28_3 + 1)), (by first | rfl | (simp; done) | (simp [*]; done)), (by first | rfl | (simp; done) | (simp [*]; done)), H', ⟨by have := HK1.out; have := HK2.out; have := HK3.out; omega⟩, ⟨by (with_reducible repeat (first | apply Kd.R_alloc | apply Kd.R_drewN | apply Kd.R_drew)); exact HO_3.out⟩, ⟨by (with_reducible repeat (first | apply Kd.R_alloc | apply Kd.R_drewN | apply Kd.R_drew)); exact HO_4.out⟩, ⟨by repeat (first | (with_reducible first | exact HB.out | apply below_alloc | apply pw_below_drewN | apply below_drew1) | exact HB.out)⟩⟩
                   ·rw [if_neg c24] at H
                    have c24b0 : (Op.bytesLess ((rdOf ByteArray.empty (rd_L1 l0 x28_3) (rd x4_2 x28_3)).toList) ((rdOf ByteArray.empty (rd_L1 l0 x7_3) (rd x4_2 x7_3)).toList)) = false := by simpa using c24
                    clear c24
                    have H' := Aside0.mk H
                    clear H
                    have p124 : 0 ≤ (x28_3 : Int) := of_decide_eq_true (by first | (with_reducible assumption) | assumption)
                    have q124 : x28_3 < (l0.length : Int) := of_decide_eq_true (by first | (with_reducible assumption) | assumption)
                    obtain ⟨ad124, A124_0, c124_0, e124, hx124_0, hl124_0, hi124_0⟩ := at_L1 HR0.out x28_3 p124 q124
                    cases e124
                    replace hx124_0 := (HB.out.cell (World.block_lt_of_cell? w _ hx124_0)).trans hx124_0
                    have HR124_0 := Aside0.mk hi124_0
                    have HC124_0 := Aside0.mk hl124_0
                    clear hi124_0 hl124_0
                    replace p124 := eq_true p124
                    replace q124 := eq_true q124
                    obtain ⟨Ao26, co26, eo26⟩ := Kd.R_slice HO_4.out
                    subst eo26
                    have p125 : 0 ≤ (x28_3 : Int) := of_decide_eq_true (by first | (with_reducible assumption) | assumption)
                    have q125 : x28_3 < (x4_2.length : Int) := of_decide_eq_true (by first | (with_reducible assumption) | assumption)
                    obtain ⟨ad125, e125, hx125_0⟩ := Kd.at_int (Kd.R_reads' HO_4.out).2.2 x28_3 p125 q125
                    cases e125
                    replace p125 := eq_true p125
                    replace q125 := eq_true q125
                    have p126 : 0 ≤ (x28_3 : Int) := of_decide_eq_true (by first | (with_reducible assumption) | assumption)
                    have q126 : x28_3 < (x4_2.length : Int) := of_decide_eq_true (by first | (with_reducible assumption) | assumption)
                    obtain ⟨ad126, e126, hx126_0⟩ := Kd.at_int (Kd.R_reads' HO_4.out).2.2 x28_3 p126 q126
                    obtain rfl : ad125 = ad126 := (by injection e126)
                    replace p126 := eq_true p126
                    replace q126 := eq_true q126
                    have p127 : 0 ≤ ((rd x4_2 x28_3) : Int) := of_decide_eq_true (by first | (with_reducible assumption) | assumption)
                    have q127 : (rd x4_2 x28_3) < ((rd_L1 l0 x28_3).length : Int) := of_decide_eq_true (by first | (with_reducible assumption) | assumption)
                    obtain ⟨ad127, e127, hx127_0⟩ := Kd.at_string HR124_0.out (rd x4_2 x28_3) p127 q127
                    cases e127
                    replace hx127_0 := (HB.out.cell (World.block_lt_of_cell? w _ hx127_0)).trans hx127_0
                    replace p127 := eq_true p127
                    replace q127 := eq_true q127
                    have p128 : 0 ≤ (x7_3 : Int) := of_decide_eq_true (by first | (with_reducible assumption) | assumption)
                    have q128 : x7_3 < (l0.length : Int) := of_decide_eq_true (by first | (with_reducible assumption) | assumption)
                    obtain ⟨ad128, A128_0, c128_0, e128, hx128_0, hl128_0, hi128_0⟩ := at_L1 HR0.out x7_3 p128 q128
                    obtain rfl : ad124 = ad128 := (by injection e128)
                    replace hx128_0 := (HB.out.cell (World.block_lt_of_cell? w _ hx128_0)).trans hx128_0
                    have HR128_0 := Aside0.mk hi128_0
                    have HC128_0 := Aside0.mk hl128_0
                    clear hi128_0 hl128_0
                    replace p128 := eq_true p128
                    replace q128 := eq_true q128
                    have p129 : 0 ≤ (x7_3 : Int) := of_decide_eq_true (by first | (with_reducible assumption) | assumption)
                    have q129 : x7_3 < (x4_2.length : Int) := of_decide_eq_true (by first | (with_reducible assumption) | assumption)
                    obtain ⟨ad129, e129, hx129_0⟩ := Kd.at_int (Kd.R_reads' HO_4.out).2.2 x7_3 p129 q129
                    obtain rfl : ad125 = ad129 := (by injection e129)
                    replace p129 := eq_true p129
                    replace q129 := eq_true q129
                    have p130 : 0 ≤ ((rd x4_2 x7_3) : Int) := of_decide_eq_true (by first | (with_reducible assumption) | assumption)
                    have q130 : (rd x4_2 x7_3) < ((rd_L1 l0 x7_3).length : Int) := of_decide_eq_true (by first | (with_reducible assumption) | assumption)
                    obtain ⟨ad130, e130, hx130_0⟩ := Kd.at_string HR128_0.out (rd x4_2 x7_3) p130 q130
                    cases e130
                    replace hx130_0 := (HB.out.cell (World.block_lt_of_cell? w _ hx130_0)).trans hx130_0
                    replace p130 := eq_true p130
                    replace q130 := eq_true q130
                    go_wp2
                    repeat (go_quiet (fail); try go_wp2)
                    (try simp only [add_zero_] at *)
                    go_roundg k3
                    case measure => have := HK1.out; have := HK2.out; have := HK3.out; omega
                    case rel => exact ⟨(x7_3), (wrap64 (x28_3 + 1)), (by first | rfl | (simp; done) | (simp [*]; done)), (by first | rfl | (simp; done) | (simp [*]; done)), H', ⟨by have := HK1.out; have := HK2.out; have := HK3.out; omega⟩, ⟨by (with_reducible repeat (first | apply Kd.R_alloc | apply Kd.R_drewN | apply Kd.R_drew)); exact HO_3.out⟩, ⟨by (with_reducible repeat (first | apply Kd.R_alloc | apply Kd.R_drewN | apply Kd.R_drew)); exact HO_4.out⟩, ⟨by repeat (first | (with_reducible first | exact HB.out | apply below_alloc | apply pw_below_drewN | apply below_drew1) | exact HB.out)⟩⟩
                  ·rw [if_neg c23] at H
                   exact absurd H (by simp)
                 ·rw [if_neg c22] at H
                  exact absurd H (by simp)
                ·rw [if_neg c21] at H
                 exact absurd H (by simp)
               ·rw [if_neg c20] at H
                exact absurd H (by simp)
              ·rw [if_neg c19] at H
               exact absurd H (by simp)
             ·rw [if_neg c18] at H
              exact absurd H (by simp)
           ·rw [if_neg c15] at H
            have c15b0 : decide ((rd x4_2 x28_3) < ((rd_L1 l0 x28_3).length : Int)) = false := decide_eq_false c15
            clear c15
            have H' := Aside0.mk H
            clear H
            have p124 : 0 ≤ (x28_3 : Int) := of_decide_eq_true (by first | (with_reducible assumption) | assumption)
            have q124 : x28_3 < (l0.length : Int) := of_decide_eq_true (by first | (with_reducible assumption) | assumption)
            obtain ⟨ad124, A124_0, c124_0, e124, hx124_0, hl124_0, hi124_0⟩ := at_L1 HR0.out x28_3 p124 q124
            cases e124
            replace hx124_0 := (HB.out.cell (World.block_lt_of_cell? w _ hx124_0)).trans hx124_0
            have HR124_0 := Aside0.mk hi124_0
            have HC124_0 := Aside0.mk hl124_0
            clear hi124_0 hl124_0
            replace p124 := eq_true p124
            replace q124 := eq_true q124
            obtain ⟨Ao27, co27, eo27⟩ := Kd.R_slice HO_4.out
            subst eo27
            have p125 : 0 ≤ (x28_3 : Int) := of_decide_eq_true (by first | (with_reducible assumption) | assumption)
            have q125 : x28_3 < (x4_2.length : Int) := of_decide_eq_true (by first | (with_reducible assumption) | assumption)
            obtain ⟨ad125, e125, hx125_0⟩ := Kd.at_int (Kd.R_reads' HO_4.out).2.2 x28_3 p125 q125
            cases e125
            replace p125 := eq_true p125
            replace q125 := eq_true q125
            go_wp2
            repeat (go_quiet (fail); try go_wp2)
            (try simp only [add_zero_] at *)
            go_roundg k3
            case measure => have := HK1.out; have := HK2.out; have := HK3.out; omega
            case rel => exact ⟨(x7_3), (wrap64 (x28_3 + 1)), (by first | rfl | (simp; done) | (simp [*]; done)), (by first | rfl | (simp; done) | (simp [*]; done)), H', ⟨by have := HK1.out; have := HK2.out; have := HK3.out; omega⟩, ⟨by (with_reducible repeat (first | apply Kd.R_alloc | apply Kd.R_drewN | apply Kd.R_drew)); exact HO_3.out⟩, ⟨by (with_reducible repeat (first | apply Kd.R_alloc | apply Kd.R_drewN | apply Kd.R_drew)); exact HO_4.out⟩, ⟨by repeat (first | (with_reducible first | exact HB.out | apply below_alloc | apply pw_below_drewN | apply below_drew1) | exact HB.out)⟩⟩
          ·rw [if_neg c14] at H
           exact absurd H (by simp)
         ·rw [if_neg c13] at H
          exact absurd H (by simp)
        ·rw [if_neg c12] at H
         exact absurd H (by simp)
       ·rw [if_neg c11] at H
        have c11b0 : decide (x28_3 < (l0.length : Int)) = false := decide_eq_false c11
        clear c11
        by_cases c28 : x7_3 = (-1)
        ·rw [if_pos c28] at H
         have c28b0 : (x7_3 == (-1)) = true := beq_iff_eq.mpr c28
         have c28b1 : (x7_3 != (-1)) = false := bne_eq_false_iff_eq.mpr c28
         clear c28
         obtain rfl := Option.some.inj H
         go_wp2
         repeat (go_quiet (fail); try go_wp2)
         (try simp only [Exit.inBlock, Exit.then, Exit.jump])
         go_ret
         exact ⟨_, by first | rfl | (simp [errW_none, errW_some] <;> rfl) | (simp [*, errW_none, errW_some] <;> rfl), by (with_reducible repeat (first | apply Kd.R_alloc | apply Kd.R_drewN | apply Kd.R_drew)); exact HO_3.out, by repeat (first | (with_reducible first | exact HB.out | apply below_alloc | apply pw_below_drewN | apply below_drew1) | exact HB.out)⟩
        ·rw [if_neg c28] at H
         have c28b0 : (x7_3 == (-1)) = false := beq_eq_false_iff_ne.mpr c28
         have c28b1 : (x7_3 != (-1)) = true := bne_iff_ne.mpr c28
         by_cases c29 : 0 ≤ x7_3
         ·rw [if_pos c29] at H
          have c29b0 : decide (0 ≤ x7_3) = true := decide_eq_true c29
          clear c29
          by_cases c30 : x7_3 < (l0.length : Int)
          ·rw [if_pos c30] at H
           have c30b0 : decide (x7_3 < (l0.length : Int)) = true := decide_eq_true c30
           clear c30
           by_cases c31 : x7_3 < (x4_2.length : Int)
           ·rw [if_pos c31] at H
            have c31b0 : decide (x7_3 < (x4_2.length : Int)) = true := decide_eq_true c31
            clear c31
            by_cases c32 : 0 ≤ (rd x4_2 x7_3)
            ·rw [if_pos c32] at H
             have c32b0 : decide (0 ≤ (rd x4_2 x7_3)) = true := decide_eq_true c32
             clear c32
             by_cases c33 : (rd x4_2 x7_3) < ((rd_L1 l0 x7_3).length : Int)
             ·rw [if_pos c33] at H
              have c33b0 : decide ((rd x4_2 x7_3) < ((rd_L1 l0 x7_3).length : Int)) = true := decide_eq_true c33
              clear c33
              by_cases c34 : x3_2.length < 8796093022208
              ·rw [if_pos c34] at H
               have LMc34 := Aside0.mk c34
               clear c34
               obtain ⟨y134, hy134⟩ : ∃ y_ : List ByteArray, y_ = (x3_2 ++ [rdOf ByteArray.empty (rd_L1 l0 x7_3) (rd x4_2 x7_3)]) := ⟨_, rfl⟩
               replace H : (if (y134.length : Int) > 200 then (some ([] : List ByteArray)) else (dict_Or.l3 k3 l0 y134 x4_2 (rdOf ByteArray.empty (rd_L1 l0 x7_3) (rd x4_2 x7_3)) l0 (l0.length : Int) 0)) = some r := by first | (rw [hy134]; with_reducible exact H) | (have H2_ := (Option.bind_some _ _).symm.trans H; rw [hy134]; with_reducible exact H2_) | (have H2_ := (Option.bind_some _ _).symm.trans H; with_reducible exact H2_) | with_reducible exact H | (rw [hy134]; exact H) | exact H
               have Ny134 := Aside0.mk hy134
               clear hy134
               by_cases c35 : (y134.length : Int) > 200
               ·rw [if_pos c35] at H
                have c35b0 : decide (200 < (y134.length : Int)) = true := decide_eq_true c35
                have c35b1 : decide (200 < y134.length) = true := decide_eq_true (by omega)
                clear c35
                obtain rfl := Option.some.inj H
                have p131 : 0 ≤ (x7_3 : Int) := of_decide_eq_true (by first | (with_reducible assumption) | assumption)
                have q131 : x7_3 < (l0.length : Int) := of_decide_eq_true (by first | (with_reducible assumption) | assumption)
                obtain ⟨ad131, A131_0, c131_0, e131, hx131_0, hl131_0, hi131_0⟩ := at_L1 HR0.out x7_3 p131 q131
                cases e131
                replace hx131_0 := (HB.out.cell (World.block_lt_of_cell? w _ hx131_0)).trans hx131_0
                have HR131_0 := Aside0.mk hi131_0
                have HC131_0 := Aside0.mk hl131_0
                clear hi131_0 hl131_0
                replace p131 := eq_true p131
                replace q131 := eq_true q131
                obtain ⟨Ao36, co36, eo36⟩ := Kd.R_slice HO_4.out
                subst eo36
                have p132 : 0 ≤ (x7_3 : Int) := of_decide_eq_true (by first | (with_reducible assumption) | assumption)
                have q132 : x7_3 < (x4_2.length : Int) := of_decide_eq_true (by first | (with_reducible assumption) | assumption)
                obtain ⟨ad132, e132, hx132_0⟩ := Kd.at_int (Kd.R_reads' HO_4.out).2.2 x7_3 p132 q132
                cases e132
                replace p132 := eq_true p132
                replace q132 := eq_true q132
                have p133 : 0 ≤ ((rd x4_2 x7_3) : Int) := of_decide_eq_true (by first | (with_reducible assumption) | assumption)
                have q133 : (rd x4_2 x7_3) < ((rd_L1 l0 x7_3).length : Int) := of_decide_eq_true (by first | (with_reducible assumption) | assumption)
                obtain ⟨ad133, e133, hx133_0⟩ := Kd.at_string HR131_0.out (rd x4_2 x7_3) p133 q133
                cases e133
                replace hx133_0 := (HB.out.cell (World.block_lt_of_cell? w _ hx133_0)).trans hx133_0
                replace p133 := eq_true p133
                replace q133 := eq_true q133
                go_wp2_with (first | ((with_reducible refine gate_builtin (b := .append) (xs := #[.tmp 79, .tmp 81]) rfl ?_); at_builtin; refine Kd.R_append Kd.string (w0 := w) w.heap.size rfl (.tmp 79) (.tmp 81) 22 9 (.string ⟨#[]⟩) 16 rfl Try.underlying22 info9 rfl (by decide) (by omega) u3 x3_2 (rdOf ByteArray.empty (rd_L1 l0 x7_3) (rd x4_2 x7_3)) [.string (rdOf ByteArray.empty (rd_L1 l0 x7_3) (rd x4_2 x7_3))] (fun _ => True) (fun _ => False) rfl rfl ?aP (fun _ hk => hk.elim) ?aF ?aO ?aB ?aS ?aL ?_; (case aP => exact rfl); (case aB => exact (by repeat (first | (with_reducible first | exact HB.out | apply below_alloc | apply pw_below_drewN | apply below_drew1) | exact HB.out))); (case aF => exact (fun _ _ => trivial)); (case aO => exact (by (with_reducible repeat (first | apply Kd.R_alloc | apply Kd.R_drewN | apply Kd.R_drew)); exact HO_3.out)); (case aS => exact (below_size (by repeat (first | (with_reducible first | exact HB.out | apply below_alloc | apply pw_below_drewN | apply below_drew1) | exact HB.out)))); (case aL => have := LMc34.out; omega); intro v135 w37 ho hb hg hat; rw [← Ny134.out] at ho; have n0_ := Aside0.mk (Kd.R_over' (by (with_reducible repeat (first | apply Kd.R_alloc | apply Kd.R_drewN | apply Kd.R_drew)); exact HO_4.out) (Kd.R_typed (by (with_reducible repeat (first | apply Kd.R_alloc | apply Kd.R_drewN | apply Kd.R_drew)); exact HO_3.out)) (by decide) hg); have n1_ := Aside0.mk (hb); have n2_ := Aside0.mk (ho); clear HO_4; clear HB; clear HO_3; have HO_4 := n0_; have HB := n1_; have HO136 := n2_; clear n0_ n1_ n2_; clear ho hb hg hat; obtain ⟨Ao38, co38, eo38⟩ := Kd.R_slice HO136.out; subst eo38))
                repeat (go_quiet (first | ((with_reducible refine gate_builtin (b := .append) (xs := #[.tmp 79, .tmp 81]) rfl ?_); at_builtin; refine Kd.R_append Kd.string (w0 := w) w.heap.size rfl (.tmp 79) (.tmp 81) 22 9 (.string ⟨#[]⟩) 16 rfl Try.underlying22 info9 rfl (by decide) (by omega) u3 x3_2 (rdOf ByteArray.empty (rd_L1 l0 x7_3) (rd x4_2 x7_3)) [.string (rdOf ByteArray.empty (rd_L1 l0 x7_3) (rd x4_2 x7_3))] (fun _ => True) (fun _ => False) rfl rfl ?aP (fun _ hk => hk.elim) ?aF ?aO ?aB ?aS ?aL ?_; (case aP => exact rfl); (case aB => exact (by repeat (first | (with_reducible first | exact HB.out | apply below_alloc | apply pw_below_drewN | apply below_drew1) | exact HB.out))); (case aF => exact (fun _ _ => trivial)); (case aO => exact (by (with_reducible repeat (first | apply Kd.R_alloc | apply Kd.R_drewN | apply Kd.R_drew)); exact HO_3.out)); (case aS => exact (below_size (by repeat (first | (with_reducible first | exact HB.out | apply below_alloc | apply pw_below_drewN | apply below_drew1) | exact HB.out)))); (case aL => have := LMc34.out; omega); intro v135 w37 ho hb hg hat; rw [← Ny134.out] at ho; have n0_ := Aside0.mk (Kd.R_over' (by (with_reducible repeat (first | apply Kd.R_alloc | apply Kd.R_drewN | apply Kd.R_drew)); exact HO_4.out) (Kd.R_typed (by (with_reducible repeat (first | apply Kd.R_alloc | apply Kd.R_drewN | apply Kd.R_drew)); exact HO_3.out)) (by decide) hg); have n1_ := Aside0.mk (hb); have n2_ := Aside0.mk (ho); clear HO_4; clear HB; clear HO_3; have HO_4 := n0_; have HB := n1_; have HO136 := n2_; clear n0_ n1_ n2_; clear ho hb hg hat; obtain ⟨Ao38, co38, eo38⟩ := Kd.R_slice HO136.out; subst eo38)); try go_wp2_with (first | ((with_reducible refine gate_builtin (b := .append) (xs := #[.tmp 79, .tmp 81]) rfl ?_); at_builtin; refine Kd.R_append Kd.string (w0 := w) w.heap.size rfl (.tmp 79) (.tmp 81) 22 9 (.string ⟨#[]⟩) 16 rfl Try.underlying22 info9 rfl (by decide) (by omega) u3 x3_2 (rdOf ByteArray.empty (rd_L1 l0 x7_3) (rd x4_2 x7_3)) [.string (rdOf ByteArray.empty (rd_L1 l0 x7_3) (rd x4_2 x7_3))] (fun _ => True) (fun _ => False) rfl rfl ?aP (fun _ hk => hk.elim) ?aF ?aO ?aB ?aS ?aL ?_; (case aP => exact rfl); (case aB => exact (by repeat (first | (with_reducible first | exact HB.out | apply below_alloc | apply pw_below_drewN | apply below_drew1) | exact HB.out))); (case aF => exact (fun _ _ => trivial)); (case aO => exact (by (with_reducible repeat (first | apply Kd.R_alloc | apply Kd.R_drewN | apply Kd.R_drew)); exact HO_3.out)); (case aS => exact (below_size (by repeat (first | (with_reducible first | exact HB.out | apply below_alloc | apply pw_below_drewN | apply below_drew1) | exact HB.out)))); (case aL => have := LMc34.out; omega); intro v135 w37 ho hb hg hat; rw [← Ny134.out] at ho; have n0_ := Aside0.mk (Kd.R_over' (by (with_reducible repeat (first | apply Kd.R_alloc | apply Kd.R_drewN | apply Kd.R_drew)); exact HO_4.out) (Kd.R_typed (by (with_reducible repeat (first | apply Kd.R_alloc | apply Kd.R_drewN | apply Kd.R_drew)); exact HO_3.out)) (by decide) hg); have n1_ := Aside0.mk (hb); have n2_ := Aside0.mk (ho); clear HO_4; clear HB; clear HO_3; have HO_4 := n0_; have HB := n1_; have HO136 := n2_; clear n0_ n1_ n2_; clear ho hb hg hat; obtain ⟨Ao38, co38, eo38⟩ := Kd.R_slice HO136.out; subst eo38)))
                (try simp only [Exit.inBlock, Exit.then, Exit.jump])
                go_ret
                exact ⟨_, by first | rfl | (simp [errW_none, errW_some] <;> rfl) | (simp [*, errW_none, errW_some] <;> rfl), by first | exact Kd.R_nil _ _ _ _ _ | exact Kd.N_nil _ _ _ _ _ | exact Kd.V_nil _ _ _ _ _ | exact Kd.Q_nil _ _ _ _ _ | exact Kd.S_nil _ _ _ _ _, by repeat (first | (with_reducible first | exact HB.out | apply below_alloc | apply pw_below_drewN | apply below_drew1) | exact HB.out)⟩
               ·rw [if_neg c35] at H
                have c35b0 : decide (200 < (y134.length : Int)) = false := decide_eq_false c35
                have c35b1 : decide (200 < y134.length) = false := decide_eq_false (by omega)
                clear c35
                have H' := Aside0.mk H
                clear H
                have p131 : 0 ≤ (x7_3 : Int) := of_decide_eq_true (by first | (with_reducible assumption) | assumption)
                have q131 : x7_3 < (l0.length : Int) := of_decide_eq_true (by first | (with_reducible assumption) | assumption)
                obtain ⟨ad131, A131_0, c131_0, e131, hx131_0, hl131_0, hi131_0⟩ := at_L1 HR0.out x7_3 p131 q131
                cases e131
                replace hx131_0 := (HB.out.cell (World.block_lt_of_cell? w _ hx131_0)).trans hx131_0
                have HR131_0 := Aside0.mk hi131_0
                have HC131_0 := Aside0.mk hl131_0
                clear hi131_0 hl131_0
                replace p131 := eq_true p131
                replace q131 := eq_true q131
                obtain ⟨Ao39, co39, eo39⟩ := Kd.R_slice HO_4.out
                subst eo39
                have p132 : 0 ≤ (x7_3 : Int) := of_decide_eq_true (by first | (with_reducible assumption) | assumption)
                have q132 : x7_3 < (x4_2.length : Int) := of_decide_eq_true (by first | (with_reducible assumption) | assumption)
                obtain ⟨ad132, e132, hx132_0⟩ := Kd.at_int (Kd.R_reads' HO_4.out).2.2 x7_3 p132 q132
                cases e132
                replace p132 := eq_true p132
                replace q132 := eq_true q132
                have p133 : 0 ≤ ((rd x4_2 x7_3) : Int) := of_decide_eq_true (by first | (with_reducible assumption) | assumption)
                have q133 : (rd x4_2 x7_3) < ((rd_L1 l0 x7_3).length : Int) := of_decide_eq_true (by first | (with_reducible assumption) | assumption)
                obtain ⟨ad133, e133, hx133_0⟩ := Kd.at_string HR131_0.out (rd x4_2 x7_3) p133 q133
                cases e133
                replace hx133_0 := (HB.out.cell (World.block_lt_of_cell? w _ hx133_0)).trans hx133_0
                replace p133 := eq_true p133
                replace q133 := eq_true q133
                go_wp2_with (first | ((with_reducible refine gate_builtin (b := .append) (xs := #[.tmp 79, .tmp 81]) rfl ?_); at_builtin; refine Kd.R_append Kd.string (w0 := w) w.heap.size rfl (.tmp 79) (.tmp 81) 22 9 (.string ⟨#[]⟩) 16 rfl Try.underlying22 info9 rfl (by decide) (by omega) u3 x3_2 (rdOf ByteArray.empty (rd_L1 l0 x7_3) (rd x4_2 x7_3)) [.string (rdOf ByteArray.empty (rd_L1 l0 x7_3) (rd x4_2 x7_3))] (fun _ => True) (fun _ => False) rfl rfl ?aP (fun _ hk => hk.elim) ?aF ?aO ?aB ?aS ?aL ?_; (case aP => exact rfl); (case aB => exact (by repeat (first | (with_reducible first | exact HB.out | apply below_alloc | apply pw_below_drewN | apply below_drew1) | exact HB.out))); (case aF => exact (fun _ _ => trivial)); (case aO => exact (by (with_reducible repeat (first | apply Kd.R_alloc | apply Kd.R_drewN | apply Kd.R_drew)); exact HO_3.out)); (case aS => exact (below_size (by repeat (first | (with_reducible first | exact HB.out | apply below_alloc | apply pw_below_drewN | apply below_drew1) | exact HB.out)))); (case aL => have := LMc34.out; omega); intro v135 w40 ho hb hg hat; rw [← Ny134.out] at ho; have n0_ := Aside0.mk (Kd.R_over' (by (with_reducible repeat (first | apply Kd.R_alloc | apply Kd.R_drewN | apply Kd.R_drew)); exact HO_4.out) (Kd.R_typed (by (with_reducible repeat (first | apply Kd.R_alloc | apply Kd.R_drewN | apply Kd.R_drew)); exact HO_3.out)) (by decide) hg); have n1_ := Aside0.mk (hb); have n2_ := Aside0.mk (ho); clear HO_4; clear HB; clear HO_3; have HO_4 := n0_; have HB := n1_; have HO136 := n2_; clear n0_ n1_ n2_; clear ho hb hg hat; obtain ⟨Ao41, co41, eo41⟩ := Kd.R_slice HO136.out; subst eo41))
                repeat (go_quiet (first | ((with_reducible refine gate_builtin (b := .append) (xs := #[.tmp 79, .tmp 81]) rfl ?_); at_builtin; refine Kd.R_append Kd.string (w0 := w) w.heap.size rfl (.tmp 79) (.tmp 81) 22 9 (.string ⟨#[]⟩) 16 rfl Try.underlying22 info9 rfl (by decide) (by omega) u3 x3_2 (rdOf ByteArray.empty (rd_L1 l0 x7_3) (rd x4_2 x7_3)) [.string (rdOf ByteArray.empty (rd_L1 l0 x7_3) (rd x4_2 x7_3))] (fun _ => True) (fun _ => False) rfl rfl ?aP (fun _ hk => hk.elim) ?aF ?aO ?aB ?aS ?aL ?_; (case aP => exact rfl); (case aB => exact (by repeat (first | (with_reducible first | exact HB.out | apply below_alloc | apply pw_below_drewN | apply below_drew1) | exact HB.out))); (case aF => exact (fun _ _ => trivial)); (case aO => exact (by (with_reducible repeat (first | apply Kd.R_alloc | apply Kd.R_drewN | apply Kd.R_drew)); exact HO_3.out)); (case aS => exact (below_size (by repeat (first | (with_reducible first | exact HB.out | apply below_alloc | apply pw_below_drewN | apply below_drew1) | exact HB.out)))); (case aL => have := LMc34.out; omega); intro v135 w40 ho hb hg hat; rw [← Ny134.out] at ho; have n0_ := Aside0.mk (Kd.R_over' (by (with_reducible repeat (first | apply Kd.R_alloc | apply Kd.R_drewN | apply Kd.R_drew)); exact HO_4.out) (Kd.R_typed (by (with_reducible repeat (first | apply Kd.R_alloc | apply Kd.R_drewN | apply Kd.R_drew)); exact HO_3.out)) (by decide) hg); have n1_ := Aside0.mk (hb); have n2_ := Aside0.mk (ho); clear HO_4; clear HB; clear HO_3; have HO_4 := n0_; have HB := n1_; have HO136 := n2_; clear n0_ n1_ n2_; clear ho hb hg hat; obtain ⟨Ao41, co41, eo41⟩ := Kd.R_slice HO136.out; subst eo41)); try go_wp2_with (first | ((with_reducible refine gate_builtin (b := .append) (xs := #[.tmp 79, .tmp 81]) rfl ?_); at_builtin; refine Kd.R_append Kd.string (w0 := w) w.heap.size rfl (.tmp 79) (.tmp 81) 22 9 (.string ⟨#[]⟩) 16 rfl Try.underlying22 info9 rfl (by decide) (by omega) u3 x3_2 (rdOf ByteArray.empty (rd_L1 l0 x7_3) (rd x4_2 x7_3)) [.string (rdOf ByteArray.empty (rd_L1 l0 x7_3) (rd x4_2 x7_3))] (fun _ => True) (fun _ => False) rfl rfl ?aP (fun _ hk => hk.elim) ?aF ?aO ?aB ?aS ?aL ?_; (case aP => exact rfl); (case aB => exact (by repeat (first | (with_reducible first | exact HB.out | apply below_alloc | apply pw_below_drewN | apply below_drew1) | exact HB.out))); (case aF => exact (fun _ _ => trivial)); (case aO => exact (by (with_reducible repeat (first | apply Kd.R_alloc | apply Kd.R_drewN | apply Kd.R_drew)); exact HO_3.out)); (case aS => exact (below_size (by repeat (first | (with_reducible first | exact HB.out | apply below_alloc | apply pw_below_drewN | apply below_drew1) | exact HB.out)))); (case aL => have := LMc34.out; omega); intro v135 w40 ho hb hg hat; rw [← Ny134.out] at ho; have n0_ := Aside0.mk (Kd.R_over' (by (with_reducible repeat (first | apply Kd.R_alloc | apply Kd.R_drewN | apply Kd.R_drew)); exact HO_4.out) (Kd.R_typed (by (with_reducible repeat (first | apply Kd.R_alloc | apply Kd.R_drewN | apply Kd.R_drew)); exact HO_3.out)) (by decide) hg); have n1_ := Aside0.mk (hb); have n2_ := Aside0.mk (ho); clear HO_4; clear HB; clear HO_3; have HO_4 := n0_; have HB := n1_; have HO136 := n2_; clear n0_ n1_ n2_; clear ho hb hg hat; obtain ⟨Ao41, co41, eo41⟩ := Kd.R_slice HO136.out; subst eo41)))
                go_loopg [88] k3 (fun kq v88 w' => ∃ (x4_4 : List Int) (x88_4 : Int), v88 = .int .i64 x88_4 ∧ Aside0 (dict_Or.l3 kq l0 y134 x4_4 (rdOf ByteArray.empty (rd_L1 l0 x7_3) (rd x4_2 x7_3)) l0 (l0.length : Int) x88_4 = some r) ∧ Aside0 (kq ≤ k3) ∧ Aside0 (Kd.R Kd.string 9 w' w.heap.size (fun _ => True) (.slice Ao41 y134.length co41) y134) ∧ Aside0 (Kd.R (Kd.int .i64) 3 w' w.heap.size (fun _ => True) (.slice (some ad132) x4_2.length co39) x4_4) ∧ Aside0 (Below w.heap.size w w'))
                case atStart => exact ⟨(x4_2), (0), (by first | rfl | (simp; done) | (simp [*]; done)), H', ⟨Nat.le_refl _⟩, ⟨by (with_reducible repeat (first | apply Kd.R_alloc | apply Kd.R_drewN | apply Kd.R_drew)); exact HO136.out⟩, ⟨by (with_reducible repeat (first | apply Kd.R_alloc | apply Kd.R_drewN | apply Kd.R_drew)); exact HO_4.out⟩, ⟨by repeat (first | (with_reducible first | exact HB.out | apply below_alloc | apply pw_below_drewN | apply below_drew1) | exact HB.out)⟩⟩
                case round =>
                 clear H'
                 try clear c1
                 try clear p1
                 try clear q1
                 try clear hx1
                 try clear c2
                 try clear c2b0
                 try clear c2b1
                 try clear p2
                 try clear c3
                 try clear c3b0
                 try clear c3b1
                 try clear c6
                 try clear c6b0
                 try clear p6
                 try clear c7
                 try clear c7b0
                 try clear c8
                 try clear c8b0
                 try clear c10
                 try clear c11
                 try clear c11b0
                 try clear c12
                 try clear c12b0
                 try clear p12
                 try clear q12
                 try clear hx12
                 try clear c13
                 try clear c13b0
                 try clear p13
                 try clear q13
                 try clear hx13
                 try clear c14
                 try clear c14b0
                 try clear c15
                 try clear c15b0
                 try clear c16
                 try clear c16b0
                 try clear c16b1
                 try clear c18
                 try clear c18b0
                 try clear c19
                 try clear c19b0
                 try clear c20
                 try clear c20b0
                 try clear c21
                 try clear c21b0
                 try clear c22
                 try clear c22b0
                 try clear c23
                 try clear c23b0
                 try clear c24
                 try clear c24b0
                 try clear c28
                 try clear c28b0
                 try clear c28b1
                 try clear c29
                 try clear c29b0
                 try clear c30
                 try clear c30b0
                 try clear c31
                 try clear c31b0
                 try clear c32
                 try clear c32b0
                 try clear c33
                 try clear c33b0
                 try clear c34
                 try clear c35
                 try clear c35b0
                 try clear c35b1
                 try clear hx122_0
                 try clear hx124_0
                 try clear hx125_0
                 try clear hx126_0
                 try clear hx127_0
                 try clear hx128_0
                 try clear hx129_0
                 try clear hx130_0
                 try clear hx131_0
                 try clear hx132_0
                 try clear hx133_0
                 try clear p1
                 try clear p122
                 try clear p124
                 try clear p125
                 try clear p126
                 try clear p127
                 try clear p128
                 try clear p129
                 try clear p130
                 try clear p131
                 try clear p132
                 try clear p133
                 try clear p2
                 try clear p6
                 try clear q1
                 try clear q122
                 try clear q124
                 try clear q125
                 try clear q126
                 try clear q127
                 try clear q128
                 try clear q129
                 try clear q130
                 try clear q131
                 try clear q132
                 try clear q133
                 obtain ⟨x4_4, x88_4, rfl, HA, HK4, HO_3, HO_4, HB⟩ := hrel
                 have hl4_4 := (Kd.R_reads' HO_4.out).1
                 rw [hl4_4] at HO_4
                 (try simp only [hl4_4])
                 (try simp only [hl4_4] at HO_3)
                 cases gk with
                 | zero => exact absurd HA.out (by simp [dict_Or.l3])
                 | succ k4 =>
                  have H := HA.out
                  clear HA
                  simp only [dict_Or.l3] at H
                  by_cases c42 : x88_4 < (l0.length : Int)
                  ·rw [if_pos c42] at H
                   have c42b0 : decide (x88_4 < (l0.length : Int)) = true := decide_eq_true c42
                   clear c42
                   by_cases c43 : 0 ≤ x88_4
                   ·rw [if_pos c43] at H
                    have c43b0 : decide (0 ≤ x88_4) = true := decide_eq_true c43
                    clear c43
                    by_cases c44 : x88_4 < (l0.length : Int)
                    ·rw [if_pos c44] at H
                     have c44b0 : decide (x88_4 < (l0.length : Int)) = true := decide_eq_true c44
                     clear c44
                     by_cases c45 : x88_4 < (x4_4.length : Int)
                     ·rw [if_pos c45] at H
                      have c45b0 : decide (x88_4 < (x4_4.length : Int)) = true := decide_eq_true c45
                      clear c45
                      by_cases c46 : (rd x4_4 x88_4) < ((rd_L1 l0 x88_4).length : Int)
                      ·rw [if_pos c46] at H
                       have c46b0 : decide ((rd x4_4 x88_4) < ((rd_L1 l0 x88_4).length : Int)) = true := decide_eq_true c46
                       clear c46
                       by_cases c47 : 0 ≤ (rd x4_4 x88_4)
                       ·rw [if_pos c47] at H
                        have c47b0 : decide (0 ≤ (rd x4_4 x88_4)) = true := decide_eq_true c47
                        clear c47
                        by_cases c48 : (rdOf ByteArray.empty (rd_L1 l0 x88_4) (rd x4_4 x88_4)).toList = (rdOf ByteArray.empty (rd_L1 l0 x7_3) (rd x4_2 x7_3)).toList
                        ·rw [if_pos c48] at H
                         have c48b0 : ((rdOf ByteArray.empty (rd_L1 l0 x88_4) (rd x4_4 x88_4)).toList == (rdOf ByteArray.empty (rd_L1 l0 x7_3) (rd x4_2 x7_3)).toList) = true := beq_iff_eq.mpr c48
                         have c48b1 : ((rdOf ByteArray.empty (rd_L1 l0 x88_4) (rd x4_4 x88_4)).toList != (rdOf ByteArray.empty (rd_L1 l0 x7_3) (rd x4_2 x7_3)).toList) = false := bne_eq_false_iff_eq.mpr c48
                         clear c48
                         obtain ⟨y142, hy142⟩ : ∃ y_ : List Int, y_ = (x4_4.set (x88_4 : Int).toNat (wrap64 ((rd x4_4 x88_4) + 1))) := ⟨_, rfl⟩
                         replace H : (dict_Or.l3 k4 l0 y134 y142 (rdOf ByteArray.empty (rd_L1 l0 x7_3) (rd x4_2 x7_3)) l0 (l0.length : Int) (wrap64 (x88_4 + 1))) = some r := by first | (rw [hy142]; with_reducible exact H) | (have H2_ := (Option.bind_some _ _).symm.trans H; rw [hy142]; with_reducible exact H2_) | (have H2_ := (Option.bind_some _ _).symm.trans H; with_reducible exact H2_) | with_reducible exact H | (rw [hy142]; exact H) | exact H
                         have Ny142 := Aside0.mk hy142
                         clear hy142
                         have H' := Aside0.mk H
                         clear H
                         have p137 : 0 ≤ (x88_4 : Int) := of_decide_eq_true (by first | (with_reducible assumption) | assumption)
                         have q137 : x88_4 < (l0.length : Int) := of_decide_eq_true (by first | (with_reducible assumption) | assumption)
                         obtain ⟨ad137, A137_0, c137_0, e137, hx137_0, hl137_0, hi137_0⟩ := at_L1 HR0.out x88_4 p137 q137
                         obtain rfl : ad131 = ad137 := (by injection e137)
                         replace hx137_0 := (HB.out.cell (World.block_lt_of_cell? w _ hx137_0)).trans hx137_0
                         have HR137_0 := Aside0.mk hi137_0
                         have HC137_0 := Aside0.mk hl137_0
                         clear hi137_0 hl137_0
                         replace p137 := eq_true p137
                         replace q137 := eq_true q137
                         have p138 : 0 ≤ (x88_4 : Int) := of_decide_eq_true (by first | (with_reducible assumption) | assumption)
                         have q138 : x88_4 < (x4_4.length : Int) := of_decide_eq_true (by first | (with_reducible assumption) | assumption)
                         obtain ⟨ad138, e138, hx138_0⟩ := Kd.at_int (Kd.R_reads' HO_4.out).2.2 x88_4 p138 q138
                         obtain rfl : ad132 = ad138 := (by injection e138)
                         replace p138 := eq_true p138
                         replace q138 := eq_true q138
                         have p139 : 0 ≤ (x88_4 : Int) := of_decide_eq_true (by first | (with_reducible assumption) | assumption)
                         have q139 : x88_4 < (x4_4.length : Int) := of_decide_eq_true (by first | (with_reducible assumption) | assumption)
                         obtain ⟨ad139, e139, hx139_0⟩ := Kd.at_int (Kd.R_reads' HO_4.out).2.2 x88_4 p139 q139
                         obtain rfl : ad132 = ad139 := (by injection e139)
                         replace p139 := eq_true p139
                         replace q139 := eq_true q139
                         have p140 : 0 ≤ ((rd x4_4 x88_4) : Int) := of_decide_eq_true (by first | (with_reducible assumption) | assumption)
                         have q140 : (rd x4_4 x88_4) < ((rd_L1 l0 x88_4).length : Int) := of_decide_eq_true (by first | (with_reducible assumption) | assumption)
                         obtain ⟨ad140, e140, hx140_0⟩ := Kd.at_string HR137_0.out (rd x4_4 x88_4) p140 q140
                         cases e140
                         replace hx140_0 := (HB.out.cell (World.block_lt_of_cell? w _ hx140_0)).trans hx140_0
                         replace p140 := eq_true p140
                         replace q140 := eq_true q140
                         have p141 : 0 ≤ (x88_4 : Int) := of_decide_eq_true (by first | (with_reducible assumption) | assumption)
                         have q141 : x88_4 < (x4_4.length : Int) := of_decide_eq_true (by first | (with_reducible assumption) | assumption)
                         obtain ⟨ad141, e141, hx141_0⟩ := Kd.at_int (Kd.R_reads' HO_4.out).2.2 x88_4 p141 q141
                         obtain rfl : ad132 = ad141 := (by injection e141)
                         replace p141 := eq_true p141
                         replace q141 := eq_true q141
                         have p49 : 0 ≤ (x88_4 : Int) := of_decide_eq_true (by first | (with_reducible assumption) | assumption)
                         have q49 : (x88_4 : Int) < ((x4_4.length : Int) : Int) := of_decide_eq_true (by first | (with_reducible assumption) | assumption)
                         obtain ⟨go49, co49, eo49, gb49, gl49, cl49, HG49⟩ := Kd.R_form HO_4.out (by omega)
                         (first | cases eo49 | (injection eo49 with ea_ en_ ec_; (first | subst ea_ | (injection ea_ with ea_; subst ea_)); subst ec_; clear en_))
                         have GB49 := Aside0.mk gb49
                         have GG49 := Aside0.mk HG49
                         clear gb49 gl49 HG49
                         (first | simp only [add_plain] at hx132_0 | skip)
                         (first | simp only [add_plain] at hx138_0 | skip)
                         (first | simp only [add_plain] at hx139_0 | skip)
                         (first | simp only [add_plain] at hx141_0 | skip)
                         obtain ⟨hx49_0, hf49_0⟩ := Kd.R_celln 0 HO_4.out (x88_4 : Int) p49 q49
                         replace p49 := eq_true p49
                         replace q49 := eq_true q49
                         have HP50 := Kd.R_putg HO_4.out (x88_4 : Int) (wrap64 ((rd x4_4 x88_4) + 1))
                         go_wp2_with (first | ((with_reducible refine gate_store (t := 3) (p := 116) rfl ?_); (try (rw [drewN_self wr]; generalize hq_ : World.drewN wr _ = wr; have n0_ := Aside0.mk (Kd.R_at hq_ HO_3.out); have n1_ := Aside0.mk (Kd.R_at hq_ HO_4.out); have n2_ := Aside0.mk (below_at hq_ HB.out); clear hq_ HO_3 HO_4 HB; have HO_3 := n0_; have HO_4 := n1_; have HB := n2_; clear n0_ n1_ n2_; (try (have HP50 := Kd.R_putg HO_4.out (x88_4 : Int) (wrap64 ((rd x4_4 x88_4) + 1)))))); refine store_event (t := 3) (p := 116) (v := ?vo_w51) (w1 := (wr.setCell ⟨go49, (x88_4 : Int).toNat, none⟩ (.int .i64 (wrap64 ((rd x4_4 x88_4) + 1))))) ?hg ?ho ?hn ?hr ?_; (case ho => rfl); (case hg => rfl); (case hn => rfl); (case hr => first | (go_simp; done) | (go_simp; rfl)); intro w51 hw; have hg : wr.grownBy w51 (some go49) := (by rw [hw]; exact HP50.2); have hp_ : Kd.R (Kd.int .i64) 3 w51 w.heap.size (fun _ => True) (.slice (some ⟨go49, 0, none⟩) x4_4.length co39) y142 := (by rw [hw, Ny142.out]; exact HP50.1); clear HP50; have n0_ := Aside0.mk (Kd.R_over' (v := (.slice (some ⟨go49, 0, none⟩) x4_4.length co39)) (by (with_reducible repeat (first | apply Kd.R_alloc | apply Kd.R_drewN | apply Kd.R_drew)); exact HO_3.out) (Kd.R_typed HO_4.out) (by decide) hg); have n1_ := Aside0.mk (hp_); have n2_ := Aside0.mk ((by rw [hw]; exact below_set (HB.out) GB49.out : Below w.heap.size w w51)); clear HO_3; clear HO_4; clear HB; have HO_3 := n0_; have HO_4 := n1_; have HB := n2_; clear n0_ n1_ n2_; clear hg hw hp_))
                         repeat (go_quiet (first | ((with_reducible refine gate_store (t := 3) (p := 116) rfl ?_); (try (rw [drewN_self wr]; generalize hq_ : World.drewN wr _ = wr; have n0_ := Aside0.mk (Kd.R_at hq_ HO_3.out); have n1_ := Aside0.mk (Kd.R_at hq_ HO_4.out); have n2_ := Aside0.mk (below_at hq_ HB.out); clear hq_ HO_3 HO_4 HB; have HO_3 := n0_; have HO_4 := n1_; have HB := n2_; clear n0_ n1_ n2_; (try (have HP50 := Kd.R_putg HO_4.out (x88_4 : Int) (wrap64 ((rd x4_4 x88_4) + 1)))))); refine store_event (t := 3) (p := 116) (v := ?vo_w51) (w1 := (wr.setCell ⟨go49, (x88_4 : Int).toNat, none⟩ (.int .i64 (wrap64 ((rd x4_4 x88_4) + 1))))) ?hg ?ho ?hn ?hr ?_; (case ho => rfl); (case hg => rfl); (case hn => rfl); (case hr => first | (go_simp; done) | (go_simp; rfl)); intro w51 hw; have hg : wr.grownBy w51 (some go49) := (by rw [hw]; exact HP50.2); have hp_ : Kd.R (Kd.int .i64) 3 w51 w.heap.size (fun _ => True) (.slice (some ⟨go49, 0, none⟩) x4_4.length co39) y142 := (by rw [hw, Ny142.out]; exact HP50.1); clear HP50; have n0_ := Aside0.mk (Kd.R_over' (v := (.slice (some ⟨go49, 0, none⟩) x4_4.length co39)) (by (with_reducible repeat (first | apply Kd.R_alloc | apply Kd.R_drewN | apply Kd.R_drew)); exact HO_3.out) (Kd.R_typed HO_4.out) (by decide) hg); have n1_ := Aside0.mk (hp_); have n2_ := Aside0.mk ((by rw [hw]; exact below_set (HB.out) GB49.out : Below w.heap.size w w51)); clear HO_3; clear HO_4; clear HB; have HO_3 := n0_; have HO_4 := n1_; have HB := n2_; clear n0_ n1_ n2_; clear hg hw hp_)); try go_wp2_with (first | ((with_reducible refine gate_store (t := 3) (p := 116) rfl ?_); (try (rw [drewN_self wr]; generalize hq_ : World.drewN wr _ = wr; have n0_ := Aside0.mk (Kd.R_at hq_ HO_3.out); have n1_ := Aside0.mk (Kd.R_at hq_ HO_4.out); have n2_ := Aside0.mk (below_at hq_ HB.out); clear hq_ HO_3 HO_4 HB; have HO_3 := n0_; have HO_4 := n1_; have HB := n2_; clear n0_ n1_ n2_; (try (have HP50 := Kd.R_putg HO_4.out (x88_4 : Int) (wrap64 ((rd x4_4 x88_4) + 1)))))); refine store_event (t := 3) (p := 116) (v := ?vo_w51) (w1 := (wr.setCell ⟨go49, (x88_4 : Int).toNat, none⟩ (.int .i64 (wrap64 ((rd x4_4 x88_4) + 1))))) ?hg ?ho ?hn ?hr ?_; (case ho => rfl); (case hg => rfl); (case hn => rfl); (case hr => first | (go_simp; done) | (go_simp; rfl)); intro w51 hw; have hg : wr.grownBy w51 (some go49) := (by rw [hw]; exact HP50.2); have hp_ : Kd.R (Kd.int .i64) 3 w51 w.heap.size (fun _ => True) (.slice (some ⟨go49, 0, none⟩) x4_4.length co39) y142 := (by rw [hw, Ny142.out]; exact HP50.1); clear HP50; have n0_ := Aside0.mk (Kd.R_over' (v := (.slice (some ⟨go49, 0, none⟩) x4_4.length co39)) (by (with_reducible repeat (first | apply Kd.R_alloc | apply Kd.R_drewN | apply Kd.R_drew)); exact HO_3.out) (Kd.R_typed HO_4.out) (by decide) hg); have n1_ := Aside0.mk (hp_); have n2_ := Aside0.mk ((by rw [hw]; exact below_set (HB.out) GB49.out : Below w.heap.size w w51)); clear HO_3; clear HO_4; clear HB; have HO_3 := n0_; have HO_4 := n1_; have HB := n2_; clear n0_ n1_ n2_; clear hg hw hp_)))
                         (try simp only [← hl4_4])
                         (try simp only [add_zero_] at *)
                         go_roundg k4
                         case measure => have := HK1.out; have := HK2.out; have := HK3.out; have := HK4.out; omega
                         case rel => exact ⟨(y142), (wrap64 (x88_4 + 1)), (by first | rfl | (simp; done) | (simp [*]; done)), H', ⟨by have := HK1.out; have := HK2.out; have := HK3.out; have := HK4.out; omega⟩, ⟨by (try simp only [hl4_4]); (with_reducible repeat (first | apply Kd.R_alloc | apply Kd.R_drewN | apply Kd.R_drew)); exact HO_3.out⟩, ⟨by (try simp only [hl4_4]); (with_reducible repeat (first | apply Kd.R_alloc | apply Kd.R_drewN | apply Kd.R_drew)); exact HO_4.out⟩, ⟨by repeat (first | (with_reducible first | exact HB.out | apply below_alloc | apply pw_below_drewN | apply below_drew1) | exact HB.out)⟩⟩
                        ·rw [if_neg c48] at H
                         have c48b0 : ((rdOf ByteArray.empty (rd_L1 l0 x88_4) (rd x4_4 x88_4)).toList == (rdOf ByteArray.empty (rd_L1 l0 x7_3) (rd x4_2 x7_3)).toList) = false := beq_eq_false_iff_ne.mpr c48
                         have c48b1 : ((rdOf ByteArray.empty (rd_L1 l0 x88_4) (rd x4_4 x88_4)).toList != (rdOf ByteArray.empty (rd_L1 l0 x7_3) (rd x4_2 x7_3)).toList) = true := bne_iff_ne.mpr c48
                         have H' := Aside0.mk H
                         clear H
                         have p137 : 0 ≤ (x88_4 : Int) := of_decide_eq_true (by first | (with_reducible assumption) | assumption)
                         have q137 : x88_4 < (l0.length : Int) := of_decide_eq_true (by first | (with_reducible assumption) | assumption)
                         obtain ⟨ad137, A137_0, c137_0, e137, hx137_0, hl137_0, hi137_0⟩ := at_L1 HR0.out x88_4 p137 q137
                         obtain rfl : ad131 = ad137 := (by injection e137)
                         replace hx137_0 := (HB.out.cell (World.block_lt_of_cell? w _ hx137_0)).trans hx137_0
                         have HR137_0 := Aside0.mk hi137_0
                         have HC137_0 := Aside0.mk hl137_0
                         clear hi137_0 hl137_0
                         replace p137 := eq_true p137
                         replace q137 := eq_true q137
                         have p138 : 0 ≤ (x88_4 : Int) := of_decide_eq_true (by first | (with_reducible assumption) | assumption)
                         have q138 : x88_4 < (x4_4.length : Int) := of_decide_eq_true (by first | (with_reducible assumption) | assumption)
                         obtain ⟨ad138, e138, hx138_0⟩ := Kd.at_int (Kd.R_reads' HO_4.out).2.2 x88_4 p138 q138
                         obtain rfl : ad132 = ad138 := (by injection e138)
                         replace p138 := eq_true p138
                         replace q138 := eq_true q138
                         have p139 : 0 ≤ (x88_4 : Int) := of_decide_eq_true (by first | (with_reducible assumption) | assumption)
                         have q139 : x88_4 < (x4_4.length : Int) := of_decide_eq_true (by first | (with_reducible assumption) | assumption)
                         obtain ⟨ad139, e139, hx139_0⟩ := Kd.at_int (Kd.R_reads' HO_4.out).2.2 x88_4 p139 q139
                         obtain rfl : ad132 = ad139 := (by injection e139)
                         replace p139 := eq_true p139
                         replace q139 := eq_true q139
                         have p140 : 0 ≤ ((rd x4_4 x88_4) : Int) := of_decide_eq_true (by first | (with_reducible assumption) | assumption)
                         have q140 : (rd x4_4 x88_4) < ((rd_L1 l0 x88_4).length : Int) := of_decide_eq_true (by first | (with_reducible assumption) | assumption)
                         obtain ⟨ad140, e140, hx140_0⟩ := Kd.at_string HR137_0.out (rd x4_4 x88_4) p140 q140
                         cases e140
                         replace hx140_0 := (HB.out.cell (World.block_lt_of_cell? w _ hx140_0)).trans hx140_0
                         replace p140 := eq_true p140
                         replace q140 := eq_true q140
                         go_wp2
                         repeat (go_quiet (fail); try go_wp2)
                         (try simp only [← hl4_4])
                         (try simp only [add_zero_] at *)
                         go_roundg k4
                         case measure => have := HK1.out; have := HK2.out; have := HK3.out; have := HK4.out; omega
                         case rel => exact ⟨(x4_4), (wrap64 (x88_4 + 1)), (by first | rfl | (simp; done) | (simp [*]; done)), H', ⟨by have := HK1.out; have := HK2.out; have := HK3.out; have := HK4.out; omega⟩, ⟨by (try simp only [hl4_4]); (with_reducible repeat (first | apply Kd.R_alloc | apply Kd.R_drewN | apply Kd.R_drew)); exact HO_3.out⟩, ⟨by (try simp only [hl4_4]); (with_reducible repeat (first | apply Kd.R_alloc | apply Kd.R_drewN | apply Kd.R_drew)); exact HO_4.out⟩, ⟨by repeat (first | (with_reducible first | exact HB.out | apply below_alloc | apply pw_below_drewN | apply below_drew1) | exact HB.out)⟩⟩
                       ·rw [if_neg c47] at H
                        exact absurd H (by simp)
                      ·rw [if_neg c46] at H
                       have c46b0 : decide ((rd x4_4 x88_4) < ((rd_L1 l0 x88_4).length : Int)) = false := decide_eq_false c46
                       clear c46
                       have H' := Aside0.mk H
                       clear H
                       have p137 : 0 ≤ (x88_4 : Int) := of_decide_eq_true (by first | (with_reducible assumption) | assumption)
                       have q137 : x88_4 < (l0.length : Int) := of_decide_eq_true (by first | (with_reducible assumption) | assumption)
                       obtain ⟨ad137, A137_0, c137_0, e137, hx137_0, hl137_0, hi137_0⟩ := at_L1 HR0.out x88_4 p137 q137
                       obtain rfl : ad131 = ad137 := (by injection e137)
                       replace hx137_0 := (HB.out.cell (World.block_lt_of_cell? w _ hx137_0)).trans hx137_0
                       have HR137_0 := Aside0.mk hi137_0
                       have HC137_0 := Aside0.mk hl137_0
                       clear hi137_0 hl137_0
                       replace p137 := eq_true p137
                       replace q137 := eq_true q137
                       have p138 : 0 ≤ (x88_4 : Int) := of_decide_eq_true (by first | (with_reducible assumption) | assumption)
                       have q138 : x88_4 < (x4_4.length : Int) := of_decide_eq_true (by first | (with_reducible assumption) | assumption)
                       obtain ⟨ad138, e138, hx138_0⟩ := Kd.at_int (Kd.R_reads' HO_4.out).2.2 x88_4 p138 q138
                       obtain rfl : ad132 = ad138 := (by injection e138)
                       replace p138 := eq_true p138
                       replace q138 := eq_true q138
                       go_wp2
                       repeat (go_quiet (fail); try go_wp2)
                       (try simp only [← hl4_4])
                       (try simp only [add_zero_] at *)
                       go_roundg k4
                       case measure => have := HK1.out; have := HK2.out; have := HK3.out; have := HK4.out; omega
                       case rel => exact ⟨(x4_4), (wrap64 (x88_4 + 1)), (by first | rfl | (simp; done) | (simp [*]; done)), H', ⟨by have := HK1.out; have := HK2.out; have := HK3.out; have := HK4.out; omega⟩, ⟨by (try simp only [hl4_4]); (with_reducible repeat (first | apply Kd.R_alloc | apply Kd.R_drewN | apply Kd.R_drew)); exact HO_3.out⟩, ⟨by (try simp only [hl4_4]); (with_reducible repeat (first | apply Kd.R_alloc | apply Kd.R_drewN | apply Kd.R_drew)); exact HO_4.out⟩, ⟨by repeat (first | (with_reducible first | exact HB.out | apply below_alloc | apply pw_below_drewN | apply below_drew1) | exact HB.out)⟩⟩
                     ·rw [if_neg c45] at H
                      exact absurd H (by simp)
                    ·rw [if_neg c44] at H
                     exact absurd H (by simp)
                   ·rw [if_neg c43] at H
                    exact absurd H (by simp)
                  ·rw [if_neg c42] at H
                   have c42b0 : decide (x88_4 < (l0.length : Int)) = false := decide_eq_false c42
                   clear c42
                   have H' := Aside0.mk H
                   clear H
                   go_wp2
                   repeat (go_quiet (fail); try go_wp2)
                   (try simp only [← hl4_4])
                   (try simp only [add_zero_] at *)
                   go_step3
                   refine ⟨rfl, hK_.out _ _ (Handed.intro k4 ?measure (hJ_.out _ _ _ ?rel))⟩
                   rotate_left
                   case measure => have := HK1.out; have := HK2.out; have := HK3.out; have := HK4.out; omega
                   case rel => refine frame_ex_ ?_ rfl; simp only [sl_]; exact ⟨(y134), (x4_4), H', ⟨by have := HK1.out; have := HK2.out; have := HK3.out; have := HK4.out; omega⟩, ⟨by (try simp only [hl4_4]); (with_reducible repeat (first | apply Kd.R_alloc | apply Kd.R_drewN | apply Kd.R_drew)); exact HO_3.out⟩, ⟨by (try simp only [hl4_4]); (with_reducible repeat (first | apply Kd.R_alloc | apply Kd.R_drewN | apply Kd.R_drew)); exact HO_4.out⟩, ⟨by repeat (first | (with_reducible first | exact HB.out | apply below_alloc | apply pw_below_drewN | apply below_drew1) | exact HB.out)⟩⟩
              ·rw [if_neg c34] at H
               exact absurd H (by simp)
             ·rw [if_neg c33] at H
              exact absurd H (by simp)
            ·rw [if_neg c32] at H
             exact absurd H (by simp)
           ·rw [if_neg c31] at H
            exact absurd H (by simp)
          ·rw [if_neg c30] at H
           exact absurd H (by simp)
         ·rw [if_neg c29] at H
          exact absurd H (by simp)
  ·rw [if_neg c3] at H
   exact absurd H (by simp)
 ·rw [if_neg c2] at H
  exact absurd H (by simp)

end Go.Proofs.Ytamofikjjkpejaa.PDictPacks
