-- LAID BY this session's own printer (wip/pr): Lean checks it
import Derived.Test.YtoedahdhlcagkaaPFrameTurnedx0
namespace Go.Proofs.Ytoedahdhlcagkaa.PFrameTurned
open Go.RowKit Go.Proofs.YtoedahdhlcagkaaW.PrintWords Go.Proofs.YtoedahdhlcagkaaW.PrintLast Go.Proofs.YtoedahdhlcagkaaW.PrintMore
attribute [local go_sem] max2_int min2_int max_two min_two max_three min_three max_four min_four   -- for this text's walks alone
set_option linter.unusedVariables false
set_option linter.unusedSimpArgs false

-- NOT PRINTED: function 23 (frame_each)

/-- A state of type 44 at block g of W; what its slices lead to came in by w0. -/
def IsS44 (w0 W : World) (g : Nat) (f0 : Int) : Prop := W.heap[g]? = some (.cells #[.int .u32 f0] 44 (0, 0)) ∧ w0.heap.size ≤ g
theorem IsS44.grown {w0 W : World} {g : Nat} {f0 : Int} {W1 : World} {row : Option Nat} (h : IsS44 w0 W g f0) (hw : W.grownBy W1 row) (hne : some g ≠ row) : IsS44 w0 W1 g f0 := by
 obtain ⟨hb, hg⟩ := h
 exact ⟨blk_grown hb hw hne, hg⟩
theorem IsS44.own_neN {w0 W : World} {g : Nat} {f0 : Int} {α : Type} {d : Kd α} {e : Nat} {base : Nat} {ok : Nat → Prop} {v : Value} {xs : List α} (h : IsS44 w0 W g f0) (ho : Kd.N d e W base ok v xs) (ht : e ≠ 44) : some g ≠ v.ownBlock := by
 obtain ⟨hb, hg⟩ := h
 exact Kd.N_ne ho hb ht
theorem IsS44.fresh {w0 W : World} {g : Nat} {f0 : Int} (h : IsS44 w0 W g f0) : ∀ k, W.heap.size ≤ k → k ≠ g := by
 obtain ⟨hb, hg⟩ := h
 exact Kd.freshB hb
theorem IsS44.kept {w0 W : World} {g : Nat} {f0 : Int} {W1 : World} {S : Nat → Prop} (h : IsS44 w0 W g f0) (hk : Kept W W1 S) (hne : ¬ S g) : IsS44 w0 W1 g f0 := by
 obtain ⟨hb, hg⟩ := h
 exact ⟨blk_kept hb hk hne, hg⟩
theorem IsS44.below {w0 W : World} {g : Nat} {f0 : Int} {W1 : World} (h : IsS44 w0 W g f0) (hw : Below W.heap.size W W1) : IsS44 w0 W1 g f0 := h.grown (grown_of_below hw none) (by simp)
theorem IsS44.alloc {w0 W : World} {g : Nat} {f0 : Int} (h : IsS44 w0 W g f0) (o : Obj) : IsS44 w0 (W.alloc o) g f0 := h.below (below_alloc (Below.refl _ _) o)
theorem IsS44.drewN {w0 W : World} {g : Nat} {f0 : Int} (h : IsS44 w0 W g f0) (m : Nat) : IsS44 w0 (W.drewN m) g f0 := h
theorem IsS44.drew {w0 W : World} {g : Nat} {f0 : Int} (h : IsS44 w0 W g f0) : IsS44 w0 W.drew g f0 := h
theorem IsS44.at_ {w0 W : World} {g : Nat} {f0 : Int} {w' : World} {m : Nat} (hq : W.drewN m = w') (h : IsS44 w0 W g f0) : IsS44 w0 w' g f0 := by subst hq; exact IsS44.drewN h m
theorem IsS44.apart {w0 W : World} {g : Nat} {f0 : Int} {α : Type} {d : Kd α} {e : Nat} {base : Nat} {ok : Nat → Prop} {v : Value} {xs : List α} (h : IsS44 w0 W g f0) (ho : d.R e W base ok v xs) (ht : ∀ q, q ∈ e :: d.E → q ≠ 44) : d.R e W base (fun k => ok k ∧ k ≠ g) v xs := by
 obtain ⟨hb, hg⟩ := h
 exact Kd.R_types ho hb ht
theorem IsS44.own_ne {w0 W : World} {g : Nat} {f0 : Int} {α : Type} {d : Kd α} {e : Nat} {base : Nat} {ok : Nat → Prop} {v : Value} {xs : List α} (h : IsS44 w0 W g f0) (ho : d.R e W base ok v xs) (ht : e ≠ 44) : some g ≠ v.ownBlock := by
 obtain ⟨hb, hg⟩ := h
 exact Kd.R_ne ho hb ht
theorem IsS44.apartQ {w0 W : World} {g : Nat} {f0 : Int} {α : Type} {d : Kd α} {e : Nat} {base : Nat} {ok : Nat → Prop} {v : Value} {xs : List α} (h : IsS44 w0 W g f0) (ho : d.Q e W base ok v xs) (ht : ∀ q, q ∈ e :: d.E → q ≠ 44) : d.Q e W base (fun k => ok k ∧ k ≠ g) v xs := by
 obtain ⟨hb, hg⟩ := h
 exact Kd.Q_types ho hb ht
theorem IsS44.own_neQ {w0 W : World} {g : Nat} {f0 : Int} {α : Type} {d : Kd α} {e : Nat} {base : Nat} {ok : Nat → Prop} {v : Value} {xs : List α} (h : IsS44 w0 W g f0) (ho : d.Q e W base ok v xs) (ht : e ≠ 44) : some g ≠ v.ownBlock := by
 obtain ⟨hb, hg⟩ := h
 exact Kd.Q_ne ho hb ht
theorem IsS44.apartS {w0 W : World} {g : Nat} {f0 : Int} {α : Type} {d : Kd α} {e : Nat} {base : Nat} {ok : Nat → Prop} {v : Value} {xs : List α} (h : IsS44 w0 W g f0) (ho : d.S e W base ok v xs) (ht : ∀ q, q ∈ e :: d.E → q ≠ 44) : d.S e W base (fun k => ok k ∧ k ≠ g) v xs := by
 obtain ⟨hb, hg⟩ := h
 exact Kd.S_types ho hb ht
theorem IsS44.own_neS {w0 W : World} {g : Nat} {f0 : Int} {α : Type} {d : Kd α} {e : Nat} {base : Nat} {ok : Nat → Prop} {v : Value} {xs : List α} (h : IsS44 w0 W g f0) (ho : d.S e W base ok v xs) (ht : e ≠ 44) : some g ≠ v.ownBlock := by
 obtain ⟨hb, hg⟩ := h
 exact Kd.S_ne ho hb ht
theorem IsS44.lt {w0 W : World} {g : Nat} {f0 : Int} (h : IsS44 w0 W g f0) : g < W.heap.size := by
 obtain ⟨hb, hg⟩ := h
 exact blk_lt hb
theorem IsS44.ge {w0 W : World} {g : Nat} {f0 : Int} (h : IsS44 w0 W g f0) : w0.heap.size ≤ g := by
 obtain ⟨hb, hg⟩ := h
 exact hg
theorem IsS44.ne_blk {w0 W : World} {g : Nat} {f0 : Int} {a : Nat} {cs : Array Value} {t : TypeId} {fr : Nat × Nat} (h : IsS44 w0 W g f0) (hb2 : W.heap[a]? = some (.cells cs t fr)) (ht : t ≠ 44) : g ≠ a := by
 obtain ⟨hb, hg⟩ := h
 rintro rfl
 rw [hb] at hb2
 injection hb2 with hb2
 injection hb2 with _ ht2
 exact ht ht2.symm
theorem IsS44.far {w0 W : World} {g : Nat} {f0 : Int} {p : Addr} (h : IsS44 w0 W g f0) (hne : g ≠ p.block) (u : Value) : IsS44 w0 (W.setCell p u) g f0 := by
 obtain ⟨hb, hg⟩ := h
 exact ⟨blk_far hb hne u, hg⟩
theorem cellS44_0 {W : World} {g : Nat} {f0 : Int} (h : W.heap[g]? = some (.cells #[.int .u32 f0] 44 (0, 0))) : W.cell? ⟨g, 0, none⟩ = some (.int .u32 f0) := (blk_cell h 0).trans rfl
theorem IsS44.set_0 {w0 W : World} {g : Nat} {f0 : Int} (h : IsS44 w0 W g f0) (x : Int) : IsS44 w0 (W.setCell ⟨g, 0, none⟩ (.int .u32 x)) g x := by
 obtain ⟨hb, hg⟩ := h
 exact ⟨by simpa using blk_set hb 0 (.int .u32 x), hg⟩
theorem IsS44.new (w0 W : World) (f0 : Int) (hB : Below w0.heap.size w0 W) : IsS44 w0 (W.alloc (.cells #[.int .u32 f0] 44)) W.heap.size f0 := ⟨by simpa using heap_alloc_new W _, hB.size⟩

/-! ### frame_sum_add: function 24 -/
def frame_sum_add.l0 : Nat → Int → Int → Option (Int)
 | 0, _, _ => none
 | k + 1, x14, x1000 => if x14 < 8 then (if (Go.bits .and .u32 x1000 1) = 1 then (frame_sum_add.l0 k (wrap64 (x14 + 1)) (Go.bits .xor .u32 (x1000 / 2) 2197175160)) else (frame_sum_add.l0 k (wrap64 (x14 + 1)) (x1000 / 2))) else (some x1000)
def frame_sum_add.f (k : Nat) (s0_0 : Int) (a1 : Int) : Option (Int) := frame_sum_add.l0 k 0 (Go.bits .xor .u32 s0_0 ((a1) % 4294967296))
theorem frame_sum_add.mono_l : ∀ k, (∀ y0 y1, LeO (frame_sum_add.l0 k y0 y1) (frame_sum_add.l0 (k + 1) y0 y1))
 | 0 => fun _ _ r h => by simp [frame_sum_add.l0] at h
 | k + 1 => by
  have ih0 := frame_sum_add.mono_l k
  ·intro y0 y1
   unfold frame_sum_add.l0
   repeat' first
   | (with_reducible exact ih0 _ _)
   | (with_reducible exact LeO.refl _)
   | (with_reducible exact LeO.none _)
   | (with_reducible refine LeO.ite ?_ ?_)
   | (with_reducible refine LeO.bind ?_ (fun _ => ?_))
   | exact ih0 _ _
   | exact LeO.none _
   | refine LeO.ite ?_ ?_
   | refine LeO.bind ?_ (fun _ => ?_)
theorem frame_sum_add.mono : ∀ a0 a1 k, LeO (frame_sum_add.f k a0 a1) (frame_sum_add.f (k + 1) a0 a1) := by
 intro a0 a1 k
 have ih0 := frame_sum_add.mono_l k
 unfold frame_sum_add.f
 repeat' first
   | (with_reducible exact ih0 _ _)
   | (with_reducible exact LeO.refl _)
   | (with_reducible exact LeO.none _)
   | (with_reducible refine LeO.ite ?_ ?_)
   | (with_reducible refine LeO.bind ?_ (fun _ => ?_))
   | exact ih0 _ _
   | exact LeO.none _
   | refine LeO.ite ?_ ?_
   | refine LeO.bind ?_ (fun _ => ?_)
set_option maxHeartbeats 8000000 in
set_option maxRecDepth 100000 in
theorem frame_sum_add.calls (k : Nat) (g : Nat) (s0_0 : Int) (a1 : Int) (r : Int) (w0 w : World) (hI : IsS44 w0 w g s0_0) (hB : Below w0.heap.size w0 w) (h : frame_sum_add.f k s0_0 a1 = some r) :
  Calls Try.prog 24 #[.pointer (some ⟨g, 0, none⟩), .int .u8 a1] w fun e w' => e = .returned (.tuple #[]) ∧ IsS44 w0 w' g r ∧ Below w0.heap.size w0 w' ∧ KeepBut w w' g none := by
 have HI0 := Aside0.mk hI
 have HK := Aside0.mk (KeepBut.refl w g none)
 have HL := Aside0.mk hB.size
 clear hI
 have HW0 := Aside0.mk hB.size
 have HB := Aside0.mk hB
 clear hB
 have H : (frame_sum_add.l0 k 0 (Go.bits .xor .u32 s0_0 ((a1) % 4294967296))) = some r := h
 clear h
 have H' := Aside0.mk H
 clear H
 obtain ⟨HGz3, hgz3⟩ := HI0.out
 have hcz3_0 := cellS44_0 HGz3
 have hfz3_0 := blk_frozen HGz3 0
 clear HGz3 hgz3
 go_enter Try.func24, Try.ntmps24
 go_wp2
 go_loopg [14] k (fun kq v14 w' => ∃ (x14_1 : Int) (x1000_1 : Int), v14 = .int .i64 x14_1 ∧ Aside0 (frame_sum_add.l0 kq x14_1 x1000_1 = some r) ∧ Aside0 (kq ≤ k) ∧ Aside0 (IsS44 w0 w' g x1000_1) ∧ Aside0 (KeepBut w w' g none) ∧ Aside0 (Below w0.heap.size w0 w'))
 case atStart => exact ⟨(0), (Go.bits .xor .u32 s0_0 ((a1) % 4294967296)), (by first | rfl | (simp; done) | (simp [*]; done)), H', ⟨Nat.le_refl _⟩, ⟨by repeat (first | (with_reducible first | exact HI0.out | apply IsS44.alloc | apply IsS44.drewN | apply IsS44.drew | apply IsS44.set_0) | exact HI0.out)⟩, ⟨by repeat (first | (with_reducible first | exact HK.out | apply KeepBut.set_ | apply keep_drewN | apply keep_drew | apply keep_alloc) | exact HK.out)⟩, ⟨by repeat (first | (with_reducible first | exact HB.out | apply below_alloc | apply pw_below_drewN | apply below_drew1 | refine below_set ?_ (IsS44.ge HI0.out)) | exact HB.out)⟩⟩
 case round =>
  clear H'
  try clear c2
  try clear p2
  try clear hcz3_0
  try clear hfz3_0
  obtain ⟨x14_1, x1000_1, rfl, HA, HK1, HI0, HK, HB⟩ := hrel
  cases gk with
  | zero => exact absurd HA.out (by simp [frame_sum_add.l0])
  | succ k1 =>
   have H := HA.out
   clear HA
   simp only [frame_sum_add.l0] at H
   by_cases c4 : x14_1 < 8
   ·rw [if_pos c4] at H
    have c4b0 : decide (x14_1 < 8) = true := decide_eq_true c4
    clear c4
    by_cases c5 : (Go.bits .and .u32 x1000_1 1) = 1
    ·rw [if_pos c5] at H
     have c5b0 : ((Go.bits .and .u32 x1000_1 1) == 1) = true := beq_iff_eq.mpr c5
     have c5b1 : ((Go.bits .and .u32 x1000_1 1) != 1) = false := bne_eq_false_iff_eq.mpr c5
     clear c5
     have H' := Aside0.mk H
     clear H
     obtain ⟨HGz6, hgz6⟩ := HI0.out
     have hcz6_0 := cellS44_0 HGz6
     have hfz6_0 := blk_frozen HGz6 0
     clear HGz6 hgz6
     go_wp2
     go_roundg k1
     case measure => have := HK1.out; omega
     case rel => exact ⟨(wrap64 (x14_1 + 1)), (Go.bits .xor .u32 (x1000_1 / 2) 2197175160), (by first | rfl | (simp; done) | (simp [*]; done)), H', ⟨by have := HK1.out; omega⟩, ⟨by repeat (first | (with_reducible first | exact HI0.out | apply IsS44.alloc | apply IsS44.drewN | apply IsS44.drew | apply IsS44.set_0) | exact HI0.out)⟩, ⟨by repeat (first | (with_reducible first | exact HK.out | apply KeepBut.set_ | apply keep_drewN | apply keep_drew | apply keep_alloc) | exact HK.out)⟩, ⟨by repeat (first | (with_reducible first | exact HB.out | apply below_alloc | apply pw_below_drewN | apply below_drew1 | refine below_set ?_ (IsS44.ge HI0.out)) | exact HB.out)⟩⟩
    ·rw [if_neg c5] at H
     have c5b0 : ((Go.bits .and .u32 x1000_1 1) == 1) = false := beq_eq_false_iff_ne.mpr c5
     have c5b1 : ((Go.bits .and .u32 x1000_1 1) != 1) = true := bne_iff_ne.mpr c5
     have H' := Aside0.mk H
     clear H
     obtain ⟨HGz7, hgz7⟩ := HI0.out
     have hcz7_0 := cellS44_0 HGz7
     have hfz7_0 := blk_frozen HGz7 0
     clear HGz7 hgz7
     go_wp2
     go_roundg k1
     case measure => have := HK1.out; omega
     case rel => exact ⟨(wrap64 (x14_1 + 1)), (x1000_1 / 2), (by first | rfl | (simp; done) | (simp [*]; done)), H', ⟨by have := HK1.out; omega⟩, ⟨by repeat (first | (with_reducible first | exact HI0.out | apply IsS44.alloc | apply IsS44.drewN | apply IsS44.drew | apply IsS44.set_0) | exact HI0.out)⟩, ⟨by repeat (first | (with_reducible first | exact HK.out | apply KeepBut.set_ | apply keep_drewN | apply keep_drew | apply keep_alloc) | exact HK.out)⟩, ⟨by repeat (first | (with_reducible first | exact HB.out | apply below_alloc | apply pw_below_drewN | apply below_drew1 | refine below_set ?_ (IsS44.ge HI0.out)) | exact HB.out)⟩⟩
   ·rw [if_neg c4] at H
    have c4b0 : decide (x14_1 < 8) = false := decide_eq_false c4
    clear c4
    obtain rfl := Option.some.inj H
    go_wp2
    first | go_end0 | ((try simp only [Exit.inBlock, Exit.then]); refine bodyPost_ret (results_none rfl _ _ _) rfl ?_)
    exact ⟨by first | rfl | (simp [errW_none, errW_some] <;> rfl) | (simp [*, errW_none, errW_some] <;> rfl), by repeat (first | (with_reducible first | exact HI0.out | apply IsS44.alloc | apply IsS44.drewN | apply IsS44.drew | apply IsS44.set_0) | exact HI0.out), by repeat (first | (with_reducible first | exact HB.out | apply below_alloc | apply pw_below_drewN | apply below_drew1 | refine below_set ?_ (IsS44.ge HI0.out)) | exact HB.out), by repeat (first | (with_reducible first | exact HK.out | apply KeepBut.set_ | apply keep_drewN | apply keep_drew | apply keep_alloc) | exact HK.out)⟩

/-! ### frame_Sum: function 15 -/
theorem arrC_of {W : World} {g : Nat} {T : TypeId} {a b c d : Int} (h : W.heap[g]? = some (.cells #[.int .u8 a, .int .u8 b, .int .u8 c, .int .u8 d] T (0, 0))) : Kd.C (Kd.int .u8) W (some ⟨g, 0, none⟩) 4 [a, b, c, d] := by
 refine ⟨rfl, by decide, fun _ => ⟨_, rfl, fun j p hp => ?_⟩⟩
 refine ⟨[.int .u8 p], rfl, rfl, fun i u hu => ?_⟩
 have hi : i = 0 := by have := (List.getElem?_eq_some_iff.1 hu).1; simp at this; omega
 subst hi
 simp only [List.getElem?_cons_zero, Option.some.injEq] at hu
 subst hu
 have hj := (List.getElem?_eq_some_iff.1 hp).1
 simp only [List.length_cons, List.length_nil] at hj
 have e : (⟨g, 0, none⟩ : Addr).add (j * (Kd.int .u8).sz + 0) = ⟨g, j, none⟩ := by rw [add_plain]; show (⟨g, j * 1 + 0, none⟩ : Addr) = _; simp
 rw [e, blk_cell h j]
 have : j = 0 ∨ j = 1 ∨ j = 2 ∨ j = 3 := by omega
 rcases this with rfl | rfl | rfl | rfl <;> simp at hp <;> subst hp <;> rfl
def frame_Sum.l0 : Nat → List Int → Int → Int → Option (Int)
 | 0, _, _, _ => none
 | k + 1, x0, x8, x1000 => if x8 < (x0.length : Int) then (if 0 ≤ x8 then ((frame_sum_add.f k x1000 (rd x0 x8)).bind fun t1 => (frame_Sum.l0 k x0 (wrap64 (x8 + 1)) t1)) else (none)) else (some x1000)
def frame_Sum.f (k : Nat) (l0 : List Int) : Option (Int) := (frame_Sum.l0 k l0 0 4294967295).bind fun t1 => (some (Go.bits .xor .u32 IntKind.u32.max t1))
theorem frame_Sum.mono_l : ∀ k, (∀ y0 y1 y2, LeO (frame_Sum.l0 k y0 y1 y2) (frame_Sum.l0 (k + 1) y0 y1 y2))
 | 0 => fun _ _ _ r h => by simp [frame_Sum.l0] at h
 | k + 1 => by
  have ih0 := frame_Sum.mono_l k
  ·intro y0 y1 y2
   unfold frame_Sum.l0
   repeat' first
   | (with_reducible exact ih0 _ _ _)
   | (with_reducible exact frame_sum_add.mono _ _ _)
   | (with_reducible exact LeO.refl _)
   | (with_reducible exact LeO.none _)
   | (with_reducible refine LeO.ite ?_ ?_)
   | (with_reducible refine LeO.bind ?_ (fun _ => ?_))
   | exact ih0 _ _ _
   | exact frame_sum_add.mono _ _ _
   | exact LeO.none _
   | refine LeO.ite ?_ ?_
   | refine LeO.bind ?_ (fun _ => ?_)
theorem frame_Sum.mono : ∀ a0 k, LeO (frame_Sum.f k a0) (frame_Sum.f (k + 1) a0) := by
 intro a0 k
 have ih0 := frame_Sum.mono_l k
 unfold frame_Sum.f
 repeat' first
   | (with_reducible exact ih0 _ _ _)
   | (with_reducible exact frame_sum_add.mono _ _ _)
   | (with_reducible exact LeO.refl _)
   | (with_reducible exact LeO.none _)
   | (with_reducible refine LeO.ite ?_ ?_)
   | (with_reducible refine LeO.bind ?_ (fun _ => ?_))
   | exact ih0 _ _ _
   | exact frame_sum_add.mono _ _ _
   | exact LeO.none _
   | refine LeO.ite ?_ ?_
   | refine LeO.bind ?_ (fun _ => ?_)
set_option maxHeartbeats 8000000 in
set_option maxRecDepth 100000 in
theorem frame_Sum.each (k : Nat) (g : Nat) (A0 : Option Addr) (c0 : Nat) (l0 : List Int) (s r : Int) (w0 w : World) (hr0 : Kd.C (Kd.int .u8) w0 A0 l0.length l0) (hI : IsS44 w0 w g s) (hB : Below w0.heap.size w0 w) (h : frame_Sum.l0 k l0 0 s = some r) :
  Calls Try.prog 23 #[.slice A0 l0.length c0, .func (.func 24) #[.pointer (some ⟨g, 0, none⟩)] #[]] w fun e w' => e = .returned (.tuple #[]) ∧ IsS44 w0 w' g r ∧ Below w0.heap.size w0 w' := by
 have HI0 := Aside0.mk hI
 have HB := Aside0.mk hB
 have H' := Aside0.mk h
 have HR := Aside0.mk hr0
 clear hI hB h hr0
 go_enter Try.func23, Try.ntmps23
 go_wp2
 go_loopg [8] k (fun kq v8 w' => ∃ (x8_1 : Int) (x1000_1 : Int), v8 = .int .i64 x8_1 ∧ Aside0 (frame_Sum.l0 kq l0 x8_1 x1000_1 = some r) ∧ Aside0 (kq ≤ k) ∧ Aside0 (IsS44 w0 w' g x1000_1) ∧ Aside0 (Below w0.heap.size w0 w'))
 case atStart => exact ⟨0, s, rfl, H', ⟨Nat.le_refl _⟩, HI0, HB⟩
 case round =>
  clear H'
  obtain ⟨x8_1, x1000_1, rfl, HA, HK1, HI0, HB⟩ := hrel
  cases gk with
  | zero => exact absurd HA.out (by simp [frame_Sum.l0])
  | succ k1 =>
   have H := HA.out
   clear HA
   simp only [frame_Sum.l0] at H
   by_cases c3 : x8_1 < (l0.length : Int)
   ·rw [if_pos c3] at H
    by_cases c4 : 0 ≤ x8_1
    ·rw [if_pos c4] at H
     have c3b := decide_eq_true c3
     have c4b := decide_eq_true c4
     obtain ⟨t1, A1, H⟩ := Option.bind_eq_some_iff.mp H
     have A1 := Aside0.mk A1
     have H := Aside0.mk H
     obtain ⟨ad, e, hx⟩ := Kd.at_int (Kd.C_below HR.out HB.out) x8_1 c4 c3
     cases e
     replace c3 := eq_true c3
     replace c4 := eq_true c4
     go_wp2_with (first | (go_at_call 24; (refine (frame_sum_add.calls k1 g x1000_1 (rd l0 x8_1) t1 w0 _ ?side1 ?side2 A1.out).mono ?_); (case side1 => exact HI0.out); (case side2 => exact HB.out); rintro e w2 ⟨rfl, hi2, hb2, hk2⟩; clear hk2; clear HI0; clear HB; have HI0 := Aside0.mk hi2; have HB := Aside0.mk hb2; clear hi2 hb2))
     go_roundg k1
     case measure => have := HK1.out; omega
     case rel => exact ⟨wrap64 (x8_1 + 1), t1, (by first | rfl | (simp; done) | (simp [*]; done)), H, ⟨by have := HK1.out; omega⟩, HI0, HB⟩
    ·rw [if_neg c4] at H; cases H
   ·rw [if_neg c3] at H
    have c3b := decide_eq_false c3
    clear c3
    obtain rfl := Option.some.inj H
    clear H
    go_wp2
    first | go_end0 | ((try simp only [Exit.inBlock, Exit.then]); refine bodyPost_ret (results_none rfl _ _ _) rfl ?_)
    exact ⟨rfl, HI0.out, HB.out⟩
set_option maxHeartbeats 8000000 in
set_option maxRecDepth 100000 in
theorem frame_Sum.calls (k : Nat) (A0 : Option Addr) (c0 : Nat) (l0 : List Int) (r : Int) (w : World) (hr0 : Kd.C (Kd.int .u8) w A0 l0.length l0) (_hc0 : l0.length ≤ c0) (h : frame_Sum.f k l0 = some r) :
  Calls Try.prog 15 #[.slice A0 l0.length c0] w fun e w' => e = .returned (.int .u32 r) ∧ Below w.heap.size w w' := by
 have HB := Aside0.mk (Below.refl w.heap.size w)
 have H : ((frame_Sum.l0 k l0 0 4294967295).bind fun t1 => (some (Go.bits .xor .u32 IntKind.u32.max t1))) = some r := h
 clear h
 obtain ⟨t1, A1, H⟩ := Option.bind_eq_some_iff.mp H
 have A1 := Aside0.mk A1
 obtain rfl := Option.some.inj H
 clear H
 have HR := Aside0.mk hr0
 clear hr0
 go_enter Try.func15, Try.ntmps15
 go_wp2_with (first | (go_at_call 23; (refine (frame_Sum.each k w.heap.size A0 c0 l0 4294967295 t1 w _ ?side1 ?side2 ?side3 A1.out).mono ?_); (case side1 => exact HR.out); (case side2 => exact ⟨heap_alloc_new w _, Nat.le_refl _⟩); (case side3 => exact below_alloc HB.out _); rintro e w2 ⟨rfl, ⟨HG, hge⟩, hb2⟩; have hcz := cellS44_0 HG; have hfz := blk_frozen HG 0))
 go_ret
 exact ⟨rfl, hb2⟩

/-! ### vint_Get: function 17 -/
mutual
def vint_Get.j0 : Nat → List Int → Int → Bool → Option (Int × Int × Int)
 | 0, _, _, _ => none
 | k + 1, x0, x1, x17 => if x17 = true then (some (0, 0, 1)) else (vint_Get.l0 k x0 x1 0 (mn 5 (wrap64 ((x0.length : Int) - x1))) 0)
def vint_Get.l0 : Nat → List Int → Int → Int → Int → Int → Option (Int × Int × Int)
 | 0, _, _, _, _, _ => none
 | k + 1, x0, x1, x7, x22, x23 => if x23 < x22 then (if 0 ≤ (wrap64 (x1 + x23)) then (if (wrap64 (x1 + x23)) < (x0.length : Int) then (if 0 ≤ (wrap64 (7 * x23)) then (if (rd x0 (wrap64 (x1 + x23))) ≥ 128 then (vint_Get.l0 k x0 x1 (Go.bits .or .i64 x7 (shl .i64 (wrap64 (Int.tmod (rd x0 (wrap64 (x1 + x23))) 128)) (wrap64 (7 * x23)))) x22 (wrap64 (x23 + 1))) else (if (rd x0 (wrap64 (x1 + x23))) = 0 then (if x23 > 0 then (some (0, 0, 5)) else (some (Go.bits .or .i64 x7 (shl .i64 (wrap64 (Int.tmod (rd x0 (wrap64 (x1 + x23))) 128)) (wrap64 (7 * x23))), wrap64 ((wrap64 (x1 + x23)) + 1), 0))) else (some (Go.bits .or .i64 x7 (shl .i64 (wrap64 (Int.tmod (rd x0 (wrap64 (x1 + x23))) 128)) (wrap64 (7 * x23))), wrap64 ((wrap64 (x1 + x23)) + 1), 0)))) else (none)) else (none)) else (none)) else (some (0, 0, 5))
end
def vint_Get.f (k : Nat) (l0 : List Int) (a1 : Int) : Option (Int × Int × Int) := if a1 < 0 then (vint_Get.j0 k l0 a1 true) else (vint_Get.j0 k l0 a1 (decide (a1 > (l0.length : Int))))
theorem vint_Get.mono_l : ∀ k, (∀ y0 y1 y2, LeO (vint_Get.j0 k y0 y1 y2) (vint_Get.j0 (k + 1) y0 y1 y2)) ∧ (∀ y0 y1 y2 y3 y4, LeO (vint_Get.l0 k y0 y1 y2 y3 y4) (vint_Get.l0 (k + 1) y0 y1 y2 y3 y4))
 | 0 => ⟨fun _ _ _ r h => by simp [vint_Get.j0] at h, fun _ _ _ _ _ r h => by simp [vint_Get.l0] at h⟩
 | k + 1 => by
  obtain ⟨ih0, ih1⟩ := vint_Get.mono_l k
  refine ⟨?_, ?_⟩
  ·intro y0 y1 y2
   unfold vint_Get.j0
   repeat' first
   | (with_reducible exact ih0 _ _ _)
   | (with_reducible exact ih1 _ _ _ _ _)
   | (with_reducible exact LeO.refl _)
   | (with_reducible exact LeO.none _)
   | (with_reducible refine LeO.ite ?_ ?_)
   | (with_reducible refine LeO.bind ?_ (fun _ => ?_))
   | exact ih0 _ _ _
   | exact ih1 _ _ _ _ _
   | exact LeO.none _
   | refine LeO.ite ?_ ?_
   | refine LeO.bind ?_ (fun _ => ?_)
  ·intro y0 y1 y2 y3 y4
   unfold vint_Get.l0
   repeat' first
   | (with_reducible exact ih0 _ _ _)
   | (with_reducible exact ih1 _ _ _ _ _)
   | (with_reducible exact LeO.refl _)
   | (with_reducible exact LeO.none _)
   | (with_reducible refine LeO.ite ?_ ?_)
   | (with_reducible refine LeO.bind ?_ (fun _ => ?_))
   | exact ih0 _ _ _
   | exact ih1 _ _ _ _ _
   | exact LeO.none _
   | refine LeO.ite ?_ ?_
   | refine LeO.bind ?_ (fun _ => ?_)
theorem vint_Get.mono : ∀ a0 a1 k, LeO (vint_Get.f k a0 a1) (vint_Get.f (k + 1) a0 a1) := by
 intro a0 a1 k
 obtain ⟨ih0, ih1⟩ := vint_Get.mono_l k
 unfold vint_Get.f
 repeat' first
   | (with_reducible exact ih0 _ _ _)
   | (with_reducible exact ih1 _ _ _ _ _)
   | (with_reducible exact LeO.refl _)
   | (with_reducible exact LeO.none _)
   | (with_reducible refine LeO.ite ?_ ?_)
   | (with_reducible refine LeO.bind ?_ (fun _ => ?_))
   | exact ih0 _ _ _
   | exact ih1 _ _ _ _ _
   | exact LeO.none _
   | refine LeO.ite ?_ ?_
   | refine LeO.bind ?_ (fun _ => ?_)
set_option maxHeartbeats 8000000 in
set_option maxRecDepth 100000 in
theorem vint_Get.calls (k : Nat) (A0 : Option Addr) (c0 : Nat) (l0 : List Int) (a1 : Int) (r1 : Int) (r2 : Int) (r3 : Int) (w : World) (hr0 : Kd.C (Kd.int .u8) w A0 l0.length l0) (hc0 : l0.length ≤ c0) (h : vint_Get.f k l0 a1 = some (r1, r2, r3)) :
  Calls Try.prog 17 #[.slice A0 l0.length c0, .int .i64 a1] w fun e w' => e = .returned (.tuple #[.int .i64 r1, .int .i64 r2, .int .i64 r3]) ∧ Below w.heap.size w w' := by
 have HR0 := Aside0.mk hr0
 have HC0 := Aside0.mk hc0
 clear hr0 hc0
 have HB := Aside0.mk (Below.refl w.heap.size w)
 have H : (if a1 < 0 then (vint_Get.j0 k l0 a1 true) else (vint_Get.j0 k l0 a1 (decide (a1 > (l0.length : Int))))) = some (r1, r2, r3) := h
 clear h
 have HC3 := Aside0.mk H
 clear H
 go_enter Try.func17, Try.ntmps17
 go_upto_region 1 with (fail)
 go_cut [17] (fun v17 wc => ∃ (kq : Nat) (x17_2 : Bool), v17 = .bool x17_2 ∧ Aside0 (vint_Get.j0 kq l0 a1 x17_2 = some (r1, r2, r3)) ∧ Aside0 (kq ≤ k) ∧ Aside0 (Below w.heap.size w wc))
 case first =>
  have H := HC3.out
  clear HC3
  by_cases c4 : a1 < 0
  ·rw [if_pos c4] at H
   have c4b0 : decide (a1 < 0) = true := decide_eq_true c4
   clear c4
   (first | rw [c4b0] | (simp only [i64_w, i32_w]; rw [c4b0]) | skip)
   have H' := Aside0.mk H
   clear H
   go_wp2
   go_meet
   case rel => exact ⟨_, (true), (by first | rfl | (simp; done) | (simp [*]; done)), H', ⟨by first | omega | exact Nat.le_refl _⟩, ⟨by repeat (first | (with_reducible first | exact HB.out | apply below_alloc | apply pw_below_drewN | apply below_drew1) | exact HB.out)⟩⟩
  ·rw [if_neg c4] at H
   have c4b0 : decide (a1 < 0) = false := decide_eq_false c4
   clear c4
   (first | rw [c4b0] | (simp only [i64_w, i32_w]; rw [c4b0]) | skip)
   have H' := Aside0.mk H
   clear H
   go_wp2
   go_meet
   case rel => exact ⟨_, (decide (a1 > (l0.length : Int))), (by first | rfl | (simp; done) | (simp [*]; done)), H', ⟨by first | omega | exact Nat.le_refl _⟩, ⟨by repeat (first | (with_reducible first | exact HB.out | apply below_alloc | apply pw_below_drewN | apply below_drew1) | exact HB.out)⟩⟩
 case rest =>
  clear HC3
  try clear c1
  try clear p2
  try clear c4
  try clear c4b0
  obtain ⟨kq, x17_2, rfl, HA, HJ2, HB⟩ := hcut
  cases kq with
  | zero => exact absurd HA.out (by simp [vint_Get.j0])
  | succ kj2 =>
   have H := HA.out
   clear HA
   simp only [vint_Get.j0] at H
   by_cases c5 : x17_2 = true
   ·subst c5
    have H1 : (some (0, 0, 1)) = some (r1, r2, r3) := by rw [if_pos rfl] at H; exact H
    clear H
    have H := H1
    clear H1
    simp only [Option.some.injEq, Prod.mk.injEq] at H
    obtain ⟨rfl, rfl, rfl⟩ := H
    go_wp2
    go_ret3
    exact ⟨by first | rfl | (simp [errW_none, errW_some] <;> rfl) | (simp [*, errW_none, errW_some] <;> rfl), by repeat (first | (with_reducible first | exact HB.out | apply below_alloc | apply pw_below_drewN | apply below_drew1) | exact HB.out)⟩
   ·replace c5 := Bool.eq_false_iff.mpr c5
    subst c5
    have H1 : (vint_Get.l0 kj2 l0 a1 0 (mn 5 (wrap64 ((l0.length : Int) - a1))) 0) = some (r1, r2, r3) := by rw [if_neg (show ¬ (false = true) by decide)] at H; exact H
    clear H
    have H := H1
    clear H1
    obtain ⟨ji6, hji6⟩ : ∃ j_ : Int, (mn 5 (wrap64 ((l0.length : Int) - a1))) = j_ := ⟨_, rfl⟩
    replace H : (vint_Get.l0 kj2 l0 a1 0 ji6 0) = some (r1, r2, r3) := by first | (rw [hji6] at H; exact H) | (simp only [hji6] at H ⊢; exact H)
    have hji6_ : (if (wrap64 ((l0.length : Int) - a1)) < 5 then (wrap64 ((l0.length : Int) - a1)) else 5) = ji6 := hji6
    have H' := Aside0.mk H
    clear H
    go_wp2
    go_loopg [7, 23] kj2 (fun kq v7 v23 w' => ∃ (x7_2 : Int) (x23_2 : Int), v7 = .int .i64 x7_2 ∧ v23 = .int .i64 x23_2 ∧ Aside0 (vint_Get.l0 kq l0 a1 x7_2 ji6 x23_2 = some (r1, r2, r3)) ∧ Aside0 (kq ≤ kj2) ∧ Aside0 (Below w.heap.size w w'))
    case atStart => exact ⟨(0), (0), (by first | rfl | (simp; done) | (simp [*]; done)), (by first | rfl | (simp; done) | (simp [*]; done)), H', ⟨Nat.le_refl _⟩, ⟨by repeat (first | (with_reducible first | exact HB.out | apply below_alloc | apply pw_below_drewN | apply below_drew1) | exact HB.out)⟩⟩
    case round =>
     clear H'
     try clear c1
     try clear p2
     try clear c4
     try clear c4b0
     try clear c5
     try clear p6
     try clear p2
     obtain ⟨x7_2, x23_2, rfl, rfl, HA, HK2, HB⟩ := hrel
     cases gk with
     | zero => exact absurd HA.out (by simp [vint_Get.l0])
     | succ k2 =>
      have H := HA.out
      clear HA
      simp only [vint_Get.l0] at H
      by_cases c7 : x23_2 < ji6
      ·rw [if_pos c7] at H
       have c7b0 : decide (x23_2 < ji6) = true := decide_eq_true c7
       clear c7
       obtain ⟨ji8, hji8⟩ : ∃ j_ : Int, (wrap64 (a1 + x23_2)) = j_ := ⟨_, rfl⟩
       replace H : (if 0 ≤ (ji8) then (if (ji8) < (l0.length : Int) then (if 0 ≤ (wrap64 (7 * x23_2)) then (if (rd l0 (ji8)) ≥ 128 then (vint_Get.l0 k2 l0 a1 (Go.bits .or .i64 x7_2 (shl .i64 (wrap64 (Int.tmod (rd l0 (ji8)) 128)) (wrap64 (7 * x23_2)))) ji6 (wrap64 (x23_2 + 1))) else (if (rd l0 (ji8)) = 0 then (if x23_2 > 0 then (some (0, 0, 5)) else (some (Go.bits .or .i64 x7_2 (shl .i64 (wrap64 (Int.tmod (rd l0 (ji8)) 128)) (wrap64 (7 * x23_2))), wrap64 ((ji8) + 1), 0))) else (some (Go.bits .or .i64 x7_2 (shl .i64 (wrap64 (Int.tmod (rd l0 (ji8)) 128)) (wrap64 (7 * x23_2))), wrap64 ((ji8) + 1), 0)))) else (none)) else (none)) else (none)) = some (r1, r2, r3) := by first | (rw [hji8] at H; exact H) | (simp only [hji8] at H ⊢; exact H)
       have hji8w : (IntKind.i64.wrap (a1 + x23_2)) = ji8 := (i64_w _).trans hji8
       by_cases c9 : 0 ≤ (ji8)
       ·rw [if_pos c9] at H
        have c9b0 : decide (0 ≤ (ji8)) = true := decide_eq_true c9
        clear c9
        by_cases c10 : (ji8) < (l0.length : Int)
        ·rw [if_pos c10] at H
         have c10b0 : decide ((ji8) < (l0.length : Int)) = true := decide_eq_true c10
         clear c10
         obtain ⟨ji11, hji11⟩ : ∃ j_ : Int, (wrap64 (7 * x23_2)) = j_ := ⟨_, rfl⟩
         replace H : (if 0 ≤ (ji11) then (if (rd l0 (ji8)) ≥ 128 then (vint_Get.l0 k2 l0 a1 (Go.bits .or .i64 x7_2 (shl .i64 (wrap64 (Int.tmod (rd l0 (ji8)) 128)) (ji11))) ji6 (wrap64 (x23_2 + 1))) else (if (rd l0 (ji8)) = 0 then (if x23_2 > 0 then (some (0, 0, 5)) else (some (Go.bits .or .i64 x7_2 (shl .i64 (wrap64 (Int.tmod (rd l0 (ji8)) 128)) (ji11)), wrap64 ((ji8) + 1), 0))) else (some (Go.bits .or .i64 x7_2 (shl .i64 (wrap64 (Int.tmod (rd l0 (ji8)) 128)) (ji11)), wrap64 ((ji8) + 1), 0)))) else (none)) = some (r1, r2, r3) := by first | (rw [hji11] at H; exact H) | (simp only [hji11] at H ⊢; exact H)
         have hji11w : (IntKind.i64.wrap (7 * x23_2)) = ji11 := (i64_w _).trans hji11
         by_cases c12 : 0 ≤ (ji11)
         ·rw [if_pos c12] at H
          have c12b0 := eq_true c12
          have c12b1 : decide (0 ≤ (ji11)) = true := decide_eq_true c12
          clear c12
          obtain ⟨ji13, hji13⟩ : ∃ j_ : Int, (shl .i64 (wrap64 (Int.tmod (rd l0 (ji8)) 128)) (ji11)) = j_ := ⟨_, rfl⟩
          replace H : (if (rd l0 (ji8)) ≥ 128 then (vint_Get.l0 k2 l0 a1 (Go.bits .or .i64 x7_2 (ji13)) ji6 (wrap64 (x23_2 + 1))) else (if (rd l0 (ji8)) = 0 then (if x23_2 > 0 then (some (0, 0, 5)) else (some (Go.bits .or .i64 x7_2 (ji13), wrap64 ((ji8) + 1), 0))) else (some (Go.bits .or .i64 x7_2 (ji13), wrap64 ((ji8) + 1), 0)))) = some (r1, r2, r3) := by first | (rw [hji13] at H; exact H) | (simp only [hji13] at H ⊢; exact H)
          have hji13_ : (IntKind.i64.wrap ((wrap64 (Int.tmod (rd l0 (ji8)) 128)) * 2 ^ min (ji11).toNat 64)) = ji13 := hji13
          have hji13z : (ji11) ≤ 64 → (IntKind.i64.wrap ((wrap64 (Int.tmod (rd l0 (ji8)) 128)) * 2 ^ (ji11).toNat)) = ji13 := shl_small hji13
          have hji13y : (wrap64 ((wrap64 (Int.tmod (rd l0 (ji8)) 128)) * 2 ^ min (ji11).toNat 64)) = ji13 := (i64_w _).symm.trans hji13_
          have hji13x : (ji11) ≤ 64 → (wrap64 ((wrap64 (Int.tmod (rd l0 (ji8)) 128)) * 2 ^ (ji11).toNat)) = ji13 := fun h_ => (i64_w _).symm.trans (hji13z h_)
          by_cases c14 : (rd l0 (ji8)) ≥ 128
          ·rw [if_pos c14] at H
           have c14b0 : decide (128 ≤ (rd l0 (ji8))) = true := decide_eq_true c14
           clear c14
           have H' := Aside0.mk H
           clear H
           have p101 : 0 ≤ ((ji8) : Int) := of_decide_eq_true (by first | (with_reducible assumption) | assumption)
           have q101 : (ji8) < (l0.length : Int) := of_decide_eq_true (by first | (with_reducible assumption) | assumption)
           obtain ⟨ad101, e101, hx101_0⟩ := Kd.at_int HR0.out (ji8) p101 q101
           cases e101
           replace hx101_0 := (HB.out.cell (World.block_lt_of_cell? w _ hx101_0)).trans hx101_0
           replace p101 := eq_true p101
           replace q101 := eq_true q101
           go_wp2
           go_roundg k2
           case measure => have := HJ2.out; have := HK2.out; omega
           case rel => exact ⟨(Go.bits .or .i64 x7_2 (ji13)), (wrap64 (x23_2 + 1)), (by first | rfl | (simp; done) | (simp only [← hji13] <;> (first | rfl | simp)) | (simp [*]; done)), (by first | rfl | (simp; done) | (simp [*]; done)), H', ⟨by have := HJ2.out; have := HK2.out; omega⟩, ⟨by repeat (first | (with_reducible first | exact HB.out | apply below_alloc | apply pw_below_drewN | apply below_drew1) | exact HB.out)⟩⟩
          ·rw [if_neg c14] at H
           have c14b0 : decide (128 ≤ (rd l0 (ji8))) = false := decide_eq_false c14
           clear c14
           by_cases c15 : (rd l0 (ji8)) = 0
           ·rw [if_pos c15] at H
            have c15b0 : ((rd l0 (ji8)) == 0) = true := beq_iff_eq.mpr c15
            have c15b1 : ((rd l0 (ji8)) != 0) = false := bne_eq_false_iff_eq.mpr c15
            clear c15
            by_cases c16 : x23_2 > 0
            ·rw [if_pos c16] at H
             have c16b0 : decide (0 < x23_2) = true := decide_eq_true c16
             clear c16
             simp only [Option.some.injEq, Prod.mk.injEq] at H
             obtain ⟨rfl, rfl, rfl⟩ := H
             have p101 : 0 ≤ ((ji8) : Int) := of_decide_eq_true (by first | (with_reducible assumption) | assumption)
             have q101 : (ji8) < (l0.length : Int) := of_decide_eq_true (by first | (with_reducible assumption) | assumption)
             obtain ⟨ad101, e101, hx101_0⟩ := Kd.at_int HR0.out (ji8) p101 q101
             cases e101
             replace hx101_0 := (HB.out.cell (World.block_lt_of_cell? w _ hx101_0)).trans hx101_0
             replace p101 := eq_true p101
             replace q101 := eq_true q101
             go_wp2
             go_ret3
             exact ⟨by first | rfl | (simp [errW_none, errW_some] <;> rfl) | (simp only [← hji6, ← hji8, ← hji11, ← hji13]; first | rfl | (simp [errW_none, errW_some] <;> rfl)) | (simp [*, errW_none, errW_some] <;> rfl), by repeat (first | (with_reducible first | exact HB.out | apply below_alloc | apply pw_below_drewN | apply below_drew1) | exact HB.out)⟩
            ·rw [if_neg c16] at H
             have c16b0 : decide (0 < x23_2) = false := decide_eq_false c16
             clear c16
             simp only [Option.some.injEq, Prod.mk.injEq] at H
             obtain ⟨rfl, rfl, rfl⟩ := H
             have p101 : 0 ≤ ((ji8) : Int) := of_decide_eq_true (by first | (with_reducible assumption) | assumption)
             have q101 : (ji8) < (l0.length : Int) := of_decide_eq_true (by first | (with_reducible assumption) | assumption)
             obtain ⟨ad101, e101, hx101_0⟩ := Kd.at_int HR0.out (ji8) p101 q101
             cases e101
             replace hx101_0 := (HB.out.cell (World.block_lt_of_cell? w _ hx101_0)).trans hx101_0
             replace p101 := eq_true p101
             replace q101 := eq_true q101
             go_wp2
             go_ret3
             exact ⟨by first | rfl | (simp [errW_none, errW_some] <;> rfl) | (simp only [← hji6, ← hji8, ← hji11, ← hji13]; first | rfl | (simp [errW_none, errW_some] <;> rfl)) | (simp [*, errW_none, errW_some] <;> rfl), by repeat (first | (with_reducible first | exact HB.out | apply below_alloc | apply pw_below_drewN | apply below_drew1) | exact HB.out)⟩
           ·rw [if_neg c15] at H
            have c15b0 : ((rd l0 (ji8)) == 0) = false := beq_eq_false_iff_ne.mpr c15
            have c15b1 : ((rd l0 (ji8)) != 0) = true := bne_iff_ne.mpr c15
            simp only [Option.some.injEq, Prod.mk.injEq] at H
            obtain ⟨rfl, rfl, rfl⟩ := H
            have p101 : 0 ≤ ((ji8) : Int) := of_decide_eq_true (by first | (with_reducible assumption) | assumption)
            have q101 : (ji8) < (l0.length : Int) := of_decide_eq_true (by first | (with_reducible assumption) | assumption)
            obtain ⟨ad101, e101, hx101_0⟩ := Kd.at_int HR0.out (ji8) p101 q101
            cases e101
            replace hx101_0 := (HB.out.cell (World.block_lt_of_cell? w _ hx101_0)).trans hx101_0
            replace p101 := eq_true p101
            replace q101 := eq_true q101
            go_wp2
            go_ret3
            exact ⟨by first | rfl | (simp [errW_none, errW_some] <;> rfl) | (simp only [← hji6, ← hji8, ← hji11, ← hji13]; first | rfl | (simp [errW_none, errW_some] <;> rfl)) | (simp [*, errW_none, errW_some] <;> rfl), by repeat (first | (with_reducible first | exact HB.out | apply below_alloc | apply pw_below_drewN | apply below_drew1) | exact HB.out)⟩
         ·rw [if_neg c12] at H
          exact absurd H (by simp)
        ·rw [if_neg c10] at H
         exact absurd H (by simp)
       ·rw [if_neg c9] at H
        exact absurd H (by simp)
      ·rw [if_neg c7] at H
       have c7b0 : decide (x23_2 < ji6) = false := decide_eq_false c7
       clear c7
       simp only [Option.some.injEq, Prod.mk.injEq] at H
       obtain ⟨rfl, rfl, rfl⟩ := H
       go_wp2
       go_ret3
       exact ⟨by first | rfl | (simp [errW_none, errW_some] <;> rfl) | (simp only [← hji6]; first | rfl | (simp [errW_none, errW_some] <;> rfl)) | (simp [*, errW_none, errW_some] <;> rfl), by repeat (first | (with_reducible first | exact HB.out | apply below_alloc | apply pw_below_drewN | apply below_drew1) | exact HB.out)⟩

/-! ### frame_of: function 18 -/
def frame_of.f (a0 : Int) : Option (Int × Int × Int × Int) := some ((a0) % 256, (a0 / 256) % 256, (a0 / 65536) % 256, (a0 / 16777216) % 256)
set_option maxHeartbeats 8000000 in
set_option maxRecDepth 100000 in
theorem frame_of.calls (a0 : Int) (r1 : Int) (r2 : Int) (r3 : Int) (r4 : Int) (w : World) (h : frame_of.f a0 = some (r1, r2, r3, r4)) :
  Calls Try.prog 18 #[.int .u32 a0] w fun e w' => e = .returned (.agg #[.int .u8 r1, .int .u8 r2, .int .u8 r3, .int .u8 r4]) ∧ Below w.heap.size w w' := by
 have hu33 := Try.underlying33
 have HB := Aside0.mk (Below.refl w.heap.size w)
 have H : (some ((a0) % 256, (a0 / 256) % 256, (a0 / 65536) % 256, (a0 / 16777216) % 256)) = some (r1, r2, r3, r4) := h
 clear h
 simp only [Option.some.injEq, Prod.mk.injEq] at H
 obtain ⟨rfl, rfl, rfl, rfl⟩ := H
 go_enter Try.func18, Try.ntmps18
 go_wp2_with (first | ((with_reducible refine gate_dst (N := 2) rfl ?_); refine box_event ?hg (N := 2) ?hd (cs := #[.int .u8 0, .int .u8 0, .int .u8 0, .int .u8 0]) (t := 33) ?hr ?_; (case hd => rfl); (case hg => rfl); (case hr => first | (go_simp; done) | (go_simp; rfl)); intro gb102 hg w2 hbox hb; have n0_ := Aside0.mk (below_step (by repeat (first | (with_reducible first | exact HB.out | apply below_alloc | apply pw_below_drewN | apply below_drew1) | exact HB.out)) hb); have n1_ := Aside0.mk (hbox); have n2_ := Aside0.mk ((by rw [hg]; exact (below_size (by repeat (first | (with_reducible first | exact HB.out | apply below_alloc | apply pw_below_drewN | apply below_drew1) | exact HB.out))) : w.heap.size ≤ gb102)); have n3_ := Aside0.mk ((by rw [hg]; exact (below_size (by repeat (first | (with_reducible first | exact HB.out | apply below_alloc | apply pw_below_drewN | apply below_drew1) | exact HB.out))) : w.heap.size ≤ gb102)); clear HB; have HB := n0_; have BK102 := n1_; have GW102 := n2_; have GE102 := n3_; clear n0_ n1_ n2_ n3_; clear hb hbox hg; have hcz3_0 : w2.cell? ⟨gb102, 0, none⟩ = some (.int .u8 0) := (blk_cell BK102.out 0).trans rfl; have hcz3_1 : w2.cell? ⟨gb102, 1, none⟩ = some (.int .u8 0) := (blk_cell BK102.out 1).trans rfl; have hcz3_2 : w2.cell? ⟨gb102, 2, none⟩ = some (.int .u8 0) := (blk_cell BK102.out 2).trans rfl; have hcz3_3 : w2.cell? ⟨gb102, 3, none⟩ = some (.int .u8 0) := (blk_cell BK102.out 3).trans rfl; have hfz3_0 := blk_frozen BK102.out 0; have hfz3_1 := blk_frozen BK102.out 1; have hfz3_2 := blk_frozen BK102.out 2; have hfz3_3 := blk_frozen BK102.out 3))
 refine bodyPost_ret (results_cell_row rfl _ _ gb102 33 #[.int .u8 ((a0) % 256), .int .u8 ((a0 / 256) % 256), .int .u8 ((a0 / 65536) % 256), .int .u8 ((a0 / 16777216) % 256)] (0, 0) _ rfl (by (with_reducible repeat (first | refine blk_drewN ?_ _ | refine blk_drew ?_ | refine blk_alloc ?_ _)); refine blk_put (cs := #[.int .u8 ((a0) % 256), .int .u8 ((a0 / 256) % 256), .int .u8 ((a0 / 65536) % 256), .int .u8 0]) ?_ 3 _ rfl; (with_reducible repeat (first | refine blk_drewN ?_ _ | refine blk_drew ?_ | refine blk_alloc ?_ _)); refine blk_put (cs := #[.int .u8 ((a0) % 256), .int .u8 ((a0 / 256) % 256), .int .u8 0, .int .u8 0]) ?_ 2 _ rfl; (with_reducible repeat (first | refine blk_drewN ?_ _ | refine blk_drew ?_ | refine blk_alloc ?_ _)); refine blk_put (cs := #[.int .u8 ((a0) % 256), .int .u8 0, .int .u8 0, .int .u8 0]) ?_ 1 _ rfl; (with_reducible repeat (first | refine blk_drewN ?_ _ | refine blk_drew ?_ | refine blk_alloc ?_ _)); refine blk_put (cs := #[.int .u8 0, .int .u8 0, .int .u8 0, .int .u8 0]) ?_ 0 _ rfl; (with_reducible repeat (first | refine blk_drewN ?_ _ | refine blk_drew ?_ | refine blk_alloc ?_ _)); exact BK102.out) Try.underlying33 rfl (by kernel_rfl)) rfl ?_
 exact ⟨by first | rfl | (simp [errW_none, errW_some] <;> rfl) | (simp [*, errW_none, errW_some] <;> rfl), by repeat (first | (with_reducible first | exact HB.out | apply below_alloc | apply pw_below_drewN | apply below_drew1 | refine below_set ?_ GE102.out) | exact HB.out)⟩

/-! ### slices_Clone_byte_byte: function 19 -/
def slices_Clone_byte_byte.f (l0 : List Int) : Option (List Int) := if l0.length < 140737488355328 then (some l0) else (none)
set_option maxHeartbeats 8000000 in
set_option maxRecDepth 100000 in
theorem slices_Clone_byte_byte.calls (A0 : Option Addr) (c0 : Nat) (l0 : List Int) (r : List Int) (w : World) (hr0 : Kd.C (Kd.int .u8) w A0 l0.length l0) (hc0 : l0.length ≤ c0) (h : slices_Clone_byte_byte.f l0 = some r) :
  Calls Try.prog 19 #[.slice A0 l0.length c0] w fun e w' => ∃ v0_ : Value, e = .returned (v0_) ∧ Kd.R (Kd.int .u8) 5 w' w.heap.size (fun _ => True) v0_ r ∧ Below w.heap.size w w' := by
 unfold slices_Clone_byte_byte.f at h
 split at h
 ·rename_i hl
  obtain rfl := Option.some.inj h
  clear h
  have hq : ∀ (w : World) (a : Option Addr) (n c n' c' : Nat), (binOp .eql 22 (.slice a n c) (.slice none n' c')).run Try.prog w = .ok (.bool a.isNone) w := fun w a n c n' c' => Lib.run_eql_slice_nil w _ _ a n c n' c' Try.underlying22
  obtain ⟨hlen, hbig, hcells⟩ := Kd.reads_of_C (d := (0 : Int)) (h1 := fun _ => rfl) (enc := (Value.int .u8)) hr0
  cases A0 with
  | none =>
   have h0 : l0 = [] := by
    rcases Nat.eq_zero_or_pos l0.length with h | h
    ·exact List.eq_nil_of_length_eq_zero h
    ·obtain ⟨ad, he, _⟩ := hcells h; cases he
   subst h0
   go_enter Try.func19, Try.ntmps19
   go_wp2
   go_ret
   exact ⟨_, rfl, Kd.R_nil _ _ _ _ _, Below.refl _ _⟩
  | some ad =>
   obtain ⟨i0, hi, hz0, hz1, hz2⟩ := info_parts info5
   have A := Aside0.mk hcells
   obtain ⟨news, hnews⟩ : ∃ news, Aside0 (news = l0.map (Value.int .u8)) := ⟨_, ⟨rfl⟩⟩
   have hnl : news.length = l0.length := by rw [hnews.out, List.length_map]
   clear hcells hr0
   go_enter Try.func19, Try.ntmps19
   go_wp2_with (at_builtin; refine wpList_append_own _ rfl _ _ 22 rfl w.heap.size 5 i0 (.int .u8 0) 1 1 Try.underlying22 hi hz0 hz1 hz2 rfl (by decide) _ _ _ rfl (World.ownsRow_made w #[] 0 (Nat.le_refl _) (Nat.zero_le _) rfl) ad l0.length c0 news rfl ?qc1 ?qc2 ?qc3 ?qc4 ?qc5 ?qc6 ?_)
   (try (case qc1 => rw [hnl, Nat.mul_one]))
   case qc2 =>
    intro j u hj
    have hjl := (List.getElem?_eq_some_iff.1 hj).1
    rw [hnl] at hjl
    rw [hnews.out] at hj
    obtain ⟨ad', he, hcell⟩ := A.out (by omega)
    obtain rfl : ad' = ad := by cases he; rfl
    refine Lib.cell?_alloc_some _ ?_
    rw [hcell j hjl]
    rw [List.getElem?_map, List.getElem?_eq_getElem hjl] at hj
    simp only [Option.map_some, Option.some.injEq] at hj
    rw [← hj, List.getD_eq_getElem?_getD, List.getElem?_eq_getElem hjl]
    rfl
   case qc3 => intro u hu; rw [hnews.out] at hu; obtain ⟨x, _, rfl⟩ := List.mem_map.1 hu; rfl
   case qc4 => unfold maxLen; omega
   case qc5 => omega
   (try (case qc6 => simp))
   intro v' w1 hown hgrow hnil
   go_wp2
   go_ret
   refine ⟨v', rfl, Kd.R_of_own (h1 := fun _ => rfl) (by rw [hnews.out] at hown; exact hown) (fun _ _ => trivial), ?_⟩
   exact ((Below.refl _ w).alloc (Nat.le_refl _) _).grown hgrow (by simp) (by intro k hk; simp [Value.ownBlock] at hk; omega)
 ·cases h

end Go.Proofs.Ytoedahdhlcagkaa.PFrameTurned
