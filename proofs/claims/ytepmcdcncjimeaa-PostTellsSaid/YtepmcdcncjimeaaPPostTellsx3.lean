-- LAID BY this session's own printer (wip/pr): Lean checks it
import Derived.Test.YtepmcdcncjimeaaPPostTellsx0
import Derived.Test.YtepmcdcncjimeaaPPostTellsx1
import Derived.Test.YtepmcdcncjimeaaPPostTellsx2
import Derived.Deep.RegionLaw
import Derived.Deep.RegionWith
import Derived.RangeFuncNested
import Derived.RangeFuncBound
import Derived.RangeFuncCalls
import Derived.RangeFuncLeaves
import Derived.RangeFuncFrom
import Derived.RangeFuncWrites
import Derived.RangeFuncBox
import Derived.Sort.LoopGhostIn
import Derived.OrdersIn
import Derived.TacticsInMore
import Derived.Shelf.Spec.SlicesInsert
import Derived.Shelf.Spec.SlicesInsertGrow
import Derived.Shelf.Abstract
import Derived.Test.YtepmcdcncjimeaaVList
namespace Go.Proofs.Ytepmcdcncjimeaa.PPostTells
open Go.RowKit Go.Proofs.YtepmcdcncjimeaaW.PrintWords Go.Proofs.YtepmcdcncjimeaaW.PrintLast Go.Proofs.YtepmcdcncjimeaaW.PrintMore
attribute [local go_sem] max2_int min2_int max_two min_two max_three min_three max_four min_four   -- for this text's walks alone
set_option linter.unusedVariables false
set_option linter.unusedSimpArgs false

/-! ### post_Put: function 12 -/
/-- A cursor's cells: its bytes, where it stands, whether it failed, and what lies behind. -/
def curO (A : Option Addr) (b : List Int) (c : Nat) (at_ : Int) (bad : Bool) (rest : List Value) (T : Nat) : Obj := .cells (.slice A b.length c :: .int .i64 at_ :: .bool bad :: rest).toArray T (0, 0)
theorem cur_c0 {w : World} {g T : Nat} {A : Option Addr} {b : List Int} {c : Nat} {at_ : Int} {bad : Bool} {rest : List Value} (h : w.heap[g]? = some (curO A b c at_ bad rest T)) : w.cell? ⟨g, 0, none⟩ = some (.slice A b.length c) := (blk_cell h 0).trans rfl
theorem cur_c1 {w : World} {g T : Nat} {A : Option Addr} {b : List Int} {c : Nat} {at_ : Int} {bad : Bool} {rest : List Value} (h : w.heap[g]? = some (curO A b c at_ bad rest T)) : w.cell? ⟨g, 1, none⟩ = some (.int .i64 at_) := (blk_cell h 1).trans rfl
theorem cur_c2 {w : World} {g T : Nat} {A : Option Addr} {b : List Int} {c : Nat} {at_ : Int} {bad : Bool} {rest : List Value} (h : w.heap[g]? = some (curO A b c at_ bad rest T)) : w.cell? ⟨g, 2, none⟩ = some (.bool bad) := (blk_cell h 2).trans rfl
theorem cur_f {w : World} {g T : Nat} {A : Option Addr} {b : List Int} {c : Nat} {at_ : Int} {bad : Bool} {rest : List Value} (h : w.heap[g]? = some (curO A b c at_ bad rest T)) (i : Nat) : w.frozen? ⟨g, i, none⟩ = false := blk_frozen h i
theorem cur_s1 {w : World} {g T : Nat} {A : Option Addr} {b : List Int} {c : Nat} {at_ : Int} {bad : Bool} {rest : List Value} (h : w.heap[g]? = some (curO A b c at_ bad rest T)) (x : Int) : (w.setCell ⟨g, 1, none⟩ (.int .i64 x)).heap[g]? = some (curO A b c x bad rest T) := blk_put h 1 _ (by simp)
theorem cur_s2 {w : World} {g T : Nat} {A : Option Addr} {b : List Int} {c : Nat} {at_ : Int} {bad : Bool} {rest : List Value} (h : w.heap[g]? = some (curO A b c at_ bad rest T)) (x : Bool) : (w.setCell ⟨g, 2, none⟩ (.bool x)).heap[g]? = some (curO A b c at_ x rest T) := blk_put h 2 _ (by simp)
theorem grown_set (w : World) (g i : Nat) (u : Value) : w.grownBy (w.setCell ⟨g, i, none⟩ u) (some g) := ⟨rfl, rfl, rfl, by simp [World.setCell], fun k _ hne => Below.heap_setCell w _ u k (fun e => hne (by rw [e]))⟩
theorem grown_trans {w w1 w2 : World} {r : Option Nat} (h : w.grownBy w1 r) (h2 : w1.grownBy w2 r) : w.grownBy w2 r := ⟨h2.os.trans h.os, h2.tape.trans h.tape, h2.output.trans h.output, Nat.le_trans h.size h2.size, fun k hk hne => (h2.block k (Nat.lt_of_lt_of_le hk h.size) hne).trans (h.block k hk hne)⟩
theorem grown_below {w w1 : World} (r : Option Nat) (h : Below w.heap.size w w1) : w.grownBy w1 r := ⟨h.os, h.tape, h.output, h.size, fun k hk _ => h.block k hk⟩

theorem set_size (w : World) (p : Addr) (u : Value) : (w.setCell p u).heap.size = w.heap.size := by simp [World.setCell]
theorem alloc_at (w : World) (o : Obj) (n : Nat) (h : n = w.heap.size) : (w.alloc o).heap[n]? = some o := by subst h; exact heap_alloc_new w o
theorem grown_own {w W w1 : World} {r row : Option Nat} (h : w.grownBy W r) (hg : W.grownBy w1 row) (hr : ∀ k, row = some k → w.heap.size ≤ k) : w.grownBy w1 r :=
 ⟨hg.os.trans h.os, hg.tape.trans h.tape, hg.output.trans h.output, Nat.le_trans h.size hg.size, fun k hk hne => (hg.block k (Nat.lt_of_lt_of_le hk h.size) (fun e => by have := hr k e.symm; omega)).trans (h.block k hk hne)⟩
theorem R_past {α : Type} {d : Kd α} {e : Nat} {w w1 : World} {base g : Nat} {v : Value} {xs : List α} (h : d.R e w base (fun _ => True) v xs) (hg : w.grownBy w1 (some g)) (hlt : g < base) : d.R e w1 base (fun _ => True) v xs :=
 Kd.R_mono (Kd.R_grown (Kd.R_bound h) hg (fun k hk e => by injection e with e; have := hk.2.1; omega)) (fun _ _ => trivial)
theorem S_past {α : Type} {d : Kd α} {e : Nat} {w w1 : World} {base g : Nat} {v : Value} {xs : List α} (h : Kd.S d e w base (fun _ => True) v xs) (hg : w.grownBy w1 (some g)) (hlt : g < base) : Kd.S d e w1 base (fun _ => True) v xs :=
 Kd.S_mono (Kd.S_grown (Kd.S_bound h) hg (fun k hk e => by injection e with e; have := hk.2.1; omega)) (fun _ _ => trivial)
theorem S_past2 {α : Type} {d : Kd α} {e : Nat} {w w1 : World} {base g : Nat} {v u : Value} {xs : List α} (h : Kd.S d e w base (fun _ => True) v xs) (hg : w.grownBy w1 (some g)) (hlt : g < base) (hu : ∀ k, u.ownBlock = some k → w.heap.size ≤ k) : Kd.S d e w1 base (fun k => True ∧ some k ≠ u.ownBlock) v xs :=
 Kd.S_mono (Kd.S_grown (Kd.S_bound h) hg (fun k hk e => by injection e with e; have := hk.2.1; omega)) (fun k hk => ⟨trivial, fun e => by have := hu k e.symm; have := hk.2.2.1; omega⟩)

section
open Go.Shelf
/-- Where the library's slices.Insert[[]int,int], and what it calls, lie in this program. -/
def insRho : Ren := ⟨fun n => if n = 21 then 31 else if n = 27 then 58 else if n = 28 then 59 else if n = 35 then 71 else if n = 39 then 74 else n, fun t => if t = 22 then 37 else t, fun g => g⟩
set_option maxRecDepth 100000 in
theorem ins_f21 : Try.prog.funcs[insRho.f 21]? = some (Body2.n21 insRho) := by
 refine Eq.trans (b := some Try.f31) Try.func31 ?_
 kernel_rfl
set_option maxRecDepth 100000 in
theorem ins_f27 : Try.prog.funcs[insRho.f 27]? = some (Body2.n27 insRho) := by
 refine Eq.trans (b := some Try.f58) Try.func58 ?_
 kernel_rfl
set_option maxRecDepth 100000 in
theorem ins_f28 : Try.prog.funcs[insRho.f 28]? = some (Body2.n28 insRho) := by
 refine Eq.trans (b := some Try.f59) Try.func59 ?_
 kernel_rfl
set_option maxRecDepth 100000 in
theorem ins_f35 : Try.prog.funcs[insRho.f 35]? = some (Body2.n35 insRho) := by
 refine Eq.trans (b := some Try.f71) Try.func71 ?_
 kernel_rfl
set_option maxRecDepth 100000 in
theorem ins_f39 : Try.prog.funcs[insRho.f 39]? = some (Body2.n39 insRho) := by
 refine Eq.trans (b := some Try.f74) Try.func74 ?_
 kernel_rfl
theorem insLays : Lays2.n21 Try.prog insRho :=
 ⟨(by kernel_rfl), (ins_f21), (ins_f27), (ins_f28), (ins_f35), (ins_f39), (Try.underlying0), (fun w => run_isAgg_plain Try.underlying0 rfl w), (fun w => by kernel_rfl), (fun w => by kernel_rfl), (Try.underlying3), (fun w => run_isAgg_plain Try.underlying3 rfl w), (fun w => by have := Try.sizeOf3 w; exact this), (fun w => by have := Try.zeroValue3 w; exact this), (Try.underlying4), (fun w => run_isAgg_plain Try.underlying4 rfl w), (fun w => by have := Try.sizeOf4 w; exact this), (fun w => by have := Try.zeroValue4 w; exact this), (Try.underlying37), (fun w => run_isAgg_plain Try.underlying37 rfl w), (fun w => by have := Try.sizeOf37 w; exact this), (fun w => by have := Try.zeroValue37 w; exact this), (info3)⟩

end
/-- A block's cells, some of them written. -/
theorem set_list (g e : Nat) : ∀ (vs : List Value) (o : Nat) (w : World) (cur : Array Value), w.heap[g]? = some (.cells cur e (0, 0)) → o + vs.length ≤ cur.size →
  ∃ cur', (w.setCells g o vs).heap[g]? = some (.cells cur' e (0, 0)) ∧ cur'.toList = cur.toList.take o ++ vs ++ cur.toList.drop (o + vs.length)
 | [], o, w, cur, h, hl => ⟨cur, h, by simp⟩
 | v :: r, o, w, cur, h, hl => by
  have h1 : (w.setCell ⟨g, o, none⟩ v).heap[g]? = some (.cells (cur.setIfInBounds o v) e (0, 0)) := blk_put h o v rfl
  obtain ⟨cur', h2, h3⟩ := set_list g e r (o + 1) _ _ h1 (by simp at hl ⊢; omega)
  refine ⟨cur', h2, ?_⟩
  rw [h3]
  simp only [Array.toList_setIfInBounds, List.length_cons] at hl ⊢
  have hl' : o < cur.toList.length := by rw [Array.length_toList]; omega
  have hmn : min o cur.size = o := Nat.min_eq_left (by omega)
  rw [List.take_set, List.drop_set, if_pos (by omega), List.take_add_one, List.getElem?_eq_getElem hl']
  simp only [Option.toList_some]
  rw [List.set_append_right _ _ (by simp; omega)]
  simp [List.length_take, hmn, Nat.add_assoc, Nat.add_comm 1]
theorem grown_setCells (g : Nat) : ∀ (vs : List Value) (o : Nat) (w : World), w.grownBy (w.setCells g o vs) (some g)
 | [], _, w => grown_below _ (Below.refl _ _)
 | v :: r, o, w => grown_trans (grown_set w g o v) (grown_setCells g r (o + 1) _)

theorem ins_lists (L r : List Value) (n i : Nat) (cs vs : List Value) (c : List Value) (hcs : c.take n = cs) (hl : cs.length = n) (hi : i ≤ n) (hc : n + vs.length ≤ c.length) (h1 : L = c.take (i + vs.length) ++ cs.drop i ++ c.drop (i + vs.length + (cs.drop i).length)) (h2 : r = L.take i ++ vs ++ L.drop (i + vs.length)) :
  r.take (n + vs.length) = cs.take i ++ vs ++ cs.drop i := by
 subst h2
 subst h1
 have e1 : (c.take (i + vs.length)).length = i + vs.length := by rw [List.length_take]; omega
 have e2 : (cs.drop i).length = n - i := by rw [List.length_drop, hl]
 have e3 : (c.take (i + vs.length) ++ cs.drop i ++ c.drop (i + vs.length + (cs.drop i).length)).take i = cs.take i := by
  rw [List.append_assoc, List.take_append_of_le_length (by omega), List.take_take, ← hcs, List.take_take]
  congr 1
  omega
 have e4 : (c.take (i + vs.length) ++ cs.drop i ++ c.drop (i + vs.length + (cs.drop i).length)).drop (i + vs.length) = cs.drop i ++ c.drop (i + vs.length + (cs.drop i).length) := by
  rw [List.append_assoc, List.drop_append_of_le_length (by omega), List.drop_eq_nil_of_le (by omega), List.nil_append]
 rw [e3, e4, ← List.append_assoc]
 have e5 : (cs.take i ++ vs ++ cs.drop i).length = n + vs.length := by
  simp only [List.length_append, List.length_take, List.length_drop, hl]
  omega
 rw [List.take_append_of_le_length (by omega), List.take_of_length_le (by omega)]
theorem ins_lists2 (row L r : List Value) (n i : Nat) (cs vs X : List Value) (hl : cs.length = n) (hi : i ≤ n) (h0 : row.take i = cs.take i) (h1 : L = row.take i ++ vs ++ row.drop (i + vs.length)) (h2 : r = L.take (i + vs.length) ++ cs.drop i ++ X) :
  r.take (n + vs.length) = cs.take i ++ vs ++ cs.drop i := by
 have e1 : (cs.take i).length = i := by rw [List.length_take, hl]; omega
 have e3 : L.take (i + vs.length) = cs.take i ++ vs := by
  rw [h1, h0, List.take_append_of_le_length (by rw [List.length_append, e1]; omega), List.take_of_length_le (by rw [List.length_append, e1]; omega)]
 have e5 : (cs.take i ++ vs ++ cs.drop i).length = n + vs.length := by
  simp only [List.length_append, List.length_drop, hl, e1]
  omega
 rw [h2, e3, List.take_append_of_le_length (by omega), List.take_of_length_le (by omega)]
theorem bel_setCells {B : Nat} {a : World} (b : Nat) (hb : B ≤ b) : ∀ (vs : List Value) (o : Nat) {w : World}, Below B a w → Below B a (w.setCells b o vs)
 | [], _, _, h => h
 | v :: r, o, _, h => bel_setCells b hb r (o + 1) (h.setCell (p := ⟨b, o, none⟩) hb v)
theorem zero_size (k : Nat) : (Builtin.zeroCells (Value.int .i64 0).cells k).size = k := by simp [Builtin.zeroCells, Value.cells]
theorem own_new {base e n cap : Nat} {W : World} (cs : Array Value) {xs : List Value} (hb : base ≤ W.heap.size) (hn : n ≤ cap) (hm : cap ≤ maxLen) (hs : cs.size = cap) (hx : cs.toList.take n = xs) (hl : xs.length = n) : (W.alloc (.cells cs e)).ownsRow base e 1 (.slice (some ⟨W.heap.size, 0, none⟩) n cap) n xs :=
 ⟨by omega, .inr ⟨_, cap, cs, rfl, hb, heap_alloc_new W _, hn, hm, by omega, by rw [Nat.mul_one]; exact hx⟩⟩
theorem grown_alloc (w : World) (o : Obj) (r : Option Nat) : w.grownBy (w.drew.alloc o) r := grown_below r (below_alloc (below_drew (Below.refl _ _)) o)
/-- slices.Insert(v, i, x), v a row of whole numbers of one's own. -/
def InsPost (base : Nat) (ok : Nat → Prop) (v : Value) (w : World) (l : List Int) (e : Ending) (w' : World) : Prop := ∃ v', e = .returned v' ∧ (Kd.int .i64).R 3 w' base ok v' l ∧ w.grownBy w' v.ownBlock ∧ (v'.ownBlock = v.ownBlock ∨ ∃ b, v'.ownBlock = some b ∧ w.heap.size ≤ b)
set_option maxRecDepth 100000 in
theorem ins_int {base : Nat} {ok : Nat → Prop} {v : Value} {l : List Int} {w : World} (i : Nat) (x : Int) (vb : Nat) (h : (Kd.int .i64).R 3 w base ok v l) (hi : i ≤ l.length) (hv : w.heap[vb]? = some (.cells #[.int .i64 x] 3 (0, 0))) (hne : v.ownBlock ≠ some vb) (hb : base ≤ w.heap.size) (hok : ∀ k, w.heap.size ≤ k → ok k) (hl : l.length ≤ 1000000) :
  Calls Try.prog 31 #[v, .int .i64 (i : Int), .slice (some ⟨vb, 0, none⟩) 1 1] w fun e w' => InsPost base ok v w (l.take i ++ [x] ++ l.drop i) e w' := by
 have ho := Kd.own_of_R h
 have hvs : ∀ j u, ([Value.int .i64 x] : List Value)[j]? = some u → w.cell? ⟨vb, 0 + j, none⟩ = some u := fun j u hj => by
  rw [Nat.zero_add, blk_cell hv j]
  simpa using hj
 have hlen : (encs (Value.int .i64) l).length = l.length := encs_length l
 rcases ho.2 with ⟨rfl, hn⟩ | ⟨g, cap, cur, rfl, hg, hh, hcap, hmax, hsz, htk⟩
 ·have hl0 : l = [] := List.length_eq_zero_iff.1 hn
  subst hl0
  obtain rfl : i = 0 := by simpa using hi
  have hc := Any2.slices_Insert_int_end_grow insLays none 0 0 vb 0 1 1 [] [Value.int .i64 x] w (by omega) (by omega) (by omega) (by omega) rfl rfl (fun _ => rfl) (fun a ha => by cases ha) hvs (fun u hu => by rw [List.mem_singleton.1 hu]; rfl)
  refine hc.mono ?_
  rintro e w' ⟨rfl, rfl⟩
  have h1 := grownCap_ge w (0 + 1) 0 (insRho.t 3)
  have h2 := grownCap_le_maxLen w (0 + 1) 0 (insRho.t 3) (by unfold maxLen; omega)
  generalize grownCap w (0 + 1) 0 (insRho.t 3) = G at h1 h2
  refine ⟨_, rfl, Kd.R_of_own (own_new _ hb h1 h2 ?_ ?_ rfl) (fun k hk => hok k (by cases hk; exact Nat.le_refl _)), grown_alloc w _ _, .inr ⟨_, rfl, Nat.le_refl _⟩⟩
  ·rw [Array.size_append, zero_size]
   simp
   omega
  ·simp [encs]
 ·have hgw : g < w.heap.size := blk_lt hh
  rw [Nat.mul_one] at hsz htk
  have hct : cur.toList.length = cap := by rw [Array.length_toList]; exact hsz
  have hcell : ∀ j u, (encs (Value.int .i64) l)[j]? = some u → w.cell? ⟨g, 0 + j, none⟩ = some u := fun j u hj => by
   rw [Nat.zero_add, blk_cell hh j]
   rw [← htk, List.getElem?_take] at hj
   split at hj
   ·rw [← Array.getElem?_toList]; exact hj
   ·cases hj
  have hone : ∀ u ∈ encs (Value.int .i64) l, u.oneCell' = true := fun u hu => by
   obtain ⟨y, _, rfl⟩ := List.mem_map.1 hu
   rfl
  have h1x : ∀ u ∈ ([Value.int .i64 x] : List Value), u.oneCell' = true := fun u hu => by rw [List.mem_singleton.1 hu]; rfl
  have hgv : vb ≠ g := fun e => hne (by rw [e]; rfl)
  have hout : encs (Value.int .i64) (l.take i ++ [x] ++ l.drop i) = (encs (Value.int .i64) l).take i ++ [Value.int .i64 x] ++ (encs (Value.int .i64) l).drop i := by
   simp [encs, List.map_take, List.map_drop]
  have hlx : (l.take i ++ [x] ++ l.drop i).length = l.length + 1 := by
   simp only [List.length_append, List.length_take, List.length_drop, List.length_singleton]
   omega
  have hsp : ∀ j, j < cap → (w.cell? ⟨g, 0 + j, none⟩).isSome = true := fun j hj => by
   rw [Nat.zero_add, blk_cell hh j, Array.getElem?_eq_getElem (by omega)]
   rfl
  have hfz : ∀ j, w.frozen? ⟨g, 0 + j, none⟩ = false := fun j => blk_frozen hh _
  have hm63 : cap ≤ 9223372036854775807 := by unfold maxLen at hmax; omega
  by_cases hroom : l.length + 1 ≤ cap
  ·by_cases hin : i < l.length
   ·have hc := Any2.slices_Insert_int_shift insLays g 0 l.length cap i vb 0 1 1 (encs (Value.int .i64) l) [Value.int .i64 x] w hin (by omega) hroom hm63 hgv hlen rfl hcell (fun j hj => hsp j (by omega)) (fun j _ => hfz j) hvs hone h1x
     3 3 1 cap ?s1 ?s2 (by omega) (blk_frozen hv _) (blk_frozen hv _)
    case s1 => simp [World.shape?, hv]
    case s2 => simp [World.shape?, hh, hsz]
    refine hc.mono ?_
    rintro e w' ⟨rfl, rfl⟩
    have hh' : w.drew.heap[g]? = some (.cells cur 3 (0, 0)) := hh
    have hdl : ((encs (Value.int .i64) l).drop i).length = l.length - i := by rw [List.length_drop, hlen]
    obtain ⟨c1, hc1, hl1⟩ := set_list g 3 ((encs (Value.int .i64) l).drop i) (0 + (i + 1)) w.drew cur hh' (by rw [hdl]; omega)
    have hs1 : c1.size = cap := by
     rw [← Array.length_toList, hl1]
     simp only [List.length_append, List.length_take, List.length_drop, hlen, hct]
     omega
    obtain ⟨c2, hc2, hl2⟩ := set_list g 3 [Value.int .i64 x] (0 + i) _ c1 hc1 (by simp; omega)
    have hs2 : c2.size = cap := by
     rw [← Array.length_toList, hl2]
     simp only [List.length_append, List.length_take, List.length_drop, Array.length_toList, List.length_singleton]
     omega
    have htk2 := ins_lists c1.toList c2.toList l.length i (encs (Value.int .i64) l) [Value.int .i64 x] cur.toList htk hlen hi (by rw [hct]; exact hroom) (by rw [hl1, Nat.zero_add]; rfl) (by rw [hl2, Nat.zero_add])
    have hgr : w.grownBy ((w.drew.setCells g (0 + (i + 1)) ((encs (Value.int .i64) l).drop i)).setCells g (0 + i) [Value.int .i64 x]) (some g) := grown_trans (grown_below _ (below_drew (Below.refl _ _))) (grown_trans (grown_setCells g _ _ _) (grown_setCells g _ _ _))
    refine ⟨_, rfl, Kd.R_of_own ?_ (fun k hk => h.1 k hk), hgr, .inl rfl⟩
    rw [hlx]
    refine ⟨by rw [encs_length, hlx]; omega, .inr ⟨g, cap, c2, rfl, hg, hc2, hroom, hmax, by omega, ?_⟩⟩
    rw [Nat.mul_one, hout]
    exact htk2
   ·obtain rfl : i = l.length := by omega
    have hc := Any2.slices_Insert_int_end_room insLays g 0 l.length cap vb 0 1 1 [Value.int .i64 x] w (by omega) hroom hm63 rfl (fun j hj => by have := hsp (l.length + j) (by omega); rwa [← Nat.add_assoc] at this) (fun j _ => by have := hfz (l.length + j); rwa [← Nat.add_assoc] at this) hvs h1x
    refine hc.mono ?_
    rintro e w' ⟨rfl, rfl⟩
    obtain ⟨c2, hc2, hl2⟩ := set_list g 3 [Value.int .i64 x] (0 + l.length) w cur hh (by simp; omega)
    have hs2 : c2.size = cap := by
     rw [← Array.length_toList, hl2]
     simp only [List.length_append, List.length_take, List.length_drop, Array.length_toList, List.length_singleton]
     omega
    refine ⟨_, rfl, Kd.R_of_own ?_ (fun k hk => h.1 k hk), grown_setCells g _ _ _, .inl rfl⟩
    rw [hlx]
    refine ⟨by rw [encs_length, hlx]; omega, .inr ⟨g, cap, c2, rfl, hg, hc2, hroom, hmax, by omega, ?_⟩⟩
    rw [Nat.mul_one, hout, hl2, Nat.zero_add, htk, List.take_of_length_le (Nat.le_of_eq hlen), List.drop_eq_nil_of_le (Nat.le_of_eq hlen), List.append_nil, List.take_append_of_le_length (by simp [hlen]), List.take_of_length_le (by simp [hlen])]
  ·have hgc := grownCap_ge w (l.length + 1) cap (insRho.t 3)
   have hgm := grownCap_le_maxLen w (l.length + 1) cap (insRho.t 3) (by unfold maxLen; omega)
   by_cases hin : i < l.length
   ·have hc := Any2.slices_Insert_int_grow insLays g 0 l.length cap i vb 0 1 1 (encs (Value.int .i64) l) [Value.int .i64 x] w hin (by omega) hcap (by omega) (by omega) hlen rfl hcell hvs hone h1x
    refine hc.mono ?_
    rintro e w' ⟨rfl, rfl⟩
    generalize grownCap w (l.length + 1) cap (insRho.t 3) = G at hgc hgm ⊢
    have hx3 : (insRho.t 3) = 3 := rfl
    rw [hx3]
    obtain ⟨row, hrow⟩ : ∃ row : Array Value, row = ((encs (Value.int .i64) l).take i).toArray ++ Builtin.zeroCells (Value.int .i64 0).cells (l.length + 1 - i) ++ Builtin.zeroCells (Value.int .i64 0).cells (G - (l.length + 1)) := ⟨_, rfl⟩
    rw [← hrow]
    have hrs : row.size = G := by
     rw [hrow, Array.size_append, Array.size_append, zero_size, zero_size]
     simp only [List.size_toArray, List.length_take, hlen]
     omega
    have hrl : row.toList.length = G := by rw [Array.length_toList]; exact hrs
    have hrt : row.toList.take i = (encs (Value.int .i64) l).take i := by
     rw [hrow, Array.toList_append, Array.toList_append, List.append_assoc, List.take_append_of_le_length (by simp [hlen]; omega), List.take_of_length_le (by rw [List.length_take, hlen]; omega)]
    have hh0 : (w.alloc (.cells row 3)).drew.heap[w.heap.size]? = some (.cells row 3 (0, 0)) := heap_alloc_new w _
    obtain ⟨c1, hc1, hl1⟩ := set_list w.heap.size 3 [Value.int .i64 x] i _ row hh0 (by simp; omega)
    have hs1 : c1.size = G := by
     rw [← Array.length_toList, hl1]
     simp only [List.length_append, List.length_take, List.length_drop, List.length_singleton, hrl]
     omega
    have hc1' : ((w.alloc (.cells row 3)).drew.setCells w.heap.size i [Value.int .i64 x]).drew.heap[w.heap.size]? = some (.cells c1 3 (0, 0)) := hc1
    have hdl : ((encs (Value.int .i64) l).drop i).length = l.length - i := by rw [List.length_drop, hlen]
    obtain ⟨c2, hc2, hl2⟩ := set_list w.heap.size 3 ((encs (Value.int .i64) l).drop i) (i + 1) _ c1 hc1' (by rw [hdl]; omega)
    have hs2 : c2.size = G := by
     rw [← Array.length_toList, hl2]
     simp only [List.length_append, List.length_take, List.length_drop, Array.length_toList, hlen]
     omega
    have hb2 : Below w.heap.size w (((w.alloc (.cells row 3)).drew.setCells w.heap.size i [Value.int .i64 x]).drew.setCells w.heap.size (i + 1) ((encs (Value.int .i64) l).drop i)) :=
     bel_setCells w.heap.size (Nat.le_refl _) _ _ (below_drew (bel_setCells w.heap.size (Nat.le_refl _) _ _ (below_drew (below_alloc (Below.refl _ _) _))))
    refine ⟨_, rfl, Kd.R_of_own ?_ (fun k hk => hok k (by cases hk; exact Nat.le_refl _)), grown_below _ hb2, .inr ⟨_, rfl, Nat.le_refl _⟩⟩
    rw [hlx]
    refine ⟨by rw [encs_length, hlx]; omega, .inr ⟨_, G, c2, rfl, hb, hc2, hgc, hgm, by omega, ?_⟩⟩
    rw [Nat.mul_one, hout]
    exact ins_lists2 row.toList c1.toList c2.toList l.length i (encs (Value.int .i64) l) [Value.int .i64 x] _ hlen hi hrt hl1 hl2
   ·obtain rfl : i = l.length := by omega
    have hc := Any2.slices_Insert_int_end_grow insLays (some ⟨g, 0, none⟩) l.length cap vb 0 1 1 (encs (Value.int .i64) l) [Value.int .i64 x] w (by omega) hcap (by omega) (by omega) hlen rfl (fun e => by cases e) (fun a ha j u hj => by cases ha; have := hcell j u hj; rw [Addr.add_lit]; exact this) hvs h1x
    refine hc.mono ?_
    rintro e w' ⟨rfl, rfl⟩
    generalize grownCap w (l.length + 1) cap (insRho.t 3) = G at hgc hgm ⊢
    refine ⟨_, rfl, Kd.R_of_own ?_ (fun k hk => hok k (by cases hk; exact Nat.le_refl _)), grown_alloc w _ _, .inr ⟨_, rfl, Nat.le_refl _⟩⟩
    rw [hlx]
    refine own_new _ hb hgc hgm ?_ ?_ (by rw [encs_length, hlx])
    ·rw [Array.size_append, zero_size]
     simp [hlen]
     omega
    ·rw [hout, Array.toList_append, List.take_append_of_le_length (by simp [hlen]), List.take_of_length_le (by simp [hlen]), List.take_of_length_le (Nat.le_of_eq hlen), List.drop_eq_nil_of_le (Nat.le_of_eq hlen), List.append_nil]
theorem run_copy_sz {P : Program} (z : Nat) (w : World) (dT sT ty elem : TypeId) (b o dLen dCap : Nat) (a : Addr) (sLen sCap : Nat) (cs : List Value)
  (hu : P.underlying dT = some (.slice elem)) (hs : (P.info? elem).map (·.size) = some z) (m : Nat) (hm : m = Nat.min sLen dLen) (hn : cs.length = m * z)
  (hsrc : ∀ j v, cs[j]? = some v → w.cell? (a.add j) = some v) (hc : ∀ j, j < cs.length → (w.cell? ⟨b, o + j, none⟩).isSome = true) (hf : ∀ j, j < cs.length → w.frozen? ⟨b, o + j, none⟩ = false) (h1 : ∀ v ∈ cs, v.oneCell' = true) :
  (Builtin.copy_ #[dT, sT] ty #[.slice (some ⟨b, o, none⟩) dLen dCap, .slice (some a) sLen sCap]).run P w = .ok (goInt m) (w.setCells b o cs) := by
 have hl := run_loadCells_list (P := P) w a cs hsrc
 have hst := run_storeCells_cells (P := P) b o cs 0 w (by simpa using hc) (by simpa using hf) h1
 cases hq : P.info? elem with
 | none => simp [hq] at hs
 | some i =>
  have hi : i.size = z := by simpa [hq] using hs
  simp [Builtin.copy_, run_underlying hu, Builtin.lenOf, Builtin.firstCells, sizeOf, typeInfo, hq, hi, ← hm, ← hn, hl, hst]
theorem drew_sets (b : Nat) : ∀ (vs : List Value) (o : Nat) (w : World), (w.setCells b o vs).drew = w.drew.setCells b o vs
 | [], _, _ => rfl
 | v :: r, o, w => by rw [World.setCells, World.setCells, drew_sets b r]; rfl
theorem sz39 : (Try.prog.info? 39).map (·.size) = some 2 := by
 obtain ⟨i0, hi0, _, h1, _⟩ := info_parts info39
 rw [hi0]; simp [h1]
def InsOwn (base : Nat) (v : Value) (w : World) (n : Nat) (xs : List Value) (e : Ending) (w' : World) : Prop := ∃ v', e = .returned v' ∧ w'.ownsRow base 39 2 v' n xs ∧ w.grownBy w' v.ownBlock ∧ (v'.ownBlock = v.ownBlock ∨ ∃ b, v'.ownBlock = some b ∧ w.heap.size ≤ b)
/-- AT THE END: append. -/
theorem ins_post_end {base : Nat} {v : Value} {w : World} {n : Nat} {inner nv : List Value} (vb : Nat) (ho : w.ownsRow base 39 2 v n inner) (hv : w.heap[vb]? = some (.cells nv.toArray 39 (0, 0))) (hl2 : nv.length = 2) (h1v : ∀ u ∈ nv, u.oneCell' = true) (hb : base ≤ w.heap.size) (hl : n ≤ 1000000) :
  Calls Try.prog 29 #[v, .int .i64 (n : Int), .slice (some ⟨vb, 0, none⟩) 1 1] w fun e w' => InsOwn base v w (n + 1) (inner ++ nv) e w' := by
 obtain ⟨i0, hi0, hz0, hzs, hzb⟩ := info_parts info39
 obtain ⟨v1, w1, hrun, h2, hg, _, hat⟩ := run_append_own_at (P := Try.prog) w base 22 22 39 i0 _ 2 32 Try.underlying22 hi0 hz0 hzs hzb rfl (by decide) v n inner ho ⟨vb, 0, none⟩ 1 1 nv (by omega) (fun j u hj => by rw [Addr.add_lit, Nat.zero_add, blk_cell hv j]; simpa using hj) h1v (by simp only [maxLen]; omega) (by omega) hb
 have hat' : v1.ownBlock = v.ownBlock ∨ ∃ b, v1.ownBlock = some b ∧ w.heap.size ≤ b := hat.imp id (fun h => ⟨_, h, Nat.le_refl _⟩)
 have hform : ∃ A c, v = .slice A n c ∧ n ≤ c := by
  rcases ho.2 with ⟨rfl, rfl⟩ | ⟨g, cap, cur, rfl, _, _, hc, _⟩
  ·exact ⟨none, 0, rfl, Nat.le_refl _⟩
  ·exact ⟨_, cap, rfl, hc⟩
 obtain ⟨A, c, rfl, hnc⟩ := hform
 go_enter Try.func29, Try.ntmps29
 go_wp2_with (at_builtin; refine Lib.wpList_append_run _ rfl _ _ _ _ rfl _ _ rfl rfl _ _ hrun ?_)
 all_goals
  go_ret
  exact ⟨_, rfl, h2, by cases A <;> exact hg, by cases A <;> exact hat'⟩

set_option maxRecDepth 100000 in
set_option maxHeartbeats 4000000 in
/-- THERE IS ROOM: in place. -/
theorem ins_post_shift {b n c i vb : Nat} {w : World} {cs nv : List Value} (hi : i < n) (hl : n ≤ 1000000) (hroom : n + 1 ≤ c) (hc63 : c ≤ 9223372036854775807) (hvb : vb ≠ b) (hcl : cs.length = n * 2) (hvl : nv.length = 2)
  (hcs : ∀ j v, cs[j]? = some v → w.cell? ⟨b, j, none⟩ = some v) (hsp : ∀ j, j < (n + 1) * 2 → (w.cell? ⟨b, j, none⟩).isSome = true) (hfz : ∀ j, w.frozen? ⟨b, j, none⟩ = false)
  (hv : w.heap[vb]? = some (.cells nv.toArray 39 (0, 0))) (h1c : ∀ v ∈ cs, v.oneCell' = true) (h1v : ∀ v ∈ nv, v.oneCell' = true) (kB : Nat) (tB : TypeId) (hsb : w.shape? b = some (tB, kB)) (hkB : kB ≠ 0) :
  Calls Try.prog 29 #[.slice (some ⟨b, 0, none⟩) n c, .int .i64 (i : Int), .slice (some ⟨vb, 0, none⟩) 1 1] w fun e w' =>
   e = .returned (.slice (some ⟨b, 0, none⟩) (n + 1) c) ∧ w' = (w.drew.setCells b ((i + 1) * 2) (cs.drop (i * 2))).setCells b (i * 2) nv := by
 have hvs : ∀ j v, nv[j]? = some v → w.cell? ⟨vb, j, none⟩ = some v := fun j u hj => by rw [blk_cell hv j]; simpa using hj
 have hz2 : ¬ ((i : Int) = (n : Int)) := by omega
 have hov : ∀ lb cb, (callFunc 54 #[.slice (some ⟨vb, 0, none⟩) 1 1, .slice (some ⟨b, (i + 1) * 2, none⟩) lb cb]).run Try.prog w = .ok (.value (.bool false)) w := fun lb cb => by
  rw [run_callFunc_extern Try.func54 (by kernel_rfl) (by kernel_rfl) (by kernel_rfl) (e := Extern.SlicesOverlaps.overlaps #[22, 22] #[4]) (by kernel_rfl),
   Lib.run_overlaps_apart w 22 4 39 Try.underlying22 2 Try.sizeOf39 ⟨vb, 0, none⟩ ⟨b, (i + 1) * 2, none⟩ 1 1 lb cb hvb 39 tB nv.toArray.size kB (by simp [World.shape?, hv]) hsb hkB (blk_frozen hv _) (blk_frozen hv _)]
  rfl
 have hdl : (cs.drop (i * 2)).length = (n - i) * 2 := by rw [List.length_drop, hcl]; omega
 have hw1 : IntKind.i64.wrap ((i : Int) + 1) = (i : Int) + 1 := by rw [IntKind.wrap_i64]; omega
 have htn : ((i : Int) + 1).toNat = i + 1 := by omega
 have hbb : (i : Int) ≤ (n : Int) + 1 := by omega
 have hcp1 : ∀ ty dc sc, (Builtin.copy_ #[22, 22] ty #[.slice (some ⟨b, (i + 1) * 2, none⟩) (n - i) dc, .slice (some ⟨b, i * 2, none⟩) (n + 1 - i) sc]).run Try.prog w.drew = .ok (goInt ((n - i : Nat) : Int)) (w.drew.setCells b ((i + 1) * 2) (cs.drop (i * 2))) := fun ty dc sc =>
  run_copy_sz 2 w.drew _ _ ty 39 b ((i + 1) * 2) (n - i) dc ⟨b, i * 2, none⟩ (n + 1 - i) sc (cs.drop (i * 2)) Try.underlying22 sz39 (n - i) (by simp only [Nat.min_def]; split <;> omega) hdl
   (fun j v hj => by rw [Addr.add_lit]; exact hcs (i * 2 + j) v (by rwa [List.getElem?_drop] at hj))
   (fun j hj => hsp _ (by omega)) (fun j hj => hfz _) (fun v hv => h1c v (List.mem_of_mem_drop hv))
 obtain ⟨W1, hW1⟩ : ∃ W1, W1 = w.drew.setCells b ((i + 1) * 2) (cs.drop (i * 2)) := ⟨_, rfl⟩
 have hsp1 : ∀ k, k < (n + 1) * 2 → (W1.cell? ⟨b, k, none⟩).isSome = true := fun k hk => by
  rw [hW1]
  exact isSome_setCells b (cs.drop (i * 2)) ((i + 1) * 2) w.drew (fun j hj => hsp _ (by rw [hdl] at hj; omega)) _ (hsp k hk)
 have hcp2 : ∀ (W : World), (∀ x, W.cell? x = W1.cell? x) → (∀ x, W.frozen? x = W1.frozen? x) → ∀ ty dc, (Builtin.copy_ #[22, 22] ty #[.slice (some ⟨b, i * 2, none⟩) (n + 1 - i) dc, .slice (some ⟨vb, 0, none⟩) 1 1]).run Try.prog W = .ok (goInt ((1 : Nat) : Int)) (W.setCells b (i * 2) nv) := fun W hWc hWf ty dc =>
  run_copy_sz 2 W _ _ ty 39 b (i * 2) (n + 1 - i) dc ⟨vb, 0, none⟩ 1 1 nv Try.underlying22 sz39 1 (by simp only [Nat.min_def]; split <;> omega) (by omega)
   (fun j v hj => by
    rw [Addr.add_lit, Nat.zero_add, hWc, hW1, World.cell?_setCells_out b _ _ _ _ (fun h _ => absurd h hvb)]
    exact hvs j v hj)
   (fun j hj => by rw [hWc]; exact hsp1 _ (by omega)) (fun j hj => by rw [hWf, hW1, World.frozen?_setCells]; exact hfz _) h1v
 rw [← hW1] at hcp1
 have hb0 : (0 : Int) ≤ (i : Int) := by omega
 have hin : (i : Int) ≤ (n : Int) := by omega
 have hb1 : (0 : Int) ≤ (i : Int) + 1 := by omega
 have hb2 : ¬ (c = i + 1) := by omega
 have hb4 : ¬ (c = i) := by omega
 have hz3 : decide ((c : Int) < ((n + 1 : Nat) : Int)) = false := decide_eq_false (by omega)
 have hz4 : ((i : Int) == (n : Int)) = false := by simpa using hz2
 obtain ⟨i0, hi0, _, hzz, _⟩ := info_parts info39
 go_enter Try.func29, Try.ntmps29
 go_wp2_with (simp only [hov])
 go_region_law (refine step_copy_runI rfl _ _ 22 22 rfl _ _ (by simp [Act.eval, Act.put]) (by simp [Act.eval, Act.put]) (hcp1 _ _ _) ?_)
 go_wp2_with (at_builtin; refine wpList_copy_runI _ rfl _ _ 22 22 rfl _ _ rfl rfl (hcp2 _ (fun _ => rfl) (fun _ => rfl) _ _) ?_)
 go_ret
 first | exact ⟨rfl, rfl⟩ | exact ⟨rfl, by rw [hW1]⟩

def zz39 : List Value := (Value.agg #[.int .i64 0, .slice none 0 0]).cells.toList
theorem zeros39_size (k : Nat) : (Builtin.zeroCells (Value.agg #[.int .i64 0, .slice none 0 0]).cells k).size = k * 2 := by
 simp [Builtin.zeroCells, Value.cells]
set_option maxRecDepth 100000 in
set_option maxHeartbeats 4000000 in
/-- NO ROOM: a new row. -/
theorem ins_post_grow {b n c i vb : Nat} {w : World} {cs nv : List Value} (hi : i < n) (hnc : n ≤ c) (hroom : c < n + 1) (hl : n ≤ 1000000) (hcl : cs.length = n * 2) (hvl : nv.length = 2)
  (hcs : ∀ j v, cs[j]? = some v → w.cell? ⟨b, j, none⟩ = some v)
  (hv : w.heap[vb]? = some (.cells nv.toArray 39 (0, 0))) (h1c : ∀ v ∈ cs, v.oneCell' = true) (h1v : ∀ v ∈ nv, v.oneCell' = true) :
  Calls Try.prog 29 #[.slice (some ⟨b, 0, none⟩) n c, .int .i64 (i : Int), .slice (some ⟨vb, 0, none⟩) 1 1] w fun e w' =>
   e = .returned (.slice (some ⟨w.heap.size, 0, none⟩) (n + 1) (grownCap w (n + 1) c 39)) ∧
   w' = (((w.alloc (.cells ((cs.take (i * 2)).toArray ++ Builtin.zeroCells (Value.agg #[.int .i64 0, .slice none 0 0]).cells (n + 1 - i) ++ Builtin.zeroCells (Value.agg #[.int .i64 0, .slice none 0 0]).cells (grownCap w (n + 1) c 39 - (n + 1))) 39)).drew.setCells w.heap.size (i * 2) nv).drew).setCells w.heap.size ((i + 1) * 2) (cs.drop (i * 2)) := by
 have hvs : ∀ j v, nv[j]? = some v → w.cell? ⟨vb, j, none⟩ = some v := fun j u hj => by rw [blk_cell hv j]; simpa using hj
 obtain ⟨i0, hi0, hz0, hzs, hzb⟩ := info_parts info39
 have hz2 : ¬ ((i : Int) = (n : Int)) := by omega
 have hbw : b < w.heap.size := block_lt_of_cell (hcs 0 _ (List.getElem?_eq_getElem (by omega)))
 have hvw : vb < w.heap.size := blk_lt hv
 have hkk : (n : Int) + 1 - (i : Int) = ((n + 1 - i : Nat) : Int) := by omega
 have hik : i + (n + 1 - i) = n + 1 := by omega
 have hold : (Builtin.firstCells i0.size i (.slice (some ⟨b, 0, none⟩) i c)).run Try.prog w.drew = .ok (cs.take (i * 2)).toArray w.drew := by
  rw [hzs]
  exact run_firstCells_some w.drew 2 i ⟨b, 0, none⟩ i c (cs.take (i * 2)) (by rw [List.length_take]; omega) (fun j v hj => by
   rw [Addr.add_lit, Nat.zero_add]
   rw [List.getElem?_take] at hj
   split at hj
   ·exact hcs j v hj
   ·cases hj)
 have hrz : ∀ ty, (Builtin.append_ #[22, 3] ty #[.slice (some ⟨b, 0, none⟩) i c, .int .i64 ((n : Int) + 1 - (i : Int))]).run Try.prog w =
   .ok (.slice (some ⟨w.heap.size, 0, none⟩) (n + 1) (grownCap w (n + 1) c 39)) (w.drew.alloc (.cells ((cs.take (i * 2)).toArray ++ Builtin.zeroCells (Value.agg #[.int .i64 0, .slice none 0 0]).cells (n + 1 - i) ++ Builtin.zeroCells (Value.agg #[.int .i64 0, .slice none 0 0]).cells (grownCap w (n + 1) c 39 - (n + 1))) 39)) := fun ty => by
  have h := Lib.run_append_grow_zeros w 22 3 ty 39 i0 _ .i64 .i64 Try.underlying22 Try.underlying3 hi0 hz0 (some ⟨b, 0, none⟩) i c (cs.take (i * 2)) hold (n + 1 - i) (by omega) (by omega) (by omega) (by omega) (by rw [hzb]; omega) (by rw [hzb, hik]; exact growslice_fits hroom (by omega))
  rw [hik] at h
  rw [hkk]
  exact h
 obtain ⟨G, hG⟩ : ∃ G, G = grownCap w (n + 1) c 39 := ⟨_, rfl⟩
 obtain ⟨ROW, hROW⟩ : ∃ ROW : Array Value, ROW = (cs.take (i * 2)).toArray ++ Builtin.zeroCells (Value.agg #[.int .i64 0, .slice none 0 0]).cells (n + 1 - i) ++ Builtin.zeroCells (Value.agg #[.int .i64 0, .slice none 0 0]).cells (G - (n + 1)) := ⟨_, rfl⟩
 rw [← hG] at hrz ⊢
 rw [← hROW] at hrz ⊢
 have hGn : n + 1 ≤ G := by rw [hG]; exact grownCap_ge w _ _ _
 have hG63 : G ≤ 9223372036854775807 := by
  have := grownCap_le_maxLen w (n + 1) c 39 (by unfold maxLen; omega)
  rw [← hG] at this
  unfold maxLen at this
  omega
 have hRl : ROW.size = G * 2 := by
  rw [hROW, Array.size_append, Array.size_append, zeros39_size, zeros39_size]
  simp only [List.size_toArray, List.length_take]
  omega
 obtain ⟨W1, hW1⟩ : ∃ W1, W1 = w.drew.alloc (.cells ROW 39) := ⟨_, rfl⟩
 rw [← hW1] at hrz
 have hN : ∀ j, j < (n + 1) * 2 → (W1.cell? ⟨w.heap.size, j, none⟩).isSome = true := fun j hj => by
  rw [hW1, World.cell?_alloc_at (w := w.drew) ROW _ w.heap.size j rfl, Array.getElem?_eq_getElem (by omega)]; rfl
 have hNf : ∀ j, W1.frozen? ⟨w.heap.size, j, none⟩ = false := fun j => by rw [hW1]; exact World.frozen?_alloc_at (w := w.drew) ROW _ w.heap.size j rfl
 have hOb : ∀ j v, w.cell? ⟨b, j, none⟩ = some v → W1.cell? ⟨b, j, none⟩ = some v := fun j v h => by rw [hW1, World.cell?_alloc_past (w := w.drew) _ b j hbw]; exact h
 have hOv : ∀ j v, w.cell? ⟨vb, j, none⟩ = some v → W1.cell? ⟨vb, j, none⟩ = some v := fun j v h => by rw [hW1, World.cell?_alloc_past (w := w.drew) _ vb j hvw]; exact h
 have hcpA : ∀ (W : World), (∀ x, W.cell? x = W1.cell? x) → (∀ x, W.frozen? x = W1.frozen? x) → ∀ ty dc, (Builtin.copy_ #[22, 22] ty #[.slice (some ⟨w.heap.size, i * 2, none⟩) (n + 1 - i) dc, .slice (some ⟨vb, 0, none⟩) 1 1]).run Try.prog W = .ok (goInt ((1 : Nat) : Int)) (W.setCells w.heap.size (i * 2) nv) := fun W hWc hWf ty dc =>
  run_copy_sz 2 W _ _ ty 39 w.heap.size (i * 2) (n + 1 - i) dc ⟨vb, 0, none⟩ 1 1 nv Try.underlying22 sz39 1 (by simp only [Nat.min_def]; split <;> omega) (by omega)
   (fun j v hj => by rw [Addr.add_lit, Nat.zero_add, hWc]; exact hOv _ v (hvs j v hj))
   (fun j hj => by rw [hWc]; exact hN _ (by omega)) (fun j hj => by rw [hWf]; exact hNf _) h1v
 have hGi : ¬ (G = i) := by omega
 have hGim : ¬ (G = i + 1) := by omega
 have hci : ¬ (c = i) := by omega
 have hbN : b ≠ w.heap.size := by omega
 have hdl : (cs.drop (i * 2)).length = (n - i) * 2 := by rw [List.length_drop, hcl]; omega
 have hcpB : ∀ (W : World), (∀ x, W.cell? x = (W1.setCells w.heap.size (i * 2) nv).cell? x) → (∀ x, W.frozen? x = (W1.setCells w.heap.size (i * 2) nv).frozen? x) → ∀ ty dc sc, (Builtin.copy_ #[22, 22] ty #[.slice (some ⟨w.heap.size, (i + 1) * 2, none⟩) (n - i) dc, .slice (some ⟨b, i * 2, none⟩) (n - i) sc]).run Try.prog W = .ok (goInt ((n - i : Nat) : Int)) (W.setCells w.heap.size ((i + 1) * 2) (cs.drop (i * 2))) := fun W hWc hWf ty dc sc =>
  run_copy_sz 2 W _ _ ty 39 w.heap.size ((i + 1) * 2) (n - i) dc ⟨b, i * 2, none⟩ (n - i) sc (cs.drop (i * 2)) Try.underlying22 sz39 (n - i) (by simp only [Nat.min_def]; split <;> omega) hdl
   (fun j v hj => by
    rw [Addr.add_lit, hWc, World.cell?_setCells_out _ _ _ _ _ (fun h _ => absurd h hbN)]
    exact hOb _ v (hcs (i * 2 + j) v (by rwa [List.getElem?_drop] at hj)))
   (fun j hj => by rw [hWc]; exact isSome_setCells _ _ _ _ (fun t ht => hN _ (by omega)) _ (hN _ (by rw [hdl] at hj; omega)))
   (fun j hj => by rw [hWf, World.frozen?_setCells]; exact hNf _) (fun v hv => h1c v (List.mem_of_mem_drop hv))
 subst hW1
 have hE1 : ∀ x, ((w.alloc (.cells ROW 39)).drew).cell? x = (w.drew.alloc (.cells ROW 39)).cell? x := fun x => rfl
 have hE2 : ∀ x, ((w.alloc (.cells ROW 39)).drew).frozen? x = (w.drew.alloc (.cells ROW 39)).frozen? x := fun x => rfl
 have hF1 : ∀ x, (((w.alloc (.cells ROW 39)).drew.setCells w.heap.size (i * 2) nv).drew).cell? x = ((w.drew.alloc (.cells ROW 39)).setCells w.heap.size (i * 2) nv).cell? x := fun x => rfl
 have hF2 : ∀ x, (((w.alloc (.cells ROW 39)).drew.setCells w.heap.size (i * 2) nv).drew).frozen? x = ((w.drew.alloc (.cells ROW 39)).setCells w.heap.size (i * 2) nv).frozen? x := fun x => rfl
 have hw1 : IntKind.i64.wrap ((i : Int) + 1) = (i : Int) + 1 := by rw [IntKind.wrap_i64]; omega
 have hw2 : IntKind.i64.wrap ((n : Int) + 1) = (n : Int) + 1 := by rw [IntKind.wrap_i64]; omega
 have hw3 : IntKind.i64.wrap ((n : Int) + 1 - (i : Int)) = (n : Int) + 1 - (i : Int) := by rw [IntKind.wrap_i64]; omega
 have hb0 : (0 : Int) ≤ (i : Int) := by omega
 have hb1 : (0 : Int) ≤ (i : Int) + 1 := by omega
 have hin : (i : Int) ≤ (n : Int) := by omega
 have hbb : (i : Int) ≤ (n : Int) + 1 := by omega
 have htn : ((i : Int) + 1).toNat = i + 1 := by omega
 have hz3 : (c : Int) < (n : Int) + 1 := by omega
 have hz4 : ((i : Int) == (n : Int)) = false := by simpa using hz2
 have hic : (i : Int) ≤ (c : Int) := by omega
 clear hkk hik hold hROW hG hRl
 go_enter Try.func29, Try.ntmps29
 go_wp2_with (first
  | (at_builtin; refine Lib.wpList_append_run _ rfl _ _ _ _ rfl _ _ rfl rfl _ _ (hrz _) ?_)
  | (at_builtin; refine wpList_copy_runI _ rfl _ _ 22 22 rfl _ _ rfl rfl (hcpA _ hE1 hE2 _ _) ?_)
  | (at_builtin; refine wpList_copy_runI _ rfl _ _ 22 22 rfl _ _ rfl rfl (hcpB _ (fun _ => rfl) (fun _ => rfl) _ _ _) ?_))
 go_region_law (refine step_copy_runI rfl _ _ 22 22 rfl (.slice (some ⟨w.heap.size, (i + 1) * 2, none⟩) (n - i) (G - (i + 1))) (.slice (some ⟨b, i * 2, none⟩) (n - i) (c - i)) (by simp [Act.eval, Act.put]) (by simp [Act.eval, Act.put]) (hcpB _ hF1 hF2 3 (G - (i + 1)) (c - i)) ?_)
 go_wp2
 go_ret
 exact ⟨rfl, rfl⟩

theorem own_new2 {base e n cap z : Nat} {W : World} (cs : Array Value) {xs : List Value} (g : Nat) (hh : W.heap[g]? = some (.cells cs e (0, 0))) (hb : base ≤ g) (hn : n ≤ cap) (hm : cap ≤ maxLen) (hs : cs.size = cap * z) (hx : cs.toList.take (n * z) = xs) (hl : xs.length = n * z) : W.ownsRow base e z (.slice (some ⟨g, 0, none⟩) n cap) n xs :=
 ⟨hl, .inr ⟨g, cap, cs, rfl, hb, hh, hn, hm, hs, hx⟩⟩
theorem ins_post {base : Nat} {v : Value} {w : World} {n i : Nat} {inner nv : List Value} (vb : Nat) (ho : w.ownsRow base 39 2 v n inner) (hi : i ≤ n) (hv : w.heap[vb]? = some (.cells nv.toArray 39 (0, 0))) (hl2 : nv.length = 2) (h1c : ∀ u ∈ inner, u.oneCell' = true) (h1v : ∀ u ∈ nv, u.oneCell' = true) (hne : v.ownBlock ≠ some vb) (hb : base ≤ w.heap.size) (hl : n ≤ 1000000) :
  Calls Try.prog 29 #[v, .int .i64 (i : Int), .slice (some ⟨vb, 0, none⟩) 1 1] w fun e w' => InsOwn base v w (n + 1) (inner.take (i * 2) ++ nv ++ inner.drop (i * 2)) e w' := by
 by_cases hin : i < n
 ·rcases ho.2 with ⟨rfl, hn⟩ | ⟨g, cap, cur, rfl, hg, hh, hcap, hmax, hsz, htk⟩
  ·omega
  ·have hgw : g < w.heap.size := blk_lt hh
   have hlen : inner.length = n * 2 := ho.1
   have hct : cur.toList.length = cap * 2 := by rw [Array.length_toList]; exact hsz
   have hcell : ∀ j u, inner[j]? = some u → w.cell? ⟨g, j, none⟩ = some u := fun j u hj => by
    rw [blk_cell hh j]
    rw [← htk, List.getElem?_take] at hj
    split at hj
    ·rw [← Array.getElem?_toList]; exact hj
    ·cases hj
   have hgv : vb ≠ g := fun e => hne (by rw [e]; rfl)
   have hlx : (inner.take (i * 2) ++ nv ++ inner.drop (i * 2)).length = (n + 1) * 2 := by
    simp only [List.length_append, List.length_take, List.length_drop, hlen, hl2]
    omega
   have hdl : (inner.drop (i * 2)).length = (n - i) * 2 := by rw [List.length_drop, hlen]; omega
   by_cases hroom : n + 1 ≤ cap
   ·have hsp : ∀ j, j < (n + 1) * 2 → (w.cell? ⟨g, j, none⟩).isSome = true := fun j hj => by
     rw [blk_cell hh j, Array.getElem?_eq_getElem (by omega)]
     rfl
    have hbig : cap ≤ 9223372036854775807 := by unfold maxLen at hmax; omega
    ·refine (ins_post_shift (kB := cap * 2) (tB := 39) hin hl hroom hbig hgv hlen hl2 hcell hsp (fun j => blk_frozen hh _) hv h1c h1v (by simp [World.shape?, hh, hsz]) (by omega)).mono ?_
     rintro e w' ⟨rfl, rfl⟩
     have hh' : w.drew.heap[g]? = some (.cells cur 39 (0, 0)) := hh
     obtain ⟨c1, hc1, hl1⟩ := set_list g 39 (inner.drop (i * 2)) ((i + 1) * 2) w.drew cur hh' (by rw [hdl]; omega)
     have hs1 : c1.size = cap * 2 := by
      rw [← Array.length_toList, hl1]
      simp only [List.length_append, List.length_take, hdl, List.length_drop, hct]
      omega
     obtain ⟨c2, hc2, hl2'⟩ := set_list g 39 nv (i * 2) _ c1 hc1 (by omega)
     have hs2 : c2.size = cap * 2 := by
      rw [← Array.length_toList, hl2']
      simp only [List.length_append, List.length_take, List.length_drop, Array.length_toList, hl2]
      omega
     have htk2 := ins_lists c1.toList c2.toList (n * 2) (i * 2) inner nv cur.toList htk hlen (by omega) (by omega) (by rw [hl1, hl2]; rw [show (i + 1) * 2 = i * 2 + 2 by omega]) (by rw [hl2'])
     refine ⟨_, rfl, own_new2 c2 g hc2 hg hroom hmax hs2 ?_ hlx, grown_trans (grown_below _ (below_drew (Below.refl _ _))) (grown_trans (grown_setCells g _ _ _) (grown_setCells g _ _ _)), .inl rfl⟩
     rw [show (n + 1) * 2 = n * 2 + nv.length by omega]
     exact htk2
   ·have hgc := grownCap_ge w (n + 1) cap 39
    have hgm := grownCap_le_maxLen w (n + 1) cap 39 (by unfold maxLen; omega)
    refine (ins_post_grow hin hcap (by omega) hl hlen hl2 hcell hv h1c h1v).mono ?_
    rintro e w' ⟨rfl, rfl⟩
    generalize grownCap w (n + 1) cap 39 = G at hgc hgm ⊢
    obtain ⟨row, hrow⟩ : ∃ row : Array Value, row = (inner.take (i * 2)).toArray ++ Builtin.zeroCells (Value.agg #[.int .i64 0, .slice none 0 0]).cells (n + 1 - i) ++ Builtin.zeroCells (Value.agg #[.int .i64 0, .slice none 0 0]).cells (G - (n + 1)) := ⟨_, rfl⟩
    rw [← hrow]
    have hrs : row.size = G * 2 := by
     rw [hrow, Array.size_append, Array.size_append, zeros39_size, zeros39_size]
     simp only [List.size_toArray, List.length_take, hlen]
     omega
    have hrl : row.toList.length = G * 2 := by rw [Array.length_toList]; exact hrs
    have hrt : row.toList.take (i * 2) = inner.take (i * 2) := by
     rw [hrow, Array.toList_append, Array.toList_append, List.append_assoc, List.take_append_of_le_length (by simp [hlen]; omega), List.take_of_length_le (by rw [List.length_take, hlen]; omega)]
    have hh0 : (w.alloc (.cells row 39)).drew.heap[w.heap.size]? = some (.cells row 39 (0, 0)) := heap_alloc_new w _
    obtain ⟨c1, hc1, hl1⟩ := set_list w.heap.size 39 nv (i * 2) _ row hh0 (by omega)
    have hs1 : c1.size = G * 2 := by
     rw [← Array.length_toList, hl1]
     simp only [List.length_append, List.length_take, List.length_drop, hrl, hl2]
     omega
    have hc1' : ((w.alloc (.cells row 39)).drew.setCells w.heap.size (i * 2) nv).drew.heap[w.heap.size]? = some (.cells c1 39 (0, 0)) := hc1
    obtain ⟨c2, hc2, hl2'⟩ := set_list w.heap.size 39 (inner.drop (i * 2)) ((i + 1) * 2) _ c1 hc1' (by rw [hdl]; omega)
    have hs2 : c2.size = G * 2 := by
     rw [← Array.length_toList, hl2']
     simp only [List.length_append, List.length_take, List.length_drop, Array.length_toList, hlen]
     omega
    have hb2 : Below w.heap.size w (((w.alloc (.cells row 39)).drew.setCells w.heap.size (i * 2) nv).drew.setCells w.heap.size ((i + 1) * 2) (inner.drop (i * 2))) :=
     bel_setCells w.heap.size (Nat.le_refl _) _ _ (below_drew (bel_setCells w.heap.size (Nat.le_refl _) _ _ (below_drew (below_alloc (Below.refl _ _) _))))
    refine ⟨_, rfl, own_new2 c2 _ hc2 hb hgc hgm hs2 ?_ hlx, grown_below _ hb2, .inr ⟨_, rfl, Nat.le_refl _⟩⟩
    rw [show (n + 1) * 2 = n * 2 + nv.length by omega]
    exact ins_lists2 row.toList c1.toList c2.toList (n * 2) (i * 2) inner nv _ hlen (by omega) hrt hl1 (by rw [hl2', hl2, show (i + 1) * 2 = i * 2 + 2 by omega])
 ·obtain rfl : i = n := by omega
  have := ins_post_end vb ho hv hl2 h1v hb hl
  rw [List.take_of_length_le (Nat.le_of_eq ho.1), List.drop_eq_nil_of_le (Nat.le_of_eq ho.1), List.append_nil]
  exact this
theorem inner39 {w : World} {ad : Addr} {l : List S39} (h : Kd.C k39 w (some ad) l.length l) : ∃ news, Reps (k39.K w) 2 l news ∧ ∀ j u, news[j]? = some u → w.cell? (ad.add j) = some u := by
 obtain ⟨news, h1, h2⟩ := ReadsRow.inner_ h
 exact ⟨news, h1, h2⟩
theorem k39_one {w : World} {l : List S39} {news : List Value} (h : Reps (k39.K w) 2 l news) : ∀ u ∈ news, u.oneCell' = true := by
 intro u hu
 obtain ⟨q, hq, rfl⟩ := List.mem_iff_getElem.1 hu
 have hql : q / 2 < l.length := by
  have := h.1
  omega
 have hc := h.2 (q / 2) _ (List.getElem?_eq_getElem hql)
 refine k39.K_one hc _ ?_
 rw [List.mem_iff_getElem?]
 refine ⟨q % 2, ?_⟩
 rw [List.getElem?_take, if_pos (Nat.mod_lt _ (by decide)), List.getElem?_drop, Nat.mul_comm, Nat.div_add_mod, List.getElem?_eq_getElem hq]
def CloneQ (w : World) (l : List S39) (e : Ending) (w' : World) : Prop := ∃ v news, e = .returned v ∧ w'.ownsRow w.heap.size 39 2 v l.length news ∧ Reps (k39.K w) 2 l news ∧ Below w.heap.size w w'
set_option maxHeartbeats 8000000 in
set_option maxRecDepth 100000 in
theorem clone_calls (A0 : Option Addr) (c0 : Nat) (l : List S39) (w : World) (hr0 : Kd.C k39 w A0 l.length l) (hc0 : l.length ≤ c0) (hl : l.length ≤ 1000000) : Calls Try.prog 50 #[.slice A0 l.length c0] w fun e w' => CloneQ w l e w' := by
 have hq : ∀ (w : World) (a : Option Addr) (n c n' c' : Nat), (binOp .eql 22 (.slice a n c) (.slice none n' c')).run Try.prog w = .ok (.bool a.isNone) w := fun w a n c n' c' => Lib.run_eql_slice_nil w _ _ a n c n' c' Try.underlying22
 cases A0 with
 | none =>
  have h0 : l = [] := by
   rcases Nat.eq_zero_or_pos l.length with h | h
   ·exact List.eq_nil_of_length_eq_zero h
   ·obtain ⟨ad, he, _⟩ := hr0.2.2 h; cases he
  subst h0
  clear hr0
  go_enter Try.func50, Try.ntmps50
  go_wp2
  go_ret
  exact ⟨_, [], rfl, World.ownsRow_nil _ _ _ _, ⟨rfl, fun j p h => by simp at h⟩, Below.refl _ _⟩
 | some ad =>
  obtain ⟨i0, hi0, hz0, hzs, hzb⟩ := info_parts info39
  obtain ⟨news, hn1, hn2⟩ := inner39 hr0
  have HN1 := Aside0.mk hn1
  have HN2 := Aside0.mk hn2
  have hnl : news.length = l.length * 2 := hn1.1
  clear hr0 hn1 hn2
  go_enter Try.func50, Try.ntmps50
  go_wp2_with (at_builtin; refine wpList_append_own _ rfl _ _ 22 rfl w.heap.size 39 i0 (.agg #[.int .i64 0, .slice none 0 0]) 2 32 Try.underlying22 hi0 hz0 hzs hzb rfl (by decide) _ _ _ rfl (World.ownsRow_made w #[] 0 (Nat.le_refl _) (Nat.zero_le _) rfl) ad l.length c0 news rfl ?qc1 ?qc2 ?qc3 ?qc4 ?qc5 ?qc6 ?_)
  (try (case qc1 => omega))
  case qc2 =>
   intro j u hj
   exact Lib.cell?_alloc_some _ (HN2.out j u hj)
  case qc3 => exact k39_one HN1.out
  case qc4 => unfold maxLen; omega
  case qc5 => omega
  (try (case qc6 => simp))
  intro v' w1 hown hgrow hnil
  go_wp2
  go_ret
  refine ⟨v', news, rfl, ?_, HN1.out, ((Below.refl _ w).alloc (Nat.le_refl _) _).grown hgrow (by simp) (by intro k hk; simp [Value.ownBlock] at hk; omega)⟩
  simpa using hown
structure OwnI (w : World) (g cap : Nat) (l : List S39) (i : Nat) (f : Nat → Nat) (W : World) : Prop where
 blk : ∃ cur, W.heap[g]? = some (.cells cur 39 (0, 0)) ∧ cur.size = cap * 2
 el : ∀ j x, l[j]? = some x → ∃ A c, W.cell? ⟨g, j * 2, none⟩ = some (.int .i64 x.f0) ∧ W.cell? ⟨g, j * 2 + 1, none⟩ = some (.slice A x.f1.length c) ∧ x.f1.length ≤ c ∧ (j < i → (Kd.int .i64).R 3 W w.heap.size (fun k => f k = j) (.slice A x.f1.length c) x.f1) ∧ (i ≤ j → (Kd.int .i64).C w A x.f1.length x.f1)
 bl : Below w.heap.size w W
theorem own_step {w : World} {g cap : Nat} {l : List S39} {i : Nat} {f : Nat → Nat} {wr w6 : World} (h : OwnI w g cap l i f wr) (hb : Below wr.heap.size wr w6) {cur : Array Value} (hc : w6.heap[g]? = some (.cells cur 39 (0, 0))) (hs : cur.size = cap * 2) {px : S39} (hp : l[i]? = some px) {A6 : Option Addr} {c6 : Nat}
  (hr : (Kd.int .i64).R 3 w6 wr.heap.size (fun _ => True) (.slice A6 px.f1.length c6) px.f1) (hle : px.f1.length ≤ c6) (hg : w.heap.size ≤ g) (hlt : i < l.length) (hcap : l.length ≤ cap) :
  OwnI w g cap l (i + 1) (fun k => if wr.heap.size ≤ k then i else f k) (w6.setCell ⟨g, i * 2 + 1, none⟩ (.slice A6 px.f1.length c6)) := by
 have hgw : g < wr.heap.size := by
  obtain ⟨cur0, h0, _⟩ := h.blk
  exact blk_lt h0
 have hb6 := below_step h.bl hb
 have hgr := grown_set w6 g (i * 2 + 1) (.slice A6 px.f1.length c6)
 have hcell : ∀ t, t ≠ i * 2 + 1 → ∀ u, wr.cell? ⟨g, t, none⟩ = some u → (w6.setCell ⟨g, i * 2 + 1, none⟩ (.slice A6 px.f1.length c6)).cell? ⟨g, t, none⟩ = some u := fun t ht u hu => by
  rw [blk_cell (blk_put hc (i * 2 + 1) (.slice A6 px.f1.length c6) rfl)]
  have h6 : w6.cell? ⟨g, t, none⟩ = some u := (hb.cell (World.block_lt_of_cell? wr _ hu)).trans hu
  rw [blk_cell hc] at h6
  rw [Array.getElem?_setIfInBounds, if_neg (Ne.symm ht)]
  exact h6
 refine ⟨⟨_, blk_put hc (i * 2 + 1) _ rfl, by rw [Array.size_setIfInBounds]; exact hs⟩, fun j x hj => ?_, below_set hb6 hg⟩
 obtain ⟨A, c, h1, h2, h3, h4, h5⟩ := h.el j x hj
 by_cases hji : j = i
 ·subst hji
  rw [hp] at hj
  obtain rfl := Option.some.inj hj
  refine ⟨A6, c6, hcell _ (by omega) _ h1, ?_, hle, fun _ => ?_, fun hh => by omega⟩
  ·rw [blk_cell (blk_put hc (j * 2 + 1) (.slice A6 px.f1.length c6) rfl), Array.getElem?_setIfInBounds, if_pos rfl, if_pos (by omega)]
  ·refine Kd.R_mono (Kd.R_grown (Kd.R_lower (Kd.R_bound hr) (Below.size h.bl)) hgr (fun k hk e => ?_)) (fun k hk => ?_)
   ·injection e with e
    obtain ⟨_, _, _, q, hq, cells, hh⟩ := hk
    subst e
    rw [hc] at hh
    cases hh
    exact absurd hq (by decide)
   ·show (if wr.heap.size ≤ k then j else f k) = j
    rw [if_pos hk.2.1]
 ·refine ⟨A, c, hcell _ (by omega) _ h1, hcell _ (by omega) _ h2, h3, fun hh => ?_, fun hh => h5 (by omega)⟩
  have h7 := Kd.R_below (Kd.R_bound (h4 (by omega))) hb
  refine Kd.R_mono (Kd.R_grown h7 hgr (fun k hk e => ?_)) (fun k hk => ?_)
  ·injection e with e
   obtain ⟨_, _, _, q, hq, cells, hh⟩ := hk
   subst e
   obtain ⟨cur0, h0, _⟩ := h.blk
   rw [h0] at hh
   cases hh
   exact absurd hq (by decide)
  ·show (if wr.heap.size ≤ k then i else f k) = j
   rw [if_neg (by have := hk.2.2.1; omega)]
   exact hk.1
def OwnQ (w : World) (l : List S39) (e : Ending) (w' : World) : Prop := ∃ v, e = .returned v ∧ Kd.S k39 39 w' w.heap.size (fun _ => True) v l ∧ Below w.heap.size w w'
theorem OwnI.done {w : World} {g cap : Nat} {l : List S39} {f : Nat → Nat} {W : World} (h : OwnI w g cap l l.length f W) (hb : w.heap.size ≤ g) (hn : l.length ≤ cap) (hm : cap ≤ maxLen) : Kd.S k39 39 W w.heap.size (fun _ => True) (.slice (some ⟨g, 0, none⟩) l.length cap) l := by
 obtain ⟨cur, hc, hs⟩ := h.blk
 have hct : cur.toList.length = cap * 2 := by rw [Array.length_toList]; exact hs
 have hin : (cur.toList.take (l.length * 2)).length = l.length * 2 := by rw [List.length_take]; omega
 obtain ⟨f2, hf2⟩ := Kd.reps_tag (d := k39) (w := W) (base := w.heap.size) (ok := fun k => True ∧ some k ≠ (Value.slice (some ⟨g, 0, none⟩) l.length cap).ownBlock) (xs := l) (inner := cur.toList.take (l.length * 2)) (fun j k => f k = j ∧ k ≠ g) (fun i j k h1 h2 => h1.1.symm.trans h2.1) (fun j k hk => ⟨trivial, fun e => hk.2 (by injection e)⟩) hin (fun j x hj => by
  obtain ⟨A, c, h1, h2, h3, h4, _⟩ := h.el j x hj
  have hjl : j < l.length := (List.getElem?_eq_some_iff.1 hj).1
  have e1 : ((cur.toList.take (l.length * 2)).drop (j * 2)).take 2 = [.int .i64 x.f0, .slice A x.f1.length c] := by
   rw [blk_cell hc] at h1 h2
   rw [List.drop_take, List.take_take, show min 2 (l.length * 2 - j * 2) = 2 by omega]
   have g1 : cur.toList[j * 2]? = some (.int .i64 x.f0) := by rw [Array.getElem?_toList]; exact h1
   have g2 : cur.toList[j * 2 + 1]? = some (.slice A x.f1.length c) := by rw [Array.getElem?_toList]; exact h2
   obtain ⟨l1, e1⟩ := List.getElem?_eq_some_iff.1 g1
   obtain ⟨l2, e2⟩ := List.getElem?_eq_some_iff.1 g2
   rw [List.drop_eq_getElem_cons l1, List.drop_eq_getElem_cons l2, e1, e2]
   rfl
  show k39.M W w.heap.size (fun k => f k = j ∧ k ≠ g) x (((cur.toList.take (l.length * 2)).drop (j * 2)).take 2)
  rw [e1]
  exact k39_mkM W _ _ x (Kd.R_mono (Kd.R_types (h4 hjl) hc (by decide)) (fun k hk => hk)))
 refine ⟨f2, fun k _ => trivial, cur.toList.take (l.length * 2), ?_, hf2⟩
 rw [List.length_zipIdx]
 exact ⟨hin, .inr ⟨g, cap, cur, rfl, hb, hc, hn, hm, hs, rfl⟩⟩
set_option maxHeartbeats 8000000 in
set_option maxRecDepth 100000 in
theorem own_calls (A0 : Option Addr) (c0 : Nat) (l : List S39) (w : World) (hr0 : Kd.C k39 w A0 l.length l) (hc0 : l.length ≤ c0) (hl : l.length ≤ 1000000) (hat : ∀ x ∈ l, x.f1.length ≤ 1000000) : Calls Try.prog 27 #[.slice A0 l.length c0] w fun e w' => OwnQ w l e w' := by
 have HR := Aside0.mk hr0
 have HC := Aside0.mk hc0
 have HAT := Aside0.mk hat
 clear hr0 hc0 hat
 go_enter Try.func27, Try.ntmps27
 go_wp2_with (go_at_call 50; refine (clone_calls A0 c0 l w HR.out HC.out hl).mono ?_; rintro e w4 ⟨v4, news, rfl, hown, hreps, hb⟩; have HO := Aside0.mk hown; have HP := Aside0.mk hreps; have HB := Aside0.mk hb; clear hown hreps hb; (rcases HO.out.2 with ⟨e4, hn⟩ | ⟨g, cap, cur, e4, hg, hh, hcap, hmax, hsz, htk⟩) <;> subst e4)
 ·have hl0 : l = [] := List.length_eq_zero_iff.1 hn
  subst hl0
  go_loopg [9] 0 (fun kq v9 wr => v9 = .int .i64 0 ∧ Aside0 (Below w.heap.size w wr))
  case atStart => exact ⟨rfl, HB⟩
  case round =>
   obtain ⟨rfl, HB2⟩ := hrel
   go_wp2
   go_ret
   exact ⟨_, rfl, Kd.S_nil _ _ _ _ _, HB2.out⟩
 ·have hmx := Aside0.mk hmax
  have hcp := Aside0.mk hcap
  have hgb := Aside0.mk hg
  have HI0 : Aside0 (OwnI w g cap l 0 (fun _ => 0) w4) := ⟨⟨⟨cur, hh, hsz⟩, fun j x hj => by
   have hjl : j < l.length := (List.getElem?_eq_some_iff.1 hj).1
   obtain ⟨A, c, e1, h3, h4⟩ := k39_open (HP.out.2 j x hj)
   have hct : cur.toList.length = cap * 2 := by rw [Array.length_toList]; exact hsz
   have g0 : ∀ t, t < 2 → cur[j * 2 + t]? = ([.int .i64 x.f0, .slice A x.f1.length c] : List Value)[t]? := fun t ht => by
    rw [← e1]
    show cur[j * 2 + t]? = ((news.drop (j * 2)).take 2)[t]?
    rw [List.getElem?_take, if_pos ht, List.getElem?_drop, ← htk, List.getElem?_take, if_pos (by omega), ← Array.getElem?_toList]
   refine ⟨A, c, ?_, ?_, h3, fun h => by omega, fun _ => h4⟩
   ·rw [blk_cell hh]; exact g0 0 (by omega)
   ·rw [blk_cell hh]; exact g0 1 (by omega), HB.out⟩⟩
  clear hg hh hcap hmax hsz htk HO HP HB news
  go_loopg [9] l.length (fun kq v9 wr => ∃ (x9 : Int) (i : Nat) (f : Nat → Nat), v9 = .int .i64 x9 ∧ Aside0 (x9 = (i : Int)) ∧ Aside0 (kq + i = l.length) ∧ Aside0 (OwnI w g cap l i f wr))
  case atStart => exact ⟨0, 0, _, rfl, ⟨rfl⟩, ⟨Nat.add_zero _⟩, HI0⟩
  case round =>
   clear HI0
   obtain ⟨x9, i, f, rfl, HX, HK, HI⟩ := hrel
   by_cases hlt : i < l.length
   ·have p0 : (0 : Int) ≤ x9 := by have := HX.out; omega
    have q0 : x9 < (l.length : Int) := by have := HX.out; omega
    have hlb : decide (x9 < (l.length : Int)) = true := decide_eq_true q0
    obtain ⟨px, hpx⟩ : ∃ px, l[i]? = some px := ⟨_, List.getElem?_eq_getElem hlt⟩
    obtain ⟨A, c, h1, h2, h3, _, h5⟩ := HI.out.el i px hpx
    have hxi : x9.toNat = i := by have := HX.out; omega
    have HPX := Aside0.mk hpx
    have H5 := Aside0.mk (Kd.C_below (h5 (Nat.le_refl _)) HI.out.bl)
    have H3 := Aside0.mk h3
    have H1 := Aside0.mk h1
    have H2 := Aside0.mk h2
    rw [← hxi] at h2
    have hLM := Aside0.mk (HAT.out px (List.mem_of_getElem? hpx))
    obtain ⟨cur, hcur, hcs⟩ := HI.out.blk
    have HCU := Aside0.mk hcur
    have HCS := Aside0.mk hcs
    have hfz := blk_frozen hcur (x9.toNat * 2 + 1)
    have HXI := Aside0.mk hxi
    clear h1 h3 h5 hpx hcur hcs hxi
    go_wp2_with (go_at_call 51; refine (slices_Clone_int_int.calls A c px.f1 px.f1 wr H5.out H3.out (by unfold slices_Clone_int_int.f; rw [if_pos (by have := hLM.out; omega)])).mono ?_; rintro e w6 ⟨v6, rfl, hr, hb⟩; have HR6 := Aside0.mk hr; have HB6 := Aside0.mk hb; have HCU6 := Aside0.mk (blk_below HCU.out hb); have h2' := (hb.cell (World.block_lt_of_cell? wr _ h2)).trans h2; have hfz' := blk_frozen HCU6.out (x9.toNat * 2 + 1); clear hr hb; obtain ⟨A6, c6, e6⟩ := Kd.R_slice HR6.out; subst e6)
    have hw1 : wrap64 (x9 + 1) = ((i + 1 : Nat) : Int) := by have := HX.out; unfold wrap64; omega
    go_roundg (gk - 1)
    case measure => have := HK.out; omega
    case rel =>
     refine ⟨_, i + 1, fun k => if wr.heap.size ≤ k then i else f k, rfl, ⟨by first | exact hw1 | (have := HX.out; omega)⟩, ⟨by have := HK.out; omega⟩, ?_⟩
     rw [HXI.out]
     exact ⟨own_step HI.out HB6.out HCU6.out HCS.out HPX.out HR6.out (Kd.R_reads' HR6.out).2.1 hgb.out hlt hcp.out⟩
   ·have hlb : decide (x9 < (l.length : Int)) = false := decide_eq_false (by have := HX.out; omega)
    go_wp2
    go_ret
    obtain rfl : i = l.length := by have := HK.out; omega
    exact ⟨_, rfl, HI.out.done hgb.out hcp.out hmx.out, HI.out.bl⟩
theorem S_open39 {w : World} {base : Nat} {v : Value} {l : List S39} (h : Kd.S k39 39 w base (fun _ => True) v l) : ∃ (f : Nat → Nat) (inner : List Value), w.ownsRow base 39 2 v l.length inner ∧ ∀ j x, l[j]? = some x → k39.M w base (fun k => some k ≠ v.ownBlock ∧ f k = j) x ((inner.drop (j * 2)).take 2) := by
 obtain ⟨f, _, inner, ho, hr⟩ := h
 rw [List.length_zipIdx] at ho
 exact ⟨f, inner, ho, fun j x hj => k39.M_mono (fun k hk => ⟨hk.1.2, hk.2⟩) (hr.2 j (x, j) (Kd.zip_at hj))⟩
theorem S_close39 {w : World} {base : Nat} {v : Value} {l : List S39} {inner : List Value} (okj : Nat → Nat → Prop) (ho : w.ownsRow base 39 2 v l.length inner) (hap : ∀ i j k, okj i k → okj j k → i = j) (hok : ∀ j k, okj j k → some k ≠ v.ownBlock)
  (hrep : ∀ j x, l[j]? = some x → k39.M w base (okj j) x ((inner.drop (j * 2)).take 2)) : Kd.S k39 39 w base (fun _ => True) v l := by
 obtain ⟨f, hf⟩ := Kd.reps_tag (d := k39) (w := w) (base := base) (ok := fun k => True ∧ some k ≠ v.ownBlock) (xs := l) (inner := inner) okj hap (fun j k hk => ⟨trivial, hok j k hk⟩) ho.1 hrep
 exact ⟨f, fun _ _ => trivial, inner, by rw [List.length_zipIdx]; exact ho, hf⟩
theorem inner_one {w : World} {base : Nat} {okj : Nat → Nat → Prop} {l : List S39} {inner : List Value} (hl : inner.length = l.length * 2) (h : ∀ j x, l[j]? = some x → k39.M w base (okj j) x ((inner.drop (j * 2)).take 2)) : ∀ u ∈ inner, u.oneCell' = true := by
 intro u hu
 obtain ⟨q, hq, rfl⟩ := List.mem_iff_getElem.1 hu
 have hql : q / 2 < l.length := by omega
 refine k39.K_one (k39.K_of_M (h (q / 2) _ (List.getElem?_eq_getElem hql))) _ ?_
 rw [List.mem_iff_getElem?]
 refine ⟨q % 2, ?_⟩
 rw [List.getElem?_take, if_pos (Nat.mod_lt _ (by decide)), List.getElem?_drop, Nat.mul_comm, Nat.div_add_mod, List.getElem?_eq_getElem hq]
/-- A posting put into a row of its own. -/
theorem put_new {w w' : World} {base N : Nat} {v v' : Value} {l : List S39} {f : Nat → Nat} {inner : List Value} {i vb : Nat} {doc at_ : Int} (ho : w.ownsRow base 39 2 v l.length inner) (hrep : ∀ j x, l[j]? = some x → k39.M w base (fun k => (some k ≠ v.ownBlock ∧ f k = j) ∧ k < N) x ((inner.drop (j * 2)).take 2)) (hi : i ≤ l.length)
  (hb1 : w.heap[vb]? = some (.cells #[.int .i64 at_] 3 (0, 0))) (hN : N ≤ vb) (hbb : base ≤ vb) (hne : v.ownBlock ≠ some vb)
  (ho' : w'.ownsRow base 39 2 v' (l.length + 1) (inner.take (i * 2) ++ [.int .i64 doc, .slice (some ⟨vb, 0, none⟩) 1 1] ++ inner.drop (i * 2))) (hg : w.grownBy w' v.ownBlock) (hat : v'.ownBlock = v.ownBlock ∨ ∃ b, v'.ownBlock = some b ∧ w.heap.size ≤ b) :
  Kd.S k39 39 w' base (fun _ => True) v' (l.take i ++ [⟨doc, [at_]⟩] ++ l.drop i) := by
 have hlen : inner.length = l.length * 2 := ho.1
 have hvb : vb < w.heap.size := blk_lt hb1
 have hnew : ∀ k, k < w.heap.size → some k ≠ v.ownBlock → some k ≠ v'.ownBlock := fun k hk hn => by
  rcases hat with h | ⟨b, h, hle⟩
  ·rw [h]; exact hn
  ·rw [h]
   intro e
   injection e with e
   omega
 have hll : (l.take i ++ [(⟨doc, [at_]⟩ : S39)] ++ l.drop i).length = l.length + 1 := by
  simp only [List.length_append, List.length_take, List.length_drop, List.length_singleton]
  omega
 have e0 : (inner.take (i * 2)).length = i * 2 := by rw [List.length_take]; omega
 have e1 : (l.take i).length = i := by rw [List.length_take]; omega
 refine S_close39 (fun j k => (k < w.heap.size ∧ some k ≠ v.ownBlock) ∧ if j < i then f k = j ∧ k ≠ vb else if j = i then k = vb else f k = j - 1 ∧ k ≠ vb) (inner := inner.take (i * 2) ++ [.int .i64 doc, .slice (some ⟨vb, 0, none⟩) 1 1] ++ inner.drop (i * 2)) (by rw [hll]; exact ho') ?_ (fun j k hk => hnew k hk.1.1 hk.1.2) ?_
 ·intro a b k ⟨_, ha⟩ ⟨_, hb⟩
  split at ha <;> split at hb <;> (try split at ha) <;> (try split at hb) <;> first | omega | (subst ha; exact absurd rfl hb.2) | (subst hb; exact absurd rfl ha.2) | (exact absurd ha hb.2) | (exact absurd hb ha.2)
 ·intro j x hj
  have hjl : j < l.length + 1 := by
   have := (List.getElem?_eq_some_iff.1 hj).1
   omega
  rcases Nat.lt_trichotomy j i with h | h | h
  ·rw [List.append_assoc, List.getElem?_append_left (by omega), List.getElem?_take, if_pos h] at hj
   have ec : ((inner.take (i * 2) ++ [Value.int .i64 doc, .slice (some ⟨vb, 0, none⟩) 1 1] ++ inner.drop (i * 2)).drop (j * 2)).take 2 = (inner.drop (j * 2)).take 2 := by
    rw [List.append_assoc, List.drop_append_of_le_length (by omega), List.take_append_of_le_length (by rw [List.length_drop]; omega), List.drop_take, List.take_take]
    congr 1
    omega
   rw [ec]
   exact k39.M_mono (fun k hk => ⟨⟨hk.2.2.1, hk.1.1.1⟩, by rw [if_pos h]; exact ⟨hk.1.1.2, by have := hk.1.2; omega⟩⟩) (Kd.M_grown (k39.M_bound (hrep j x hj)) hg (fun k hk => hk.1.1.1))
  ·subst h
   rw [List.append_assoc, List.getElem?_append_right (by omega), e1, Nat.sub_self] at hj
   simp only [List.singleton_append, List.getElem?_cons_zero, Option.some.injEq] at hj
   subst hj
   have ec : ((inner.take (j * 2) ++ [Value.int .i64 doc, .slice (some ⟨vb, 0, none⟩) 1 1] ++ inner.drop (j * 2)).drop (j * 2)).take 2 = [Value.int .i64 doc, .slice (some ⟨vb, 0, none⟩) 1 1] := by
    rw [List.append_assoc, List.drop_append_of_le_length (by omega), List.drop_eq_nil_of_le (by omega), List.nil_append]
    rfl
   rw [ec]
   refine k39_mkM _ _ _ (⟨doc, [at_]⟩ : S39) (v1 := .slice (some ⟨vb, 0, none⟩) 1 1) ?_
   have hb1' : w'.heap[vb]? = some (.cells #[.int .i64 at_] 3 (0, 0)) := blk_grown hb1 hg (fun e => hne e.symm)
   refine Kd.R_of_own ⟨rfl, .inr ⟨vb, 1, _, rfl, hbb, hb1', Nat.le_refl _, by unfold maxLen; omega, rfl, rfl⟩⟩ (fun k hk => ?_)
   cases hk
   exact ⟨⟨hvb, fun e => hne e.symm⟩, by rw [if_neg (Nat.lt_irrefl _), if_pos rfl]⟩
  ·rw [List.append_assoc, List.getElem?_append_right (by omega), e1, List.getElem?_append_right (by rw [List.length_singleton]; omega), List.length_singleton, List.getElem?_drop, show i + (j - i - 1) = j - 1 by omega] at hj
   have ec : ((inner.take (i * 2) ++ [Value.int .i64 doc, .slice (some ⟨vb, 0, none⟩) 1 1] ++ inner.drop (i * 2)).drop (j * 2)).take 2 = (inner.drop ((j - 1) * 2)).take 2 := by
    have e3 : (inner.take (i * 2) ++ [Value.int .i64 doc, .slice (some ⟨vb, 0, none⟩) 1 1]).length = i * 2 + 2 := by rw [List.length_append, e0]; rfl
    rw [List.drop_append, e3, List.drop_eq_nil_of_le (by omega), List.nil_append, List.drop_drop]
    congr 2
    omega
   rw [ec]
   exact k39.M_mono (fun k hk => ⟨⟨hk.2.2.1, hk.1.1.1⟩, by rw [if_neg (by omega), if_neg (by omega)]; exact ⟨hk.1.1.2, by have := hk.1.2; omega⟩⟩) (Kd.M_grown (k39.M_bound (hrep (j - 1) x hj)) hg (fun k hk => hk.1.1.1))

theorem take_set_two (inner : List Value) (i j : Nat) (u : Value) (h : j ≠ i) : ((inner.set (i * 2 + 1) u).drop (j * 2)).take 2 = (inner.drop (j * 2)).take 2 := by
 apply List.ext_getElem?
 intro t
 rw [List.getElem?_take, List.getElem?_take]
 split
 ·rw [List.getElem?_drop, List.getElem?_drop, List.getElem?_set_ne (by omega)]
 ·rfl
theorem put_old {W W2 : World} {base g cap : Nat} {l : List S39} {f : Nat → Nat} {inner : List Value} {i : Nat} {x : S39} {u u' : Value} {new : List Int}
  (ho : W.ownsRow base 39 2 (.slice (some ⟨g, 0, none⟩) l.length cap) l.length inner) (hrep : ∀ j x, l[j]? = some x → k39.M W base (fun k => (some k ≠ (Value.slice (some ⟨g, 0, none⟩) l.length cap).ownBlock ∧ f k = j) ∧ k < W.heap.size) x ((inner.drop (j * 2)).take 2))
  (hx : l[i]? = some x) (hu : (inner.drop (i * 2)).take 2 = [.int .i64 x.f0, u]) (huo : ∀ k, u.ownBlock = some k → k ≠ g ∧ f k = i)
  (hr : (Kd.int .i64).R 3 W2 base (fun _ => True) u' new) (hg : W.grownBy W2 u.ownBlock) (hat : u'.ownBlock = u.ownBlock ∨ ∃ b, u'.ownBlock = some b ∧ W.heap.size ≤ b) :
  Kd.S k39 39 (W2.setCell ⟨g, i * 2 + 1, none⟩ u') base (fun _ => True) (.slice (some ⟨g, 0, none⟩) l.length cap) (l.set i ⟨x.f0, new⟩) := by
 have hlen : inner.length = l.length * 2 := ho.1
 have hil : i < l.length := (List.getElem?_eq_some_iff.1 hx).1
 rcases ho.2 with ⟨e, _⟩ | ⟨g', cap', cur, e, hbg, hh, hcap, hmax, hsz, htk⟩
 ·cases e
 ·cases e
  have hgu : u.ownBlock ≠ some g := fun e => (huo g e).1 rfl
  have hh2 : W2.heap[g]? = some (.cells cur 39 (0, 0)) := blk_grown hh hg (fun e => hgu e.symm)
  have hgu' : some g ≠ u'.ownBlock := Kd.R_ne hr hh2 (by decide)
  have hh3 := blk_put hh2 (i * 2 + 1) u' rfl
  have hgw : g < W.heap.size := blk_lt hh
  have ho3 : (W2.setCell ⟨g, i * 2 + 1, none⟩ u').ownsRow base 39 2 (.slice (some ⟨g, 0, none⟩) l.length cap) (l.set i ⟨x.f0, new⟩).length (inner.set (i * 2 + 1) u') := by
   rw [List.length_set]
   refine ⟨by rw [List.length_set]; exact hlen, .inr ⟨g, cap, _, rfl, hbg, hh3, hcap, hmax, by rw [Array.size_setIfInBounds]; exact hsz, ?_⟩⟩
   rw [Array.toList_setIfInBounds, List.take_set, htk]
  refine S_close39 (fun j k => k ≠ g ∧ if j = i then some k = u'.ownBlock else f k = j ∧ some k ≠ u'.ownBlock) ho3 ?_ (fun j k hk e => hk.1 (by injection e)) ?_
  ·intro a b k ⟨_, ha⟩ ⟨_, hb⟩
   split at ha <;> split at hb <;> first | omega | exact absurd ha hb.2 | exact absurd hb ha.2
  ·intro j y hj
   by_cases hji : j = i
   ·subst hji
    rw [List.getElem?_set_self hil] at hj
    obtain rfl := Option.some.inj hj
    have ec : ((inner.set (j * 2 + 1) u').drop (j * 2)).take 2 = [.int .i64 x.f0, u'] := by
     have h0 : inner[j * 2]? = some (.int .i64 x.f0) := by
      have := congrArg (fun t => t[0]?) hu
      simpa [List.getElem?_take, List.getElem?_drop] using this
     apply List.ext_getElem?
     intro t
     rw [List.getElem?_take]
     split
     ·rename_i ht
      rw [List.getElem?_drop]
      rcases (show t = 0 ∨ t = 1 by omega) with rfl | rfl
      ·rw [List.getElem?_set_ne (by omega), Nat.add_zero, h0]; rfl
      ·rw [List.getElem?_set_self (by omega)]; rfl
     ·rename_i ht
      rw [List.getElem?_eq_none (by simp; omega)]
    rw [ec]
    refine k39_mkM _ _ _ (⟨x.f0, new⟩ : S39) (v1 := u') ?_
    have hown := Kd.own_of_R hr
    refine Kd.R_of_own (own_move hown (fun k hk => Below.heap_setCell W2 _ _ k (fun e => hgu' (by rw [hk, e])))) (fun k hk => ⟨fun e => hgu' (by rw [hk, e]), by rw [if_pos rfl, hk]⟩)
   ·rw [List.getElem?_set_ne (Ne.symm hji)] at hj
    rw [take_set_two inner i j u' hji]
    have h1 := Kd.M_grown (hrep j y hj) hg (fun k hk e => hji ((hk.1.2).symm.trans (huo k e.symm).2))
    refine k39.M_mono (fun k hk => ?_) (Kd.M_far (p := ⟨g, i * 2 + 1, none⟩) (k39.M_mono (fun k hk => hk) h1) (fun k hk e => hk.1.1 (by rw [e]; rfl)) u')
    refine ⟨fun e => hk.1.1 (by rw [e]; rfl), ?_⟩
    rw [if_neg hji]
    refine ⟨hk.1.2, fun e => ?_⟩
    rcases hat with h | ⟨b, h, hle⟩
    ·rw [h] at e
     exact hji ((hk.1.2).symm.trans (huo k e.symm).2)
    ·rw [h] at e
     injection e with e
     have := hk.2
     omega
def PutIns (base : Nat) (v : Value) (w : World) (l : List S39) (e : Ending) (w' : World) : Prop := ∃ v', e = .returned v' ∧ Kd.S k39 39 w' base (fun _ => True) v' l ∧ w.grownBy w' v.ownBlock
theorem put_ins {w : World} {base : Nat} {v : Value} {l : List S39} {i : Nat} (doc at_ : Int) (hS : Kd.S k39 39 w base (fun _ => True) v l) (hi : i ≤ l.length) (hb : base ≤ w.heap.size) (hl : l.length ≤ 1000) :
  Calls Try.prog 29 #[v, .int .i64 (i : Int), .slice (some ⟨w.heap.size + 1, 0, none⟩) 1 1] ((w.alloc (.cells #[.int .i64 at_] 3)).alloc (.cells #[.int .i64 doc, .slice (some ⟨w.heap.size, 0, none⟩) 1 1] 39)) fun e w' => PutIns base v w (l.take i ++ [⟨doc, [at_]⟩] ++ l.drop i) e w' := by
 have hlt := Kd.S_lt hS
 obtain ⟨f, inner, hown, hrep⟩ := S_open39 hS
 obtain ⟨W, hW⟩ : ∃ W, W = (w.alloc (.cells #[.int .i64 at_] 3)).alloc (.cells #[.int .i64 doc, .slice (some ⟨w.heap.size, 0, none⟩) 1 1] 39) := ⟨_, rfl⟩
 rw [← hW]
 have hbW : Below w.heap.size w W := by rw [hW]; exact below_alloc (below_alloc (Below.refl _ _) _) _
 have h0 : W.heap[w.heap.size]? = some (.cells #[.int .i64 at_] 3 (0, 0)) := by rw [hW]; exact (Below.heap_alloc _ _ _ (by simp)).trans (World.alloc_heap_new w _)
 have h1 : W.heap[w.heap.size + 1]? = some (.cells #[.int .i64 doc, .slice (some ⟨w.heap.size, 0, none⟩) 1 1] 39 (0, 0)) := by
  rw [hW]
  have := World.alloc_heap_new (w.alloc (.cells #[.int .i64 at_] 3)) (.cells #[.int .i64 doc, .slice (some ⟨w.heap.size, 0, none⟩) 1 1] 39)
  rwa [World.size_alloc] at this
 have hownW : W.ownsRow base 39 2 v l.length inner := own_move hown (fun k hk => hbW.block k (hlt k hk))
 have hrepW : ∀ j x, l[j]? = some x → k39.M W base (fun k => (some k ≠ v.ownBlock ∧ f k = j) ∧ k < w.heap.size) x ((inner.drop (j * 2)).take 2) := fun j x hj =>
  k39.M_mono (fun k hk => ⟨hk.1, hk.2.2.1⟩) (Kd.M_below (k39.M_bound (hrep j x hj)) hbW)
 have hne0 : v.ownBlock ≠ some w.heap.size := fun e => by have := hlt _ e; omega
 have hne1 : v.ownBlock ≠ some (w.heap.size + 1) := fun e => by have := hlt _ e; omega
 refine (ins_post (i := i) (nv := [.int .i64 doc, .slice (some ⟨w.heap.size, 0, none⟩) 1 1]) (w.heap.size + 1) hownW hi h1 rfl (inner_one (okj := fun j k => (some k ≠ v.ownBlock ∧ f k = j) ∧ k < w.heap.size) hownW.1 hrepW) ?_ hne1 (Nat.le_trans hb hbW.size) (by omega)).mono ?_
 ·intro u hu
  rcases List.mem_cons.1 hu with rfl | hu
  ·rfl
  ·rw [List.mem_singleton.1 hu]; rfl
 ·rintro e w' ⟨v', rfl, ho', hg', hat'⟩
  exact ⟨v', rfl, put_new (N := w.heap.size) hownW hrepW hi h0 (Nat.le_refl _) hb hne0 ho' hg' hat', grown_trans (grown_below _ hbW) hg'⟩
def PutAt (base g i : Nat) (v : Value) (w : World) (l : List S39) (e : Ending) (w' : World) : Prop := ∃ Au cu nu, e = .returned (.slice Au nu cu) ∧ (∃ old, w'.cell? ⟨g, i * 2 + 1, none⟩ = some old) ∧ w'.frozen? ⟨g, i * 2 + 1, none⟩ = false ∧ Kd.S k39 39 (w'.setCell ⟨g, i * 2 + 1, none⟩ (.slice Au nu cu)) base (fun _ => True) v l ∧ ∀ w0, Below base w0 w → Below base w0 (w'.setCell ⟨g, i * 2 + 1, none⟩ (.slice Au nu cu))
theorem put_at {w : World} {base g cap i : Nat} {l : List S39} {x : S39} (kk : Nat) (at_ : Int) (hS : Kd.S k39 39 w base (fun _ => True) (.slice (some ⟨g, 0, none⟩) l.length cap) l) (hx : l[i]? = some x) (hk : kk ≤ x.f1.length) (hb : base ≤ w.heap.size) (hl : x.f1.length ≤ 1000) :
  ∃ Au cu, w.cell? ⟨g, i * 2 + 1, none⟩ = some (.slice Au x.f1.length cu) ∧ Calls Try.prog 31 #[.slice Au x.f1.length cu, .int .i64 (kk : Int), .slice (some ⟨w.heap.size, 0, none⟩) 1 1] (w.alloc (.cells #[.int .i64 at_] 3)) fun e w' => PutAt base g i (.slice (some ⟨g, 0, none⟩) l.length cap) w (l.set i ⟨x.f0, x.f1.take kk ++ [at_] ++ x.f1.drop kk⟩) e w' := by
 have hil : i < l.length := (List.getElem?_eq_some_iff.1 hx).1
 have hlt := Kd.S_lt hS
 have hgb : base ≤ g := Kd.S_base hS g rfl
 obtain ⟨f, inner, hown, hrep⟩ := S_open39 hS
 have hM := hrep i x hx
 obtain ⟨u, hu, hRu⟩ := k39_openM hM
 obtain ⟨Au, cu, eu⟩ := Kd.R_slice hRu
 subst eu
 have hgw : g < w.heap.size := hlt g rfl
 have hcell : w.cell? ⟨g, i * 2 + 1, none⟩ = some (.slice Au x.f1.length cu) := by
  rcases hown.2 with ⟨e, _⟩ | ⟨g', cap', cur, e, _, hh, hcap, hmax, hsz, htk⟩
  ·cases e
  ·cases e
   rw [blk_cell hh]
   have h1 : inner[i * 2 + 1]? = some (.slice Au x.f1.length cu) := by
    have := congrArg (fun t => t[1]?) hu
    simpa [List.getElem?_take, List.getElem?_drop] using this
   rw [← htk, List.getElem?_take] at h1
   split at h1
   ·rw [← Array.getElem?_toList]; exact h1
   ·cases h1
 obtain ⟨W, hW⟩ : ∃ W, W = w.alloc (.cells #[.int .i64 at_] 3) := ⟨_, rfl⟩
 have hbW : Below w.heap.size w W := by rw [hW]; exact below_alloc (Below.refl _ _) _
 have h0 : W.heap[w.heap.size]? = some (.cells #[.int .i64 at_] 3 (0, 0)) := by rw [hW]; exact World.alloc_heap_new w _
 have hownW : W.ownsRow base 39 2 (.slice (some ⟨g, 0, none⟩) l.length cap) l.length inner := own_move hown (fun k hk => hbW.block k (hlt k hk))
 have hrepW : ∀ j y, l[j]? = some y → k39.M W base (fun k => (some k ≠ (Value.slice (some ⟨g, 0, none⟩) l.length cap).ownBlock ∧ f k = j) ∧ k < W.heap.size) y ((inner.drop (j * 2)).take 2) := fun j y hj =>
  k39.M_mono (fun k hk => ⟨hk.1, Nat.lt_of_lt_of_le hk.2.2.1 hbW.size⟩) (Kd.M_below (k39.M_bound (hrep j y hj)) hbW)
 have hRW := Kd.R_below hRu hbW
 have huo : ∀ k, (Value.slice Au x.f1.length cu).ownBlock = some k → k ≠ g ∧ f k = i := fun k hk => ⟨fun e => (hRu.1 k hk).1 (by rw [e]; rfl), (hRu.1 k hk).2⟩
 have hne : (Value.slice Au x.f1.length cu).ownBlock ≠ some w.heap.size := fun e => by have := Kd.R_lt hRu _ e; omega
 refine ⟨Au, cu, hcell, ?_⟩
 rw [← hW]
 refine (ins_int (ok := fun _ => True) kk at_ w.heap.size (Kd.R_mono hRW (fun _ _ => trivial)) hk h0 hne (Nat.le_trans hb hbW.size) (fun _ _ => trivial) (by omega)).mono ?_
 rintro e w' ⟨u', rfl, hr', hg', hat'⟩
 have hS' := put_old hownW hrepW hx hu huo hr' hg' hat'
 obtain ⟨A', c', e'⟩ := Kd.R_slice hr'
 subst e'
 have hfar : (Value.slice Au x.f1.length cu).ownBlock ≠ some g := fun e => (huo g e).1 rfl
 have hkeep : w'.heap[g]? = w.heap[g]? := (hg'.block g (Nat.lt_of_lt_of_le hgw hbW.size) (fun e => hfar e.symm)).trans (hbW.block g hgw)
 rcases hown.2 with ⟨e, _⟩ | ⟨g', cap', cur, e, _, hh, hcap, hmax, hsz, htk⟩
 ·cases e
 ·cases e
  have hh' : w'.heap[g]? = some (.cells cur 39 (0, 0)) := hkeep.trans hh
  refine ⟨A', c', _, rfl, ⟨cur[i * 2 + 1]'(by omega), by rw [blk_cell hh', Array.getElem?_eq_getElem]⟩, blk_frozen hh' _, hS', fun w0 h0' => ?_⟩
  exact Below.setCell (p := ⟨g, i * 2 + 1, none⟩) ((h0'.trans (hbW.mono hb)).grown hg' (Nat.le_trans hb hbW.size) (fun k hk => Kd.R_base hRu k hk)) hgb _
theorem S_some {w : World} {base : Nat} {A : Option Addr} {cap i : Nat} {l : List S39} (hS : Kd.S k39 39 w base (fun _ => True) (.slice A l.length cap) l) (hi : i < l.length) : ∃ g, A = some ⟨g, 0, none⟩ := by
 obtain ⟨f, inner, hown, _⟩ := S_open39 hS
 rcases hown.2 with ⟨e, h0⟩ | ⟨g', cap', cur, e, _⟩
 ·omega
 ·injection e with e _ _
  exact ⟨g', e⟩

def insL (l : List Int) (k : Nat) (x : Int) : List Int := l.take k ++ [x] ++ l.drop k
def putBad (m : Bool) (doc at_ : Int) : Bool := if m = false then true else if doc < 0 then true else if doc ≥ 64 then true else if at_ < 0 then true else decide (at_ ≥ 120)
def post_Put.g (k : Nat) (l : List S39) (doc at_ : Int) : Option (List S39 × Int) := if l.length ≤ 1000 ∧ ∀ x ∈ l, x.f1.length ≤ 1000 then ((post_May.f k l).bind fun m => if putBad m doc at_ = true then some (l, 1) else ((post_place.f k l doc).bind fun p => if p.2 = true then (if 0 ≤ p.1 ∧ p.1 < (l.length : Int) then ((slices_BinarySearch_int_int.f k (rd_T39 l p.1).f1 at_).bind fun q => if q.2 = true then some (l, 3) else (if 0 ≤ q.1 ∧ q.1 ≤ ((rd_T39 l p.1).f1.length : Int) then some (l.set p.1.toNat ⟨(rd_T39 l p.1).f0, insL (rd_T39 l p.1).f1 q.1.toNat at_⟩, 0) else none)) else none) else (if 0 ≤ p.1 ∧ p.1 ≤ (l.length : Int) then some (l.take p.1.toNat ++ [⟨doc, [at_]⟩] ++ l.drop p.1.toNat, 0) else none))) else none
def PutPost (w : World) (r1 : List S39) (r2 : Int) (e : Ending) (w' : World) : Prop := ∃ v0_ : Value, e = .returned (.tuple #[v0_, .int .i64 r2]) ∧ Kd.S k39 39 w' w.heap.size (fun _ => True) v0_ r1 ∧ Below w.heap.size w w'
set_option maxHeartbeats 8000000 in
set_option maxRecDepth 100000 in
theorem post_Put.calls_ (k : Nat) (A0 : Option Addr) (c0 : Nat) (l0 : List S39) (doc at_ : Int) (r1 : List S39) (r2 : Int) (w : World) (hr0 : Kd.C k39 w A0 l0.length l0) (hc0 : l0.length ≤ c0) (h : post_Put.g k l0 doc at_ = some (r1, r2)) :
  Calls Try.prog 12 #[.slice A0 l0.length c0, .int .i64 doc, .int .i64 at_] w fun e w' => PutPost w r1 r2 e w' := by
 have HR := Aside0.mk hr0
 have HC := Aside0.mk hc0
 unfold post_Put.g at h
 obtain ⟨hgd, h⟩ := Option.ite_none_right_eq_some.mp h
 replace h := Option.bind_eq_some_iff.mp h
 obtain ⟨m, hm, h⟩ := h
 replace hm := Aside0.mk hm
 have HGD := Aside0.mk hgd
 clear hr0 hc0 hgd
 by_cases hbad : putBad m doc at_ = true
 ·rw [if_pos hbad] at h
  have h := Option.some.inj h
  injection h with e1 e2
  subst e1
  subst e2
  go_enter Try.func12, Try.ntmps12
  unfold putBad at hbad
  cases m with
  | false =>
   clear hbad
   go_wp2_with (first | (go_at_call 27; refine (own_calls A0 c0 l0 w HR.out HC.out (by have := HGD.out.1; omega) (fun x hx => by have := HGD.out.2 x hx; omega)).mono ?_; rintro e w4 ⟨v4, rfl, hs, hb⟩; have HS4 := Aside0.mk hs; have HB4 := Aside0.mk hb; clear hs hb; obtain ⟨A4, c4, e4⟩ := Kd.S_slice HS4.out; subst e4) | (go_at_call 15; refine (post_May.calls k A0 c0 l0 false w4 (Kd.C_below HR.out HB4.out) HC.out hm.out).mono ?_; rintro e w5 ⟨rfl, hb⟩; have HS5 := Aside0.mk (Kd.S_below HS4.out hb); have HB5 := Aside0.mk (below_step HB4.out hb); clear hb HS4 HB4))
   go_ret2
   unfold PutPost
   exact ⟨_, rfl, HS5.out, HB5.out⟩
  | true =>
   by_cases c1 : doc < 0
   ·have d1 : decide (doc < 0) = true := decide_eq_true c1
    clear hbad
    go_wp2_with (first | (go_at_call 27; refine (own_calls A0 c0 l0 w HR.out HC.out (by have := HGD.out.1; omega) (fun x hx => by have := HGD.out.2 x hx; omega)).mono ?_; rintro e w4 ⟨v4, rfl, hs, hb⟩; have HS4 := Aside0.mk hs; have HB4 := Aside0.mk hb; clear hs hb; obtain ⟨A4, c4, e4⟩ := Kd.S_slice HS4.out; subst e4) | (go_at_call 15; refine (post_May.calls k A0 c0 l0 true w4 (Kd.C_below HR.out HB4.out) HC.out hm.out).mono ?_; rintro e w5 ⟨rfl, hb⟩; have HS5 := Aside0.mk (Kd.S_below HS4.out hb); have HB5 := Aside0.mk (below_step HB4.out hb); clear hb HS4 HB4))
    go_ret2
    unfold PutPost
    exact ⟨_, rfl, HS5.out, HB5.out⟩
   ·have d1 : decide (doc < 0) = false := decide_eq_false c1
    by_cases c2 : doc ≥ 64
    ·have d2 : decide (doc ≥ 64) = true := decide_eq_true c2
     clear hbad
     go_wp2_with (first | (go_at_call 27; refine (own_calls A0 c0 l0 w HR.out HC.out (by have := HGD.out.1; omega) (fun x hx => by have := HGD.out.2 x hx; omega)).mono ?_; rintro e w4 ⟨v4, rfl, hs, hb⟩; have HS4 := Aside0.mk hs; have HB4 := Aside0.mk hb; clear hs hb; obtain ⟨A4, c4, e4⟩ := Kd.S_slice HS4.out; subst e4) | (go_at_call 15; refine (post_May.calls k A0 c0 l0 true w4 (Kd.C_below HR.out HB4.out) HC.out hm.out).mono ?_; rintro e w5 ⟨rfl, hb⟩; have HS5 := Aside0.mk (Kd.S_below HS4.out hb); have HB5 := Aside0.mk (below_step HB4.out hb); clear hb HS4 HB4))
     go_ret2
     unfold PutPost
     exact ⟨_, rfl, HS5.out, HB5.out⟩
    ·have d2 : decide (doc ≥ 64) = false := decide_eq_false c2
     by_cases c3 : at_ < 0
     ·have d3 : decide (at_ < 0) = true := decide_eq_true c3
      clear hbad
      go_wp2_with (first | (go_at_call 27; refine (own_calls A0 c0 l0 w HR.out HC.out (by have := HGD.out.1; omega) (fun x hx => by have := HGD.out.2 x hx; omega)).mono ?_; rintro e w4 ⟨v4, rfl, hs, hb⟩; have HS4 := Aside0.mk hs; have HB4 := Aside0.mk hb; clear hs hb; obtain ⟨A4, c4, e4⟩ := Kd.S_slice HS4.out; subst e4) | (go_at_call 15; refine (post_May.calls k A0 c0 l0 true w4 (Kd.C_below HR.out HB4.out) HC.out hm.out).mono ?_; rintro e w5 ⟨rfl, hb⟩; have HS5 := Aside0.mk (Kd.S_below HS4.out hb); have HB5 := Aside0.mk (below_step HB4.out hb); clear hb HS4 HB4))
      go_ret2
      unfold PutPost
      exact ⟨_, rfl, HS5.out, HB5.out⟩
     ·have d3 : decide (at_ < 0) = false := decide_eq_false c3
      rw [if_neg (by decide), if_neg c1, if_neg c2, if_neg c3] at hbad
      go_wp2_with (first | (go_at_call 27; refine (own_calls A0 c0 l0 w HR.out HC.out (by have := HGD.out.1; omega) (fun x hx => by have := HGD.out.2 x hx; omega)).mono ?_; rintro e w4 ⟨v4, rfl, hs, hb⟩; have HS4 := Aside0.mk hs; have HB4 := Aside0.mk hb; clear hs hb; obtain ⟨A4, c4, e4⟩ := Kd.S_slice HS4.out; subst e4) | (go_at_call 15; refine (post_May.calls k A0 c0 l0 true w4 (Kd.C_below HR.out HB4.out) HC.out hm.out).mono ?_; rintro e w5 ⟨rfl, hb⟩; have HS5 := Aside0.mk (Kd.S_below HS4.out hb); have HB5 := Aside0.mk (below_step HB4.out hb); clear hb HS4 HB4))
      go_ret2
      unfold PutPost
      exact ⟨_, rfl, HS5.out, HB5.out⟩
 ·rw [if_neg hbad] at h
  unfold putBad at hbad
  obtain rfl : m = true := by
   cases m
   ·exact absurd rfl hbad
   ·rfl
  rw [if_neg (by decide)] at hbad
  by_cases c1 : doc < 0
  ·rw [if_pos c1] at hbad; exact absurd rfl hbad
  rw [if_neg c1] at hbad
  by_cases c2 : doc ≥ 64
  ·rw [if_pos c2] at hbad; exact absurd rfl hbad
  rw [if_neg c2] at hbad
  by_cases c3 : at_ < 0
  ·rw [if_pos c3] at hbad; exact absurd rfl hbad
  rw [if_neg c3] at hbad
  have d1 : decide (doc < 0) = false := decide_eq_false c1
  have d2 : decide (doc ≥ 64) = false := decide_eq_false c2
  have d3 : decide (at_ < 0) = false := decide_eq_false c3
  have d4 : decide (at_ ≥ 120) = false := by simpa using hbad
  clear hbad c1 c2 c3
  replace h := Option.bind_eq_some_iff.mp h
  obtain ⟨⟨p1, p2⟩, hp, h⟩ := h
  simp only at h
  cases p2 with
  | false =>
   rw [if_neg (by decide)] at h
   obtain ⟨hp1, h⟩ := Option.ite_none_right_eq_some.mp h
   obtain ⟨i, rfl⟩ := Int.eq_ofNat_of_zero_le hp1.1
   have h := Option.some.inj h
   injection h with e1 e2
   subst e1
   subst e2
   have HP := Aside0.mk hp
   have HIL : Aside0 (i ≤ l0.length) := ⟨by omega⟩
   clear hp hp1
   go_enter Try.func12, Try.ntmps12
   go_wp2_with (first | (go_at_call 27; refine (own_calls A0 c0 l0 w HR.out HC.out (by have := HGD.out.1; omega) (fun x hx => by have := HGD.out.2 x hx; omega)).mono ?_; rintro e w4 ⟨v4, rfl, hs, hb⟩; have HS4 := Aside0.mk hs; have HB4 := Aside0.mk hb; clear hs hb; obtain ⟨A4, c4, e4⟩ := Kd.S_slice HS4.out; subst e4) | (go_at_call 15; refine (post_May.calls k A0 c0 l0 true w4 (Kd.C_below HR.out HB4.out) HC.out hm.out).mono ?_; rintro e w5 ⟨rfl, hb⟩; have HS5 := Aside0.mk (Kd.S_below HS4.out hb); have HB5 := Aside0.mk (below_step HB4.out hb); clear hb HS4 HB4) | (go_at_call 28; refine (post_place.calls k A0 c0 l0 doc (i : Int) false w5 (Kd.C_below HR.out HB5.out) HC.out HP.out).mono ?_; rintro e w6 ⟨rfl, hb⟩; have HS6 := Aside0.mk (Kd.S_below HS5.out hb); have HB6 := Aside0.mk (below_step HB5.out hb); clear hb HS5 HB5) | (go_at_call 29; refine (put_ins doc at_ HS6.out HIL.out HB6.out.size HGD.out.1).mono ?_; rintro e w7 ⟨v7, rfl, hs, hg⟩; have HS7 := Aside0.mk hs; have HB7 := Aside0.mk (HB6.out.grown hg HB6.out.size (fun k hk => Kd.S_base HS6.out k hk)); clear hs hg HS6 HB6))
   go_ret2
   unfold PutPost
   exact ⟨_, rfl, HS7.out, HB7.out⟩
  | true =>
   rw [if_pos rfl] at h
   obtain ⟨hp1, h⟩ := Option.ite_none_right_eq_some.mp h
   obtain ⟨i, rfl⟩ := Int.eq_ofNat_of_zero_le hp1.1
   replace h := Option.bind_eq_some_iff.mp h
   obtain ⟨⟨q1, q2⟩, hq, h⟩ := h
   simp only at h
   have HP := Aside0.mk hp
   have HQ := Aside0.mk hq
   have p0 := hp1.1
   have q0 := hp1.2
   have hil : i < l0.length := by omega
   obtain ⟨ad, Ae, ce, ead, hx0, hx1, hl1, hi1⟩ := at_T39 HR.out (i : Int) p0 q0
   subst ead
   have hrd : l0[i]? = some (rd_T39 l0 (i : Int)) := by
    unfold rd_T39
    rw [Int.toNat_natCast, List.getD_eq_getElem?_getD, List.getElem?_eq_getElem hil]
    rfl
   obtain ⟨px, hpx⟩ : ∃ px, px = rd_T39 l0 (i : Int) := ⟨_, rfl⟩
   rw [← hpx] at hx0 hx1 hl1 hi1 hrd h HQ
   clear hpx hq hp hp1
   rw [Int.toNat_natCast] at hx0 hx1
   have HX1 := Aside0.mk hx1
   have HL1 := Aside0.mk hl1
   have HI1 := Aside0.mk hi1
   have HRD := Aside0.mk hrd
   have HPL := Aside0.mk (HGD.out.2 px (List.mem_of_getElem? hrd))
   have HIL := Aside0.mk hil
   clear hx0 hx1 hl1 hi1 hrd hil
   cases q2 with
   | true =>
    rw [if_pos rfl] at h
    have h := Option.some.inj h
    injection h with e1 e2
    subst e1
    subst e2
    go_enter Try.func12, Try.ntmps12
    go_wp2_with (first | (go_at_call 27; refine (own_calls (some ad) c0 l0 w HR.out HC.out (by have := HGD.out.1; omega) (fun x hx => by have := HGD.out.2 x hx; omega)).mono ?_; rintro e w4 ⟨v4, rfl, hs, hb⟩; have HS4 := Aside0.mk hs; have HB4 := Aside0.mk hb; clear hs hb; obtain ⟨A4, c4, e4⟩ := Kd.S_slice HS4.out; subst e4) | (go_at_call 15; refine (post_May.calls k (some ad) c0 l0 true w4 (Kd.C_below HR.out HB4.out) HC.out hm.out).mono ?_; rintro e w5 ⟨rfl, hb⟩; have HS5 := Aside0.mk (Kd.S_below HS4.out hb); have HB5 := Aside0.mk (below_step HB4.out hb); clear hb HS4 HB4) | (go_at_call 28; refine (post_place.calls k (some ad) c0 l0 doc (i : Int) true w5 (Kd.C_below HR.out HB5.out) HC.out HP.out).mono ?_; rintro e w6 ⟨rfl, hb⟩; have HS6 := Aside0.mk (Kd.S_below HS5.out hb); have HB6 := Aside0.mk (below_step HB5.out hb); clear hb HS5 HB5; have hx1 := (HB6.out.cell (World.block_lt_of_cell? w _ HX1.out)).trans HX1.out) | (go_at_call 30; refine (slices_BinarySearch_int_int.calls k Ae ce px.f1 at_ q1 true w6 (Kd.C_below HI1.out HB6.out) HL1.out HQ.out).mono ?_; rintro e w' ⟨rfl, ⟨nd, rfl⟩⟩; have HS7 := Aside0.mk (Kd.S_drewN HS6.out nd); have HB7 := Aside0.mk (pw_below_drewN HB6.out nd); clear HS6 HB6))
    go_ret2
    unfold PutPost
    exact ⟨_, rfl, HS7.out, HB7.out⟩
   | false =>
    rw [if_neg (by decide)] at h
    obtain ⟨hq1, h⟩ := Option.ite_none_right_eq_some.mp h
    obtain ⟨n, rfl⟩ := Int.eq_ofNat_of_zero_le hq1.1
    have HNL : Aside0 (n ≤ px.f1.length) := ⟨by omega⟩
    clear hq1
    simp only [Int.toNat_natCast] at h
    have h := Option.some.inj h
    injection h with e1 e2
    subst e1
    subst e2
    go_enter Try.func12, Try.ntmps12
    go_wp2_with (first | (go_at_call 27; refine (own_calls (some ad) c0 l0 w HR.out HC.out (by have := HGD.out.1; omega) (fun x hx => by have := HGD.out.2 x hx; omega)).mono ?_; rintro e w4 ⟨v4, rfl, hs, hb⟩; have HS4 := Aside0.mk hs; have HB4 := Aside0.mk hb; clear hs hb; obtain ⟨A4, c4, e4⟩ := Kd.S_slice HS4.out; subst e4) | (go_at_call 15; refine (post_May.calls k (some ad) c0 l0 true w4 (Kd.C_below HR.out HB4.out) HC.out hm.out).mono ?_; rintro e w5 ⟨rfl, hb⟩; have HS5 := Aside0.mk (Kd.S_below HS4.out hb); have HB5 := Aside0.mk (below_step HB4.out hb); clear hb HS4 HB4) | (go_at_call 28; refine (post_place.calls k (some ad) c0 l0 doc (i : Int) true w5 (Kd.C_below HR.out HB5.out) HC.out HP.out).mono ?_; rintro e w6 ⟨rfl, hb⟩; have HS6 := Aside0.mk (Kd.S_below HS5.out hb); have HB6 := Aside0.mk (below_step HB5.out hb); clear hb HS5 HB5; have hx1 := (HB6.out.cell (World.block_lt_of_cell? w _ HX1.out)).trans HX1.out) | (go_at_call 30; refine (slices_BinarySearch_int_int.calls k Ae ce px.f1 at_ (n : Int) false w6 (Kd.C_below HI1.out HB6.out) HL1.out HQ.out).mono ?_; rintro e w' ⟨rfl, ⟨nd, rfl⟩⟩; have HS7 := Aside0.mk (Kd.S_drewN HS6.out nd); have HB7 := Aside0.mk (pw_below_drewN HB6.out nd); clear HS6 HB6 hx1; generalize w6.drewN nd = w7 at HS7 HB7 ⊢; obtain ⟨g, eg⟩ := S_some HS7.out HIL.out; subst eg; obtain ⟨Au, cu, hcu, hca⟩ := put_at n at_ HS7.out HRD.out HNL.out HB7.out.size HPL.out; have HCA := Aside0.mk hca; clear hca) | (go_at_call 31; refine HCA.out.mono ?_; rintro e w8 ⟨Av, cv, nv, rfl, ⟨old, hold⟩, hfz, hs8, hb8⟩; have HS8 := Aside0.mk hs8; have HB8 := Aside0.mk (hb8 w HB7.out); clear hs8 hb8 HS7 HB7 HCA hcu))
    go_ret2
    unfold PutPost
    exact ⟨_, rfl, HS8.out, HB8.out⟩

def post_Put.f (l0 : List S39) (a1 : Int) (a2 : Int) : Option (List S39 × Int) := post_Put.g 100000 l0 a1 a2
theorem post_Put.calls (A0 : Option Addr) (c0 : Nat) (l0 : List (S39)) (a1 : Int) (a2 : Int) (r1 : List (S39)) (r2 : Int) (w : World) (hr0 : Kd.C k39 w A0 l0.length l0) (hc0 : l0.length ≤ c0) (h : post_Put.f l0 a1 a2 = some (r1, r2)) :
  Calls Try.prog 12 #[.slice A0 l0.length c0, .int .i64 a1, .int .i64 a2] w fun e w' => ∃ v0_ : Value, e = .returned (.tuple #[v0_, .int .i64 r2]) ∧ Kd.S k39 39 w' w.heap.size (fun _ => True) v0_ r1 ∧ Below w.heap.size w w' :=
 post_Put.calls_ 100000 A0 c0 l0 a1 a2 r1 r2 w hr0 hc0 h

end Go.Proofs.Ytepmcdcncjimeaa.PPostTells
