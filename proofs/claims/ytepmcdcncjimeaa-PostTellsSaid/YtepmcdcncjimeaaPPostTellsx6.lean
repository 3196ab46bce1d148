-- LAID BY this session's own printer (wip/pr): Lean checks it
import Derived.Test.YtepmcdcncjimeaaPPostTellsx0
import Derived.Test.YtepmcdcncjimeaaPPostTellsx1
import Derived.Test.YtepmcdcncjimeaaPPostTellsx3
import Derived.Test.YtepmcdcncjimeaaPPostTellsx5
import Derived.Deep.RegionLaw
import Derived.Deep.RegionWith
import Derived.RangeFuncNested
import Derived.RangeFuncBound
import Derived.RangeFuncCalls
import Derived.RangeFuncLeaves
import Derived.RangeFuncFrom
import Derived.RangeFuncWrites
import Derived.RangeFuncBox
import Derived.Sort.LoopGhostIn
import Derived.OrdersIn
import Derived.TacticsInMore
import Derived.Shelf.Spec.SlicesInsert
import Derived.Shelf.Spec.SlicesInsertGrow
import Derived.Shelf.Abstract
import Derived.Test.YtepmcdcncjimeaaVList
namespace Go.Proofs.Ytepmcdcncjimeaa.PPostTells
open Go.RowKit Go.Proofs.YtepmcdcncjimeaaW.PrintWords Go.Proofs.YtepmcdcncjimeaaW.PrintLast Go.Proofs.YtepmcdcncjimeaaW.PrintMore
attribute [local go_sem] max2_int min2_int max_two min_two max_three min_three max_four min_four   -- for this text's walks alone
set_option linter.unusedVariables false
set_option linter.unusedSimpArgs false

/-! ### post_Pack: function 20 -/
section
open Go.Proofs.Ytepmcdcncjimeaa.VSpec
theorem rd_at (b : List Int) (i : Nat) (h : i < b.length) : b.drop i = rd b i :: b.drop (i + 1) := by
 rw [List.drop_eq_getElem_cons h]
 congr 1
 simp [rd, List.getD_eq_getElem?_getD, List.getElem?_eq_getElem h]

theorem or128 (n : Int) : Go.bits .or .u8 (n % 256) 128 = 128 + n % 128 := by
 have hd : ∀ m : Fin 256, Go.bits .or .u8 (m.val : Int) 128 = 128 + ((m.val : Int) % 128) := by decide +kernel
 have := hd ⟨(n % 256).toNat, by omega⟩
 simp only at this
 rw [show (((n % 256).toNat : Nat) : Int) = n % 256 by omega] at this
 rw [this]; omega
/-- A number's bytes are put behind what is there. -/
theorem all_l1 (xs : List Int) (c i : Int) (n : Int) (o : List Int) (k : Nat) (h0 : 0 ≤ n) (hl : o.length + (enc n).length ≤ 140737488355327) (hk : (enc n).length < k) :
  ∃ k' : Nat, k ≤ k' + (enc n).length ∧ vint_all.l1 k o n xs c i = vint_all.l0 k' (o ++ enc n) xs c (wrap64 (i + 1)) := by
  obtain ⟨k, rfl⟩ : ∃ m, k = m + 1 := ⟨k - 1, by omega⟩
  by_cases hn : n < 128
  ·refine ⟨k, ?_, ?_⟩
   ·rw [enc_small hn]; simp
   ·simp only [vint_all.l1]
    rw [enc_small hn] at hl ⊢
    simp only [List.length_cons, List.length_nil] at hl
    rw [if_neg (by omega), if_pos (by omega), show n % 256 = n by omega]
  ·rw [enc_big (by omega)] at hk hl ⊢
   simp only [List.length_cons] at hk hl ⊢
   obtain ⟨k', h1, h2⟩ := all_l1 xs c i (n / 128) (o ++ [128 + n % 128]) k (by omega) (by simp; omega) (by omega)
   refine ⟨k', by omega, ?_⟩
   simp only [vint_all.l1]
   rw [if_pos (by omega), if_pos (by omega), or128, h2, List.append_assoc]
   rfl
termination_by n.toNat
decreasing_by omega
theorem all_l0 (xs : List Int) (hx : ∀ x ∈ xs, Num x) (hm : xs.length ≤ 140737488355327) : ∀ (d k i : Nat) (o : List Int), d = xs.length - i → i ≤ xs.length → 6 * d < k → o.length + 5 * d ≤ 140737488355327 →
  vint_all.l0 k o xs xs.length i = some (o ++ encAll (xs.drop i))
 | 0, k, i, o, hd, hi, hk, hl => by
  obtain ⟨k, rfl⟩ : ∃ m, k = m + 1 := ⟨k - 1, by omega⟩
  simp only [vint_all.l0]
  rw [if_neg (by omega), List.drop_eq_nil_of_le (by omega)]
  simp [encAll]
 | d + 1, k, i, o, hd, hi, hk, hl => by
  obtain ⟨k, rfl⟩ : ∃ m, k = m + 1 := ⟨k - 1, by omega⟩
  have hn : Num (rd xs i) := by
   have hmem : rd xs i ∈ xs.drop i := by rw [rd_at xs i (by omega)]; exact List.mem_cons_self ..
   exact hx _ (List.mem_of_mem_drop hmem)
  simp only [vint_all.l0]
  rw [if_pos (by omega), if_pos (by omega), if_pos (by omega), rd_at xs i (by omega), encAll_cons]
  generalize rd xs i = n at hn
  have h5 := hn.len
  obtain ⟨k', h1, h2⟩ := all_l1 xs xs.length i n o k hn.1 (by omega) (by omega)
  rw [h2, w64n (x := (i : Int) + 1) (i + 1) (by omega) (by omega), all_l0 xs hx hm d k' (i + 1) (o ++ enc n) (by omega) (by omega) (by omega) (by simp; omega), List.append_assoc]
theorem all_f (o xs : List Int) (hx : ∀ x ∈ xs, Num x) (k : Nat) (hk : 6 * xs.length < k) (hl : o.length + 5 * xs.length ≤ 140737488355327) : vint_all.f k o xs = some (o ++ encAll xs) := by
 unfold vint_all.f
 have := all_l0 xs hx (by omega) xs.length k 0 o (by omega) (by omega) hk hl
 simpa using this

theorem may_f (n : Int) : vint_may.f n = some (decide (Num n)) := by
 unfold vint_may.f Num
 by_cases h : 0 ≤ n
 ·rw [if_pos (by omega)]; simp [h]
 ·rw [if_neg (by omega)]; simp [h]
theorem put_f (n : Int) (k : Nat) (hk : 7 ≤ k) : vint_Put.f k n = some (putR n) := by
 unfold vint_Put.f putR
 rw [may_f]
 simp only [Option.bind_some, decide_eq_true_eq]
 by_cases h : Num n
 ·rw [if_pos h, if_pos h, all_f [] [n] (by simpa using h) k (by simp; omega) (by simp)]
  simp [encAll]
 ·rw [if_neg h, if_neg h]

theorem rising_l0 (l : List Int) (hm : l.length ≤ 140737488355328) : ∀ (d k i : Nat) (last : Int), d = l.length - i → i ≤ l.length → d < k → (i = 0 → last = -1) → (0 < i → rd l ((i - 1 : Nat) : Int) = last ∧ 0 ≤ last) →
  vint_rising.l0 k l l l.length i = some (ris last (l.drop i) && decide (l.length ≤ 2000))
 | 0, k, i, last, hd, hi, hk, h0, h1 => by
  obtain ⟨k, rfl⟩ : ∃ m, k = m + 1 := ⟨k - 1, by omega⟩
  simp only [vint_rising.l0]
  rw [if_neg (by omega), List.drop_eq_nil_of_le (by omega)]
  simp [ris]; omega
 | d + 1, k, i, last, hd, hi, hk, h0, h1 => by
  obtain ⟨k, rfl⟩ : ∃ m, k = m + 1 := ⟨k - 1, by omega⟩
  simp only [vint_rising.l0]
  rw [if_pos (by omega), if_pos (by omega), if_pos (by omega), may_f, w64n (x := (i : Int) + 1) (i + 1) (by omega) (by omega), rd_at l i (by omega)]
  have ih : rd l i = rd l i → 0 ≤ rd l i → vint_rising.l0 k l l l.length ((i + 1 : Nat) : Int) = some (ris (rd l i) (l.drop (i + 1)) && decide (l.length ≤ 2000)) := fun _ hh =>
   rising_l0 l hm d k (i + 1) (rd l i) (by omega) (by omega) (by omega) (by omega) (fun _ => ⟨by simp, hh⟩)
  simp only [Option.bind_some, decide_eq_true_eq, ris]
  generalize rd l i = n at ih
  by_cases hn : Num n
  ·rw [if_pos hn]
   have h2 := hn.1
   have h3 := hn.2
   by_cases hi0 : i = 0
   ·rw [if_neg (by omega), ih rfl h2]
    have := h0 hi0
    rw [show decide (last < n) = true by simp; omega, show decide (n ≤ 34359738367) = true by simp; omega]
    simp
   ·obtain ⟨h4, h5⟩ := h1 (by omega)
    rw [if_pos (by omega), w64n (x := (i : Int) - 1) (i - 1) (by omega) (by omega), if_pos (by omega), if_pos (by omega), h4]
    by_cases hle : n ≤ last
    ·rw [if_pos hle, show decide (last < n) = false by simp; omega]
     simp
    ·rw [if_neg hle, ih rfl h2, show decide (last < n) = true by simp; omega, show decide (n ≤ 34359738367) = true by simp; omega]
     simp
  ·rw [if_neg hn]
   congr 1
   unfold Num at hn
   by_cases h2 : n ≤ 34359738367
   ·have : ¬ last < n := by
     by_cases hi0 : i = 0
     ·have := h0 hi0; omega
     ·have := h1 (by omega); omega
    simp [this]
   ·simp [h2]
theorem rising_f (l : List Int) (hm : l.length ≤ 140737488355328) (k : Nat) (hk : l.length < k) : vint_rising.f k l = some (ris (-1) l && decide (l.length ≤ 2000)) := by
 unfold vint_rising.f
 have := rising_l0 l hm l.length k 0 (-1) (by omega) (by omega) hk (fun _ => rfl) (fun h => by omega)
 simpa using this

theorem rise_l0 (l : List Int) (hl : l.length ≤ 2000) : ∀ (d k i : Nat) (o : List Int) (last : Int), d = l.length - i → i ≤ l.length → d + 12100 < k → o.length = i → -1 ≤ last → last ≤ 34359738367 → ris last (l.drop i) = true → (∀ x ∈ o, Num x) →
  vint_Rise.l0 k l (o ++ List.replicate d 0) last l l.length i = some (enc l.length ++ encAll (o ++ steps last (l.drop i)), 0)
 | 0, k, i, o, last, hd, hi, hk, ho, h0, h1, hr, hx => by
  obtain ⟨k, rfl⟩ : ∃ m, k = m + 1 := ⟨k - 1, by omega⟩
  simp only [vint_Rise.l0]
  have hlen : Num (l.length : Int) := ⟨by omega, by omega⟩
  have h5 := hlen.len
  rw [if_neg (by omega), List.drop_eq_nil_of_le (by omega), all_f [] [(l.length : Int)] (by simpa using hlen) k (by simp; omega) (by simp)]
  simp only [Option.bind_some, List.nil_append, List.replicate_zero, List.append_nil, steps]
  rw [show encAll [(l.length : Int)] = enc l.length by simp [encAll], all_f (enc l.length) o hx k (by omega) (by omega)]
  simp
 | d + 1, k, i, o, last, hd, hi, hk, ho, h0, h1, hr, hx => by
  obtain ⟨k, rfl⟩ : ∃ m, k = m + 1 := ⟨k - 1, by omega⟩
  simp only [vint_Rise.l0]
  rw [rd_at l i (by omega)] at hr ⊢
  obtain ⟨r1, r2, r3⟩ := ris_cons.1 hr
  generalize rd l i = n at *
  rw [if_pos (by omega), if_pos (by omega), if_pos (by omega), if_pos (by simp; omega), w64n (x := (i : Int) + 1) (i + 1) (by omega) (by omega), w64 (x := n - last) (by omega) (by omega), w64 (x := n - last - 1) (by omega) (by omega)]
  have hset : (o ++ List.replicate (d + 1) 0).set (i : Int).toNat (n - last - 1) = (o ++ [n - last - 1]) ++ List.replicate d 0 := by
   rw [Int.toNat_natCast, List.set_append_right _ _ (by omega), ho, Nat.sub_self, List.replicate_succ, List.set_cons_zero]
   simp
  rw [hset, rise_l0 l hl d k (i + 1) (o ++ [n - last - 1]) n (by omega) (by omega) (by omega) (by simp [ho]) (by omega) r2 r3 (by
   intro x h
   rcases List.mem_append.1 h with h | h
   ·exact hx x h
   ·simp only [List.mem_singleton] at h
    subst h
    exact ⟨by omega, by omega⟩)]
  simp [steps]
theorem rise_f (l : List Int) (hm : l.length ≤ 140737488355328) (k : Nat) (hk : l.length + 15000 < k) : vint_Rise.f k l = some (riseR l) := by
 unfold vint_Rise.f riseR
 rw [rising_f l hm k (by omega)]
 by_cases h : ris (-1) l = true ∧ l.length ≤ 2000
 ·rw [if_pos h]
  obtain ⟨h1, h2⟩ := h
  simp only [Option.bind_some, h1, h2, decide_true, Bool.and_self, if_true]
  rw [if_pos (by omega), if_pos (by omega)]
  have := rise_l0 l h2 l.length k 0 [] (-1) (by omega) (by omega) (by omega) rfl (by omega) (by omega) (by simpa using h1) (by simp)
  simpa using this
 ·rw [if_neg h]
  simp only [Option.bind_some]
  rw [if_neg (by simpa using h)]

end
section
section
variable {P : Program} {Q : Exit → Act → World → Prop} {K : Act → World → Prop}
theorem rows_in {n : Nat} {row : String} {args : Array Value} {w : World} {R : Value → World → Prop} (l : Nat) (h : Rows P row args w R) : RowsIn (Fence.wide.inRound l) n P row args w R :=
 fun c cs _ => let ⟨v, w', r, s⟩ := h c cs; ⟨v, w', r, stepsIn_wide.2 s⟩
theorem upon_in {o : Oper} {a : Act} {n : Nat} (l : Nat) {r : Result Next} (h : o.upon P a K Q r) : o.uponIn (Fence.wide.inRound l) n P a K Q r := by
 cases r with
 | ok x w' =>
  cases x <;> simp only [Oper.upon, Oper.uponIn] at h ⊢ <;>
   first
    | exact h
    | exact ⟨fun h0 => by simp [Fence.wide] at h0, CallsIn.inRound l (callsIn_wide.2 h)⟩
    | exact ⟨fun h0 => by simp [Fence.wide] at h0, rows_in l h⟩
 | halt x w' => cases x <;> simp only [Oper.upon, Oper.uponIn] at h ⊢ <;> exact h
theorem oper_in {o : Oper} {a : Act} {w : World} {n : Nat} (l : Nat) (hd : ∀ c, o.op ≠ .defer c) (h : o.wp P a w K Q) : o.wpIn (Fence.wide.inRound l) n P a w K Q :=
 ⟨fun _ _ => trivial, by rw [Oper.semAt_eq _ _ _ hd]; exact upon_in l h⟩
def deferless (o : Oper) : Bool := match o.op with | .defer _ => false | _ => true
theorem deferless_ne {o : Oper} (h : deferless o = true) : ∀ c, o.op ≠ .defer c := by
 intro c e
 unfold deferless at h
 rw [e] at h
 cases h
theorem list_in {ops : Array Oper} {n : Nat} (l : Nat) (hq : ¬ LetsOut Q) : ∀ (rest : List Oper) (a : Act) (w : World), rest.all deferless = true → wpList P ops Q rest a w → wpListIn (Fence.wide.inRound l) n P ops Q rest a w
 | [], _, _, _, h => h
 | o :: rest, a, w, hd, h => by
  rw [List.all_cons, Bool.and_eq_true] at hd
  simp only [wpList] at h
  simp only [wpListIn]
  split at h
  ·rename_i hw
   rw [if_pos hw]
   rcases h with h | h
   ·exact Oper.wpIn_mono (fun a w h1 => list_in l hq rest a w hd.2 h1) (oper_in l (deferless_ne hd.1) h)
   ·exact absurd h.2 hq
  ·rename_i hw
   rw [if_neg hw]
   exact ⟨fun _ _ => trivial, list_in l hq rest _ _ hd.2 h⟩
theorem region_in {id : Nat} {ops : List Oper} {a : Act} {w : World} {n : Nat} {l : Nat} (hd : ops.all deferless = true) (hq : ¬ LetsOut Q) (h : wpList P ops.toArray Q ops a w) : (Code.region id ops.toArray false).wpIn (Fence.wide.inRound l) n P Q a w :=
 wpIn_region_lit (list_in l hq ops a w hd h)
theorem op_in {ops : Array Oper} {i n : Nat} {a : Act} {w : World} (l : Nat) (hd : ops.toList.all deferless = true) (hq : ¬ LetsOut Q) (h : wpOp P ops Q i K a w) : wpOpIn (Fence.wide.inRound l) n P ops Q i K a w := by
 unfold wpOp at h
 unfold wpOpIn
 split
 ·rename_i ho
  rw [ho] at h
  exact h
 ·rename_i o ho
  rw [ho] at h
  simp only at h
  have hm : deferless o = true := List.all_eq_true.1 hd o (by
   obtain ⟨h1, h2⟩ := Array.getElem?_eq_some_iff.1 ho
   rw [← h2]
   exact Array.getElem_mem_toList h1)
  split
  ·rename_i hw
   rw [if_pos hw] at h
   rcases h with h | h
   ·exact oper_in l (deferless_ne hm) h
   ·exact absurd h.2 hq
  ·rename_i hw
   rw [if_neg hw] at h
   exact ⟨fun _ _ => trivial, h⟩
theorem any_in {md : Region.Mode} {ops : Array Oper} {n : Nat} (l : Nat) (hd : ops.toList.all deferless = true) (hq : ¬ LetsOut Q) : ∀ (fuel : Nat) (listed : Array Bool) (a : Act) (w : World), wpAny P md ops Q fuel listed a w → wpAnyIn (Fence.wide.inRound l) n P md ops Q fuel listed a w
 | 0, _, _, _, h => h
 | fuel + 1, listed, a, w, h => ⟨h.1, fun i hi => wpOpIn_mono (fun a' w' h' => any_in l hd hq fuel _ a' w' h') (op_in l hd hq (h.2 i hi))⟩
theorem region_any_in {id : Nat} {ops : Array Oper} {a : Act} {w : World} {n l : Nat} (hm : P.follows .mixedOrders = true) (hd : ops.toList.all deferless = true) (hq : ¬ LetsOut Q)
  (h : wpAny P .any ops Q ops.size (Array.replicate ops.size false) a { w with drawn := w.drawn + 1 }) : (Code.region id ops true).wpIn (Fence.wide.inRound l) n P Q a w :=
 wpIn_region_any hm (any_in l hd hq _ _ _ _ h)
end
end
section
theorem cut_lhm {P : Program} (t e : TypeId) (kl kh km : IntKind) {i : TypeInfo} (ht : P.underlying t = some (.slice e)) (hi : P.info? e = some i) (size : Nat) (hsz : i.size = size) (A : Option Addr) (n c : Nat) (lo hi' m : Int) (h0 : 0 ≤ lo) (h1 : lo ≤ hi') (h2 : hi' ≤ m) (h3 : m ≤ c) :
  ∀ W : World, (Instr.slice t (.slice A n c) (some (.int kl lo)) (some (.int kh hi')) (some (.int km m))).run P W = .ok (.slice (if m.toNat = lo.toNat then A else A.map (·.add (lo.toNat * size))) (hi'.toNat - lo.toNat) (m.toNat - lo.toNat)) W := by
 intro W
 have hel : P.elem t = e := by simp [Program.elem, ht]
 have hu : P.underlying t = some (.slice (P.elem t)) := by rw [hel]; exact ht
 rw [run_slice_lhm W t A n c hu kl kh km lo hi' m h0 h1 h2 h3, hel]
 simp [sizeOf, typeInfo, hi, hsz, sliced, Result.andThen]
/-- A cut of the postings, as a round is handed it. -/
abbrev Chk (w : World) := { x : Option Addr × List S39 // Kd.C k39 w x.1 x.2.length x.2 ∧ x.2.length ≤ 4 ∧ ∀ p ∈ x.2, p.f1.length ≤ 120 }
def chunkAt (l : List S39) (j : Nat) : List S39 := (l.drop (4 * j)).take 4
def chunksR (l : List S39) : List (List S39) := (List.range ((l.length + 3) / 4)).map (chunkAt l)
def Kp2 (g1 g2 : Nat) (W W' : World) : Prop := W'.heap[g1]? = W.heap[g1]? ∧ W'.heap[g2]? = W.heap[g2]?
theorem Kp2.refl (g1 g2 : Nat) (W : World) : Kp2 g1 g2 W W := ⟨rfl, rfl⟩
theorem Kp2.trans {g1 g2 : Nat} {A B C : World} (h : Kp2 g1 g2 A B) (k : Kp2 g1 g2 B C) : Kp2 g1 g2 A C := ⟨k.1.trans h.1, k.2.trans h.2⟩
attribute [local go_sem] Oper.semAt_some
attribute [-go_sem] run_min_int2 min_two min2_int

set_option maxRecDepth 100000 in
set_option maxHeartbeats 4000000 in
theorem chunk1_in (n : Nat) (hn : 1 ≤ n) (lp g1 g2 : Nat) (A : Option Addr) (c : Nat) (l : List S39) (w : World) (hC : Kd.C k39 w A l.length l) (hroom : l.length ≤ c) (hgood : ∀ p ∈ l, p.f1.length ≤ 120) (hl : l.length ≤ 1000) (B : Nat) (J Jx : List (Chk w) → World → Prop) (hJ : AbidesFrom B J)
  (hY : ∀ pre x W, J pre W → pre.length < 300 → YieldAt Fence.wide (n - 1) Try.prog lp #[.slice x.1.1 x.1.2.length x.1.2.length] W fun e W' => (e = .returned (.bool true) ∧ J (pre ++ [x]) W' ∧ Kp2 g1 g2 W W') ∨ (e = .returned (.bool false) ∧ Jx (pre ++ [x]) W'))
  (W : World) (hb1 : W.heap[g1]? = some (.cells #[.slice A l.length c] 22 (0, 0))) (hb2 : W.heap[g2]? = some (.cells #[.int .i64 4] 3 (0, 0))) (h0 : J [] W) :
  CallsIn Fence.wide n Try.prog 62 #[.func (.yield lp) #[] #[], .pointer (some ⟨g1, 0, none⟩), .pointer (some ⟨g2, 0, none⟩)] W fun e W' => (∃ v, e = .returned v) ∧
   ((∃ ys : List (Chk w), ys.map (fun x => x.1.2) = chunksR l ∧ J ys W') ∨ (∃ pre, Jx pre W')) := by
 have HC := Aside0.mk hC
 have HGood := Aside0.mk hgood
 have HJ := Aside0.mk hJ
 have HY := Aside0.mk hY
 have HB1 := Aside0.mk hb1
 have HB2 := Aside0.mk hb2
 have HRM := Aside0.mk (And.intro hroom hl)
 clear hC hgood hJ hY hb1 hb2 hroom hl
 refine callsIn_of_wp Try.func62 rfl trivial ?_ rfl
 simp only [Try.ntmps62, List.size_toArray, List.length_cons, List.length_nil, Nat.reduceAdd, Nat.reduceSub, Array.replicate_succ, Array.replicate_zero, List.push_toArray, List.append_toArray, List.nil_append, List.cons_append]
 gi_wp2
 gi_loopg [4] ((l.length + 3) / 4) (fun kq v4 wr => ∃ (x4 : Int) (k : Nat) (pre : List (Chk w)), v4 = .int .i64 x4 ∧ Aside0 (x4 = ((4 * k : Nat) : Int)) ∧ Aside0 (kq + k = (l.length + 3) / 4) ∧ Aside0 (pre.map (fun x => x.1.2) = (List.range k).map (chunkAt l)) ∧ Aside0 (J pre wr) ∧ Aside0 (Kp2 g1 g2 W wr))
 case atStart => exact ⟨0, 0, [], rfl, ⟨rfl⟩, ⟨rfl⟩, ⟨rfl⟩, ⟨h0⟩, ⟨Kp2.refl _ _ _⟩⟩
 case round =>
  obtain ⟨x4, k, pre, rfl, HX, HK, HP, HJ0, HB⟩ := hrel
  have hc1 := (blk_cell (HB.out.1.trans HB1.out) 0).trans (show (#[Value.slice A l.length c])[0]? = some (.slice A l.length c) from rfl)
  have hc2 := (blk_cell (HB.out.2.trans HB2.out) 0).trans (show (#[Value.int .i64 4])[0]? = some (Value.int .i64 4) from rfl)
  have hx0 : 0 ≤ x4 := by have := HX.out; omega
  by_cases hlt : x4 < (l.length : Int)
  ·have hltb : decide (x4 < (l.length : Int)) = true := decide_eq_true hlt
   have hk4 : 4 * k < l.length := by have := HX.out; omega
   have hroom := HRM.out.1
   have hsz := HRM.out.2
   obtain ⟨i0, hi0, _, hzz, _⟩ := info_parts info39
   have hcut1 := cut_from (P := Try.prog) 22 39 .i64 Try.underlying22 hi0 2 hzz A l.length c x4 hx0 (by omega)
   obtain ⟨A1, hA1⟩ : ∃ A1, A1 = A.map (·.add (x4.toNat * 2)) := ⟨_, rfl⟩
   have hcut1' : ∀ W : World, (Instr.slice 22 (.slice A l.length c) (some (.int .i64 x4)) none none).run Try.prog W = .ok (.slice A1 (l.length - x4.toNat) (c - x4.toNat)) W := by
    intro W
    rw [hcut1 W, if_neg (by have := HX.out; omega), hA1]
   clear hcut1 hA1
   have hX : (chunkAt l k).length = min 4 (l.length - 4 * k) := by unfold chunkAt; rw [List.length_take, List.length_drop]
   have hmn : ∀ (ts : Array TypeId) (t : TypeId) (W : World), (Builtin.min_ ts t #[.int .i64 4, .int .i64 ((l.length - x4.toNat : Nat) : Int)]).run Try.prog W = .ok (.int .i64 ((chunkAt l k).length : Int)) W := by
    intro ts t W
    have := HX.out
    rw [run_min_int2, show (if ((l.length - x4.toNat : Nat) : Int) < 4 then ((l.length - x4.toNat : Nat) : Int) else 4) = ((chunkAt l k).length : Int) by rw [hX]; split <;> omega]
   have hw : wrap64 (x4 + ((chunkAt l k).length : Int)) = ((4 * k + (chunkAt l k).length : Nat) : Int) := by have := HX.out; unfold wrap64; omega
   obtain ⟨A2, hA2⟩ : ∃ A2, A2 = A.map (·.add (4 * k * 2)) := ⟨_, rfl⟩
   have hcut2 : ∀ W : World, (Instr.slice 22 (.slice A l.length c) (some (.int .i64 x4)) (some (.int .i64 (wrap64 (x4 + ((chunkAt l k).length : Int))))) (some (.int .i64 (wrap64 (x4 + ((chunkAt l k).length : Int)))))).run Try.prog W = .ok (.slice A2 (chunkAt l k).length (chunkAt l k).length) W := by
    intro W
    have := HX.out
    rw [cut_lhm (P := Try.prog) 22 39 .i64 .i64 .i64 Try.underlying22 hi0 2 hzz A l.length c x4 (wrap64 (x4 + ((chunkAt l k).length : Int))) (wrap64 (x4 + ((chunkAt l k).length : Int))) hx0 (by rw [hw]; omega) (Int.le_refl _) (by rw [hw]; omega) W, hw, if_neg (by omega), hA2, show x4.toNat = 4 * k by omega, show ((4 * k + (chunkAt l k).length : Nat) : Int).toNat - 4 * k = (chunkAt l k).length by omega]
   have hCk : Kd.C k39 w A2 (chunkAt l k).length (chunkAt l k) := by
    have h1 := Kd.C_mid (lo := 4 * k) (hi := 4 * k + (chunkAt l k).length) (c := c) HC.out (by omega) (by omega) hroom
    rw [if_neg (by omega)] at h1
    have e1 : (l.take (4 * k + (chunkAt l k).length)).drop (4 * k) = chunkAt l k := by
     rw [List.drop_take, show 4 * k + (chunkAt l k).length - 4 * k = min 4 (l.drop (4 * k)).length by rw [List.length_drop]; omega, ← List.take_eq_take_min]
     rfl
    rw [e1] at h1
    rw [hA2]
    exact h1
   have HCk := Aside0.mk hCk
   have HAll : Aside0 ((chunkAt l k).length ≤ 4 ∧ ∀ p ∈ chunkAt l k, p.f1.length ≤ 120) := ⟨by rw [hX]; omega, fun p hp => HGood.out p (List.mem_of_mem_drop (List.mem_of_mem_take hp))⟩
   have HX4 := Aside0.mk hX
   have HWS := Aside0.mk hw
   clear hCk hX hA2 hk4 hsz hroom hzz hi0 hw hx0 hlt
   gi_wp2
   refine wpIn_wide.2 ?_
   go_quiet (fail)
   have HJ1 := HJ.out _ _ _ none HJ0.out (grown_below none (pw_below_drewN (Below.refl _ wr) nq)) (fun r e => by cases e)
   have HB1' : Aside0 (Kp2 g1 g2 W (wr.drewN nq)) := ⟨HB.out⟩
   have hpl : pre.length < 300 := by
    have := congrArg List.length HP.out
    rw [List.length_map, List.length_map, List.length_range] at this
    have := HK.out
    have := HRM.out.2
    omega
   obtain ⟨fn, tmps, assign, body, hy, hR⟩ := HY.out pre ⟨(A2, chunkAt l k), HCk.out, HAll.out.1, HAll.out.2⟩ (wr.drewN nq) HJ1 hpl
   dsimp only at hy
   have hc1' : (wr.drewN nq).cell? ⟨g1, 0, none⟩ = some (.slice A l.length c) := hc1
   clear hc1 hc2
   generalize wr.drewN nq = wq at HJ1 HB1' hy hR hc1' ⊢
   gi_wp2
   refine RoundIn.mono hR (fun e W' hp => ?_)
   rcases hp with ⟨rfl, hJ', hb'⟩ | ⟨rfl, hx'⟩
   ·have HJ' := Aside0.mk hJ'
    have HB2' : Aside0 (Kp2 g1 g2 W W') := ⟨HB1'.out.trans hb'⟩
    have hc2' := (blk_cell (HB2'.out.2.trans HB2.out) 0).trans (show (#[Value.int .i64 4])[0]? = some (Value.int .i64 4) from rfl)
    clear hJ' hb' hR hy hc1'
    simp only []
    go_at_K
    gi_wp2
    gi_roundg ((l.length + 3) / 4 - (k + 1))
    case measure => have := of_decide_eq_true hltb; have := HX.out; have := HK.out; omega
    refine ⟨_, k + 1, pre ++ [⟨(A2, chunkAt l k), HCk.out, HAll.out.1, HAll.out.2⟩], rfl, ⟨?_⟩, ⟨?_⟩, ⟨?_⟩, HJ', HB2'⟩
    ·have := of_decide_eq_true hltb; have := HX.out; have := HRM.out.2; unfold wrap64; omega
    ·have := of_decide_eq_true hltb; have := HX.out; have := HK.out; omega
    ·rw [List.map_append, List.range_succ, List.map_append, HP.out]; rfl
   ·simp only []
    go_at_K
    gi_wp2
    refine bodyPost_ret (results_none rfl _ _ _) rfl ?_
    exact ⟨⟨_, rfl⟩, Or.inr ⟨_, hx'⟩⟩
  ·have hltb : decide (x4 < (l.length : Int)) = false := decide_eq_false hlt
   gi_wp2
   go_end0
   refine ⟨⟨_, rfl⟩, Or.inl ⟨pre, ?_, HJ0.out⟩⟩
   have hk : k = (l.length + 3) / 4 := by have := HX.out; have := HK.out; omega
   rw [HP.out, hk]
   rfl
end
section
open Go.Proofs.Ytepmcdcncjimeaa.VSpec
/-- What a cut's body is, and its last document. -/
def packB (body : List Int) (ahead : Int) : List S39 → List Int × Int
 | [] => (body, ahead)
 | p :: t => packB (body ++ putR (wrap64 (wrap64 (p.f0 - ahead) - 1)) ++ (riseR p.f1).1) p.f0 t
def packC (s : List Int × Int) (l : List S39) : List Int × Int := (s.1 ++ putR (packB [] s.2 l).2 ++ putR ((packB [] s.2 l).1.length : Int) ++ (packB [] s.2 l).1, (packB [] s.2 l).2)
def packF (l : List S39) : List Int := ((chunksR l).foldl packC (putR (l.length : Int), -1)).1
def post_Pack.f (k : Nat) (l : List S39) : Option (List Int × Int) := (post_May.f k l).bind fun b => if b = true then (if l.length ≤ 1000 ∧ ∀ p ∈ l, p.f1.length ≤ 120 then some (packF l, 0) else none) else some ([], 1)
theorem putR_le (n : Int) : (putR n).length ≤ 5 := by
 unfold putR
 split
 ·rename_i h
  exact enc_len 5 n (by omega) (by unfold Num at h; omega)
 ·simp
theorem packB_le : ∀ (l : List S39) (body : List Int) (ahead : Int), (packB body ahead l).1.length ≤ body.length + 20005 * l.length
 | [], _, _ => by simp [packB]
 | p :: t, body, ahead => by
  have h1 := packB_le t (body ++ putR (wrap64 (wrap64 (p.f0 - ahead) - 1)) ++ (riseR p.f1).1) p.f0
  have h2 := putR_le (wrap64 (wrap64 (p.f0 - ahead) - 1))
  have h3 := riseR_len (l := p.f1)
  simp only [packB, List.length_append, List.length_cons] at h1 ⊢
  omega
theorem packC_le (s : List Int × Int) (l : List S39) (hl : l.length ≤ 4) : (packC s l).1.length ≤ s.1.length + 80100 := by
 have h1 := packB_le l [] s.2
 have h2 := putR_le (packB [] s.2 l).2
 have h3 := putR_le ((packB [] s.2 l).1.length : Int)
 simp only [packC, List.length_append, List.length_nil] at h1 ⊢
 omega
theorem packFold_le : ∀ (pre : List (List S39)) (s : List Int × Int), (∀ l ∈ pre, l.length ≤ 4) → (pre.foldl packC s).1.length ≤ s.1.length + 80100 * pre.length
 | [], s, _ => by simp
 | l :: t, s, h => by
  have h1 := packFold_le t (packC s l) (fun x hx => h x (List.mem_cons_of_mem _ hx))
  have h2 := packC_le s l (h l (List.mem_cons_self ..))
  simp only [List.foldl_cons, List.length_cons] at h1 ⊢
  omega
theorem put_calls (a0 : Int) (w : World) : Calls Try.prog 40 #[.int .i64 a0] w fun e w' => ∃ v0_ : Value, e = .returned (v0_) ∧ Kd.R (Kd.int .u8) 5 w' w.heap.size (fun _ => True) v0_ (putR a0) ∧ Below w.heap.size w w' :=
 vint_Put.calls 20000 a0 _ w (put_f a0 20000 (by omega))
theorem rise_calls (A0 : Option Addr) (c0 : Nat) (l0 : List Int) (w : World) (hr0 : Kd.C (Kd.int .i64) w A0 l0.length l0) (hc0 : l0.length ≤ c0) (hl : l0.length ≤ 120) :
  Calls Try.prog 42 #[.slice A0 l0.length c0] w fun e w' => ∃ v0_ : Value, e = .returned (.tuple #[v0_, .int .i64 (riseR l0).2]) ∧ Kd.R (Kd.int .u8) 5 w' w.heap.size (fun _ => True) v0_ (riseR l0).1 ∧ Below w.heap.size w w' :=
 vint_Rise.calls 20000 A0 c0 l0 _ _ w hr0 hc0 (rise_f l0 (by omega) 20000 (by omega))
set_option maxRecDepth 100000 in
set_option maxHeartbeats 4000000 in
theorem chunk_calls (A : Option Addr) (n c : Nat) (w : World) : Calls Try.prog 41 #[.slice A n c, .int .i64 4] w fun e w' =>
  e = .returned (.func (.func 62) #[] #[.pointer (some ⟨w.heap.size, 0, none⟩), .pointer (some ⟨w.heap.size + 1, 0, none⟩)]) ∧ w'.heap[w.heap.size]? = some (.cells #[.slice A n c] 22 (0, 0)) ∧ w'.heap[w.heap.size + 1]? = some (.cells #[.int .i64 4] 3 (0, 0)) ∧ Below w.heap.size w w' := by
 go_enter Try.func41, Try.ntmps41
 go_wp2
 go_ret
 refine ⟨rfl, ?_, ?_, ?_⟩
 ·exact (Below.heap_alloc _ _ _ (by simp)).trans (World.alloc_heap_new w _)
 ·have := World.alloc_heap_new (w.alloc (.cells #[.slice A n c] 22)) (.cells #[.int .i64 4] 3)
  rwa [World.size_alloc] at this
 ·exact ((Below.refl _ w).alloc (Nat.le_refl _) _).alloc (by simp) _
theorem chunk_stops (n : Nat) (hn : 1 ≤ n) (g1 g2 : Nat) (A : Option Addr) (c : Nat) (l : List S39) (w : World) (hC : Kd.C k39 w A l.length l) (hroom : l.length ≤ c) (hgood : ∀ p ∈ l, p.f1.length ≤ 120) (hl : l.length ≤ 1000) (W0 : World)
  (h1 : W0.heap[g1]? = some (.cells #[.slice A l.length c] 22 (0, 0))) (h2 : W0.heap[g2]? = some (.cells #[.int .i64 4] 3 (0, 0))) :
  SeqStopsK Fence.wide n Try.prog 62 #[.pointer (some ⟨g1, 0, none⟩), .pointer (some ⟨g2, 0, none⟩)] (fun x : Chk w => #[.slice x.1.1 x.1.2.length x.1.2.length]) (Kp2 g1 g2) (fun xs => xs.map (fun x => x.1.2) = chunksR l) (fun _ => True) 300 W0 := by
 intro lp J Jx W hb hJ hJx hY h0
 refine (chunk1_in n hn lp g1 g2 A c l w hC hroom hgood hl W.heap.size J Jx hJ hY W ?_ ?_ h0).mono ?_
 ·exact (hb.block g1 (Array.getElem?_eq_some_iff.1 h1).1).trans h1
 ·exact (hb.block g2 (Array.getElem?_eq_some_iff.1 h2).1).trans h2
 ·rintro e W' ⟨hv, h⟩
  exact ⟨hv, h.imp id (fun ⟨pre, hp⟩ => ⟨pre, trivial, hp⟩)⟩
section
variable {P : Program} {ops : Array Oper} {rest : List Oper} {o : Oper} {a : Act} {Q : Exit → Act → World → Prop}
theorem u8_append {base : Nat} {W : World} (hgd : o.guard = none) (s x : Operand)
  (ho : o.op = .call { callee := .builtin .append, args := #[s, x], argTypes := #[31, 31] })
  (v : Value) (xs ys : List Int) (A : Option Addr) (c : Nat) (hs : a.eval s = v) (hx : a.eval x = .slice A ys.length c)
  (HO : (Kd.int .u8).R 5 W base (fun _ => True) v xs) (HR : Kd.C (Kd.int .u8) W A ys.length ys) (hbase : base ≤ W.heap.size) (hl : xs.length + ys.length ≤ 140737488355328)
  (h : ∀ v1 w1, (Kd.int .u8).R 5 w1 base (fun _ => True) v1 (xs ++ ys) → W.grownBy w1 v.ownBlock → (v1.ownBlock = v.ownBlock ∨ ∃ b, v1.ownBlock = some b ∧ W.heap.size ≤ b) → wpList Try.prog ops Q rest (a.put o.dst v1) w1) :
  wpList Try.prog ops Q (o :: rest) a W :=
 Kd.R_append_rows (Kd.int .u8) (w0 := W) base hgd s x 31 5 (.int .u8 0) 1 ho Try.underlying31 info5 rfl (by decide) (by omega) v xs ys A ys.length c (fun _ => True) (fun _ => False) hs hx HO HR (fun _ _ h => h) (fun _ h => h.elim) (fun _ _ => trivial) (Below.refl _ _) hbase (by omega) (fun v1 w1 h1 _ h3 h4 => h v1 w1 h1 h3 h4)
end
/-- What a box holds is not where a row of another type lies. -/
theorem R_not {α : Type} {d : Kd α} {e : Nat} {w : World} {base : Nat} {ok : Nat → Prop} {v : Value} {xs : List α} (h : d.R e w base ok v xs) {g t : Nat} {cs : Array Value} (hb : w.heap[g]? = some (.cells cs t (0, 0))) (ht : e ≠ t) : some g ≠ v.ownBlock := Kd.R_ne h hb ht
structure PkI (w : World) (g : Nat) (Bx : Value) (l0 : List Int) (a : Int) (W : World) : Prop where
 ex : ∃ v, W.heap[g]? = some (.cells #[v] 31 (0, 0)) ∧ (Kd.int .u8).R 5 W w.heap.size (fun _ => True) v l0
 ah : W.heap[g + 1]? = some (.cells #[.int .i64 a] 3 (0, 0))
 b1 : W.heap[g + 2]? = some (.cells #[Bx] 22 (0, 0))
 b2 : W.heap[g + 3]? = some (.cells #[.int .i64 4] 3 (0, 0))
 bl : Below w.heap.size w W
theorem blk_keptN {W W' : World} {row : Option Nat} {g : Nat} {cs : Array Value} {t : Nat} {z : Nat × Nat} (h : W.heap[g]? = some (.cells cs t z)) (hg : W.grownBy W' row) (hr : ∀ r, row = some r → ∃ o : Obj, W.heap[r]? = some o ∧ o.isCells = false) : W'.heap[g]? = some (.cells cs t z) :=
 (hg.block g (Array.getElem?_eq_some_iff.1 h).1 (fun e => by
  obtain ⟨o, ho, hc⟩ := hr g e.symm
  rw [h] at ho
  cases ho
  cases hc)).trans h
theorem R_keptN {α : Type} {d : Kd α} {e : Nat} {W W' : World} {row : Option Nat} {base : Nat} {v : Value} {xs : List α} (h : d.R e W base (fun _ => True) v xs) (hg : W.grownBy W' row) (hr : ∀ r, row = some r → ∃ o : Obj, W.heap[r]? = some o ∧ o.isCells = false) : d.R e W' base (fun _ => True) v xs :=
 Kd.R_mono (Kd.R_grown (Kd.R_bound h) hg (fun k hk e => by
  obtain ⟨o, ho, hc⟩ := hr k e.symm
  obtain ⟨_, _, _, q, _, cells, hh⟩ := hk
  rw [hh] at ho
  cases ho
  cases hc)) (fun _ _ => trivial)
theorem PkI.kept {w : World} {g : Nat} {Bx : Value} {l0 : List Int} {a : Int} {W W' : World} {row : Option Nat} (h : PkI w g Bx l0 a W) (hg : W.grownBy W' row) (hr : ∀ r, row = some r → w.heap.size ≤ r ∧ ∃ o : Obj, W.heap[r]? = some o ∧ o.isCells = false) : PkI w g Bx l0 a W' := by
 have hr' := fun r e => (hr r e).2
 obtain ⟨v, h1, h2⟩ := h.ex
 exact ⟨⟨v, blk_keptN h1 hg hr', R_keptN h2 hg hr'⟩, blk_keptN h.ah hg hr', blk_keptN h.b1 hg hr', blk_keptN h.b2 hg hr', h.bl.grown hg h.bl.size (fun k e => (hr k e).1)⟩
theorem PkI.kp {w : World} {g : Nat} {Bx : Value} {l0 l1 : List Int} {a a1 : Int} {W W' : World} (h : PkI w g Bx l0 a W) (h' : PkI w g Bx l1 a1 W') : Kp2 (g + 2) (g + 3) W W' := ⟨h'.b1.trans h.b1.symm, h'.b2.trans h.b2.symm⟩
section
variable {P : Program} {ops : Array Oper} {o : Oper} {a : Act} {Q : Exit → Act → World → Prop} {Kc : Act → World → Prop}
theorem u8_append_step {N : Tmp} {base : Nat} {W : World} (hw : Region.wanted o (yielded ops a.tmps) = true) (hN : o.dst = some N) (s x : Operand)
  (ho : o.op = .call { callee := .builtin .append, args := #[s, x], argTypes := #[31, 31] })
  (v : Value) (xs ys : List Int) (A : Option Addr) (c : Nat) (hs : a.eval s = v) (hx : a.eval x = .slice A ys.length c)
  (HO : (Kd.int .u8).R 5 W base (fun _ => True) v xs) (HR : Kd.C (Kd.int .u8) W A ys.length ys) (hbase : base ≤ W.heap.size) (hl : xs.length + ys.length ≤ 140737488355328)
  (h : ∀ v1 w1, (Kd.int .u8).R 5 w1 base (fun _ => True) v1 (xs ++ ys) → W.grownBy w1 v.ownBlock → (v1.ownBlock = v.ownBlock ∨ ∃ b, v1.ownBlock = some b ∧ W.heap.size ≤ b) → Kc (a.put (some N) v1) w1) :
  if Region.wanted o (yielded ops a.tmps) = true then Oper.wp Try.prog o a W Kc Q else Kc (a.put (some N) undef) W := by
 have h' := Kd.R_append_rows_step (P := Try.prog) (ops := ops) (o := o) (a := a) (Q := Q) (Kc := Kc) (Kd.int .u8) (w0 := W) base hw s x 31 5 (.int .u8 0) 1 ho Try.underlying31 info5 rfl (by decide) (by omega) v xs ys A ys.length c (fun _ => True) (fun _ => False) hs hx HO HR (fun _ _ h => h) (fun _ h => h.elim) (fun _ _ => trivial) (Below.refl _ _) hbase (by omega) (fun v1 w1 h1 _ h3 h4 => by rw [hN]; exact h v1 w1 h1 h3 h4)
 rwa [hN] at h'
end
theorem u8_keep {W W' : World} {base : Nat} {v : Value} {xs : List Int} (h : (Kd.int .u8).R 5 W base (fun _ => True) v xs) (hm : ∀ k, v.ownBlock = some k → W'.heap[k]? = W.heap[k]?) : (Kd.int .u8).R 5 W' base (fun _ => True) v xs := by
 obtain ⟨_, inner, ho, hr⟩ := h
 exact ⟨fun _ _ => trivial, inner, own_move ho hm, hr⟩
/-- Another row has been written. -/
theorem u8_other {W W' : World} {base : Nat} {v u : Value} {xs : List Int} (h : (Kd.int .u8).R 5 W base (fun _ => True) v xs) (hg : W.grownBy W' u.ownBlock) (hne : ∀ k, v.ownBlock = some k → u.ownBlock ≠ some k) : (Kd.int .u8).R 5 W' base (fun _ => True) v xs :=
 u8_keep h (fun k hk => hg.block k (Kd.R_lt h k hk) (fun e => hne k hk e.symm))
theorem u8_far {W : World} {base : Nat} {v : Value} {xs : List Int} (h : (Kd.int .u8).R 5 W base (fun _ => True) v xs) (p : Addr) (hp : ∀ k, v.ownBlock = some k → k ≠ p.block) (u : Value) : (Kd.int .u8).R 5 (W.setCell p u) base (fun _ => True) v xs :=
 u8_keep h (fun k hk => Below.heap_setCell W p u k (hp k hk))
structure PkB (w : World) (g : Nat) (Bx v : Value) (a : Int) (W0 W : World) : Prop where
 bx : W.heap[g]? = some (.cells #[v] 31 (0, 0))
 ah : W.heap[g + 1]? = some (.cells #[.int .i64 a] 3 (0, 0))
 b1 : W.heap[g + 2]? = some (.cells #[Bx] 22 (0, 0))
 b2 : W.heap[g + 3]? = some (.cells #[.int .i64 4] 3 (0, 0))
 bl : Below w.heap.size w W
 ko : KeepsOthers W0 W
theorem keeps_below {W W' : World} (hb : Below W.heap.size W W') : KeepsOthers W W' := KeepsOthers.of_grownBy (grown_below none hb) (fun j o hj => by cases hj)
theorem keeps_row {W W' : World} {base : Nat} {v : Value} {xs : List Int} (h : (Kd.int .u8).R 5 W base (fun _ => True) v xs) (hg : W.grownBy W' v.ownBlock) : KeepsOthers W W' :=
 KeepsOthers.of_grownBy hg (fun j o hj ho => by
  obtain ⟨_, _, _, q, _, cells, hh⟩ := (Kd.R_bound h).1 j hj
  rw [hh] at ho
  cases ho
  rfl)
section
variable {w W0 W W' : World} {g : Nat} {Bx v : Value} {a : Int}
theorem PkB.below (h : PkB w g Bx v a W0 W) (hb : Below W.heap.size W W') : PkB w g Bx v a W0 W' :=
 ⟨blk_below h.bx hb, blk_below h.ah hb, blk_below h.b1 hb, blk_below h.b2 hb, below_step h.bl hb, h.ko.trans (keeps_below hb)⟩
theorem PkB.row (h : PkB w g Bx v a W0 W) {base : Nat} {u : Value} {ys : List Int} (hu : (Kd.int .u8).R 5 W base (fun _ => True) u ys) (hb : w.heap.size ≤ base) (hg : W.grownBy W' u.ownBlock) : PkB w g Bx v a W0 W' :=
 ⟨blk_grown h.bx hg (Kd.R_ne hu h.bx (by decide)), blk_grown h.ah hg (Kd.R_ne hu h.ah (by decide)), blk_grown h.b1 hg (Kd.R_ne hu h.b1 (by decide)), blk_grown h.b2 hg (Kd.R_ne hu h.b2 (by decide)), h.bl.grown hg h.bl.size (fun k e => Nat.le_trans hb (Kd.R_base hu k e)), h.ko.trans (keeps_row hu hg)⟩
theorem PkB.put (h : PkB w g Bx v a W0 W) (hg : w.heap.size ≤ g) (u : Value) : PkB w g Bx u a W0 (W.setCell ⟨g, 0, none⟩ u) :=
 ⟨blk_put h.bx 0 u rfl, blk_far h.ah (by simp) u, blk_far h.b1 (by simp) u, blk_far h.b2 (by simp) u, below_set h.bl hg, h.ko.trans (KeepsOthers.setCell _ _ _)⟩
theorem PkB.ahead (h : PkB w g Bx v a W0 W) (hg : w.heap.size ≤ g) (x : Int) : PkB w g Bx v x W0 (W.setCell ⟨g + 1, 0, none⟩ (.int .i64 x)) :=
 ⟨blk_far h.bx (by simp) _, blk_put h.ah 0 _ rfl, blk_far h.b1 (by simp) _, blk_far h.b2 (by simp) _, below_set h.bl (by omega), h.ko.trans (KeepsOthers.setCell _ _ _)⟩
theorem PkB.far (h : PkB w g Bx v a W0 W) {p : Addr} (hp : g + 4 ≤ p.block) (hg : w.heap.size ≤ g) (u : Value) : PkB w g Bx v a W0 (W.setCell p u) :=
 ⟨blk_far h.bx (by omega) _, blk_far h.ah (by omega) _, blk_far h.b1 (by omega) _, blk_far h.b2 (by omega) _, h.bl.setCell (by omega) _, h.ko.trans (KeepsOthers.setCell _ _ _)⟩
theorem PkB.c0 (h : PkB w g Bx v a W0 W) : W.cell? ⟨g, 0, none⟩ = some v := (blk_cell h.bx 0).trans rfl
theorem PkB.c1 (h : PkB w g Bx v a W0 W) : W.cell? ⟨g + 1, 0, none⟩ = some (.int .i64 a) := (blk_cell h.ah 0).trans rfl
theorem PkB.f0 (h : PkB w g Bx v a W0 W) : W.frozen? ⟨g, 0, none⟩ = false := blk_frozen h.bx 0
theorem PkB.f1 (h : PkB w g Bx v a W0 W) : W.frozen? ⟨g + 1, 0, none⟩ = false := blk_frozen h.ah 0
end

def PkQ (w : World) (g : Nat) (Bx : Value) (s : List Int × Int) (W : World) : Exit → Act → World → Prop
 | .normal, _, W' => KeepsOthers W W' ∧ PkI w g Bx s.1 s.2 W'
 | _, _, _ => False
theorem own_neN {W : World} {v v1 u : Value} (hat : v1.ownBlock = v.ownBlock ∨ ∃ b, v1.ownBlock = some b ∧ W.heap.size ≤ b) (hne : ∀ k, u.ownBlock = some k → v.ownBlock ≠ some k) (hlt : ∀ k, u.ownBlock = some k → k < W.heap.size) : ∀ k, u.ownBlock = some k → v1.ownBlock ≠ some k := by
 intro k hk
 rcases hat with h | ⟨b, h, hb⟩
 ·rw [h]; exact hne k hk
 ·rw [h]
  intro e
  injection e with e
  have := hlt k hk
  omega
def PackPost (w : World) (r1 : List Int) (r2 : Int) (e : Ending) (w' : World) : Prop := ∃ v0_ : Value, e = .returned (.tuple #[v0_, .int .i64 r2]) ∧ Kd.R (Kd.int .u8) 5 w' w.heap.size (fun _ => True) v0_ r1 ∧ Below w.heap.size w w'
set_option maxRecDepth 100000 in
set_option maxHeartbeats 8000000 in
theorem post_Pack.calls_ (k : Nat) (A0 : Option Addr) (c0 : Nat) (l0 : List S39) (r1 : List Int) (r2 : Int) (w : World) (hr0 : Kd.C k39 w A0 l0.length l0) (hc0 : l0.length ≤ c0) (h : post_Pack.f k l0 = some (r1, r2)) :
  Calls Try.prog 20 #[.slice A0 l0.length c0] w fun e w' => PackPost w r1 r2 e w' := by
 have HR := Aside0.mk hr0
 have HC := Aside0.mk hc0
 unfold post_Pack.f at h
 replace h := Option.bind_eq_some_iff.mp h
 obtain ⟨m, hm, h⟩ := h
 replace hm := Aside0.mk hm
 have H := Aside0.mk h
 clear hr0 hc0 h
 have hf15 : Fence.wide.fn 15 := trivial
 have hf40 : Fence.wide.fn 40 := trivial
 have hf41 : Fence.wide.fn 41 := trivial
 refine (callsIn_wide (n := 9)).1 ?_
 refine callsIn_of_wp_marks Try.func20 rfl trivial ?_ rfl
 simp only [Try.ntmps20, List.size_toArray, List.length_cons, List.length_nil, Nat.reduceAdd, Nat.reduceSub, Array.replicate_succ, Array.replicate_zero, List.push_toArray, List.append_toArray, List.nil_append, List.cons_append]
 cases m with
 | false =>
  have h := H.out
  clear H
  simp only [Bool.false_eq_true, if_false, Option.some.injEq, Prod.mk.injEq] at h
  obtain ⟨rfl, rfl⟩ := h
  gi_wp2_with (gi_at_call 15; refine (callsIn_wide.2 (post_May.calls k A0 c0 l0 false w HR.out HC.out hm.out)).mono ?_; rintro e w4 ⟨rfl, hb⟩; have HB := Aside0.mk hb; clear hb)
  refine ⟨_, results_tmp2 rfl _ _ _, ?_⟩
  unfold PackPost
  exact ⟨_, rfl, Kd.R_nil _ _ _ _ _, HB.out⟩
 | true =>
  have h := H.out
  clear H
  simp only [if_true] at h
  obtain ⟨hgood, h⟩ := Option.ite_none_right_eq_some.mp h
  simp only [Option.some.injEq, Prod.mk.injEq] at h
  obtain ⟨rfl, rfl⟩ := h
  have HGD := Aside0.mk hgood
  clear hgood
  gi_wp2_with (first
   | (gi_at_call 15; refine (callsIn_wide.2 (post_May.calls k A0 c0 l0 true w HR.out HC.out hm.out)).mono ?_; rintro e w4 ⟨rfl, hb⟩; have HB := Aside0.mk hb; clear hb hm)
   | (gi_at_call 40; refine (callsIn_wide.2 (put_calls _ w4)).mono ?_; rintro e w5 ⟨v5, rfl, hr, hb⟩; have HV5 := Aside0.mk (Kd.R_lower hr HB.out.size); have HB5 := Aside0.mk (HB.out.trans (hb.mono HB.out.size)); clear hr hb HB; obtain ⟨A5, c5, e5⟩ := Kd.R_slice HV5.out; subst e5)
   | (gi_at_call 41; refine (callsIn_wide.2 (chunk_calls _ _ _ _)).mono ?_; rintro e w6 ⟨rfl, hx1, hx2, hb⟩; have HX1 := Aside0.mk hx1; have HX2 := Aside0.mk hx2; have HB6 := Aside0.mk hb; clear hx1 hx2 hb))
  obtain ⟨g, hg⟩ : ∃ g, g = w5.heap.size := ⟨_, rfl⟩
  rw [← hg]
  obtain ⟨wz, hwz⟩ : ∃ wz, wz = (w5.alloc (Obj.cells #[Value.slice A5 (putR (l0.length : Int)).length c5] 31)).alloc (Obj.cells #[Value.int IntKind.i64 (-1)] 3) := ⟨_, rfl⟩
  rw [← hwz] at HX1 HX2 HB6
  have hzs : wz.heap.size = g + 2 := by rw [hwz, World.size_alloc, World.size_alloc, hg]
  rw [hzs] at HX1 HX2 HB6
  have hz0 : wz.heap[g]? = some (Obj.cells #[Value.slice A5 (putR (l0.length : Int)).length c5] 31) := by rw [hwz, hg]; exact (Below.heap_alloc _ _ _ (by simp)).trans (World.alloc_heap_new w5 _)
  have hz1 : wz.heap[g + 1]? = some (Obj.cells #[Value.int IntKind.i64 (-1)] 3) := by
   rw [hwz, hg]
   have := World.alloc_heap_new (w5.alloc (Obj.cells #[Value.slice A5 (putR (l0.length : Int)).length c5] 31)) (Obj.cells #[Value.int IntKind.i64 (-1)] 3)
   rwa [World.size_alloc] at this
  have hbz : Below w.heap.size w wz := by rw [hwz]; exact below_alloc (below_alloc HB5.out _) _
  have hI0 : PkI w g (.slice A0 l0.length c0) (putR (l0.length : Int)) (-1) w6 := by
   refine ⟨⟨_, (HB6.out.block g (by omega)).trans hz0, ?_⟩, (HB6.out.block (g + 1) (by omega)).trans hz1, HX1.out, HX2.out, hbz.trans (HB6.out.mono (by have := hbz.size; omega))⟩
   refine Kd.R_below ?_ (HB6.out.mono (by omega))
   rw [hwz]
   exact Kd.R_alloc (Kd.R_alloc HV5.out _) _
  have hg6 : g + 4 ≤ w6.heap.size := by have := blk_lt HX2.out; omega
  have hgw : w.heap.size ≤ g := by rw [hg]; exact HB5.out.size
  clear hz0 hz1 hbz HB6 HV5 HB5 hwz hzs hg
  refine wpIn_rangeFunc_ownF (F := Fence.wide) rfl (by omega) (gf := 62) (lb := #[.pointer (some ⟨g + 1 + 1, 0, none⟩), .pointer (some ⟨g + 1 + 1 + 1, 0, none⟩)]) rfl trivial (fun args W => enters_ Try.func62 (by kernel_rfl) rfl args W)
   (chunk_stops (9 - 1) (by omega) (g + 1 + 1) (g + 1 + 1 + 1) A0 c0 l0 w HR.out HC.out HGD.out.2 HGD.out.1 w6 HX1.out HX2.out) (fun h k => h.trans k) ?hKb (Below.refl _ _) (fun _ => rfl)
   (fun pre W => PkI w g (.slice A0 l0.length c0) ((pre.map (fun x => x.1.2)).foldl packC (putR (l0.length : Int), -1)).1 ((pre.map (fun x => x.1.2)).foldl packC (putR (l0.length : Int), -1)).2 W) (fun _ _ _ => False)
   (fun s W W' row hs hg hr => hs.kept hg (fun r e => ⟨by have := (hr r e).1; omega, (hr r e).2⟩)) (fun c s W W' row hs _ _ => hs) hI0
   (fun x => { tmps := #[.slice A0 l0.length c0, undef, .slice none 0 0, .int .i64 0, .pointer (some ⟨g, 0, none⟩), .pointer (some ⟨g + 1, 0, none⟩), .slice x.1.1 x.1.2.length x.1.2.length, undef, undef, undef, undef, undef, .slice A0 l0.length c0, .bool true, .bool false, .slice A0 l0.length c0, .int .i64 (l0.length : Int), .slice A5 (putR (l0.length : Int)).length c5, .slice A0 l0.length c0, .func (.func 62) #[] #[.pointer (some ⟨g + 1 + 1, 0, none⟩), .pointer (some ⟨g + 1 + 1 + 1, 0, none⟩)], .slice x.1.1 x.1.2.length x.1.2.length, undef, undef, undef, undef, undef, undef, undef, undef, undef, undef, undef, undef, undef, undef, undef, undef, undef, undef, undef, undef, undef, undef, undef, undef, undef, undef, undef, undef, undef, undef, undef, undef, undef, undef, undef, undef, undef], defers := [] }) ?assign ?body ?done ?stop
  case hKb =>
   intro W l o o' hl ho hc hw
   exact ⟨World.putObj_heap_other (by omega), World.putObj_heap_other (by omega)⟩
  case assign =>
   intro l x W K hK
   refine region_in rfl (by rintro ⟨_, _, h⟩; exact h) ?_
   go_wp2
   exact hK
  case stop =>
   intro D c pre W _ _ hF _
   exact hF.elim
  case done =>
   intro D xs W hD hS hI hK
   rw [hS] at hI
   obtain ⟨v, hv1, hv2⟩ := hI.ex
   have hc := (blk_cell hv1 0).trans (show (#[v])[0]? = some v from rfl)
   obtain ⟨A6, c6, e6⟩ := Kd.R_slice hv2
   subst e6
   gi_wp2
   refine ⟨by simp, .inl ⟨_, _, rfl, run_takeDeferred hK, ?_⟩⟩
   have hgr := grownBy_putObj' W D (.deferred none)
   have hkr : ∀ r, some D = some r → w.heap.size ≤ r ∧ ∃ o : Obj, W.heap[r]? = some o ∧ o.isCells = false := fun r e => by cases e; exact ⟨by omega, _, hK, rfl⟩
   refine ⟨_, results_tmp2 rfl _ _ _, ?_⟩
   unfold PackPost
   exact ⟨_, rfl, R_keptN hv2 hgr (fun r e => (hkr r e).2), (hI.kept hgr hkr).bl⟩
  case body =>
   clear HX1 HX2 hI0 hg6
   intro lf pre x W hI hN
   obtain ⟨⟨Ax, lx⟩, hCx, hlx, hax⟩ := x
   have e0 : (List.map (fun y : Chk w => y.1.2) (pre ++ [⟨(Ax, lx), hCx, hlx, hax⟩])).foldl packC (putR (l0.length : Int), -1) = packC ((pre.map (fun y => y.1.2)).foldl packC (putR (l0.length : Int), -1)) lx := by
    rw [List.map_append, List.foldl_append]
    rfl
   have hsl : ((pre.map (fun y : Chk w => y.1.2)).foldl packC (putR (l0.length : Int), -1)).1.length ≤ 30000000 := by
    have h1 := packFold_le (pre.map (fun y : Chk w => y.1.2)) (putR (l0.length : Int), -1) (fun l hl => by
     obtain ⟨y, _, rfl⟩ := List.mem_map.1 hl
     exact y.2.2.1)
    have h2 := putR_le (l0.length : Int)
    rw [List.length_map] at h1
    simp only at h1
    omega
   generalize (pre.map (fun y : Chk w => y.1.2)).foldl packC (putR (l0.length : Int), -1) = s at hI e0 hsl
   refine wpIn_mono (Q := PkQ w g (.slice A0 l0.length c0) (packC s lx) W) ?_ (fun e a' W' hq => by
    cases e with
    | normal =>
     obtain ⟨hk, hI'⟩ := hq
     refine ⟨hk, hI.kp hI', ?_⟩
     simp only [e0]
     exact hI'
    | _ => exact hq.elim)
   dsimp only
   clear e0 hN HGD HR HC h
   have HC := Aside0.mk hCx
   have H4 := Aside0.mk hlx
   have HAT := Aside0.mk hax
   have HS := Aside0.mk hsl
   have HI := Aside0.mk hI
   clear hCx hlx hax hsl hI hf15 hf40 hf41
   generalize (Value.slice A0 l0.length c0) = Bx at HI ⊢
   generalize (Value.int .i64 (l0.length : Int)) = v16 at HI ⊢
   generalize (Value.slice A5 (putR (l0.length : Int)).length c5) = v17 at HI ⊢
   refine wpIn_block ?_
   refine wpIn_seq_k fun K7 hK7 => ?_
   refine region_in rfl (by rintro ⟨_, _, h⟩; exact h) ?_
   go_wp2
   refine wpIn_seq_k fun K8 hK8 => ?_
   refine wpIn_seq_k fun K9 hK9 => ?_
   refine region_in rfl (by rintro ⟨_, _, h⟩; exact h) ?_
   go_wp2
   refine wpIn_block ?_
   obtain ⟨v0, hv1, hv2⟩ := HI.out.ex
   obtain ⟨A6, c6, e6⟩ := Kd.R_slice hv2
   subst e6
   have HLT : Aside0 (∀ k, (Value.slice A6 s.1.length c6).ownBlock = some k → k < W.heap.size) := ⟨Kd.R_lt hv2⟩
   have HGW := Aside0.mk hgw
   have HG4 : Aside0 (g + 4 ≤ W.heap.size) := ⟨blk_lt HI.out.b2⟩
   have HI0 : Aside0 (PkB w g Bx (.slice A6 s.1.length c6) s.2 W W) := ⟨⟨hv1, HI.out.ah, HI.out.b1, HI.out.b2, HI.out.bl, KeepsOthers.refl _⟩⟩
   have HV0 := Aside0.mk hv2
   have HIB := Aside0.mk HI.out.bl.size
   clear hv1 hv2 HI hgw
   gi_loopg [7, 23] lx.length (fun kq v7 v23 wr => ∃ (x23 : Int) (i : Nat) (x7 : List Int) (a' : Int), v23 = .int .i64 x23 ∧ Aside0 (x23 = (i : Int)) ∧ Aside0 (kq + i = lx.length) ∧ Aside0 (packB x7 a' (lx.drop i) = packB [] s.2 lx) ∧ Aside0 (x7.length ≤ 20005 * i) ∧ Aside0 ((Kd.int .u8).R 5 wr W.heap.size (fun _ => True) v7 x7) ∧ Aside0 (PkB w g Bx (.slice A6 s.1.length c6) a' W wr) ∧ Aside0 ((Kd.int .u8).R 5 wr w.heap.size (fun _ => True) (.slice A6 s.1.length c6) s.1) ∧ Aside0 (W.heap.size ≤ wr.heap.size))
   case atStart => exact ⟨0, 0, [], s.2, rfl, ⟨rfl⟩, ⟨Nat.add_zero _⟩, ⟨by rw [List.drop_zero]⟩, ⟨Nat.zero_le _⟩, ⟨Kd.R_nil _ _ _ _ _⟩, HI0, HV0, ⟨Nat.le_refl _⟩⟩
   case round =>
    clear HI0 HV0
    obtain ⟨x23, i, x7, a', rfl, HX, HK, HP, HL, HY, HBQ, HV, HSZ⟩ := hrel
    obtain ⟨A7, c7, e7⟩ := Kd.R_slice HY.out
    subst e7
    by_cases hlt : i < lx.length
    ·have hltb : decide (x23 < (lx.length : Int)) = true := decide_eq_true (by have := HX.out; omega)
     refine wpIn_seq_k fun K10 hK10 => ?_
     refine region_in rfl (by rintro ⟨_, _, h⟩; exact h) ?_
     go_wp2
     refine wpIn_seq_k fun K11 hK11 => ?_
     refine wpIn_cond_true rfl ?_
     refine wpIn_skip ?_
     show K11 _ _
     refine hK11 _ _ ?_
     clear hK11 K11
     refine wpIn_seq_k fun K12 hK12 => ?_
     refine wpIn_block ?_
     refine wpIn_seq_k fun K13 hK13 => ?_
     have p0 : (0 : Int) ≤ x23 := by have := HX.out; omega
     have q0 : x23 < (lx.length : Int) := by have := HX.out; omega
     obtain ⟨ad, Ae, ce, ead, hx0, hx1, hl1, hi1⟩ := at_T39 (Kd.C_below HC.out HBQ.out.bl) x23 p0 q0
     have hdrop : lx.drop i = rd_T39 lx x23 :: lx.drop (i + 1) := by
      rw [List.drop_eq_getElem_cons hlt]
      congr 1
      have hx : x23.toNat = i := by have := HX.out; omega
      unfold rd_T39
      rw [hx, List.getD_eq_getElem?_getD, List.getElem?_eq_getElem hlt]
      rfl
     have hmem : rd_T39 lx x23 ∈ lx := List.mem_of_mem_drop (hdrop ▸ List.mem_cons_self ..)
     have HL1 := Aside0.mk hl1
     have HI1 := Aside0.mk hi1
     have H120 := Aside0.mk (HAT.out _ hmem)
     have HP' : Aside0 (packB (x7 ++ putR (wrap64 (wrap64 ((rd_T39 lx x23).f0 - a') - 1)) ++ (riseR (rd_T39 lx x23).f1).1) (rd_T39 lx x23).f0 (lx.drop (i + 1)) = packB [] s.2 lx) := ⟨by rw [← HP.out, hdrop]; rfl⟩
     clear hl1 hi1 hmem hdrop HP
     obtain ⟨px, hpx⟩ : ∃ px, px = rd_T39 lx x23 := ⟨_, rfl⟩
     rw [← hpx] at hx0 hx1 HL1 HI1 H120 HP'
     clear hpx
     subst ead
     refine region_in rfl (by rintro ⟨_, _, h⟩; exact h) ?_
     go_wp2_with ((with_reducible refine gate_dst (N := 9) rfl ?_); refine box_event ?hg (N := 9) ?hd (cs := #[.int .i64 0, .slice none 0 0]) (t := 39) ?hr ?_; (case hd => rfl); (case hg => rfl); (case hr => first | (go_simp; done) | (go_simp; rfl)); intro gb hgb w6 hbox hb; have hx0 := (hb.cell (World.block_lt_of_cell? wr _ hx0)).trans hx0; have hx1 := (hb.cell (World.block_lt_of_cell? wr _ hx1)).trans hx1; have hcz0 : w6.cell? ⟨gb, 0, none⟩ = some (.int .i64 0) := (blk_cell hbox 0).trans rfl; have hcz1 : w6.cell? ⟨gb, 1, none⟩ = some (.slice none 0 0) := (blk_cell hbox 1).trans rfl; have hfz0 := blk_frozen hbox 0; have hfz1 := blk_frozen hbox 1; have HGB := Aside0.mk hgb; have HBX := Aside0.mk hbox; have HBL := Aside0.mk hb; clear hgb hbox hb)
     have HB7l : Aside0 (Below wr.heap.size wr ((w6.setCell ⟨gb, 0, none⟩ (.int .i64 px.f0)).setCell ⟨gb, 1, none⟩ (.slice Ae px.f1.length ce))) := ⟨below_set (below_set HBL.out (by have := HGB.out; omega)) (by have := HGB.out; omega)⟩
     have HX7 : Aside0 (((w6.setCell ⟨gb, 0, none⟩ (.int .i64 px.f0)).setCell ⟨gb, 1, none⟩ (.slice Ae px.f1.length ce)).heap[gb]? = some (.cells #[.int .i64 px.f0, .slice Ae px.f1.length ce] 39 (0, 0))) := ⟨blk_put (cs := #[.int .i64 px.f0, .slice none 0 0]) (blk_put (cs := #[.int .i64 0, .slice none 0 0]) HBX.out 0 _ rfl) 1 _ rfl⟩
     generalize (w6.setCell ⟨gb, 0, none⟩ (.int .i64 px.f0)).setCell ⟨gb, 1, none⟩ (.slice Ae px.f1.length ce) = w7 at HB7l HX7 ⊢
     clear HBX HBL hx0 hx1 hcz0 hcz1 hfz0 hfz1 w6
     have HB7 := Aside0.mk (HBQ.out.below HB7l.out)
     have HV7 := Aside0.mk (Kd.R_below HV.out HB7l.out)
     have HY7 := Aside0.mk (Kd.R_below HY.out HB7l.out)
     have HI7 := Aside0.mk (Kd.C_below HI1.out HB7l.out)
     have HS7 := Aside0.mk (Nat.le_trans HSZ.out HB7l.out.size)
     clear HBQ HV HY HI1 HSZ HB7l
     have hbx0 : w7.cell? ⟨gb, 0, none⟩ = some (.int .i64 px.f0) := (blk_cell HX7.out 0).trans rfl
     have hbx1 : w7.cell? ⟨gb, 1, none⟩ = some (.slice Ae px.f1.length ce) := (blk_cell HX7.out 1).trans rfl
     refine wpIn_seq_k fun K14 hK14 => ?_
     refine region_in rfl (by rintro ⟨_, _, h⟩; exact h) ?_
     go_wp2_with (go_at_call 42; refine (rise_calls Ae ce px.f1 w7 HI7.out HL1.out H120.out).mono ?_; rintro e w8 ⟨v8, rfl, hr8, hb8⟩; have HB8 := Aside0.mk (HB7.out.below hb8); have HV8 := Aside0.mk (Kd.R_below HV7.out hb8); have HY8 := Aside0.mk (Kd.R_below HY7.out hb8); have HX8 := Aside0.mk (blk_below HX7.out hb8); have HS8 := Aside0.mk (Nat.le_trans HS7.out hb8.size); have HZ8 := Aside0.mk hr8; have HNZ := Aside0.mk (fun k (hk : v8.ownBlock = some k) => show (Value.slice A7 x7.length c7).ownBlock ≠ some k from fun e_ => by have := Kd.R_base hr8 k hk; have := Kd.R_lt HY7.out k e_; omega); clear hr8 hb8 HB7 HV7 HY7 HI7 HX7 HS7 hbx0 hbx1; obtain ⟨A8, c8, e8⟩ := Kd.R_slice HZ8.out; subst e8)
     have hbx0 : w8.cell? ⟨gb, 0, none⟩ = some (.int .i64 px.f0) := (blk_cell HX8.out 0).trans rfl
     have hc1 := HB8.out.c1
     refine wpIn_seq_k fun K15 hK15 => ?_
     refine region_in rfl (by rintro ⟨_, _, h⟩; exact h) ?_
     go_wp2_with (first
      | (go_at_call 40; refine (put_calls (wrap64 (wrap64 (px.f0 - a') - 1)) w8).mono ?_; rintro e w9 ⟨v9, rfl, hr9, hb9⟩; have HB9 := Aside0.mk (HB8.out.below hb9); have HV9 := Aside0.mk (Kd.R_below HV8.out hb9); have HY9 := Aside0.mk (Kd.R_below HY8.out hb9); have HX9 := Aside0.mk (blk_below HX8.out hb9); have HS9 := Aside0.mk (Nat.le_trans HS8.out hb9.size); have HZ9 := Aside0.mk (Kd.R_below HZ8.out hb9); have HN9 := Aside0.mk hr9; clear hr9 hb9 HB8 HV8 HY8 HX8 HS8 HZ8 hbx0 hc1; obtain ⟨A9, c9, e9⟩ := Kd.R_slice HN9.out; subst e9)
      | ((with_reducible refine gate_builtin (b := .append) (xs := #[.tmp 33, .tmp 39]) rfl ?_); at_builtin; refine u8_append rfl (.tmp 33) (.tmp 39) rfl (.slice A7 x7.length c7) x7 (putR (wrap64 (wrap64 (px.f0 - a') - 1))) A9 c9 rfl rfl HY9.out (Kd.R_reads' HN9.out).2.2 HS9.out ?aL ?_; (case aL => have := putR_le (wrap64 (wrap64 (px.f0 - a') - 1)); have := HL.out; have := H4.out; have := HK.out; omega); intro v10 w10 ho hg hat; obtain ⟨o10, E10⟩ : ∃ o10, Aside0 (o10 = x7 ++ putR (wrap64 (wrap64 (px.f0 - a') - 1))) := ⟨_, ⟨rfl⟩⟩; rw [← E10.out] at ho; have L10 : Aside0 (o10.length ≤ 90000) := ⟨by have := putR_le (wrap64 (wrap64 (px.f0 - a') - 1)); have := HL.out; have := H4.out; have := HK.out; rw [E10.out, List.length_append]; omega⟩; have HB10 := Aside0.mk (HB9.out.row HY9.out HIB.out hg); have HV10 := Aside0.mk (u8_other HV9.out hg (fun k hk e_ => by have := HLT.out k hk; have := Kd.R_base HY9.out k e_; omega)); have HX10 := Aside0.mk (blk_grown HX9.out hg (Kd.R_ne HY9.out HX9.out (by decide))); have HS10 := Aside0.mk (Nat.le_trans HS9.out hg.size); have HZ10 := Aside0.mk (u8_other HZ9.out hg HNZ.out); have HNZ2 := Aside0.mk (own_neN hat HNZ.out (Kd.R_lt HZ9.out)); have HO10 := Aside0.mk ho; clear ho hg hat HB9 HV9 HY9 HX9 HS9 HZ9 HN9 HNZ; obtain ⟨A10, c10, e10⟩ := Kd.R_slice HO10.out; subst e10)
      | ((with_reducible refine gate_builtin (b := .append) (xs := #[.tmp 40, .tmp 41]) rfl ?_); at_builtin; refine u8_append rfl (.tmp 40) (.tmp 41) rfl (.slice A10 o10.length c10) o10 (riseR px.f1).1 A8 c8 rfl rfl HO10.out (Kd.R_reads' HZ10.out).2.2 HS10.out ?aL ?_; (case aL => have := L10.out; have := riseR_len (l := px.f1); omega); intro v11 w11 ho hg hat; obtain ⟨o11, E11⟩ : ∃ o11, Aside0 (o11 = o10 ++ (riseR px.f1).1) := ⟨_, ⟨rfl⟩⟩; rw [← E11.out] at ho; have HB11 := Aside0.mk (HB10.out.row HO10.out HIB.out hg); have HV11 := Aside0.mk (u8_other HV10.out hg (fun k hk e_ => by have := HLT.out k hk; have := Kd.R_base HO10.out k e_; omega)); have HX11 := Aside0.mk (blk_grown HX10.out hg (Kd.R_ne HO10.out HX10.out (by decide))); have HS11 := Aside0.mk (Nat.le_trans HS10.out hg.size); have HO11 := Aside0.mk ho; clear ho hg hat HB10 HV10 HX10 HS10 HZ10 HNZ2 HO10; obtain ⟨A11, c11, e11⟩ := Kd.R_slice HO11.out; subst e11))
     have hbx0 : w11.cell? ⟨gb, 0, none⟩ = some (.int .i64 px.f0) := (blk_cell HX11.out 0).trans rfl
     have hc1 := HB11.out.c1
     have hf1 := HB11.out.f1
     refine region_in rfl (by rintro ⟨_, _, h⟩; exact h) ?_
     go_wp2
     have HB12 := Aside0.mk (HB11.out.ahead HGW.out px.f0)
     have HV12 := Aside0.mk (u8_far HV11.out ⟨g + 1, 0, none⟩ (fun k hk e => Kd.R_ne HV11.out HB11.out.ah (by decide) (by rw [hk, e])) (.int .i64 px.f0))
     have HY12 := Aside0.mk (u8_far HO11.out ⟨g + 1, 0, none⟩ (fun k hk e => Kd.R_ne HO11.out HB11.out.ah (by decide) (by rw [hk, e])) (.int .i64 px.f0))
     have HS12 : Aside0 (W.heap.size ≤ (w11.setCell ⟨g + 1, 0, none⟩ (.int .i64 px.f0)).heap.size) := ⟨by rw [set_size]; exact HS11.out⟩
     generalize w11.setCell ⟨g + 1, 0, none⟩ (.int .i64 px.f0) = w12 at HB12 HV12 HY12 HS12 ⊢
     clear HB11 HV11 HO11 HS11 HX11 hbx0 hc1 hf1
     have hw1 : wrap64 (x23 + 1) = ((i + 1 : Nat) : Int) := by have := HX.out; have := H4.out; unfold wrap64; omega
     refine region_in rfl (by rintro ⟨_, _, h⟩; exact h) ?_
     go_wp2
     gi_roundg (gk - 1)
     case measure => have := HK.out; omega
     case rel => exact ⟨_, i + 1, o11, px.f0, rfl, ⟨hw1⟩, ⟨by have := HK.out; omega⟩, ⟨by rw [E11.out, E10.out]; exact HP'.out⟩, ⟨by have := HL.out; have := riseR_len (l := px.f1); have := putR_le (wrap64 (wrap64 (px.f0 - a') - 1)); rw [E11.out, E10.out, List.length_append, List.length_append]; omega⟩, HY12, HB12, HV12, HS12⟩
    ·have hltb : decide (x23 < (lx.length : Int)) = false := decide_eq_false (by have := HX.out; omega)
     refine wpIn_seq_k fun K10 hK10 => ?_
     refine region_in rfl (by rintro ⟨_, _, h⟩; exact h) ?_
     go_wp2
     refine wpIn_seq_k fun K11 hK11 => ?_
     refine wpIn_cond_false rfl ?_
     refine wpIn_exit ?_
     show K8 _ _
     refine hK8 _ _ ?_
     clear hK8 hK11 K11 hltb
     refine wpIn_seq_k fun K12 hK12 => ?_
     refine region_any_in (by kernel_rfl) rfl (by rintro ⟨_, _, h⟩; exact h) ?_
     have hi : lx.drop i = [] := List.drop_eq_nil_of_le (by omega)
     have hpk : packB [] s.2 lx = (x7, a') := by rw [← HP.out, hi]; rfl
     have HPK : Aside0 (packC s lx = (s.1 ++ putR a' ++ putR (x7.length : Int) ++ x7, a')) := ⟨by unfold packC; rw [hpk]⟩
     clear hi hpk HP
     have HNE : Aside0 (∀ k, (Value.slice A7 x7.length c7).ownBlock = some k → (Value.slice A6 s.1.length c6).ownBlock ≠ some k) := ⟨fun k hk e => by have := HLT.out k e; have := Kd.R_base HY.out k hk; omega⟩
     clear HLT
     replace HBQ := Aside0.mk (HBQ.out.below (below_drew (Below.refl _ wr)))
     replace HV := Aside0.mk (Kd.R_drew HV.out)
     replace HY := Aside0.mk (Kd.R_drew HY.out)
     change wpAny _ _ _ _ _ _ _ (World.drew _)
     generalize wr.drew = wq at HBQ HV HY ⊢
     refine wpAny_of_last (S := fun w' => w'.cell? ⟨g, 0, none⟩ = some (.slice A6 s.1.length c6) ∧ w'.cell? ⟨g + 1, 0, none⟩ = some (.int .i64 a')) (ds := [8]) _ _ _ _ ?_
     change wpAnyLast _ _ _ _ _ _ 9 #[false, false, false, false, false, false, false, false, false] _ _
     have hHeld : wq.cell? ⟨g, 0, none⟩ = some (.slice A6 s.1.length c6) ∧ wq.cell? ⟨g + 1, 0, none⟩ = some (.int .i64 a') := ⟨HBQ.out.c0, HBQ.out.c1⟩
     refine pure_ (i := 4) (N := some 50) (v := ?_) (a' := ?_) #[false, false, false, false, true, false, false, false, false] rfl rfl (by kernel_rfl) (fun _ _ _ h => h) (Or.inl ⟨by rfl, ?_⟩) ?_ ?_
     rotate_left
     ·intro w'
      go_simp
      with_reducible rfl
     rotate_left
     ·simp only [Act.put, List.setIfInBounds_toArray, List.set_cons_zero, List.set_cons_succ, i64_w, i32_w]
      rfl
     refine pure_ (i := 5) (N := some 51) (v := ?_) (a' := ?_) #[false, false, false, false, true, true, false, false, false] rfl rfl (by kernel_rfl) (fun _ _ _ h => h) (Or.inl ⟨by rfl, ?_⟩) ?_ ?_
     rotate_left
     ·intro w'
      go_simp
      with_reducible rfl
     rotate_left
     ·simp only [Act.put, List.setIfInBounds_toArray, List.set_cons_zero, List.set_cons_succ, i64_w, i32_w]
      rfl
     refine take_ (i := 0) (N := some 46) (v := ?_) (a' := ?_) #[true, false, false, false, true, true, false, false, false] rfl rfl (by kernel_rfl) (fun _ _ _ h => h) (Or.inl ⟨by rfl, ?_⟩) hHeld ?_ ?_
     rotate_left
     ·rintro w' ⟨s0, s1⟩
      go_simp
      with_reducible rfl
     rotate_left
     ·simp only [Act.put, List.setIfInBounds_toArray, List.set_cons_zero, List.set_cons_succ, i64_w, i32_w]
      rfl
     refine take_ (i := 1) (N := some 47) (v := ?_) (a' := ?_) #[true, true, false, false, true, true, false, false, false] rfl rfl (by kernel_rfl) (fun _ _ _ h => h) (Or.inl ⟨by rfl, ?_⟩) hHeld ?_ ?_
     rotate_left
     ·rintro w' ⟨s0, s1⟩
      go_simp
      with_reducible rfl
     rotate_left
     ·simp only [Act.put, List.setIfInBounds_toArray, List.set_cons_zero, List.set_cons_succ, i64_w, i32_w]
      rfl
     refine one_ (i := 2) (N := some 48) #[true, true, true, false, true, true, false, false, false] rfl rfl (by kernel_rfl) (by decide) (fun K hK => ?_)
     refine goes_ Try.func40 (by kernel_rfl) rfl #[.int .i64 a'] (by rfl) rfl rfl (by (try simp only [List.map_toArray, List.map_cons, List.map_nil]); first | done | rfl) ?_
     refine (put_calls a' _).mono ?_
     rintro e w8 ⟨v8, rfl, hr8, hb8⟩
     refine ⟨_, rfl, ?_⟩
     have HB8 := Aside0.mk (HBQ.out.below hb8)
     have HV8 := Aside0.mk (Kd.R_below HV.out hb8)
     have HY8 := Aside0.mk (Kd.R_below HY.out hb8)
     have HZ8 := Aside0.mk hr8
     have HN8 := Aside0.mk hb8.size
     clear hr8 hb8 HBQ HV HY
     obtain ⟨A8, c8, e8⟩ := Kd.R_slice HZ8.out
     subst e8
     refine hK.out _ _ ⟨HB8.out.c0, HB8.out.c1⟩ (fun hHeld => ?_)
     clear hK K
     refine norm_ (a' := ?_) ?_ ?_
     rotate_left
     ·show Act.put _ (some 48) _ = _
      simp only [Act.put, List.setIfInBounds_toArray, List.set_cons_zero, List.set_cons_succ, i64_w, i32_w]
      rfl
     refine one_ (i := 3) (N := some 49) #[true, true, true, true, true, true, false, false, false] rfl rfl (by kernel_rfl) (by decide) (fun K hK => ?_)
     refine u8_append_step (by rfl) rfl (.tmp 46) (.tmp 48) rfl (.slice A6 s.1.length c6) s.1 (putR a') A8 c8 rfl rfl HV8.out (Kd.R_reads' HZ8.out).2.2 HB8.out.bl.size ?aL ?_
     case aL => have := HS.out; have := putR_le a'; omega
     intro v9 w9 ho9 hg9 hat9
     obtain ⟨o9, E9⟩ : ∃ o9, Aside0 (o9 = s.1 ++ putR a') := ⟨_, ⟨rfl⟩⟩
     rw [← E9.out] at ho9
     have L9 : Aside0 (o9.length ≤ 30000005) := ⟨by have := HS.out; have := putR_le a'; rw [E9.out, List.length_append]; omega⟩
     have HB9 := Aside0.mk (HB8.out.row HV8.out (Nat.le_refl _) hg9)
     have HY9 := Aside0.mk (u8_other HY8.out hg9 HNE.out)
     have HO9 := Aside0.mk ho9
     have HN9 := Aside0.mk (own_neN hat9 HNE.out (Kd.R_lt HY8.out))
     clear ho9 hg9 hat9 HB8 HY8 HV8 HZ8 HN8
     obtain ⟨A9, c9, e9⟩ := Kd.R_slice HO9.out
     subst e9
     refine hK.out _ _ ⟨HB9.out.c0, HB9.out.c1⟩ (fun hHeld => ?_)
     clear hK K
     refine norm_ (a' := ?_) ?_ ?_
     rotate_left
     ·show Act.put _ (some 49) _ = _
      simp only [Act.put, List.setIfInBounds_toArray, List.set_cons_zero, List.set_cons_succ, i64_w, i32_w]
      rfl
     refine one_ (i := 6) (N := some 52) #[true, true, true, true, true, true, true, false, false] rfl rfl (by kernel_rfl) (by decide) (fun K hK => ?_)
     refine goes_ Try.func40 (by kernel_rfl) rfl #[.int .i64 (x7.length : Int)] (by rfl) rfl rfl (by (try simp only [List.map_toArray, List.map_cons, List.map_nil]); first | done | rfl) ?_
     refine (put_calls (x7.length : Int) _).mono ?_
     rintro e w10 ⟨v10, rfl, hr10, hb10⟩
     refine ⟨_, rfl, ?_⟩
     have HB10 := Aside0.mk (HB9.out.below hb10)
     have HV10 := Aside0.mk (Kd.R_below HO9.out hb10)
     have HY10 := Aside0.mk (Kd.R_below HY9.out hb10)
     have HZ10 := Aside0.mk hr10
     clear hr10 hb10 HB9 HO9 HY9
     obtain ⟨A10, c10, e10⟩ := Kd.R_slice HZ10.out
     subst e10
     refine hK.out _ _ ⟨HB10.out.c0, HB10.out.c1⟩ (fun hHeld => ?_)
     clear hK K
     refine norm_ (a' := ?_) ?_ ?_
     rotate_left
     ·show Act.put _ (some 52) _ = _
      simp only [Act.put, List.setIfInBounds_toArray, List.set_cons_zero, List.set_cons_succ, i64_w, i32_w]
      rfl
     refine one_ (i := 7) (N := some 53) #[true, true, true, true, true, true, true, true, false] rfl rfl (by kernel_rfl) (by decide) (fun K hK => ?_)
     refine u8_append_step (by rfl) rfl (.tmp 49) (.tmp 52) rfl (.slice A9 o9.length c9) o9 (putR (x7.length : Int)) A10 c10 rfl rfl HV10.out (Kd.R_reads' HZ10.out).2.2 HB10.out.bl.size ?aL ?_
     case aL => have := L9.out; have := putR_le (x7.length : Int); omega
     intro v11 w11 ho11 hg11 hat11
     obtain ⟨o11, E11⟩ : ∃ o11, Aside0 (o11 = o9 ++ putR (x7.length : Int)) := ⟨_, ⟨rfl⟩⟩
     rw [← E11.out] at ho11
     have L11 : Aside0 (o11.length ≤ 30000010) := ⟨by have := L9.out; have := putR_le (x7.length : Int); rw [E11.out, List.length_append]; omega⟩
     have HB11 := Aside0.mk (HB10.out.row HV10.out (Nat.le_refl _) hg11)
     have HY11 := Aside0.mk (u8_other HY10.out hg11 HN9.out)
     have HO11 := Aside0.mk ho11
     have HN11 := Aside0.mk (own_neN hat11 HN9.out (Kd.R_lt HY10.out))
     clear ho11 hg11 hat11 HB10 HY10 HV10 HZ10
     obtain ⟨A11, c11, e11⟩ := Kd.R_slice HO11.out
     subst e11
     refine hK.out _ _ ⟨HB11.out.c0, HB11.out.c1⟩ (fun hHeld => ?_)
     clear hK K
     refine norm_ (a' := ?_) ?_ ?_
     rotate_left
     ·show Act.put _ (some 53) _ = _
      simp only [Act.put, List.setIfInBounds_toArray, List.set_cons_zero, List.set_cons_succ, i64_w, i32_w]
      rfl
     have hc0 := HB11.out.c0
     have hf0 := HB11.out.f0
     refine last_ (i := 8) (N := none) #[true, true, true, true, true, true, true, true, true] rfl rfl (by kernel_rfl) (by decide) (fun K hK => ?_)
     refine skip_ (w1 := ?_) (by rfl) rfl ?_ ?_
     rotate_left
     ·go_simp
      rfl
     refine hK.out _ _ ?_
     clear hK K
     clear hc0 hf0 hHeld
     have HB12 := Aside0.mk (HB11.out.put HGW.out (.slice A11 o11.length c11))
     have HV12 := Aside0.mk (u8_far HO11.out ⟨g, 0, none⟩ (fun k hk e => Kd.R_ne HO11.out HB11.out.bx (by decide) (by rw [hk, e])) (.slice A11 o11.length c11))
     have HY12 := Aside0.mk (u8_far HY11.out ⟨g, 0, none⟩ (fun k hk e => Kd.R_ne HY11.out HB11.out.bx (by decide) (by rw [hk, e])) (.slice A11 o11.length c11))
     clear HB11 HO11 HY11
     refine done_ (by kernel_rfl) ?_
     show K12 _ _
     refine hK12 _ _ ?_
     clear hK12 K12
     generalize World.setCell w11 _ _ = w12 at HB12 HV12 HY12 ⊢
     have hc0 := HB12.out.c0
     have hf0 := HB12.out.f0
     refine region_in rfl (by rintro ⟨_, _, h⟩; exact h) ?_
     go_wp2_with ((with_reducible refine gate_builtin (b := .append) (xs := #[.tmp 54, .tmp 55]) rfl ?_); at_builtin; refine u8_append rfl (.tmp 54) (.tmp 55) rfl (.slice A11 o11.length c11) o11 x7 A7 c7 rfl rfl HV12.out (Kd.R_reads' HY12.out).2.2 HB12.out.bl.size ?aL ?_; (case aL => have := L11.out; have := HL.out; have := H4.out; have := HK.out; omega); intro v13 w13 ho13 hg13 hat13; obtain ⟨o13, E13⟩ : ∃ o13, Aside0 (o13 = o11 ++ x7) := ⟨_, ⟨rfl⟩⟩; rw [← E13.out] at ho13; have HB13 := Aside0.mk (HB12.out.row HV12.out (Nat.le_refl _) hg13); have HO13 := Aside0.mk ho13; clear ho13 hg13 hat13 HB12 HV12 HY12 hc0 hf0; obtain ⟨A13, c13, e13⟩ := Kd.R_slice HO13.out; subst e13; have hc0 := HB13.out.c0; have hf0 := HB13.out.f0)
     have HB14 := HB13.out.put HGW.out (.slice A13 o13.length c13)
     have HV14 := u8_far HO13.out ⟨g, 0, none⟩ (fun k hk e => Kd.R_ne HO13.out HB13.out.bx (by decide) (by rw [hk, e])) (.slice A13 o13.length c13)
     have e14 : packC s lx = (o13, a') := by rw [HPK.out, E13.out, E11.out, E9.out]
     unfold PkQ
     rw [e14]
     exact ⟨HB14.ko, ⟨⟨_, HB14.bx, HV14⟩, HB14.ah, HB14.b1, HB14.b2, HB14.bl⟩⟩
end

theorem post_Pack.mono : ∀ a0 k, LeO (post_Pack.f k a0) (post_Pack.f (k + 1) a0) := by
 intro a0 k
 unfold post_Pack.f
 exact LeO.bind (post_May.mono _ _) (fun _ => LeO.refl _)
theorem post_Pack.calls (k : Nat) (A0 : Option Addr) (c0 : Nat) (l0 : List (S39)) (r1 : List Int) (r2 : Int) (w : World) (hr0 : Kd.C k39 w A0 l0.length l0) (hc0 : l0.length ≤ c0) (h : post_Pack.f k l0 = some (r1, r2)) :
  Calls Try.prog 20 #[.slice A0 l0.length c0] w fun e w' => ∃ v0_ : Value, e = .returned (.tuple #[v0_, .int .i64 r2]) ∧ Kd.R (Kd.int .u8) 5 w' w.heap.size (fun _ => True) v0_ r1 ∧ Below w.heap.size w w' :=
 post_Pack.calls_ k A0 c0 l0 r1 r2 w hr0 hc0 h

end Go.Proofs.Ytepmcdcncjimeaa.PPostTells
