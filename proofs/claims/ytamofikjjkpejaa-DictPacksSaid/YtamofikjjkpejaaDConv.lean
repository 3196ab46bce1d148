/- 'append(out, []byte(s)...)': the conversion of a string to a row of bytes, and the append of that row, told as one event. -/
import Derived.Test.YtamofikjjkpejaaWMore
import Derived.Laws.IdiomStrings
namespace Go.Proofs.Ytamofikjjkpejaa.DConv
open Go Go.RowKit Go.Proofs.YtamofikjjkpejaaW.PrintWords

theorem conv_reads (w : World) (e cap : Nat) (fr : Nat × Nat) (s : ByteArray) (hs : s.size ≤ 9223372036854775807) : Kd.C (Kd.int .u8) (w.alloc (.cells (bytesRow s cap) e fr)) (some ⟨w.heap.size, 0, none⟩) s.size (bytesOf s) := by
  refine ⟨bytesOf_length s, hs, fun _ => ⟨_, rfl, fun j p hp => ?_⟩⟩
  refine ⟨[.int .u8 p], rfl, rfl, fun i u hu => ?_⟩
  have hi : i = 0 := by have := (List.getElem?_eq_some_iff.1 hu).1; simp at this; omega
  subst hi
  simp only [List.getElem?_cons_zero, Option.some.injEq] at hu
  subst hu
  have hj : j < s.data.size := by have := (List.getElem?_eq_some_iff.1 hp).1; rw [bytesOf_length] at this; exact this
  have e2 : (⟨w.heap.size, 0, none⟩ : Addr).add (j * (Kd.int .u8).sz + 0) = ⟨w.heap.size, j, none⟩ := by rw [add_plain]; show (⟨w.heap.size, j * 1 + 0, none⟩ : Addr) = _; simp
  rw [e2, World.cell?_alloc_mark, bytesRow_at s cap j hj]
  unfold bytesOf at hp
  rw [List.getElem?_map, Array.getElem?_toList, Array.getElem?_eq_getElem hj] at hp
  simp only [Option.map_some, Option.some.injEq] at hp
  rw [← hp]

theorem grown_far {w w1 w2 : World} {row : Option Nat} (h : Below w.heap.size w w1) (hg : w1.grownBy w2 row) : w.grownBy w2 row :=
  ⟨hg.os.trans h.os, hg.tape.trans h.tape, hg.output.trans h.output, Nat.le_trans h.size hg.size, fun k hk hr => (hg.block k (Nat.lt_of_lt_of_le hk h.size) hr).trans (h.block k hk)⟩

theorem convapp_ {P : Program} {ops : Array Oper} {rest : List Oper} {o1 o2 : Oper} {a : Act} {Q : Exit → Act → World → Prop} {w0 W : World} (base : Nat) (n1 : Tmp) (hd1 : o1.dst = some n1) (hg1 : o1.guard = none) (hg2 : o2.guard = none) (s x : Operand) (t u e : TypeId)
    (h1 : o1.op = .convert u t x) (h2 : o2.op = .call { callee := .builtin .append, args := #[s, .tmp n1], argTypes := #[t, t] })
    (ht : P.underlying t = some (.slice e)) (hu : P.underlying u = some .string) (he : P.underlying e = some (.int .u8)) (hinfo : (P.info? e).map (fun i => (i.zero, i.size, i.bytes)) = some (some (.int .u8 0), 1, 1))
    (v : Value) (xs : List Int) (y : ByteArray) (hx : a.eval x = .string y) (hs : ∀ z, (a.put (some n1) z).eval s = v) (hn : ∀ z, (a.put (some n1) z).eval (.tmp n1) = z)
    (ok : Nat → Prop) (HO : Kd.R (Kd.int .u8) e W base ok v xs) (hfresh : ∀ k, W.heap.size ≤ k → ok k) (HB : Below base w0 W) (hbase : base ≤ W.heap.size) (hl : xs.length + y.size ≤ 140737488355328)
    (h : ∀ z v1 w1, Kd.R (Kd.int .u8) e w1 base ok v1 (xs ++ bytesOf y) → Below base w0 w1 → W.grownBy w1 v.ownBlock → (v1.ownBlock = v.ownBlock ∨ ∃ b, v1.ownBlock = some b ∧ W.heap.size ≤ b) → wpList P ops Q rest ((a.put (some n1) z).put o2.dst v1) w1) :
    wpList P ops Q (o1 :: o2 :: rest) a W := by
  refine wpList_plain hg1 fun K hK => ?_
  have hrun : (execOp a.eval o1).run P W = .ok (.value (.slice (some ⟨W.heap.size, 0, none⟩) y.size (grownCap W y.size 0 e)))
      (W.drew.alloc (.cells (bytesRow y (grownCap W y.size 0 e)) e ((bytesRow y (grownCap W y.size 0 e)).size, (bytesRow y (grownCap W y.size 0 e)).size + 1))) := by
    unfold execOp
    have := run_bytes_of_string (P := P) W u t e y hu ht he
    simp [h1, hx, this]
  unfold Oper.wp
  rw [hrun]
  refine hK _ _ ?_
  rw [hd1]
  have hb1 : Below W.heap.size W (W.drew.alloc (.cells (bytesRow y (grownCap W y.size 0 e)) e ((bytesRow y (grownCap W y.size 0 e)).size, (bytesRow y (grownCap W y.size 0 e)).size + 1))) := below_alloc (below_drew (Below.refl _ _)) _
  have hC := conv_reads W.drew e (grownCap W y.size 0 e) ((bytesRow y (grownCap W y.size 0 e)).size, (bytesRow y (grownCap W y.size 0 e)).size + 1) y (by omega)
  generalize hW1 : W.drew.alloc (.cells (bytesRow y (grownCap W y.size 0 e)) e ((bytesRow y (grownCap W y.size 0 e)).size, (bytesRow y (grownCap W y.size 0 e)).size + 1)) = W1 at hb1 hC
  have hsz := hb1.size
  refine Kd.R_append_rows (Kd.int .u8) (w0 := w0) base hg2 s (.tmp n1) t e (.int .u8 0) 1 h2 ht hinfo rfl (by decide) (by omega) v xs (bytesOf y) _ _ _ ok (fun _ => False) (hs _) (hn _) (Kd.R_below HO hb1) hC (fun _ _ h => h) (fun _ h => h.elim) (fun k hk => hfresh k (Nat.le_trans hsz hk)) (HB.trans ⟨hb1.os, hb1.tape, hb1.output, hb1.size, fun i hi => hb1.block i (Nat.lt_of_lt_of_le hi hbase)⟩) (Nat.le_trans hbase hsz) (by omega) ?_
  intro v1 w1 hr hb hg hat
  refine h _ v1 w1 hr hb (grown_far hb1 hg) ?_
  rcases hat with e3 | ⟨b, e3, h3⟩
  · exact .inl e3
  · exact .inr ⟨b, e3, Nat.le_trans hsz h3⟩
end Go.Proofs.Ytamofikjjkpejaa.DConv
namespace Go.Proofs.Ytamofikjjkpejaa.PDictPacks
abbrev T : Bool := true
abbrev F : Bool := false
end Go.Proofs.Ytamofikjjkpejaa.PDictPacks
