/- If bytes within four in a row are other ones a frame is not opened: FrameTurned answers true for every input. -/
import Derived.Test.YtoedahdhlcagkaaFFunFrameTurned
import Derived.Test.YtoedahdhlcagkaaFRes
import Derived.Test.YtoedahdhlcagkaaVList
namespace Go.Proofs.Ytoedahdhlcagkaa.Pure
open Go Go.RowKit Go.Proofs.Ytoedahdhlcagkaa.PFrameTurned Go.Proofs.YtoedahdhlcagkaaW.PrintWords Go.Proofs.YtoedahdhlcagkaaW.PrintLast Go.Proofs.Ytoedahdhlcagkaa.VSpec Go.Proofs.Ytoedahdhlcagkaa.FSpec Go.Proofs.Ytoedahdhlcagkaa.VFrameTurned

theorem awake_FrameTurned : catchwordlaw02_awake.f 100 = some true := by decide +kernel
/-- The end: what the turned frame answers. -/
theorem turned_end (W : List Int) (kind : Int) (t : Bool) (h : t = true → (openR W kind).2 ≠ 0) :
    (if t = true then (if (((openR W kind).1.length : Nat) : Int) = 0 then (if (openR W kind).2 = 5 then (some true) else (some ((openR W kind).2 == 6))) else (some false)) else (some true)) = some true := by
  cases t with
  | false => rfl
  | true =>
    obtain ⟨h1, h2⟩ := open_err (h rfl)
    rw [if_pos rfl, h1, if_pos (show (([] : List Int).length : Int) = 0 from rfl)]
    rcases h2 with h2 | h2
    · rw [if_pos h2]
    · rw [h2, if_neg (by decide)]; rfl
theorem xor_byte {x d : Int} (hx : 0 ≤ x ∧ x < 256) (hd : 0 ≤ d ∧ d < 256) : 0 ≤ Go.bits .xor .u8 x d ∧ Go.bits .xor .u8 x d < 256 ∧ (d ≠ 0 → Go.bits .xor .u8 x d ≠ x) := by
  have h1 : x.toNat ^^^ d.toNat < 256 := Nat.xor_lt_two_pow (n := 8) (by omega) (by omega)
  rw [u8_xor x d hx.1 hx.2 hd.1 hd.2]
  refine ⟨by omega, by omega, fun h he => ?_⟩
  have e : x.toNat ^^^ d.toNat = x.toNat := by omega
  have e2 : x.toNat ^^^ (x.toNat ^^^ d.toNat) = x.toNat ^^^ x.toNat := by rw [e]
  rw [← Nat.xor_assoc, Nat.xor_self, Nat.zero_xor] at e2
  omega
theorem turned_l0 (kind : Int) (b by4 : List Int) (at0 : Nat) (hk : 0 ≤ kind ∧ kind < 256) (hb : Byt b) (hl : b.length ≤ 2000) (h4 : by4.length = 4) (hby : Byt by4) (ha : at0 < (wrap kind b).length) :
    ∀ (d k i : Nat) (V : List Int) (t : Bool), d + i = 4 → d + 3000 < k → V.length = i → at0 + i ≤ (wrap kind b).length → Byt V → (t = true → V ≠ ((wrap kind b).drop at0).take i) →
    catchwordlaw02_FrameTurned.l0 k kind at0 by4 ((wrap kind b).take at0 ++ V ++ (wrap kind b).drop (at0 + i)) t i = some true := by
  have hwl := (wrap_len (k := kind) (b := b) (by omega)).1
  have hwb := wrap_byt hk hb
  generalize hw : wrap kind b = w at *
  have fin : ∀ (k i : Nat) (V : List Int) (t : Bool), i ≤ 4 → 2990 < k → V.length = i → at0 + i ≤ w.length → Byt V → (t = true → V ≠ (w.drop at0).take i) →
      ((frame_Open.f k (w.take at0 ++ V ++ w.drop (at0 + i)) kind).bind fun bt196 => (if t = true then (if (bt196.1.length : Int) = 0 then (if bt196.2 = 5 then (some true) else (some (bt196.2 == 6))) else (some false)) else (some true))) = some true := by
    intro k i V t hi hk' hV hai hVb ht
    have hWb : Byt (w.take at0 ++ V ++ w.drop (at0 + i)) := ((hwb.take _).app hVb).app (hwb.drop _)
    have hWl : (w.take at0 ++ V ++ w.drop (at0 + i)).length = w.length := by
      simp only [List.length_append, List.length_take, List.length_drop]; omega
    rw [open_f _ kind hWb (by omega) k (by omega), Option.bind_some]
    refine turned_end _ kind t (fun h => ?_)
    have hsplit : w = w.take at0 ++ (w.drop at0).take i ++ w.drop (at0 + i) := by
      rw [List.append_assoc, ← List.drop_drop, List.take_append_drop, List.take_append_drop]
    exact open_turned hk hb (hw.trans hsplit) hWb (by rw [List.length_take, List.length_drop]; omega) (by rw [List.length_take]; omega) (ht h)
  intro d
  induction d with
  | zero =>
    intro k i V t hd hk' hV hai hVb ht
    obtain ⟨k, rfl⟩ : ∃ m, k = m + 1 := ⟨k - 1, by omega⟩
    simp only [catchwordlaw02_FrameTurned.l0]
    rw [if_neg (by omega)]
    exact fin k i V t (by omega) (by omega) hV hai hVb ht
  | succ d ih =>
    intro k i V t hd hk' hV hai hVb ht
    obtain ⟨k, rfl⟩ : ∃ m, k = m + 1 := ⟨k - 1, by omega⟩
    have hWl : (w.take at0 ++ V ++ w.drop (at0 + i)).length = w.length := by
      simp only [List.length_append, List.length_take, List.length_drop]; omega
    simp only [catchwordlaw02_FrameTurned.l0]
    rw [if_pos (by omega), w64n (x := (at0 : Int) + i) (at0 + i) (by omega) (by omega), hWl]
    by_cases hlt : at0 + i < w.length
    · have hpl : (w.take at0 ++ V).length = at0 + i := by simp only [List.length_append, List.length_take]; omega
      have hdw := rd_at w (at0 + i) hlt
      have hx : 0 ≤ rd w ((at0 + i : Nat) : Int) ∧ rd w ((at0 + i : Nat) : Int) < 256 := hwb.drop (at0 + i) _ (by rw [hdw]; exact List.mem_cons_self ..)
      have hdy := rd_at by4 i (by omega)
      have hy : 0 ≤ rd by4 i ∧ rd by4 i < 256 := hby.drop i _ (by rw [hdy]; exact List.mem_cons_self ..)
      have hrd : rd (w.take at0 ++ V ++ w.drop (at0 + i)) ((at0 + i : Nat) : Int) = rd w ((at0 + i : Nat) : Int) := by
        rw [hdw]
        simp only [rd, Int.toNat_natCast, List.getD_eq_getElem?_getD]
        rw [List.getElem?_append_right (by omega), hpl, Nat.sub_self]
        rfl
      obtain ⟨b1, b2, b3⟩ := xor_byte hx hy
      rw [if_pos (by omega), if_pos (by omega), if_pos (by omega), if_pos (by omega), hrd, Option.bind_some]
      generalize hnew : Go.bits .xor .u8 (rd w ((at0 + i : Nat) : Int)) (rd by4 i) = nb at b1 b2 b3
      have hset : (w.take at0 ++ V ++ w.drop (at0 + i)).set (((at0 + i : Nat) : Int)).toNat nb = w.take at0 ++ (V ++ [nb]) ++ w.drop (at0 + (i + 1)) := by
        rw [Int.toNat_natCast, List.set_append_right _ _ (by omega), hpl, Nat.sub_self, hdw, List.set_cons_zero]
        simp [List.append_assoc, Nat.add_assoc]
      have htake : (w.drop at0).take (i + 1) = (w.drop at0).take i ++ [rd w ((at0 + i : Nat) : Int)] := by
        rw [List.take_add, List.drop_drop, hdw]
        rfl
      have hlen : ((w.drop at0).take i).length = i := by rw [List.length_take, List.length_drop]; omega
      have hVb' : Byt (V ++ [nb]) := hVb.app (Byt.cons ⟨b1, b2⟩ Byt.nil)
      rw [hset, w64n (x := (i : Int) + 1) (i + 1) (by omega) (by omega)]
      by_cases h : t = true
      · rw [if_pos h]
        refine ih k (i + 1) (V ++ [nb]) true (by omega) (by omega) (by simp; omega) (by omega) hVb' (fun _ he => ht h ?_)
        rw [htake] at he
        exact (List.append_inj he (by omega)).1
      · rw [if_neg h]
        refine ih k (i + 1) (V ++ [nb]) _ (by omega) (by omega) (by simp; omega) (by omega) hVb' (fun hn he => ?_)
        rw [htake] at he
        have := (List.append_inj he (by omega)).2
        simp only [List.cons.injEq, and_true] at this
        exact b3 (bne_iff_ne.1 hn) this
    · rw [if_neg (by omega)]
      exact fin k i V t (by omega) (by omega) hV hai hVb ht
theorem FrameTurned : catchwordlaw02_FrameTurned.Pure := by
  intro b kind at0 d0 d1 d2 d3 hb hk _ h0 h1 h2 h3
  obtain ⟨hbl, hb⟩ := hb
  have hb := Byt.of hb
  have hk := wf_u8 hk
  have hby : Byt [d0, d1, d2, d3] := Byt.cons (wf_u8 h0) (Byt.cons (wf_u8 h1) (Byt.cons (wf_u8 h2) (Byt.cons (wf_u8 h3) Byt.nil)))
  refine ⟨b.length + 4001, ?_⟩
  unfold catchwordlaw02_FrameTurned.f
  rw [Option.bind_some, at_rounds (fun k => catchwordlaw02_awake.mono k) (show 100 ≤ b.length + 4001 by omega) awake_FrameTurned, Option.bind_some, wrap_f kind b hk hb _ (by omega), Option.bind_some, if_pos rfl]
  have done : ∀ w : List Int, ((b.length : Int) ≤ 2000 → (w.length : Int) ≥ b.length + 7) → catchwordlaw02_FrameTurned.j0 (b.length + 4001) b kind at0 [d0, d1, d2, d3] true w true = some true := by
    intro w hw
    simp only [catchwordlaw02_FrameTurned.j0, if_true]
    by_cases h : (b.length : Int) > 2000
    · rw [if_pos h]
    · rw [if_neg h, w64 (x := (b.length : Int) + 7) (by omega) (by omega), decide_eq_true (hw (by omega))]
  by_cases h : (b.length : Int) > 2000
  · rw [if_pos h, done _ (fun h' => by omega)]
  · have hw : wrapR kind b = wrap kind b := if_pos (by omega)
    have hl := wrap_len (k := kind) (b := b) (by omega)
    rw [if_neg h, hw]
    have hge : (b.length : Int) ≤ 2000 → ((wrap kind b).length : Int) ≥ b.length + 7 := fun _ => by omega
    by_cases ha : at0 < 0
    · rw [if_pos ha, done _ hge]
    · rw [if_neg ha]
      by_cases ha2 : at0 ≥ ((wrap kind b).length : Int)
      · rw [decide_eq_true ha2, done _ hge]
      · rw [decide_eq_false ha2]
        simp only [catchwordlaw02_FrameTurned.j0]
        rw [if_neg (by decide)]
        obtain ⟨n, rfl⟩ : ∃ n : Nat, at0 = n := ⟨at0.toNat, by omega⟩
        have := turned_l0 kind b [d0, d1, d2, d3] n hk hb (by omega) rfl hby (by omega) 4 (b.length + 4000) 0 [] false (by omega) (by omega) rfl (by omega) Byt.nil (fun h => by cases h)
        rw [List.append_nil, show n + 0 = n from rfl, List.take_append_drop] at this
        exact this
end Go.Proofs.Ytoedahdhlcagkaa.Pure
