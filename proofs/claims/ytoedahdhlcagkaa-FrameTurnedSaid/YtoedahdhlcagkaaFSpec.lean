/- The sum of bytes (a remainder, bit by bit), and frames, in plain Lean, with no program in sight. -/
import Derived.Test.YtoedahdhlcagkaaVSpec
namespace Go.Proofs.Ytoedahdhlcagkaa.FSpec
open Go Go.RowKit Go.Proofs.YtoedahdhlcagkaaW.PrintWords Go.Proofs.YtoedahdhlcagkaaW.PrintLast Go.Proofs.YtoedahdhlcagkaaW.PrintMore Go.Proofs.Ytoedahdhlcagkaa.VSpec

/-- One bit on. -/
def bit (r : Nat) : Nat := if r % 2 = 1 then (r / 2) ^^^ 2197175160 else r / 2
def bitsN : Nat → Nat → Nat
  | 0, r => r
  | n + 1, r => bitsN n (bit r)
/-- One byte on. -/
def byteOn (r c : Nat) : Nat := bitsN 8 (r ^^^ c)
def crc (r : Nat) : List Nat → Nat
  | [] => r
  | c :: t => crc (byteOn r c) t
theorem bit_lt {r : Nat} (h : r < 4294967296) : bit r < 4294967296 := by
  unfold bit
  split
  · exact Nat.xor_lt_two_pow (n := 32) (by omega) (by omega)
  · omega
theorem bitsN_lt : ∀ (n r : Nat), r < 4294967296 → bitsN n r < 4294967296
  | 0, _, h => h
  | n + 1, _, h => bitsN_lt n _ (bit_lt h)
theorem xor_lt {a b : Nat} (ha : a < 4294967296) (hb : b < 4294967296) : a ^^^ b < 4294967296 := Nat.xor_lt_two_pow (n := 32) ha hb
theorem byteOn_lt {r c : Nat} (h : r < 4294967296) (hc : c < 256) : byteOn r c < 4294967296 := bitsN_lt 8 _ (xor_lt h (by omega))
theorem crc_lt : ∀ (l : List Nat) (r : Nat), r < 4294967296 → (∀ x ∈ l, x < 256) → crc r l < 4294967296
  | [], _, h, _ => h
  | c :: t, _, h, hl => crc_lt t _ (byteOn_lt h (hl c (List.mem_cons_self ..))) (fun x hx => hl x (List.mem_cons_of_mem _ hx))
theorem crc_app : ∀ (l m : List Nat) (r : Nat), crc r (l ++ m) = crc (crc r l) m
  | [], _, _ => rfl
  | _ :: t, m, _ => crc_app t m _

/-! ### It goes by bits: of what is laid over one another it is what is laid over one another -/
theorem xor_mod2 (a b : Nat) : (a ^^^ b) % 2 = (a + b) % 2 := by
  have h := Nat.xor_mod_two_pow (a := a) (b := b) (n := 1)
  simp only [Nat.pow_one] at h
  rw [h]
  rcases Nat.mod_two_eq_zero_or_one a with ha | ha <;> rcases Nat.mod_two_eq_zero_or_one b with hb | hb <;> rw [ha, hb] <;> simp <;> omega
theorem xor_div2 (a b : Nat) : (a ^^^ b) / 2 = (a / 2) ^^^ (b / 2) := by
  have := Nat.xor_div_two_pow (a := a) (b := b) (n := 1)
  simpa using this
theorem bit_xor (a b : Nat) : bit (a ^^^ b) = bit a ^^^ bit b := by
  unfold bit
  have h := xor_mod2 a b
  rw [xor_div2]
  rcases Nat.mod_two_eq_zero_or_one a with ha | ha <;> rcases Nat.mod_two_eq_zero_or_one b with hb | hb
  · rw [if_neg (by omega), if_neg (by omega), if_neg (by omega)]
  · rw [if_pos (by omega), if_neg (by omega), if_pos hb, Nat.xor_assoc]
  · rw [if_pos (by omega), if_pos ha, if_neg (by omega), Nat.xor_assoc, Nat.xor_assoc, Nat.xor_comm (b / 2)]
  · rw [if_neg (by omega), if_pos ha, if_pos hb, Nat.xor_assoc, Nat.xor_comm 2197175160, Nat.xor_assoc, Nat.xor_self, Nat.xor_zero]
theorem bitsN_xor : ∀ (n a b : Nat), bitsN n (a ^^^ b) = bitsN n a ^^^ bitsN n b
  | 0, _, _ => rfl
  | n + 1, a, b => by simp only [bitsN, bit_xor, bitsN_xor n]
theorem bit_zero : bit 0 = 0 := by decide
theorem bitsN_zero : ∀ n, bitsN n 0 = 0
  | 0 => rfl
  | n + 1 => by simp only [bitsN, bit_zero, bitsN_zero n]
/-- Three rows of as many bytes. -/
theorem byteOn_mix (p q r x y z : Nat) : byteOn (p ^^^ q ^^^ r) (x ^^^ y ^^^ z) = byteOn p x ^^^ byteOn q y ^^^ byteOn r z := by
  have e0 : p ^^^ q ^^^ r ^^^ (x ^^^ y ^^^ z) = (p ^^^ x) ^^^ (q ^^^ y) ^^^ (r ^^^ z) := by ac_rfl
  simp only [byteOn, e0, bitsN_xor]
/-- Three rows laid over one another. -/
def mix : List Nat → List Nat → List Nat → List Nat
  | x :: a, y :: b, z :: c => (x ^^^ y ^^^ z) :: mix a b c
  | _, _, _ => []
def fold (f : Nat → Nat → Nat) (r : Nat) : List Nat → Nat
  | [] => r
  | c :: t => fold f (f r c) t
theorem crc_fold : ∀ (l : List Nat) (r : Nat), crc r l = fold byteOn r l
  | [], _ => rfl
  | c :: t, r => crc_fold t (byteOn r c)
theorem fold_mix (f : Nat → Nat → Nat) (hf : ∀ p q r x y z, f (p ^^^ q ^^^ r) (x ^^^ y ^^^ z) = f p x ^^^ f q y ^^^ f r z) :
    ∀ (n : Nat) (a b c : List Nat) (p q r : Nat), a.length = n → b.length = n → c.length = n → fold f (p ^^^ q ^^^ r) (mix a b c) = fold f p a ^^^ fold f q b ^^^ fold f r c
  | 0, a, b, c, p, q, r, h, h', h'' => by
    obtain rfl : a = [] := List.eq_nil_of_length_eq_zero h
    obtain rfl : b = [] := List.eq_nil_of_length_eq_zero h'
    obtain rfl : c = [] := List.eq_nil_of_length_eq_zero h''
    rfl
  | n + 1, a, b, c, p, q, r, h, h', h'' => by
    match a, b, c, h, h', h'' with
    | x :: a, y :: b, z :: c, h, h', h'' =>
      have ih := fold_mix f hf n a b c (f p x) (f q y) (f r z) (by simpa using h) (by simpa using h') (by simpa using h'')
      rw [mix, fold, fold, fold, fold, hf, ih]
theorem crc_mix (n : Nat) (a b c : List Nat) (p q r : Nat) (h : a.length = n) (h' : b.length = n) (h'' : c.length = n) : crc (p ^^^ q ^^^ r) (mix a b c) = crc p a ^^^ crc q b ^^^ crc r c := by
  rw [crc_fold, crc_fold, crc_fold, crc_fold]
  exact fold_mix byteOn byteOn_mix n a b c p q r h h' h''
/-- The bytes as numbers. -/
def nat (l : List Int) : List Nat := l.map Int.toNat
theorem nat_lt {l : List Int} (h : Byt l) : ∀ x ∈ nat l, x < 256 := by
  intro x hx
  obtain ⟨y, hy, rfl⟩ := List.mem_map.1 hx
  have := h y hy
  omega
/-- The sum of bytes. -/
def sum (l : List Int) : Nat := 4294967295 - crc 4294967295 (nat l)
theorem sum_lt (l : List Int) : sum l < 4294967296 := by unfold sum; omega
/-- A sum's bytes. -/
def le4 (n : Nat) : List Int := [((n % 256 : Nat) : Int), ((n / 256 % 256 : Nat) : Int), ((n / 65536 % 256 : Nat) : Int), ((n / 16777216 % 256 : Nat) : Int)]
theorem le4_byt (n : Nat) : Byt (le4 n) := Byt.cons (by omega) (Byt.cons (by omega) (Byt.cons (by omega) (Byt.cons (by omega) Byt.nil)))
/-- A frame's bytes ahead of the sum. -/
def body (kind : Int) (b : List Int) : List Int := [70, kind] ++ enc b.length ++ b
def wrap (kind : Int) (b : List Int) : List Int := body kind b ++ le4 (sum (body kind b))
def wrapR (kind : Int) (b : List Int) : List Int := if b.length ≤ 65536 then wrap kind b else []
/-- What Open answers. -/
def openR (b : List Int) (kind : Int) : List Int × Int :=
  if b.length < 2 ∨ rd b 0 ≠ 70 ∨ rd b 1 ≠ kind then ([], 5)
  else match dec 5 (b.drop 2) true with
    | none => ([], 5)
    | some (n, j) => if n > 65536 ∨ (b.length : Int) ≠ 2 + j + n + 4 then ([], 5)
      else if le4 (sum (b.take (2 + j + n.toNat))) = b.drop (2 + j + n.toNat) then ((b.drop (2 + j)).take n.toNat, 0) else ([], 6)
theorem kind_byt {k : Int} (h : 0 ≤ k ∧ k < 256) : Byt [70, k] := Byt.cons (by omega) (Byt.cons h Byt.nil)
theorem body_byt {k : Int} {b : List Int} (h : 0 ≤ k ∧ k < 256) (hb : Byt b) : Byt (body k b) := ((kind_byt h).app (enc_byt (by omega))).app hb
theorem wrap_byt {k : Int} {b : List Int} (h : 0 ≤ k ∧ k < 256) (hb : Byt b) : Byt (wrap k b) := (body_byt h hb).app (le4_byt _)
theorem body_len {k : Int} {b : List Int} (hl : b.length ≤ 65536) : (body k b).length ≤ b.length + 7 ∧ b.length + 3 ≤ (body k b).length := by
  have h5 := (show Num (b.length : Int) from ⟨by omega, by omega⟩).len
  have hp := enc_pos (b.length : Int)
  simp only [body, List.length_append, List.length_cons, List.length_nil]
  omega
theorem wrap_len {k : Int} {b : List Int} (hl : b.length ≤ 65536) : (wrap k b).length ≤ b.length + 11 ∧ b.length + 7 ≤ (wrap k b).length := by
  have := body_len (k := k) hl
  simp only [wrap, List.length_append, le4, List.length_cons, List.length_nil]
  omega
/-- What is wrapped is opened as it. -/
theorem open_wrap {k : Int} {b : List Int} (hl : b.length ≤ 65536) : openR (wrap k b) k = (b, 0) := by
  have hn : Num (b.length : Int) := ⟨by omega, by omega⟩
  have e : wrap k b = 70 :: k :: (enc b.length ++ (b ++ le4 (sum (body k b)))) := by simp [wrap, body]
  have hlen : (wrap k b).length = 2 + (enc (b.length : Int)).length + b.length + 4 := by
    rw [e]
    simp only [List.length_cons, List.length_append, le4, List.length_nil]
    omega
  unfold openR
  rw [if_neg (by rw [hlen, e]; simp [rd])]
  have hd : (wrap k b).drop 2 = enc b.length ++ (b ++ le4 (sum (body k b))) := by rw [e]; rfl
  rw [hd, dec5_enc hn]
  simp only
  rw [if_neg (by rw [hlen]; omega)]
  have hb : (body k b).length = 2 + (enc (b.length : Int)).length + (b.length : Int).toNat := by simp [body]; omega
  have ht : (wrap k b).take (2 + (enc (b.length : Int)).length + (b.length : Int).toNat) = body k b := by rw [← hb, wrap, List.take_left]
  have ht' : (wrap k b).drop (2 + (enc (b.length : Int)).length + (b.length : Int).toNat) = le4 (sum (body k b)) := by rw [← hb, wrap, List.drop_left]
  rw [ht, ht', if_pos rfl]
  have hd2 : (wrap k b).drop (2 + (enc (b.length : Int)).length) = b ++ le4 (sum (body k b)) := by rw [← List.drop_drop, hd, List.drop_left]
  rw [hd2, Int.toNat_natCast, List.take_left]
/-- What is opened, wrapped again, is the same bytes. -/
theorem wrap_open {b x : List Int} {k : Int} (hb : Byt b) (h : openR b k = (x, 0)) : wrap k x = b ∧ x.length ≤ 65536 := by
  unfold openR at h
  split at h
  · simp at h
  · rename_i h0
    cases hc : dec 5 (b.drop 2) true with
    | none => rw [hc] at h; simp at h
    | some p =>
      obtain ⟨n, j⟩ := p
      obtain ⟨a1, a2, a3, a4, a5, a6, _⟩ := enc_dec 5 (b.drop 2) true n j (hb.drop 2) hc
      simp only [List.length_drop] at a4
      rw [hc] at h
      simp only at h
      split at h
      · simp at h
      · rename_i h1
        split at h
        · rename_i h2
          simp only [Prod.mk.injEq, and_true] at h
          subst h
          have hxl : ((b.drop (2 + j)).take n.toNat).length = n.toNat := by simp; omega
          refine ⟨?_, by rw [hxl]; omega⟩
          have hbody : body k ((b.drop (2 + j)).take n.toNat) = b.take (2 + j + n.toNat) := by
            have hb2 : b.take 2 = [70, k] := by
              match b, h0 with
              | [], h0 => simp at h0
              | [_], h0 => simp at h0
              | p :: q :: t, h0 =>
                simp only [not_or, Decidable.not_not, rd] at h0
                simp at h0
                simp [h0]
            unfold body
            rw [hxl, show ((n.toNat : Nat) : Int) = n by omega, a6, ← hb2, List.append_assoc, Nat.add_assoc, List.take_add, List.take_add, List.drop_drop]
          unfold wrap
          rw [hbody, h2, List.take_append_drop]
        · simp at h
theorem open_err {b : List Int} {k : Int} (h : (openR b k).2 ≠ 0) : (openR b k).1 = [] ∧ ((openR b k).2 = 5 ∨ (openR b k).2 = 6) := by
  unfold openR at h ⊢
  split
  · exact ⟨rfl, .inl rfl⟩
  · rename_i h0
    rw [if_neg h0] at h
    split
    · exact ⟨rfl, .inl rfl⟩
    · rename_i n j hc
      rw [hc] at h
      simp only at h
      split
      · exact ⟨rfl, .inl rfl⟩
      · rename_i h1
        rw [if_neg h1] at h
        split
        · rename_i h2
          rw [if_pos h2] at h
          exact absurd rfl h
        · exact ⟨rfl, .inr rfl⟩
end Go.Proofs.Ytoedahdhlcagkaa.FSpec
