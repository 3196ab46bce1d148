/- Bytes within four in a row that are other ones are seen by the sum: in plain Lean. -/
import Derived.Test.YtoedahdhlcagkaaFCut
namespace Go.Proofs.Ytoedahdhlcagkaa.FSpec
open Go Go.RowKit Go.Proofs.YtoedahdhlcagkaaW.PrintWords Go.Proofs.YtoedahdhlcagkaaW.PrintLast Go.Proofs.YtoedahdhlcagkaaW.PrintMore Go.Proofs.Ytoedahdhlcagkaa.VSpec

theorem max_xor {r : Nat} (h : r < 4294967296) : 4294967295 ^^^ r = 4294967295 - r := by
  apply Nat.eq_of_testBit_eq
  intro i
  have h1 := Nat.testBit_two_pow_sub_succ (x := r) (n := 32) h i
  have h2 := Nat.testBit_two_pow_sub_one 32 i
  rw [Nat.testBit_xor, show (4294967295 : Nat) = 2 ^ 32 - 1 from rfl, h2, show 2 ^ 32 - 1 - r = 2 ^ 32 - (r + 1) by omega, h1]
  by_cases hi : i < 32
  · simp [hi]
  · have : r.testBit i = false := Nat.testBit_lt_two_pow (Nat.lt_of_lt_of_le h (show (2 : Nat) ^ 32 ≤ 2 ^ i from Nat.pow_le_pow_right (by decide) (by omega)))
    simp [hi, this]
/-- Bytes laid over one another, each eight bits on. -/
def le : List Nat → Nat
  | [] => 0
  | d :: t => d ^^^ (256 * le t)
theorem bit_double (y : Nat) : bit (2 * y) = y := by
  rw [bit, if_neg (by omega)]
  omega
theorem bits8 (y : Nat) : bitsN 8 (256 * y) = y := by
  have e : 256 * y = 2 * (2 * (2 * (2 * (2 * (2 * (2 * (2 * y))))))) := by omega
  rw [e]
  simp only [bitsN, bit_double]
theorem bitsN_add : ∀ (n m x : Nat), bitsN (n + m) x = bitsN m (bitsN n x)
  | 0, m, x => by rw [Nat.zero_add]; rfl
  | n + 1, m, x => by rw [Nat.succ_add]; exact bitsN_add n m (bit x)
theorem crc_cons (r d : Nat) (t : List Nat) : crc r (d :: t) = crc (byteOn r d) t := rfl
theorem crc_nil (r : Nat) : crc r [] = r := rfl
theorem bitsN_0 (r : Nat) : bitsN 0 r = r := rfl
theorem le_nil : le [] = 0 := rfl
theorem crc_le : ∀ (ds : List Nat) (r : Nat), crc r ds = bitsN (8 * ds.length) (r ^^^ le ds)
  | [], r => by
    rw [crc_nil, le_nil, List.length_nil, Nat.mul_zero, bitsN_0, Nat.xor_zero]
  | d :: t, r => by
    have ih := crc_le t (byteOn r d)
    have e : byteOn r d ^^^ le t = bitsN 8 (r ^^^ (d ^^^ (256 * le t))) := by
      unfold byteOn
      rw [← Nat.xor_assoc, bitsN_xor 8 (r ^^^ d), bits8]
    have e2 : 8 * (d :: t).length = 8 + 8 * t.length := by rw [List.length_cons]; omega
    rw [crc_cons, ih, e, e2, bitsN_add]
    rfl
theorem bit_none {x : Nat} (h : x < 4294967296) (h0 : bit x = 0) : x = 0 := by
  unfold bit at h0
  split at h0
  · have e : (x / 2) ^^^ 2197175160 ^^^ 2197175160 = 0 ^^^ 2197175160 := by rw [h0]
    rw [Nat.xor_assoc, Nat.xor_self, Nat.xor_zero, Nat.zero_xor] at e
    omega
  · omega
theorem bitsN_none : ∀ (n x : Nat), x < 4294967296 → bitsN n x = 0 → x = 0
  | 0, _, _, h0 => h0
  | n + 1, x, h, h0 => bit_none h (bitsN_none n (bit x) (bit_lt h) h0)
theorem byte_over {d y : Nat} (h : d < 256) : d ^^^ (256 * y) = d + 256 * y := by
  have h1 := Nat.xor_mod_two_pow (a := d) (b := 256 * y) (n := 8)
  have h2 := Nat.xor_div_two_pow (a := d) (b := 256 * y) (n := 8)
  have e1 : (d ^^^ 256 * y) % 256 = d := by
    have : (d ^^^ 256 * y) % 2 ^ 8 = d := by
      rw [h1, show d % 2 ^ 8 = d from Nat.mod_eq_of_lt h, show (256 * y) % 2 ^ 8 = 0 from Nat.mul_mod_right 256 y, Nat.xor_zero]
    exact this
  have e2 : (d ^^^ 256 * y) / 256 = y := by
    have : (d ^^^ 256 * y) / 2 ^ 8 = y := by
      rw [h2, show d / 2 ^ 8 = 0 from Nat.div_eq_of_lt h, show (256 * y) / 2 ^ 8 = y from Nat.mul_div_cancel_left y (by decide), Nat.zero_xor]
    exact this
  omega
theorem le_cons {d : Nat} {t : List Nat} (h : d < 256) : le (d :: t) = d + 256 * le t := byte_over h
theorem le_lt : ∀ (ds : List Nat), (∀ x ∈ ds, x < 256) → le ds < 256 ^ ds.length
  | [], _ => by simp [le]
  | d :: t, h => by
    have ih := le_lt t (fun x hx => h x (List.mem_cons_of_mem _ hx))
    rw [le_cons (h d (List.mem_cons_self ..)), List.length_cons, Nat.pow_succ]
    have := h d (List.mem_cons_self ..)
    omega
theorem le_inj : ∀ (a b : List Nat), a.length = b.length → (∀ x ∈ a, x < 256) → (∀ x ∈ b, x < 256) → le a = le b → a = b
  | [], [], _, _, _, _ => rfl
  | [], _ :: _, h, _, _, _ => by simp at h
  | _ :: _, [], h, _, _, _ => by simp at h
  | x :: a, y :: b, h, ha, hb, he => by
    have hx := ha x (List.mem_cons_self ..)
    have hy := hb y (List.mem_cons_self ..)
    rw [le_cons hx, le_cons hy] at he
    have e1 : x = y := by omega
    have e2 : le a = le b := by omega
    rw [e1, le_inj a b (by simpa using h) (fun z hz => ha z (List.mem_cons_of_mem _ hz)) (fun z hz => hb z (List.mem_cons_of_mem _ hz)) e2]
theorem xor_none {a b : Nat} (h : a ^^^ b = 0) : a = b := by
  have e : a ^^^ b ^^^ b = 0 ^^^ b := by rw [h]
  rwa [Nat.xor_assoc, Nat.xor_self, Nat.xor_zero, Nat.zero_xor] at e
theorem pow4_le {n : Nat} (h : n ≤ 4) : 256 ^ n ≤ 4294967296 := by
  have : 256 ^ n ≤ 256 ^ 4 := Nat.pow_le_pow_right (by decide) h
  exact this
/-- Four bytes in a row at the most: the sum sees them. -/
theorem crc_window (r : Nat) (pre win win' post : List Nat) (hl : win.length = win'.length) (h4 : win.length ≤ 4) (hb : ∀ x ∈ win, x < 256) (hb' : ∀ x ∈ win', x < 256)
    (h : crc r (pre ++ win ++ post) = crc r (pre ++ win' ++ post)) : win = win' := by
  rw [crc_app, crc_app, crc_app, crc_app, crc_le post, crc_le post, bitsN_xor, bitsN_xor] at h
  have hw := Nat.lt_of_lt_of_le (le_lt win hb) (pow4_le h4)
  have hw' := Nat.lt_of_lt_of_le (le_lt win' hb') (pow4_le (hl ▸ h4))
  generalize bitsN (8 * post.length) (le post) = q at h
  have h1 : bitsN (8 * post.length) (crc (crc r pre) win) = bitsN (8 * post.length) (crc (crc r pre) win') := by
    have e : bitsN (8 * post.length) (crc (crc r pre) win) ^^^ q ^^^ q = bitsN (8 * post.length) (crc (crc r pre) win') ^^^ q ^^^ q := by rw [h]
    rwa [Nat.xor_assoc, Nat.xor_self, Nat.xor_zero, Nat.xor_assoc, Nat.xor_self, Nat.xor_zero] at e
  rw [crc_le win, crc_le win', ← hl, ← bitsN_add, ← bitsN_add, bitsN_xor, bitsN_xor] at h1
  generalize bitsN (8 * win.length + 8 * post.length) (crc r pre) = c at h1
  have h2 : bitsN (8 * win.length + 8 * post.length) (le win ^^^ le win') = 0 := by
    rw [bitsN_xor]
    generalize bitsN (8 * win.length + 8 * post.length) (le win) = u at h1
    generalize bitsN (8 * win.length + 8 * post.length) (le win') = v at h1
    have e : c ^^^ (c ^^^ u) = c ^^^ (c ^^^ v) := by rw [h1]
    rw [← Nat.xor_assoc, ← Nat.xor_assoc, Nat.xor_self, Nat.zero_xor, Nat.zero_xor] at e
    rw [e, Nat.xor_self]
  exact le_inj win win' hl hb hb' (xor_none (bitsN_none _ _ (xor_lt hw hw') h2))
theorem nat_app (a b : List Int) : nat (a ++ b) = nat a ++ nat b := List.map_append
/-- What a frame leaves. -/
theorem crc_wrap {k : Int} {b : List Int} (hk : 0 ≤ k ∧ k < 256) (hb : Byt b) : crc 4294967295 (nat (wrap k b)) = bitsN 32 4294967295 := by
  have hc := crc_lt (nat (body k b)) 4294967295 (by omega) (nat_lt (body_byt hk hb))
  rw [wrap, nat_app, crc_app, sum]
  generalize crc 4294967295 (nat (body k b)) = c at hc
  have hs : 4294967295 - c < 4294967296 := by omega
  have e : le (nat (le4 (4294967295 - c))) = 4294967295 - c := by
    generalize 4294967295 - c = n at hs
    show le [_, _, _, _] = n
    simp only [Int.toNat_natCast]
    rw [le_cons (by omega), le_cons (by omega), le_cons (by omega), le_cons (by omega)]
    simp only [le]
    omega
  rw [crc_le, e, ← max_xor hc]
  have e2 : c ^^^ (4294967295 ^^^ c) = 4294967295 := by
    rw [Nat.xor_comm 4294967295 c, ← Nat.xor_assoc, Nat.xor_self, Nat.zero_xor]
  rw [e2]
  rfl
theorem nat_inj : ∀ (a b : List Int), Byt a → Byt b → nat a = nat b → a = b
  | [], [], _, _, _ => rfl
  | [], _ :: _, _, _, h => by simp [nat] at h
  | _ :: _, [], _, _, h => by simp [nat] at h
  | x :: a, y :: b, ha, hb, h => by
    simp only [nat, List.map_cons, List.cons.injEq] at h
    have hx := ha.head
    have hy := hb.head
    rw [nat_inj a b ha.tail hb.tail h.2, show x = y by omega]
/-- A frame with other bytes within four in a row is none. -/
theorem open_turned {k : Int} {b pre win win' post : List Int} (hk : 0 ≤ k ∧ k < 256) (hb : Byt b) (hw : wrap k b = pre ++ win ++ post) (hw' : Byt (pre ++ win' ++ post)) (hl : win.length = win'.length) (h4 : win.length ≤ 4) (hne : win' ≠ win) :
    (openR (pre ++ win' ++ post) k).2 ≠ 0 := by
  intro h0
  obtain ⟨e, _⟩ := wrap_open (x := (openR (pre ++ win' ++ post) k).1) hw' (Prod.ext rfl h0)
  have hx : Byt (openR (pre ++ win' ++ post) k).1 := fun x hx => hw' x (by
    have : x ∈ wrap k (openR (pre ++ win' ++ post) k).1 := List.mem_append_left _ (List.mem_append_right _ hx)
    rw [e] at this
    exact this)
  have c1 := crc_wrap hk hb
  have c2 := crc_wrap hk hx
  have bw := wrap_byt hk hb
  rw [e] at c2
  rw [hw] at c1 bw
  rw [nat_app, nat_app] at c1 c2
  have bwin : Byt win := fun x hx => bw x (List.mem_append_left _ (List.mem_append_right _ hx))
  have bwin' : Byt win' := fun x hx => hw' x (List.mem_append_left _ (List.mem_append_right _ hx))
  have := crc_window 4294967295 (nat pre) (nat win) (nat win') (nat post) (by simpa [nat] using hl) (by simpa [nat] using h4) (nat_lt bwin) (nat_lt bwin') (c1.trans c2.symm)
  exact hne (nat_inj win win' bwin bwin' this).symm
end Go.Proofs.Ytoedahdhlcagkaa.FSpec
