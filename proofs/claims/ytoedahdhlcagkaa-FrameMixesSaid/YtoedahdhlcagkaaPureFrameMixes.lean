/- Of three rows laid over one another the sum is that of theirs: FrameMixes answers true for every input. -/
import Derived.Test.YtoedahdhlcagkaaFFunFrameMixes
import Derived.Test.YtoedahdhlcagkaaVList
namespace Go.Proofs.Ytoedahdhlcagkaa.Pure
open Go Go.RowKit Go.Proofs.Ytoedahdhlcagkaa.PFrameMixes Go.Proofs.YtoedahdhlcagkaaW.PrintWords Go.Proofs.YtoedahdhlcagkaaW.PrintLast Go.Proofs.Ytoedahdhlcagkaa.VSpec Go.Proofs.Ytoedahdhlcagkaa.FSpec Go.Proofs.Ytoedahdhlcagkaa.VFrameMixes

theorem awake_FrameMixes : catchwordlaw02_awake.f 100 = some true := by decide +kernel
theorem mixes_done (k : Nat) (a b c : List Int) : catchwordlaw02_FrameMixes.j0 (k + 1) a b c true true = some true := by
  simp only [catchwordlaw02_FrameMixes.j0, if_true]
def mixI : List Int → List Int → List Int → List Int
  | x :: a, y :: b, z :: c => ((x.toNat ^^^ y.toNat ^^^ z.toNat : Nat) : Int) :: mixI a b c
  | _, _, _ => []
theorem nat_mixI : ∀ (a b c : List Int), nat (mixI a b c) = mix (nat a) (nat b) (nat c)
  | x :: a, y :: b, z :: c => by
    show Int.toNat _ :: nat (mixI a b c) = _ :: mix (nat a) (nat b) (nat c)
    rw [nat_mixI a b c, Int.toNat_natCast]
  | [], _, _ => rfl
  | _ :: _, [], _ => rfl
  | _ :: _, _ :: _, [] => rfl
theorem mixI_len : ∀ (a b c : List Int), (mixI a b c).length ≤ a.length
  | x :: a, y :: b, z :: c => by
    have := mixI_len a b c
    simp only [mixI, List.length_cons]
    omega
  | [], _, _ => Nat.le_refl _
  | _ :: _, [], _ => Nat.zero_le _
  | _ :: _, _ :: _, [] => Nat.zero_le _
theorem xor_u8 {x y z : Int} (hx : 0 ≤ x ∧ x < 256) (hy : 0 ≤ y ∧ y < 256) (hz : 0 ≤ z ∧ z < 256) :
    Go.bits .xor .u8 (Go.bits .xor .u8 x y) z = ((x.toNat ^^^ y.toNat ^^^ z.toNat : Nat) : Int) ∧ x.toNat ^^^ y.toNat ^^^ z.toNat < 256 := by
  have h1 : x.toNat ^^^ y.toNat < 256 := Nat.xor_lt_two_pow (n := 8) (by omega) (by omega)
  refine ⟨?_, Nat.xor_lt_two_pow (n := 8) h1 (by omega)⟩
  rw [u8_xor x y hx.1 hx.2 hy.1 hy.2, u8_xor _ z (by omega) (by omega) hz.1 hz.2, Int.toNat_natCast]
theorem mixI_byt : ∀ (a b c : List Int), Byt a → Byt b → Byt c → Byt (mixI a b c)
  | x :: a, y :: b, z :: c, ha, hb, hc => by
    have := (xor_u8 ha.head hb.head hc.head).2
    exact Byt.cons ⟨by omega, by omega⟩ (mixI_byt a b c ha.tail hb.tail hc.tail)
  | [], _, _, _, _, _ => Byt.nil
  | _ :: _, [], _, _, _, _ => Byt.nil
  | _ :: _, _ :: _, [], _, _, _ => Byt.nil
theorem not_crc {r : Nat} (h : r < 4294967296) : 4294967295 ^^^ r = 4294967295 - r := by
  have e := not_u32 r h
  rw [show IntKind.u32.max = ((4294967295 : Nat) : Int) from rfl, u32_xor_nat 4294967295 r (by omega) h] at e
  omega
theorem mix_take : ∀ (a b c : List Int), mixI a (b.take a.length) (c.take a.length) = mixI a b c
  | x :: a, y :: b, z :: c => by
    simp only [List.length_cons, List.take_succ_cons, mixI, mix_take a b c]
  | [], _, _ => rfl
  | _ :: _, [], _ => rfl
  | _ :: _, _ :: _, [] => rfl
theorem sum_mix {a b c : List Int} (ha : Byt a) (hb : Byt b) (hc : Byt c) (h1 : b.length = a.length) (h2 : c.length = a.length) : sum (mixI a b c) = sum a ^^^ sum b ^^^ sum c := by
  have la := crc_lt (nat a) 4294967295 (by omega) (nat_lt ha)
  have lb := crc_lt (nat b) 4294967295 (by omega) (nat_lt hb)
  have lc := crc_lt (nat c) 4294967295 (by omega) (nat_lt hc)
  have e := crc_mix a.length (nat a) (nat b) (nat c) 4294967295 4294967295 4294967295 (by simp [nat]) (by simp [nat, h1]) (by simp [nat, h2])
  rw [show 4294967295 ^^^ 4294967295 ^^^ 4294967295 = 4294967295 from by decide] at e
  have lm : crc 4294967295 (mix (nat a) (nat b) (nat c)) < 4294967296 := by rw [e]; exact xor_lt (xor_lt la lb) lc
  unfold sum
  rw [nat_mixI, ← not_crc lm, ← not_crc la, ← not_crc lb, ← not_crc lc, e]
  generalize crc 4294967295 (nat a) = p
  generalize crc 4294967295 (nat b) = q
  generalize crc 4294967295 (nat c) = r
  generalize 4294967295 = m
  have : m ^^^ p ^^^ (m ^^^ q) ^^^ (m ^^^ r) = (m ^^^ m) ^^^ m ^^^ (p ^^^ q ^^^ r) := by ac_rfl
  rw [this, Nat.xor_self, Nat.zero_xor]
theorem mixes_l0 (a b c : List Int) (ha : Byt a) (hb : Byt b) (hc : Byt c) (h : a.length ≤ 2000) (h1 : a.length ≤ b.length) (h2 : a.length ≤ c.length) : ∀ (d k i : Nat) (o : List Int), d + i = a.length → d + 3000 < k → o.length = i → o ++ mixI (a.drop i) (b.drop i) (c.drop i) = mixI a b c →
    catchwordlaw02_FrameMixes.l0 k a b c o i = some true
  | 0, k, i, o, hd, hk, ho, he => by
    obtain ⟨k, rfl⟩ : ∃ m, k = m + 1 := ⟨k - 1, by omega⟩
    simp only [catchwordlaw02_FrameMixes.l0]
    rw [List.drop_eq_nil_of_le (by omega : a.length ≤ i)] at he
    have he : o = mixI a b c := by rw [← he]; simp [mixI]
    subst he
    have hml := mixI_len a b c
    have hmb := mixI_byt a b c ha hb hc
    rw [if_neg (by omega), sum_f _ hmb (by omega) k (by omega), Option.bind_some, sum_f a ha (by omega) k (by omega), Option.bind_some, if_pos (by omega), if_pos (by omega), Int.toNat_natCast]
    have lb : (b.take a.length).length = a.length := by rw [List.length_take]; omega
    have lc : (c.take a.length).length = a.length := by rw [List.length_take]; omega
    rw [sum_f _ (hb.take _) (by omega) k (by omega), Option.bind_some, if_pos (by omega), sum_f _ (hc.take _) (by omega) k (by omega), Option.bind_some]
    have e := sum_mix ha (hb.take a.length) (hc.take a.length) lb lc
    rw [mix_take] at e
    rw [u32_xor_nat _ _ (sum_lt _) (sum_lt _), u32_xor_nat _ _ (xor_lt (sum_lt _) (sum_lt _)) (sum_lt _), e, beq_self_eq_true]
  | d + 1, k, i, o, hd, hk, ho, he => by
    obtain ⟨k, rfl⟩ : ∃ m, k = m + 1 := ⟨k - 1, by omega⟩
    simp only [catchwordlaw02_FrameMixes.l0]
    have ra := rd_at a i (by omega)
    have rb := rd_at b i (by omega)
    have rc := rd_at c i (by omega)
    have ia : 0 ≤ rd a i ∧ rd a i < 256 := ha.drop i _ (by rw [ra]; exact List.mem_cons_self ..)
    have ib : 0 ≤ rd b i ∧ rd b i < 256 := hb.drop i _ (by rw [rb]; exact List.mem_cons_self ..)
    have ic : 0 ≤ rd c i ∧ rd c i < 256 := hc.drop i _ (by rw [rc]; exact List.mem_cons_self ..)
    rw [if_pos (by omega), if_pos (by omega), if_pos (by omega), if_pos (by omega), if_pos (by omega), w64n (x := (i : Int) + 1) (i + 1) (by omega) (by omega), (xor_u8 ia ib ic).1]
    refine mixes_l0 a b c ha hb hc h h1 h2 d k (i + 1) _ (by omega) (by omega) (by simp; omega) ?_
    rw [ra, rb, rc] at he
    rw [← he, List.append_assoc]
    rfl
theorem FrameMixes : catchwordlaw02_FrameMixes.Pure := by
  intro a b c _ _ ha _ _ hb _ _ hc
  have ha := Byt.of ha
  have hb := Byt.of hb
  have hc := Byt.of hc
  refine ⟨a.length + 4001, ?_⟩
  unfold catchwordlaw02_FrameMixes.f
  rw [at_rounds (fun k => catchwordlaw02_awake.mono k) (show 100 ≤ a.length + 4001 by omega) awake_FrameMixes, Option.bind_some, if_pos rfl]
  by_cases h : (a.length : Int) > 2000
  · rw [if_pos h, mixes_done]
  · rw [if_neg h]
    by_cases h1 : (b.length : Int) < a.length
    · rw [if_pos h1, mixes_done]
    · rw [if_neg h1]
      by_cases h2 : (c.length : Int) < a.length
      · rw [decide_eq_true h2, mixes_done]
      · rw [decide_eq_false h2]
        simp only [catchwordlaw02_FrameMixes.j0]
        rw [if_neg (by decide)]
        exact mixes_l0 a b c ha hb hc (by omega) (by omega) (by omega) a.length _ 0 [] (by omega) (by omega) rfl rfl
end Go.Proofs.Ytoedahdhlcagkaa.Pure
