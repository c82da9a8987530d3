/-
  THE DOCUMENT'S NUMBERS, SUMS AND RECORDS IN PLAIN LEAN: bit by bit the sums are the same. Conditions: none.
-/
import Derived.Test.YtlejcepbcfijiaaGreatDoorWireM
set_option linter.unusedVariables false
set_option maxRecDepth 20000
namespace Go.Wire
theorem xor_div (a b i : Nat) : (a ^^^ b) / 2 ^ i = a / 2 ^ i ^^^ b / 2 ^ i := by
  rw [← Nat.shiftRight_eq_div_pow, ← Nat.shiftRight_eq_div_pow, ← Nat.shiftRight_eq_div_pow, Nat.shiftRight_xor_distrib]
theorem xor_mod (a b i : Nat) : (a ^^^ b) % 2 ^ i = (a % 2 ^ i) ^^^ (b % 2 ^ i) := by
  apply Nat.eq_of_testBit_eq
  intro j
  simp only [Nat.testBit_mod_two_pow, Nat.testBit_xor]
  cases decide (j < i) <;> simp
theorem xor_dbl (a b : Nat) : (a ^^^ b) * 2 = (a * 2) ^^^ (b * 2) := by
  have := Nat.shiftLeft_xor_distrib (i := 1) (a := a) (b := b)
  simpa [Nat.shiftLeft_eq] using this
theorem xor_parts (r s : Nat) : r = (r / 2 ^ s) * 2 ^ s ^^^ (r % 2 ^ s) := by
  apply Nat.eq_of_testBit_eq
  intro j
  rw [Nat.testBit_xor, Nat.testBit_mul_two_pow, Nat.testBit_mod_two_pow, Nat.testBit_div_two_pow]
  by_cases h : j < s
  · have : ¬ s ≤ j := by omega
    simp [h, this]
  · have h2 : s ≤ j := by omega
    have h3 : j - s + s = j := by omega
    simp [h, h2, h3]
theorem sstep_eq (r : Nat) (h : r < 4294967296) (b : Bool) : sstep r b = (r * 2 % 4294967296) ^^^ (if r / 2 ^ 31 = (if b then 1 else 0) then 0 else 79764919) := by
  have h1 : r / 2 ^ 31 = 0 ∨ r / 2 ^ 31 = 1 := by omega
  unfold sstep
  rcases h1 with e | e <;> rw [e] <;> cases b <;> simp
theorem sstep_xor (a b : Nat) (ha : a < 4294967296) (hb : b < 4294967296) : sstep (a ^^^ b) false = sstep a false ^^^ sstep b false := by
  have hab : a ^^^ b < 4294967296 := Nat.xor_lt_two_pow (n := 32) ha hb
  rw [sstep_eq _ hab, sstep_eq _ ha, sstep_eq _ hb, xor_dbl, show (4294967296 : Nat) = 2 ^ 32 from rfl, xor_mod, xor_div]
  have h1 : a / 2 ^ 31 = 0 ∨ a / 2 ^ 31 = 1 := by omega
  have h2 : b / 2 ^ 31 = 0 ∨ b / 2 ^ 31 = 1 := by omega
  generalize a * 2 % 2 ^ 32 = x
  generalize b * 2 % 2 ^ 32 = y
  rcases h1 with e1 | e1 <;> rcases h2 with e2 | e2 <;> rw [e1, e2] <;> simp
  · exact Nat.xor_assoc _ _ _
  · rw [Nat.xor_assoc, Nat.xor_comm y, ← Nat.xor_assoc]
  · rw [Nat.xor_assoc, ← Nat.xor_assoc 79764919, Nat.xor_comm 79764919 y, Nat.xor_assoc, Nat.xor_self, Nat.xor_zero]
theorem sit_xor (a b : Nat) (ha : a < 4294967296) (hb : b < 4294967296) : ∀ n, sit (a ^^^ b) n = sit a n ^^^ sit b n
  | 0 => rfl
  | n + 1 => by
    show sstep (sit (a ^^^ b) n) false = _
    rw [sit_xor a b ha hb n, sstep_xor _ _ (sit_lt ha n) (sit_lt hb n)]; rfl
theorem sstep_bit (r : Nat) (h : r < 4294967296) (b : Bool) : sstep r b = sstep (r ^^^ (if b then 2147483648 else 0)) false := by
  cases b with
  | false => simp
  | true =>
    have h2 : r ^^^ 2147483648 < 4294967296 := Nat.xor_lt_two_pow (n := 32) h (by decide)
    show sstep r true = sstep (r ^^^ 2147483648) false
    rw [sstep_eq _ h, sstep_eq _ h2, xor_dbl, show (4294967296 : Nat) = 2 ^ 32 from rfl, xor_mod, xor_div]
    have h1 : r / 2 ^ 31 = 0 ∨ r / 2 ^ 31 = 1 := by omega
    rcases h1 with e | e <;> rw [e] <;> simp
theorem sit_low (z : Nat) : ∀ n, z * 2 ^ n < 4294967296 → sit z n = z * 2 ^ n
  | 0, h => by simp [sit]
  | n + 1, h => by
    have h1 : z * 2 ^ (n + 1) = z * 2 ^ n * 2 := by rw [Nat.pow_succ, Nat.mul_assoc]
    show sstep (sit z n) false = _
    rw [sit_low z n (by omega), sstep_eq _ (by omega), if_pos (by simp; omega), Nat.xor_zero, h1, Nat.mod_eq_of_lt (by omega)]
theorem mul28 (i : Nat) (h : i < 16) : i * 2 ^ 28 < 4294967296 := by omega
theorem low28 (r : Nat) : r % 2 ^ 28 * 2 ^ 4 < 4294967296 := by omega
theorem sfour_bits (r x : Nat) (h : r < 4294967296) (hx : x < 16) :
    sfour r x = sstep (sstep (sstep (sstep r (decide (x / 8 % 2 = 1))) (decide (x / 4 % 2 = 1))) (decide (x / 2 % 2 = 1))) (decide (x % 2 = 1)) := by
  have hr : r = (r / 2 ^ 28) * 2 ^ 28 ^^^ (r % 2 ^ 28) := xor_parts r 28
  have hh : r / 2 ^ 28 < 16 := by omega
  have hhi : (r / 2 ^ 28) * 2 ^ 28 < 4294967296 := by omega
  have hlo : r % 2 ^ 28 < 4294967296 := by omega
  have h16 : r * 2 ^ 4 % 4294967296 = (r % 2 ^ 28) * 2 ^ 4 := by omega
  -- the left: by the four highest places
  have htab : ∀ i, i < 16 → tab i = sit (i * 2 ^ 28) 4 := fun i hi => by
    have hlt : i * 2 ^ 28 < 4294967296 := mul28 i hi
    unfold tab sstep4
    rw [Nat.mod_eq_of_lt hlt]
  have hxh : r / 2 ^ 28 ^^^ x < 16 := Nat.xor_lt_two_pow (n := 4) hh hx
  have hmul : (r / 2 ^ 28 ^^^ x) * 2 ^ 28 = (r / 2 ^ 28) * 2 ^ 28 ^^^ x * 2 ^ 28 := by
    rw [← Nat.shiftLeft_eq, ← Nat.shiftLeft_eq, ← Nat.shiftLeft_eq, Nat.shiftLeft_xor_distrib]
  have hx28 : x * 2 ^ 28 < 4294967296 := mul28 x hx
  have hlo4 : r % 2 ^ 28 * 2 ^ 4 < 4294967296 := low28 r
  have hL : sfour r x = sit r 4 ^^^ sit (x * 2 ^ 28) 4 := by
    unfold sfour
    rw [htab _ hxh, hmul, sit_xor _ _ hhi hx28, h16, ← sit_low (r % 2 ^ 28) 4 hlo4]
    conv => rhs; rw [hr]
    rw [sit_xor _ _ hhi hlo, ← Nat.xor_assoc, Nat.xor_comm (sit (r % 2 ^ 28) 4)]
  -- the right
  have step : ∀ (s n : Nat) (b : Bool), s < 4294967296 → sstep s b = sit s 1 ^^^ sit (if b then 2147483648 else 0) 1 := fun s n b hs => by
    rw [sstep_bit s hs b, sstep_xor _ _ hs (by cases b <;> simp)]; rfl
  have add : ∀ (a : Nat) (m n : Nat), sit (sit a m) n = sit a (m + n) := fun a m n => by
    induction n with
    | zero => rfl
    | succ n ih => show sstep (sit (sit a m) n) false = _; rw [ih]; rfl
  have lt1 : ∀ (b : Bool), (if b then 2147483648 else 0) < 4294967296 := fun b => by cases b <;> simp
  rw [hL, step r 0 _ h, step _ 0 _ (Nat.xor_lt_two_pow (n := 32) (sit_lt h _) (sit_lt (lt1 _) _)), sit_xor _ _ (sit_lt h _) (sit_lt (lt1 _) _)]
  rw [step _ 0 _ (Nat.xor_lt_two_pow (n := 32) (Nat.xor_lt_two_pow (n := 32) (sit_lt (sit_lt h _) _) (sit_lt (sit_lt (lt1 _) _) _)) (sit_lt (lt1 _) _)),
    sit_xor _ _ (Nat.xor_lt_two_pow (n := 32) (sit_lt (sit_lt h _) _) (sit_lt (sit_lt (lt1 _) _) _)) (sit_lt (lt1 _) _), sit_xor _ _ (sit_lt (sit_lt h _) _) (sit_lt (sit_lt (lt1 _) _) _)]
  rw [step _ 0 _ (Nat.xor_lt_two_pow (n := 32) (Nat.xor_lt_two_pow (n := 32) (Nat.xor_lt_two_pow (n := 32) (sit_lt (sit_lt (sit_lt h _) _) _) (sit_lt (sit_lt (sit_lt (lt1 _) _) _) _)) (sit_lt (sit_lt (lt1 _) _) _)) (sit_lt (lt1 _) _)),
    sit_xor _ _ (Nat.xor_lt_two_pow (n := 32) (Nat.xor_lt_two_pow (n := 32) (sit_lt (sit_lt (sit_lt h _) _) _) (sit_lt (sit_lt (sit_lt (lt1 _) _) _) _)) (sit_lt (sit_lt (lt1 _) _) _)) (sit_lt (lt1 _) _),
    sit_xor _ _ (Nat.xor_lt_two_pow (n := 32) (sit_lt (sit_lt (sit_lt h _) _) _) (sit_lt (sit_lt (sit_lt (lt1 _) _) _) _)) (sit_lt (sit_lt (lt1 _) _) _),
    sit_xor _ _ (sit_lt (sit_lt (sit_lt h _) _) _) (sit_lt (sit_lt (sit_lt (lt1 _) _) _) _)]
  simp only [add]
  rw [Nat.xor_assoc, Nat.xor_assoc, Nat.xor_assoc]
  congr 1
  have all : ∀ x : Fin 16, sit (x.val * 2 ^ 28) 4 = sit (if decide (x.val / 8 % 2 = 1) = true then 2147483648 else 0) (1 + 1 + 1 + 1) ^^^ (sit (if decide (x.val / 4 % 2 = 1) = true then 2147483648 else 0) (1 + 1 + 1) ^^^
      (sit (if decide (x.val / 2 % 2 = 1) = true then 2147483648 else 0) (1 + 1) ^^^ sit (if decide (x.val % 2 = 1) = true then 2147483648 else 0) 1)) := by decide +kernel
  exact all ⟨x, hx⟩
/-- a byte, bit by bit, the highest one first -/
def sbits (r : Nat) (x : Nat) : Nat → Nat
  | 0 => r
  | k + 1 => sstep (sbits r x k) (decide (x / (128 / 2 ^ k) % 2 = 1))
theorem sbits_lt {r : Nat} (h : r < 4294967296) (x : Nat) : ∀ k, sbits r x k < 4294967296
  | 0 => h
  | k + 1 => sstep_lt
theorem sbits_byte (r : Nat) (h : r < 4294967296) (x : UInt8) : sbits r x.toNat 8 = sbyte r x := by
  have hx := byte_lt x
  have h4 : x.toNat / 2 ^ 4 < 16 := by omega
  have h5 : x.toNat % 16 < 16 := by omega
  unfold sbyte
  rw [sfour_bits _ _ (sfour_lt _ _) h5, sfour_bits r _ h h4]
  have e7 : x.toNat / 2 ^ 4 / 8 % 2 = x.toNat / 128 % 2 := by omega
  have e6 : x.toNat / 2 ^ 4 / 4 % 2 = x.toNat / 64 % 2 := by omega
  have e5 : x.toNat / 2 ^ 4 / 2 % 2 = x.toNat / 32 % 2 := by omega
  have e4 : x.toNat / 2 ^ 4 % 2 = x.toNat / 16 % 2 := by omega
  have e3 : x.toNat % 16 / 8 % 2 = x.toNat / 8 % 2 := by omega
  have e2 : x.toNat % 16 / 4 % 2 = x.toNat / 4 % 2 := by omega
  have e1 : x.toNat % 16 / 2 % 2 = x.toNat / 2 % 2 := by omega
  have e0 : x.toNat % 16 % 2 = x.toNat / 1 % 2 := by omega
  rw [e7, e6, e5, e4, e3, e2, e1, e0]
  rfl
theorem not_sub (a : Nat) (h : a < 4294967296) : 4294967295 - a = 4294967295 ^^^ a := by
  have h1 : (4294967295 : Nat) = 2 ^ 32 - 1 := rfl
  rw [h1]
  apply Nat.eq_of_testBit_eq
  intro j
  rw [Nat.testBit_xor, Nat.testBit_two_pow_sub_one]
  have h2 : 2 ^ 32 - 1 - a = 2 ^ 32 - (a + 1) := by omega
  rw [h2, Nat.testBit_two_pow_sub_succ h]
  by_cases hj : j < 32
  · simp [hj]
  · have : a.testBit j = false := Nat.testBit_lt_two_pow (Nat.lt_of_lt_of_le h (Nat.pow_le_pow_right (n := 2) (by decide) (show 32 ≤ j by omega)))
    simp [hj, this]
theorem var_fit (q v x : Nat) (h9 : q ≤ 9) (hv : v < 2 ^ (7 * q)) (hx : q = 9 → x ≤ 1) : v + x % 128 * 2 ^ (7 * q) < 18446744073709551616 := by
  rcases Nat.lt_or_ge q 9 with h8 | h8
  · have := step_fit q v x (by omega) hv
    exact Nat.lt_of_lt_of_le this (Nat.le_trans (Nat.pow_le_pow_right (by decide) (show 7 * (q + 1) ≤ 64 by omega)) (Nat.le_refl _))
  · obtain rfl : q = 9 := by omega
    have := hx rfl
    have e : x % 128 = x := Nat.mod_eq_of_lt (by omega)
    rw [e]
    have : x * 2 ^ (7 * 9) ≤ 1 * 2 ^ (7 * 9) := Nat.mul_le_mul_right _ this
    omega
theorem pow_next (q : Nat) : IntKind.u64.wrap (((2 ^ (7 * q) % 18446744073709551616 : Nat) : Int) * 128) = ((2 ^ (7 * (q + 1)) % 18446744073709551616 : Nat) : Int) := by
  have h : IntKind.u64.wrap (((2 ^ (7 * q) % 18446744073709551616 : Nat) : Int) * 128) = (((2 ^ (7 * q) % 18446744073709551616 : Nat) : Int) * 128) % 18446744073709551616 := by simp [IntKind.wrap, IntKind.bits, IntKind.signed]
  rw [h]
  have e : (((2 ^ (7 * q) % 18446744073709551616 : Nat) : Int) * 128) % 18446744073709551616 = ((2 ^ (7 * q) % 18446744073709551616 * 128 % 18446744073709551616 : Nat) : Int) := by
    rw [Int.natCast_emod]; rfl
  rw [e, Nat.mod_mul_mod, show 7 * (q + 1) = 7 * q + 7 by omega, Nat.pow_add]
/-- what is turned, as far as it is done -/
theorem turn_step (a b q : Nat) : (a ^^^ b) % 2 ^ (q + 1) = (a ^^^ b) % 2 ^ q + (if a / 2 ^ q % 2 = b / 2 ^ q % 2 then 0 else 2 ^ q) := by
  have h1 : (a ^^^ b) % 2 ^ (q + 1) = (a ^^^ b) % 2 ^ q + 2 ^ q * ((a ^^^ b) / 2 ^ q % 2) := by
    rw [Nat.pow_succ, Nat.mod_mul]
  have h2 : (a ^^^ b) / 2 ^ q % 2 = if a / 2 ^ q % 2 = b / 2 ^ q % 2 then 0 else 1 := by
    rw [xor_div]
    have := xor_mod (a / 2 ^ q) (b / 2 ^ q) 1
    rw [Nat.pow_one] at this
    rw [this]
    have ha : a / 2 ^ q % 2 = 0 ∨ a / 2 ^ q % 2 = 1 := by omega
    have hb : b / 2 ^ q % 2 = 0 ∨ b / 2 ^ q % 2 = 1 := by omega
    rcases ha with e | e <;> rcases hb with e' | e' <;> rw [e, e'] <;> simp
  rw [h1, h2]
  split <;> simp
theorem be_ofBe (l : Bytes) : be (ofBe l) l.length = l := by
  have key : ∀ (n : Nat) (l : Bytes), l.length = n → ∀ v, v < 256 ^ n → (ofBe l = v → be v n = l) := by
    intro n
    induction n with
    | zero => intro l hl v hv e; simp [List.eq_nil_of_length_eq_zero hl, be]
    | succ n ih =>
      intro l hl v hv e
      match l, hl with
      | x :: r, hl =>
        have hl : r.length = n := by simpa using hl
        have h1 : ofBe (x :: r) = x.toNat * 256 ^ n + ofBe r := by
          have key2 : ∀ (r : Bytes) (a : Nat), r.foldl (fun v x => v * 256 + x.toNat) a = a * 256 ^ r.length + r.foldl (fun v x => v * 256 + x.toNat) 0 := by
            intro r
            induction r with
            | nil => intro a; simp
            | cons y r ih2 =>
              intro a
              simp only [List.foldl_cons, List.length_cons]
              rw [ih2 (a * 256 + y.toNat), ih2 (0 * 256 + y.toNat), Nat.pow_succ, Nat.zero_mul, Nat.zero_add, Nat.add_mul, Nat.mul_assoc, Nat.mul_comm (256 ^ r.length) 256, Nat.add_assoc]
          show (x :: r).foldl _ 0 = _
          rw [List.foldl_cons, key2, hl]; simp [ofBe]
        have h2 : ofBe r < 256 ^ n := by have := ofBe_lt r; rwa [hl] at this
        have hp : (2 : Nat) ^ (8 * n) = 256 ^ n := by rw [Nat.pow_mul]
        have hpos : 0 < 256 ^ n := Nat.pow_pos (by decide)
        have hd : v / 256 ^ n = x.toNat := by rw [← e, h1, Nat.mul_comm, Nat.mul_add_div hpos, Nat.div_eq_of_lt h2]; omega
        have hm : v % 256 ^ n = ofBe r := by rw [← e, h1, Nat.mul_comm, Nat.mul_add_mod, Nat.mod_eq_of_lt h2]
        have hbe : be v n = be (v % 256 ^ n) n := by
          apply List.ext_getElem?
          intro i
          by_cases hi : i < n
          · rw [be_get v n i hi, be_get _ n i hi]
            congr 1
            apply UInt8.toNat_inj.1
            rw [byte_nat, byte_nat]
            have e : (256 : Nat) ^ n = 2 ^ (8 * (n - 1 - i)) * (256 * 256 ^ i) := by
              rw [← Nat.pow_succ', show (256 : Nat) = 2 ^ 8 from rfl, ← Nat.pow_mul, ← Nat.pow_mul, ← Nat.pow_add]
              congr 1; omega
            rw [e, Nat.mod_mul_right_div_self, Nat.mod_mul_right_mod]
          · rw [List.getElem?_eq_none (by rw [be_len]; omega), List.getElem?_eq_none (by rw [be_len]; omega)]
        show byte (v / 2 ^ (8 * n)) :: be v n = x :: r
        rw [hp, hd, hbe, ih r hl _ (Nat.mod_lt _ hpos) hm.symm]
        congr 1
        apply UInt8.toNat_inj.1
        rw [byte_nat]; exact Nat.mod_eq_of_lt (byte_lt x)
  exact key l.length l rfl _ (ofBe_lt l) rfl
/-- opened by sealing once more -/
theorem seal_open (s : Bytes) (h : ¬ s.length < 4) : (seal_ (s.take (s.length - 4)) = s) ↔ ofBe (s.drop (s.length - 4)) = sum (s.take (s.length - 4)) := by
  have hdl : (s.drop (s.length - 4)).length = 4 := by rw [List.length_drop]; omega
  constructor
  · intro e
    have : s.drop (s.length - 4) = be (sum (s.take (s.length - 4))) 4 := by
      have h1 : (seal_ (s.take (s.length - 4))).drop (s.length - 4) = be (sum (s.take (s.length - 4))) 4 := by
        unfold seal_
        rw [List.drop_append_of_le_length (by simp), List.drop_of_length_le (by simp)]; rfl
      rw [e] at h1; exact h1
    rw [this]
    exact ofBe_be _ _ (by have := sum_lt (s.take (s.length - 4)); omega)
  · intro e
    have h2 := be_ofBe (s.drop (s.length - 4))
    rw [hdl, e] at h2
    unfold seal_
    rw [h2]; exact List.take_append_drop _ s
theorem be4 (v : Nat) : be v 4 = [byte (v / 16777216), byte (v / 65536), byte (v / 256), byte v] := by
  simp [be]
theorem byte_mod (v : Nat) : byte (v % 256) = byte v := by
  apply UInt8.toNat_inj.1
  rw [byte_nat, byte_nat]; omega
/-- the document's number that stands first, the rest, what is wrong -/
def rnum (s : Bytes) : Nat × Bytes × Int := if (getVar 0 0 s).2.2 = 0 then ((getVar 0 0 s).1, (getVar 0 0 s).2.1, 0) else (0, s, code (getVar 0 0 s).2.2)
/-- the document's text that stands first -/
def rtext (s : Bytes) : Bytes × Bytes × Int :=
  if (rnum s).2.2 ≠ 0 then ([], s, (rnum s).2.2) else if 65536 < (rnum s).1 then ([], s, 32) else if (rnum s).2.1.length < (rnum s).1 then ([], s, 30) else ((rnum s).2.1.take (rnum s).1, (rnum s).2.1.drop (rnum s).1, 0)
theorem getVar_rest (l : Bytes) : ∀ i v, (getVar i v l).2.2 = 0 → l.drop (l.length - (getVar i v l).2.1.length) = (getVar i v l).2.1 := by
  induction l with
  | nil => intro i v h; cases h
  | cons x r ih =>
    intro i v h
    rw [getVar_cons] at h ⊢
    split at h
    · cases h
    · rename_i c
      rw [if_neg c]
      split at h
      · rename_i c2
        rw [if_pos c2]
        show (x :: r).drop ((r.length + 1) - r.length) = r
        rw [show r.length + 1 - r.length = 1 by omega]; rfl
      · rename_i c2
        rw [if_neg c2]
        have h1 := ih _ _ h
        have h2 := getVar_len r (i + 1) (v + x.toNat % 128 * 2 ^ (7 * i))
        rw [show (x :: r).length - (getVar (i + 1) (v + x.toNat % 128 * 2 ^ (7 * i)) r).2.1.length = (r.length - (getVar (i + 1) (v + x.toNat % 128 * 2 ^ (7 * i)) r).2.1.length) + 1 by simp; omega]
        exact h1
theorem rnum_len (s : Bytes) : (rnum s).2.1.length ≤ s.length := by
  unfold rnum
  split
  · exact getVar_len _ _ _
  · exact Nat.le_refl _
theorem rnum_lt (s : Bytes) : (rnum s).1 < 18446744073709551616 := by
  unfold rnum
  split
  · exact getVar_lt s 0 0 (by decide) (by decide)
  · show 0 < _; omega
theorem code_ne {s : Bytes} (h : (getVar 0 0 s).2.2 ≠ 0) : code (getVar 0 0 s).2.2 ≠ 0 := by
  unfold code; split <;> omega
/-- the reader's way and the document's come to the same -/
theorem openRec_ref (c : Bytes) : openRec c = (if (rnum c).2.2 = 0 ∧ (rtext (rnum c).2.1).2.2 = 0 ∧ (rtext (rnum c).2.1).2.1 = [] ∧ (rtext (rnum c).2.1).1.length ≤ 32768 then some ((rnum c).1, (rtext (rnum c).2.1).1) else none) := by
  by_cases h0 : (getVar 0 0 c).2.2 = 0
  · -- a number
    have hn : (⟨c, 0⟩ : Rd).num = ((getVar 0 0 c).1, ⟨(getVar 0 0 c).2.1, 0⟩) := by simp [Rd.num, Rd.take, h0]
    have hr : rnum c = ((getVar 0 0 c).1, (getVar 0 0 c).2.1, 0) := by unfold rnum; rw [if_pos h0]
    generalize hm : (getVar 0 0 c).2.1 = m at *
    unfold openRec
    simp only [hn, hr]
    by_cases h1 : (getVar 0 0 m).2.2 = 0
    · have hq : rnum m = ((getVar 0 0 m).1, (getVar 0 0 m).2.1, 0) := by unfold rnum; rw [if_pos h1]
      by_cases h2 : 65536 < (getVar 0 0 m).1
      · have ht : (⟨m, 0⟩ : Rd).text = ([], ⟨m, 32⟩) := by simp [Rd.text, Rd.below, Rd.take, h1, h2, Rd.fail]
        have hx : rtext m = ([], m, 32) := by simp [rtext, hq, h2]
        rw [ht, hx, if_neg, if_neg]
        · rintro ⟨_, h, _⟩; cases h
        · rintro ⟨h, _⟩; simp [Rd.fin] at h
      · by_cases h3 : (getVar 0 0 m).2.1.length < (getVar 0 0 m).1
        · have ht : (⟨m, 0⟩ : Rd).text = ([], ⟨m, 30⟩) := by simp [Rd.text, Rd.below, Rd.take, h1, h2, h3, Rd.fail]
          have hx : rtext m = ([], m, 30) := by simp [rtext, hq, h2, h3]
          rw [ht, hx, if_neg, if_neg]
          · rintro ⟨_, h, _⟩; cases h
          · rintro ⟨h, _⟩; simp [Rd.fin] at h
        · have ht : (⟨m, 0⟩ : Rd).text = ((getVar 0 0 m).2.1.take (getVar 0 0 m).1, ⟨(getVar 0 0 m).2.1.drop (getVar 0 0 m).1, 0⟩) := by simp [Rd.text, Rd.below, Rd.take, h1, h2, h3]
          have hx : rtext m = ((getVar 0 0 m).2.1.take (getVar 0 0 m).1, (getVar 0 0 m).2.1.drop (getVar 0 0 m).1, 0) := by simp [rtext, hq, h2, h3]
          rw [ht, hx]
          generalize (getVar 0 0 m).2.1.drop (getVar 0 0 m).1 = z
          generalize (getVar 0 0 m).2.1.take (getVar 0 0 m).1 = y
          by_cases hz : z = []
          · subst hz; simp [Rd.fin]
          · rw [if_neg, if_neg]
            · rintro ⟨_, _, h, _⟩; exact hz h
            · rintro ⟨h, _⟩; simp [Rd.fin, hz] at h
    · have hq : rnum m = (0, m, code (getVar 0 0 m).2.2) := by unfold rnum; rw [if_neg h1]
      have hc := code_ne h1
      have ht : (⟨m, 0⟩ : Rd).text = ([], ⟨m, code (getVar 0 0 m).2.2⟩) := by simp [Rd.text, Rd.below, Rd.take, h1, Rd.fail]
      have hx : rtext m = ([], m, code (getVar 0 0 m).2.2) := by simp [rtext, hq, hc]
      rw [ht, hx, if_neg, if_neg]
      · rintro ⟨_, h, _⟩; exact hc h
      · rintro ⟨h, _⟩; simp [Rd.fin, hc] at h
  · have hc := code_ne h0
    have hn : (⟨c, 0⟩ : Rd).num = (0, ⟨c, code (getVar 0 0 c).2.2⟩) := by simp [Rd.num, Rd.take, h0, Rd.fail]
    have hr : rnum c = (0, c, code (getVar 0 0 c).2.2) := by unfold rnum; rw [if_neg h0]
    have ht : (⟨c, code (getVar 0 0 c).2.2⟩ : Rd).text = ([], ⟨c, code (getVar 0 0 c).2.2⟩) := by simp [Rd.text, Rd.below, Rd.take, hc]
    unfold openRec
    simp only [hn, hr, ht]
    rw [if_neg, if_neg]
    · rintro ⟨h, _⟩; exact hc h
    · rintro ⟨h, _⟩; simp [Rd.fin, hc] at h
end Go.Wire
