/-
  PACKAGES num, sum, code AND record IN PLAIN LEAN: numbers in bytes, records and what they are taken apart to. Conditions: none.
-/
import Derived.Test.YtlejcepbcfijiaaGreatDoorSlBits
set_option linter.unusedVariables false
namespace Go.Wire
abbrev Bytes := List UInt8
def byte (n : Nat) : UInt8 := UInt8.ofNat n
theorem byte_nat (n : Nat) : (byte n).toNat = n % 256 := by simp [byte]
theorem byte_lt (x : UInt8) : x.toNat < 256 := x.toNat_lt
/-- a number in n bytes, the highest one first -/
def be (v : Nat) : Nat → Bytes
  | 0 => []
  | n + 1 => byte (v / 2 ^ (8 * n)) :: be v n
theorem be_len (v n : Nat) : (be v n).length = n := by induction n with | zero => rfl | succ n ih => simp [be, ih]
theorem be_get (v : Nat) : ∀ (n i : Nat), i < n → (be v n)[i]? = some (byte (v / 2 ^ (8 * (n - 1 - i))))
  | 0, i, h => by omega
  | n + 1, 0, h => by simp [be]
  | n + 1, i + 1, h => by
    simp only [be, List.getElem?_cons_succ]
    rw [be_get v n i (by omega)]
    congr 4; omega
theorem be_step (v n i : Nat) (h : i < n) : (be v n).take (i + 1) = (be v n).take i ++ [byte (v / 2 ^ (8 * (n - 1 - i)))] := by
  rw [List.take_add_one, be_get v n i h]; rfl
/-- the number in bytes, the highest one first -/
def ofBe (l : Bytes) : Nat := l.foldl (fun v x => v * 256 + x.toNat) 0
theorem ofBe_step (l : Bytes) (i : Nat) (x : UInt8) (h : l[i]? = some x) : ofBe (l.take (i + 1)) = ofBe (l.take i) * 256 + x.toNat := by
  rw [List.take_add_one, h]; simp [ofBe, List.foldl_append]
theorem ofBe_lt (l : Bytes) : ofBe l < 256 ^ l.length := by
  have key : ∀ (l : Bytes) (v : Nat), l.foldl (fun v x => v * 256 + x.toNat) v < (v + 1) * 256 ^ l.length := by
    intro l
    induction l with
    | nil => intro v; simp
    | cons x l ih =>
      intro v
      have := ih (v * 256 + x.toNat)
      have hx := byte_lt x
      simp only [List.foldl_cons, List.length_cons, Nat.pow_succ]
      refine Nat.lt_of_lt_of_le this ?_
      rw [Nat.mul_comm (256 ^ l.length) 256, ← Nat.mul_assoc]
      exact Nat.mul_le_mul_right _ (by omega)
  simpa [ofBe] using key l 0
theorem ofBe_append (l : Bytes) (v n : Nat) : ∀ (a : Nat), v < 256 ^ n → (be v n).foldl (fun v x => v * 256 + x.toNat) a = a * 256 ^ n + v := by
  induction n generalizing v with
  | zero => intro a h; simp at h; simp [be, h]
  | succ n ih =>
    intro a h
    simp only [be, List.foldl_cons, byte_nat]
    have hp : (2 : Nat) ^ (8 * n) = 256 ^ n := by rw [Nat.pow_mul]
    rw [hp]
    have hq : v / 256 ^ n < 256 := by
      rw [Nat.pow_succ] at h
      exact Nat.div_lt_of_lt_mul h
    rw [Nat.mod_eq_of_lt hq]
    have hbe : be v n = be (v % 256 ^ n) n := by
      apply List.ext_getElem?
      intro i
      by_cases hi : i < n
      · rw [be_get v n i hi, be_get _ n i hi]
        congr 1
        apply UInt8.toNat_inj.1
        rw [byte_nat, byte_nat]
        have e : (256 : Nat) ^ n = 2 ^ (8 * (n - 1 - i)) * (256 * 256 ^ i) := by
          rw [← Nat.pow_succ', show (256 : Nat) = 2 ^ 8 from rfl, ← Nat.pow_mul, ← Nat.pow_mul, ← Nat.pow_add]
          congr 1; omega
        rw [e, Nat.mod_mul_right_div_self, Nat.mod_mul_right_mod]
      · rw [List.getElem?_eq_none (by rw [be_len]; omega), List.getElem?_eq_none (by rw [be_len]; omega)]
    rw [hbe, ih (v % 256 ^ n) _ (Nat.mod_lt _ (Nat.pow_pos (by decide)))]
    have := Nat.div_add_mod v (256 ^ n)
    rw [Nat.pow_succ, Nat.add_mul, Nat.mul_comm (256 ^ n) 256, ← Nat.mul_assoc, Nat.add_assoc, Nat.mul_comm (v / 256 ^ n)]
    omega
theorem ofBe_be (v n : Nat) (h : v < 256 ^ n) : ofBe (be v n) = v := by
  have := ofBe_append [] v n 0 h
  simpa [ofBe] using this
/-- a number in as few bytes as it needs -/
def var (v : Nat) : Bytes := if h : v < 128 then [byte v] else byte (v % 128 + 128) :: var (v / 128)
termination_by v
decreasing_by omega
theorem var_lt {v : Nat} (h : v < 128) : var v = [byte v] := by unfold var; rw [dif_pos h]
theorem var_ge {v : Nat} (h : 128 ≤ v) : var v = byte (v % 128 + 128) :: var (v / 128) := by rw [var]; rw [dif_neg (by omega)]
theorem var_len (v : Nat) : ∀ (n : Nat), v < 128 ^ n → 1 ≤ n → (var v).length ≤ n := by
  intro n
  induction n generalizing v with
  | zero => intro _ h; omega
  | succ n ih =>
    intro h _
    by_cases h1 : v < 128
    · rw [var_lt h1]; simp
    · rw [var_ge (by omega)]
      have hn : 1 ≤ n := by
        rcases Nat.eq_zero_or_pos n with e | e
        · subst e; simp at h; omega
        · exact e
      have := ih (v / 128) (by rw [Nat.pow_succ] at h; exact Nat.div_lt_of_lt_mul (by omega)) hn
      simp; omega
/-- the number that stands first (its value so far, how many bytes ahead), the rest, what is wrong -/
def getVar (i v : Nat) : Bytes → Nat × Bytes × Int
  | [] => (0, [], 10)
  | x :: r => if (i = 9 ∧ 1 < x.toNat) ∨ (0 < i ∧ x.toNat = 0) then (0, [], 12)
    else if x.toNat < 128 then (v + x.toNat * 2 ^ (7 * i), r, 0)
    else getVar (i + 1) (v + x.toNat % 128 * 2 ^ (7 * i)) r
theorem getVar_cons (i v : Nat) (x : UInt8) (r : Bytes) : getVar i v (x :: r) = if (i = 9 ∧ 1 < x.toNat) ∨ (0 < i ∧ x.toNat = 0) then (0, [], 12)
    else if x.toNat < 128 then (v + x.toNat * 2 ^ (7 * i), r, 0)
    else getVar (i + 1) (v + x.toNat % 128 * 2 ^ (7 * i)) r := by rw [getVar]
theorem getVar_err (l : Bytes) : ∀ i v, (getVar i v l).2.2 ≠ 0 → (getVar i v l).1 = 0 ∧ (getVar i v l).2.1 = [] := by
  induction l with
  | nil => intro i v _; exact ⟨rfl, rfl⟩
  | cons x r ih =>
    intro i v h
    unfold getVar at h ⊢
    split at h
    · rename_i c; rw [if_pos c]; exact ⟨rfl, rfl⟩
    · rename_i c
      rw [if_neg c]
      split at h
      · exact absurd rfl h
      · rename_i c2; rw [if_neg c2]; exact ih _ _ h
theorem getVar_code (l : Bytes) : ∀ i v, (getVar i v l).2.2 = 0 ∨ (getVar i v l).2.2 = 10 ∨ (getVar i v l).2.2 = 12 := by
  induction l with
  | nil => intro i v; exact .inr (.inl rfl)
  | cons x r ih =>
    intro i v
    unfold getVar
    split
    · exact .inr (.inr rfl)
    · split
      · exact .inl rfl
      · exact ih _ _
theorem getVar_len (l : Bytes) : ∀ i v, (getVar i v l).2.1.length ≤ l.length := by
  induction l with
  | nil => intro i v; simp [getVar]
  | cons x r ih =>
    intro i v
    unfold getVar
    split
    · simp
    · split
      · simp
      · have := ih (i + 1) (v + x.toNat % 128 * 2 ^ (7 * i)); simp; omega
theorem getVar_lt (l : Bytes) : ∀ i v, i ≤ 9 → v < 2 ^ (7 * i) → (getVar i v l).1 < 2 ^ 64 := by
  induction l with
  | nil => intro i v _ _; simp [getVar]
  | cons x r ih =>
    intro i v hi hv
    unfold getVar
    split
    · simp
    · rename_i c
      split
      · rename_i c2
        show v + x.toNat * 2 ^ (7 * i) < 2 ^ 64
        rcases Nat.lt_or_ge i 9 with h9 | h9
        · have h1 : (x.toNat + 1) * 2 ^ (7 * i) ≤ 128 * 2 ^ (7 * i) := Nat.mul_le_mul_right _ (by omega)
          have h2 : (128 : Nat) * 2 ^ (7 * i) = 2 ^ (7 * i + 7) := by rw [Nat.pow_add]; omega
          have h3 : (2 : Nat) ^ (7 * i + 7) ≤ 2 ^ 64 := Nat.pow_le_pow_right (by decide) (by omega)
          rw [Nat.add_mul] at h1
          omega
        · obtain rfl : i = 9 := by omega
          have : x.toNat ≤ 1 := by omega
          have h1 : x.toNat * 2 ^ (7 * 9) ≤ 1 * 2 ^ (7 * 9) := Nat.mul_le_mul_right _ this
          omega
      · rename_i c2
        have h8 : i ≤ 8 := by omega
        refine ih (i + 1) _ (by omega) ?_
        have h1 : (x.toNat % 128 + 1) * 2 ^ (7 * i) ≤ 128 * 2 ^ (7 * i) := Nat.mul_le_mul_right _ (by omega)
        have h2 : (128 : Nat) * 2 ^ (7 * i) = 2 ^ (7 * (i + 1)) := by rw [show 7 * (i + 1) = 7 * i + 7 by omega, Nat.pow_add]; omega
        rw [Nat.add_mul] at h1
        omega
theorem getVar_var (v : Nat) (r : Bytes) : ∀ i a, v * 2 ^ (7 * i) < 2 ^ 64 → (0 < i → 0 < v) → getVar i a (var v ++ r) = (a + v * 2 ^ (7 * i), r, 0) := by
  induction v using Nat.strongRecOn with
  | _ v ih =>
    intro i a h h0
    have h9 : i = 9 → v ≤ 1 := by
      rintro rfl
      omega
    by_cases hv : v < 128
    · rw [var_lt hv]
      show getVar i a (byte v :: r) = _
      unfold getVar
      rw [byte_nat, Nat.mod_eq_of_lt (show v < 256 by omega), if_neg (by omega), if_pos hv]
    · rw [var_ge (by omega)]
      show getVar i a (byte (v % 128 + 128) :: (var (v / 128) ++ r)) = _
      unfold getVar
      rw [byte_nat, Nat.mod_eq_of_lt (show v % 128 + 128 < 256 by omega), if_neg (by omega), if_neg (by omega)]
      have e : (2 : Nat) ^ (7 * (i + 1)) = 128 * 2 ^ (7 * i) := by rw [show 7 * (i + 1) = 7 * i + 7 by omega, Nat.pow_add]; omega
      have e2 : v * 2 ^ (7 * i) = (v / 128 * 128 + v % 128) * 2 ^ (7 * i) := by rw [Nat.div_add_mod']
      have e3 : v / 128 * (128 * 2 ^ (7 * i)) = v / 128 * 128 * 2 ^ (7 * i) := by rw [Nat.mul_assoc]
      rw [Nat.add_mul] at e2
      rw [ih (v / 128) (by omega) (i + 1) _ (by rw [e]; omega) (by omega), e]
      congr 1
      rw [show (v % 128 + 128) % 128 = v % 128 by omega]
      omega
theorem shift_fit (q x : Nat) (h9 : q ≤ 9) (hx : x < 128) (h : q = 9 → x ≤ 1) : x * 2 ^ (7 * q) < 18446744073709551616 := by
  rcases Nat.lt_or_ge q 9 with h8 | h8
  · have h1 : (x + 1) * 2 ^ (7 * q) ≤ 128 * 2 ^ (7 * q) := Nat.mul_le_mul_right _ (by omega)
    have h2 : (128 : Nat) * 2 ^ (7 * q) = 2 ^ (7 * q + 7) := by rw [Nat.pow_add]; omega
    have h3 : (2 : Nat) ^ (7 * q + 7) ≤ 2 ^ 64 := Nat.pow_le_pow_right (by decide) (by omega)
    have h4 : 0 < 2 ^ (7 * q) := Nat.pow_pos (by decide)
    rw [Nat.add_mul] at h1
    omega
  · obtain rfl : q = 9 := by omega
    have := h rfl
    have h1 : x * 2 ^ (7 * 9) ≤ 1 * 2 ^ (7 * 9) := Nat.mul_le_mul_right _ this
    omega
theorem step_fit (q v x : Nat) (h9 : q ≤ 8) (hv : v < 2 ^ (7 * q)) : v + x % 128 * 2 ^ (7 * q) < 2 ^ (7 * (q + 1)) := by
  have h1 : (x % 128 + 1) * 2 ^ (7 * q) ≤ 128 * 2 ^ (7 * q) := Nat.mul_le_mul_right _ (by omega)
  have h2 : (128 : Nat) * 2 ^ (7 * q) = 2 ^ (7 * (q + 1)) := by rw [show 7 * (q + 1) = 7 * q + 7 by omega, Nat.pow_add]; omega
  rw [Nat.add_mul] at h1
  omega
theorem pow_fit {q v : Nat} (h9 : q ≤ 9) (hv : v < 2 ^ (7 * q)) : v < 18446744073709551616 :=
  Nat.lt_of_lt_of_le hv (Nat.le_trans (Nat.pow_le_pow_right (by decide) (show 7 * q ≤ 64 by omega)) (Nat.le_refl _))
theorem ofBe_fit (l : Bytes) (q : Nat) (hq : q ≤ 7) : ofBe (l.take q) < 72057594037927936 := by
  have h := ofBe_lt (l.take q)
  refine Nat.lt_of_lt_of_le h ?_
  have : (256 : Nat) ^ (l.take q).length ≤ 256 ^ 7 := Nat.pow_le_pow_right (by decide) (by simp; omega)
  exact this
/-! sums -/
def sstep (r : Nat) (bit : Bool) : Nat := if (decide (r / 2 ^ 31 = 1)) = bit then r * 2 % 4294967296 else (r * 2 % 4294967296) ^^^ 79764919
def sit (r : Nat) : Nat → Nat
  | 0 => r
  | n + 1 => sstep (sit r n) false
def sstep4 (r : Nat) : Nat := sit r 4
def tab (i : Nat) : Nat := sstep4 (i * 2 ^ 28 % 4294967296)
theorem sstep_lt {r : Nat} {b : Bool} : sstep r b < 4294967296 := by
  unfold sstep
  split
  · omega
  · exact Nat.xor_lt_two_pow (n := 32) (by omega) (by omega)
theorem tab_lt (i : Nat) : tab i < 4294967296 := sstep_lt
theorem sit_lt {r : Nat} (h : r < 4294967296) : ∀ n, sit r n < 4294967296
  | 0 => h
  | n + 1 => sstep_lt
/-- half a byte more -/
def sfour (r x : Nat) : Nat := (r * 2 ^ 4 % 4294967296) ^^^ tab ((r / 2 ^ 28) ^^^ x)
def sbyte (r : Nat) (x : UInt8) : Nat := sfour (sfour r (x.toNat / 2 ^ 4)) (x.toNat % 16)
theorem sfour_lt (r x : Nat) : sfour r x < 4294967296 := Nat.xor_lt_two_pow (n := 32) (by omega) (tab_lt _)
theorem sbyte_lt (r : Nat) (x : UInt8) : sbyte r x < 4294967296 := sfour_lt _ _
def smore (r : Nat) (b : Bytes) : Nat := b.foldl sbyte r
theorem smore_lt (b : Bytes) : ∀ (r : Nat), r < 4294967296 → smore r b < 4294967296 := by
  induction b with
  | nil => intro r h; exact h
  | cons x b ih => intro r _; exact ih _ (sbyte_lt r x)
theorem smore_step (r : Nat) (b : Bytes) (i : Nat) (x : UInt8) (h : b[i]? = some x) : smore r (b.take (i + 1)) = sbyte (smore r (b.take i)) x := by
  rw [List.take_add_one, h]; simp [smore, List.foldl_append]
/-- the sum of bytes -/
def more (s : Nat) (b : Bytes) : Nat := 4294967295 ^^^ smore (4294967295 ^^^ s) b
def sum (b : Bytes) : Nat := more 0 b
theorem sum_lt (b : Bytes) : sum b < 4294967296 := Nat.xor_lt_two_pow (n := 32) (by omega) (smore_lt _ _ (Nat.xor_lt_two_pow (n := 32) (by omega) (by omega)))
/-! records -/
def fields (seq : Nat) (body : Bytes) : Bytes := var seq ++ var body.length ++ body
def seal_ (b : Bytes) : Bytes := b ++ be (sum b) 4
def put (seq : Nat) (body : Bytes) : Bytes := be (seal_ (fields seq body)).length 4 ++ seal_ (fields seq body)
/-- a reader: what is left, what went wrong first -/
structure Rd where mk ::
  b : Bytes
  err : Int
def Rd.fail (r : Rd) (e : Int) : Rd := if r.err = 0 then ⟨r.b, e⟩ else r
def code (e : Int) : Int := if e = 10 then 30 else e
/-- the number that stands first, the bytes behind it, whether there is one, and the reader -/
def Rd.take (r : Rd) : Nat × Bytes × Bool × Rd :=
  if r.err = 0 then (if (getVar 0 0 r.b).2.2 = 0 then ((getVar 0 0 r.b).1, (getVar 0 0 r.b).2.1, true, r) else (0, [], false, r.fail (code (getVar 0 0 r.b).2.2))) else (0, [], false, r)
def Rd.num (r : Rd) : Nat × Rd := if r.take.2.2.1 then (r.take.1, ⟨r.take.2.1, r.err⟩) else (r.take.1, r.take.2.2.2)
def Rd.below (r : Rd) (most : Nat) : Nat × Bytes × Bool × Rd :=
  if r.take.2.2.1 then (if most < r.take.1 then (0, [], false, r.fail 32) else (r.take.1, r.take.2.1, true, r)) else (0, [], false, r.take.2.2.2)
def Rd.text (r : Rd) : Bytes × Rd :=
  let q := r.below 65536
  if q.2.2.1 then (if q.2.1.length < q.1 then ([], r.fail 30) else (q.2.1.take q.1, ⟨q.2.1.drop q.1, r.err⟩)) else ([], q.2.2.2)
def Rd.fin (r : Rd) : Int := if r.err = 0 ∧ r.b ≠ [] then 31 else r.err
theorem Rd.take_lt (r : Rd) : r.take.1 < 2 ^ 64 := by
  unfold Rd.take
  split
  · split
    · exact getVar_lt _ 0 0 (by decide) (by decide)
    · exact Nat.pow_pos (by decide)
  · exact Nat.pow_pos (by decide)
/-- what was sealed; what is wrong -/
def openS (s : Bytes) : Bytes × Int :=
  if s.length < 4 then ([], 20) else if ofBe (s.drop (s.length - 4)) = sum (s.take (s.length - 4)) then (s.take (s.length - 4), 0) else ([], 21)
/-- what bytes that stand first tell: a record, its number of bytes -/
def openRec (body : Bytes) : Option (Nat × Bytes) :=
  let c : Rd := ⟨body, 0⟩
  let s := c.num
  let t := s.2.text
  if t.2.fin = 0 ∧ t.1.length ≤ 32768 then some (s.1, t.1) else none
def get (b : Bytes) : Option (Nat × Bytes × Nat) :=
  if b.length < 4 then none else
  let n := ofBe (b.take 4); let rest := b.drop 4
  if rest.length < n then none else
  if (openS (rest.take n)).2 = 0 then (openRec (openS (rest.take n)).1).map fun x => (x.1, x.2, 4 + n) else none
def getV (b : Bytes) : Nat × Bytes × Nat × Bool := match get b with
  | some x => (x.1, x.2.1, x.2.2, true)
  | none => (0, [], 0, false)
theorem getV_none {b : Bytes} (h : get b = none) : getV b = (0, [], 0, false) := by unfold getV; rw [h]
theorem getV_some {b : Bytes} {s n : Nat} {t : Bytes} (h : get b = some (s, t, n)) : getV b = (s, t, n, true) := by unfold getV; rw [h]
theorem openS_len (s : Bytes) : (openS s).1.length ≤ s.length := by
  unfold openS
  split
  · simp
  · split
    · simp
    · simp
theorem fail_b (r : Rd) (e : Int) : (r.fail e).b = r.b := by unfold Rd.fail; split <;> rfl
theorem rtake_b (r : Rd) : r.take.2.2.2.b = r.b := by
  unfold Rd.take
  split
  · split
    · rfl
    · exact fail_b _ _
  · rfl
theorem rtake_len (r : Rd) : r.take.2.1.length ≤ r.b.length := by
  unfold Rd.take
  split
  · split
    · exact getVar_len _ _ _
    · simp
  · simp
theorem num_len (r : Rd) : r.num.2.b.length ≤ r.b.length := by
  unfold Rd.num
  split
  · exact rtake_len r
  · show r.take.2.2.2.b.length ≤ _
    rw [rtake_b]; exact Nat.le_refl _
theorem num_lt (r : Rd) : r.num.1 < 18446744073709551616 := by
  unfold Rd.num
  split <;> exact r.take_lt
theorem get_short {b : Bytes} (h : b.length < 4) : get b = none := by unfold get; rw [if_pos h]
theorem get_cutoff {b : Bytes} (h : (b.drop 4).length < ofBe (b.take 4)) : get b = none := by
  unfold get
  split
  · rfl
  · show (if _ then _ else _) = _; rw [if_pos h]
theorem get_wrong {b : Bytes} (h : (openS ((b.drop 4).take (ofBe (b.take 4)))).2 ≠ 0) : get b = none := by
  unfold get
  split
  · rfl
  · show (if _ then _ else _) = _
    by_cases c : (b.drop 4).length < ofBe (b.take 4)
    · rw [if_pos c]
    · rw [if_neg c, if_neg h]
theorem get_open {b : Bytes} (h : ¬ b.length < 4) (h2 : ¬ (b.drop 4).length < ofBe (b.take 4)) (h3 : (openS ((b.drop 4).take (ofBe (b.take 4)))).2 = 0) :
    get b = (openRec (openS ((b.drop 4).take (ofBe (b.take 4)))).1).map fun x => (x.1, x.2, 4 + ofBe (b.take 4)) := by
  unfold get
  rw [if_neg h]
  show (if _ then _ else _) = _
  rw [if_neg h2, if_pos h3]
theorem openRec_yes {c : Bytes} (h1 : (⟨c, 0⟩ : Rd).num.2.text.2.fin = 0) (h2 : (⟨c, 0⟩ : Rd).num.2.text.1.length ≤ 32768) : openRec c = some ((⟨c, 0⟩ : Rd).num.1, (⟨c, 0⟩ : Rd).num.2.text.1) := by unfold openRec; rw [if_pos ⟨h1, h2⟩]
theorem openRec_no {c : Bytes} (h : (⟨c, 0⟩ : Rd).num.2.text.2.fin ≠ 0 ∨ 32768 < (⟨c, 0⟩ : Rd).num.2.text.1.length) : openRec c = none := by
  unfold openRec
  rw [if_neg (by rintro ⟨h1, h2⟩; rcases h with h | h <;> omega)]
theorem openRec_fields (seq : Nat) (body : Bytes) (h1 : seq < 2 ^ 64) (h2 : body.length ≤ 32768) : openRec (fields seq body) = some (seq, body) := by
  have g1 : getVar 0 0 (fields seq body) = (seq, var body.length ++ body, 0) := by
    have := getVar_var seq (var body.length ++ body) 0 0 (by simpa using h1) (by omega)
    simpa [fields] using this
  have g2 : getVar 0 0 (var body.length ++ body) = (body.length, body, 0) := by
    have := getVar_var body.length body 0 0 (by simp; omega) (by omega)
    simpa using this
  have n1 : (⟨fields seq body, 0⟩ : Rd).num = (seq, ⟨var body.length ++ body, 0⟩) := by simp [Rd.num, Rd.take, g1]
  have t1 : (⟨var body.length ++ body, 0⟩ : Rd).text = (body, ⟨[], 0⟩) := by
    have : ¬ 65536 < body.length := by omega
    simp [Rd.text, Rd.below, Rd.take, g2, this]
  simp [openRec, n1, t1, Rd.fin, h2]
theorem fields_len (seq : Nat) (body : Bytes) (h1 : seq < 2 ^ 64) (h2 : body.length ≤ 32768) : (fields seq body).length ≤ 13 + body.length := by
  have := var_len seq 10 (by omega) (by omega)
  have := var_len body.length 3 (by omega) (by omega)
  simp [fields]; omega
theorem put_len (seq : Nat) (body : Bytes) (h1 : seq < 2 ^ 64) (h2 : body.length ≤ 32768) : (put seq body).length ≤ 21 + body.length := by
  have := fields_len seq body h1 h2
  simp [put, seal_, be_len]; omega
theorem get_put (seq : Nat) (body : Bytes) (h1 : seq < 2 ^ 64) (h2 : body.length ≤ 32768) : get (put seq body) = some (seq, body, (put seq body).length) := by
  have hf := fields_len seq body h1 h2
  have hsl : (seal_ (fields seq body)).length = (fields seq body).length + 4 := by simp [seal_, be_len]
  have hl : (put seq body).length = 4 + (seal_ (fields seq body)).length := by simp [put, be_len]
  have ht : (put seq body).take 4 = be (seal_ (fields seq body)).length 4 := by
    rw [put, List.take_append_of_le_length (by rw [be_len]; omega), List.take_of_length_le (by rw [be_len]; omega)]
  have hd : (put seq body).drop 4 = seal_ (fields seq body) := by
    rw [put, List.drop_append_of_le_length (by rw [be_len]; omega), List.drop_of_length_le (by rw [be_len]; omega)]; rfl
  have hn : ofBe ((put seq body).take 4) = (seal_ (fields seq body)).length := by rw [ht]; exact ofBe_be _ _ (by omega)
  have hs : (seal_ (fields seq body)).take (seal_ (fields seq body)).length = seal_ (fields seq body) := List.take_of_length_le (Nat.le_refl _)
  have e1 : (seal_ (fields seq body)).take ((seal_ (fields seq body)).length - 4) = fields seq body := by
    rw [hsl]; simp [seal_]
  have e2 : (seal_ (fields seq body)).drop ((seal_ (fields seq body)).length - 4) = be (sum (fields seq body)) 4 := by
    rw [hsl]; simp [seal_]
  unfold get
  rw [if_neg (by omega)]
  simp only [hn, hd]
  have ho : openS (seal_ (fields seq body)) = (fields seq body, 0) := by
    unfold openS
    rw [if_neg (by omega), e1, e2, ofBe_be _ _ (by have := sum_lt (fields seq body); omega), if_pos rfl]
  rw [if_neg (by omega), hs, ho, openRec_fields seq body h1 h2]
  simp [hl]
/-- what is cut short tells nothing -/
theorem get_cut (seq : Nat) (body : Bytes) (h1 : seq < 2 ^ 64) (h2 : body.length ≤ 32768) (k : Nat) (hk : k < (put seq body).length) : get ((put seq body).take k) = none := by
  have hf := fields_len seq body h1 h2
  have hsl : (seal_ (fields seq body)).length = (fields seq body).length + 4 := by simp [seal_, be_len]
  have hl : (put seq body).length = 4 + (seal_ (fields seq body)).length := by simp [put, be_len]
  unfold get
  split
  · rfl
  · rename_i c
    rw [List.length_take] at c
    have ht : ((put seq body).take k).take 4 = be (seal_ (fields seq body)).length 4 := by
      rw [List.take_take, Nat.min_eq_left (by omega), put, List.take_append_of_le_length (by rw [be_len]; omega), List.take_of_length_le (by rw [be_len]; omega)]
    simp only [ht, ofBe_be _ 4 (show (seal_ (fields seq body)).length < 256 ^ 4 by omega)]
    rw [if_pos (by rw [List.length_drop, List.length_take]; omega)]
end Go.Wire
