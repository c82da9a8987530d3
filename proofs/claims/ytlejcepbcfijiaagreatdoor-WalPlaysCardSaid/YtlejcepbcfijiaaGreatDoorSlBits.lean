/-
  THE LOGIC's RULES FOR BITS: shifts, and, or, xor, not. Conditions: none; it speaks of any program.
-/
import Derived.Test.YtlejcepbcfijiaaGreatDoorSlDraw
import Derived.Laws.BitsAllLaws
set_option maxRecDepth 20000
set_option linter.unusedVariables false
set_option linter.unusedSimpArgs false
namespace Go.SL
open Go
section
variable {P : Program} {κ : World} {n : Nat} {L M R : List Assn} {ρ : Env} {o : Oper}
theorem ev_shl {x y : Operand} {t u : TypeId} {k yk : IntKind} {i j r : Int} (ho : o.op = .binOp .shl t x y u) (hx : oev ρ x = some (.int k i)) (hy : oev ρ y = some (.int yk j)) (h0 : 0 ≤ j) (hr : k.wrap (i * 2 ^ min j.toNat k.bits) = r) : Ev P κ n L ρ o (.int k r) := fun a w ha hw => by
  simp only [execOp, ho, ha.eval hx, ha.eval hy, ← hr]; simp [binOp, eqGuard, shift_shl_any k yk i j h0]
theorem ev_shr {x y : Operand} {t u : TypeId} {k yk : IntKind} {i j r : Int} (ho : o.op = .binOp .shr t x y u) (hx : oev ρ x = some (.int k i)) (hy : oev ρ y = some (.int yk j)) (h0 : 0 ≤ j) (hr : i / 2 ^ min j.toNat k.bits = r) : Ev P κ n L ρ o (.int k r) := fun a w ha hw => by
  simp only [execOp, ho, ha.eval hx, ha.eval hy, ← hr]; simp [binOp, eqGuard, shift_shr_any k yk i j h0]
theorem ev_and {x y : Operand} {t u : TypeId} {k : IntKind} {i j r : Int} (ho : o.op = .binOp .and t x y u) (hx : oev ρ x = some (.int k i)) (hy : oev ρ y = some (.int k j)) (hr : bits .and k i j = r) : Ev P κ n L ρ o (.int k r) := fun a w ha hw => by
  simp only [execOp, ho, ha.eval hx, ha.eval hy, ← hr]; simp [binOp, eqGuard, intBits_and]
theorem ev_or {x y : Operand} {t u : TypeId} {k : IntKind} {i j r : Int} (ho : o.op = .binOp .or t x y u) (hx : oev ρ x = some (.int k i)) (hy : oev ρ y = some (.int k j)) (hr : bits .or k i j = r) : Ev P κ n L ρ o (.int k r) := fun a w ha hw => by
  simp only [execOp, ho, ha.eval hx, ha.eval hy, ← hr]; simp [binOp, eqGuard, intBits_or]
theorem ev_xor {x y : Operand} {t u : TypeId} {k : IntKind} {i j r : Int} (ho : o.op = .binOp .xor t x y u) (hx : oev ρ x = some (.int k i)) (hy : oev ρ y = some (.int k j)) (hr : bits .xor k i j = r) : Ev P κ n L ρ o (.int k r) := fun a w ha hw => by
  simp only [execOp, ho, ha.eval hx, ha.eval hy, ← hr]; simp [binOp, eqGuard, intBits_xor]
theorem ev_quo {x y : Operand} {t u : TypeId} {k : IntKind} {i j r : Int} (ho : o.op = .binOp .quo t x y u) (hx : oev ρ x = some (.int k i)) (hy : oev ρ y = some (.int k j)) (h0 : j ≠ 0) (hr : k.wrap (i.tdiv j) = r) : Ev P κ n L ρ o (.int k r) := fun a w ha hw => by
  simp only [execOp, ho, ha.eval hx, ha.eval hy, ← hr]; simp [binOp, eqGuard, Op.intDiv, h0]
theorem ev_rem {x y : Operand} {t u : TypeId} {k : IntKind} {i j r : Int} (ho : o.op = .binOp .rem t x y u) (hx : oev ρ x = some (.int k i)) (hy : oev ρ y = some (.int k j)) (h0 : j ≠ 0) (hr : i.tmod j = r) : Ev P κ n L ρ o (.int k r) := fun a w ha hw => by
  simp only [execOp, ho, ha.eval hx, ha.eval hy, ← hr]; simp [binOp, eqGuard, Op.intDiv, h0]
theorem ev_indexS {t : TypeId} {x y : Operand} {s : List UInt8} {k : IntKind} {i : Int} {b : UInt8} (ho : o.op = .index t x y) (ht : P.underlying t = some .string) (hx : oev ρ x = some (vS s)) (hy : oev ρ y = some (.int k i)) (h0 : 0 ≤ i) (hb : s[i.toNat]? = some b) : Ev P κ n L ρ o (.int .u8 ((b.toNat : Nat) : Int)) := fun a w ha hw => by
  have e : (mkS s)[i.toNat]? = some b := by
    obtain ⟨h1, h2⟩ := List.getElem?_eq_some_iff.1 hb
    have hsz : i.toNat < (mkS s).size := by rw [mkS_size]; exact h1
    rw [getElem?_pos (mkS s) i.toNat hsz]
    congr 1
  simp only [execOp, ho, ha.eval hx, ha.eval hy, Instr.index, Sem.run_bind, run_underlying ht, Result.andThen_ok, asIntOf]
  simp [h0, e]
theorem run_equalIn_sliceNil {t e : TypeId} (ht : P.underlying t = some (.slice e)) (a : Option Addr) (m c : Nat) (d : Nat) (w : World) : (Op.equalIn (d + 1) t (.slice a m c) (.slice none 0 0)).run P w = .ok a.isNone w := by
  cases a <;> simp [Op.equalIn, run_underlying ht]
theorem ev_sliceNil {c : BinOp} {x y : Operand} {t u e : TypeId} {a : Option Addr} {m cc : Nat} {b : Bool} (ho : o.op = .binOp c t x y u) (ht : P.underlying t = some (.slice e)) (hx : oev ρ x = some (.slice a m cc)) (hy : oev ρ y = some (.slice none 0 0))
    (hb : (match c with | .eql => some a.isNone | .neq => some (!a.isNone) | _ => none) = some b) : Ev P κ n L ρ o (.bool b) := fun ac w ha hw => by
  have key : (Op.equal t (.slice a m cc) (.slice none 0 0)).run P w = .ok a.isNone w := run_equalIn_sliceNil ht a m cc 9999 w
  simp only [execOp, ho, ha.eval hx, ha.eval hy]
  cases c <;> simp only [reduceCtorEq, Option.some.injEq] at hb <;> subst hb <;> simp [binOp, eqGuard, key]
theorem ev_notB {x : Operand} {t : TypeId} {k : IntKind} {i r : Int} (ho : o.op = .unOp .xor t x) (hx : oev ρ x = some (.int k i)) (hr : bits .xor k (if k.signed then -1 else k.max) i = r) : Ev P κ n L ρ o (.int k r) := fun a w ha hw => by
  simp only [execOp, ho, ha.eval hx, ← hr, unary_xor, intBits_xor]; rfl
end
/-! what a shift comes to, of numbers that aren't negative -/
theorem shr_nat (a s b : Nat) (h : a < 2 ^ b) : ((a : Nat) : Int) / 2 ^ min ((s : Nat) : Int).toNat b = ((a / 2 ^ s : Nat) : Int) := by
  rw [Int.toNat_natCast]
  rcases Nat.le_total s b with hs | hs
  · rw [Nat.min_eq_left hs]; norm_cast
  · rw [Nat.min_eq_right hs]
    have h1 : a / 2 ^ s = 0 := Nat.div_eq_of_lt (Nat.lt_of_lt_of_le h (Nat.pow_le_pow_right (by decide) hs))
    have h2 : a / 2 ^ b = 0 := Nat.div_eq_of_lt h
    rw [h1]
    have : ((a : Nat) : Int) / 2 ^ b = ((a / 2 ^ b : Nat) : Int) := by norm_cast
    rw [this, h2]
theorem shr_u64 (a s : Nat) (h : a < 18446744073709551616) : ((a : Nat) : Int) / 2 ^ min ((s : Nat) : Int).toNat (IntKind.bits .u64) = ((a / 2 ^ s : Nat) : Int) := shr_nat a s 64 h
theorem shr_u32 (a s : Nat) (h : a < 4294967296) : ((a : Nat) : Int) / 2 ^ min ((s : Nat) : Int).toNat (IntKind.bits .u32) = ((a / 2 ^ s : Nat) : Int) := shr_nat a s 32 h
theorem shr_u8 (a s : Nat) (h : a < 256) : ((a : Nat) : Int) / 2 ^ min ((s : Nat) : Int).toNat (IntKind.bits .u8) = ((a / 2 ^ s : Nat) : Int) := shr_nat a s 8 h
theorem shl_u64 (a s : Nat) (hs : s ≤ 64) (h : a * 2 ^ s < 18446744073709551616) : IntKind.u64.wrap (((a : Nat) : Int) * 2 ^ min ((s : Nat) : Int).toNat (IntKind.bits .u64)) = ((a * 2 ^ s : Nat) : Int) := by
  rw [Int.toNat_natCast, Nat.min_eq_left (show s ≤ IntKind.bits .u64 from hs), IntWalk.u64_in _ ⟨?_, ?_⟩]
  · norm_cast
  · have : ((a : Nat) : Int) * 2 ^ s = ((a * 2 ^ s : Nat) : Int) := by norm_cast
    rw [this]; omega
  · have : ((a : Nat) : Int) * 2 ^ s = ((a * 2 ^ s : Nat) : Int) := by norm_cast
    rw [this]; omega
theorem shl_u32 (a s : Nat) (hs : s ≤ 32) : IntKind.u32.wrap (((a : Nat) : Int) * 2 ^ min ((s : Nat) : Int).toNat (IntKind.bits .u32)) = ((a * 2 ^ s % 4294967296 : Nat) : Int) := by
  rw [Int.toNat_natCast, Nat.min_eq_left (show s ≤ IntKind.bits .u32 from hs), IntKind.wrap_u32']
  have : ((a : Nat) : Int) * 2 ^ s = ((a * 2 ^ s : Nat) : Int) := by norm_cast
  rw [this]; exact (Int.natCast_emod _ 4294967296).symm
theorem or_low (a x s : Nat) (h : a < 2 ^ s) : a ||| x * 2 ^ s = a + x * 2 ^ s := by
  rw [Nat.or_comm, Nat.mul_comm, ← Nat.two_pow_add_eq_or_of_lt h]; omega
theorem or_high (a x s : Nat) (h : x < 2 ^ s) : a * 2 ^ s ||| x = a * 2 ^ s + x := by
  rw [Nat.mul_comm, ← Nat.two_pow_add_eq_or_of_lt h]
theorem or128 (a : Nat) (h : a < 256) : a ||| 128 = a % 128 + 128 := by
  have : ∀ x : Fin 256, (x.val ||| 128) = x.val % 128 + 128 := by decide
  exact this ⟨a, h⟩
theorem and127 (a : Nat) (h : a < 256) : a &&& 127 = a % 128 := by
  have : ∀ x : Fin 256, (x.val &&& 127) = x.val % 128 := by decide
  exact this ⟨a, h⟩
theorem and15 (a : Nat) (h : a < 256) : a &&& 15 = a % 16 := by
  have : ∀ x : Fin 256, (x.val &&& 15) = x.val % 16 := by decide
  exact this ⟨a, h⟩
theorem quo_u64 (a b : Nat) (h : a < 18446744073709551616) : IntKind.u64.wrap (((a : Nat) : Int).tdiv ((b : Nat) : Int)) = ((a / b : Nat) : Int) := by
  rw [Int.tdiv_eq_ediv_of_nonneg (by omega)]
  have e : ((a : Nat) : Int) / ((b : Nat) : Int) = ((a / b : Nat) : Int) := by norm_cast
  rw [e, IntWalk.u64_in _ ⟨Int.natCast_nonneg _, ?_⟩]
  have := Nat.div_le_self a b
  omega
theorem quo_u32 (a b : Nat) (h : a < 4294967296) : IntKind.u32.wrap (((a : Nat) : Int).tdiv ((b : Nat) : Int)) = ((a / b : Nat) : Int) := by
  rw [Int.tdiv_eq_ediv_of_nonneg (by omega)]
  have e : ((a : Nat) : Int) / ((b : Nat) : Int) = ((a / b : Nat) : Int) := by norm_cast
  rw [e, IntWalk.u32_in _ ⟨Int.natCast_nonneg _, ?_⟩]
  have := Nat.div_le_self a b
  omega
theorem rem_nat (a b : Nat) : ((a : Nat) : Int).tmod ((b : Nat) : Int) = ((a % b : Nat) : Int) := by
  rw [Int.tmod_eq_emod_of_nonneg (by omega)]; norm_cast
theorem mul_u64 (a b : Nat) (h : a * b < 18446744073709551616) : IntKind.u64.wrap (((a : Nat) : Int) * ((b : Nat) : Int)) = ((a * b : Nat) : Int) := by
  rw [← Int.natCast_mul, IntWalk.u64_in _ ⟨Int.natCast_nonneg _, by omega⟩]
theorem add_u64 (a b : Nat) (h : a + b < 18446744073709551616) : IntKind.u64.wrap (((a : Nat) : Int) + ((b : Nat) : Int)) = ((a + b : Nat) : Int) := by
  rw [← Int.natCast_add, IntWalk.u64_in _ ⟨Int.natCast_nonneg _, by omega⟩]
theorem or_u8_128 (a : Nat) (h : a < 256) : bits .or .u8 (a : Int) 128 = ((a % 128 + 128 : Nat) : Int) := by
  have := u8_or_nat a 128 h (by decide)
  rw [or128 a h] at this
  exact this
theorem and_u8_127 (a : Nat) (h : a < 256) : bits .and .u8 (a : Int) 127 = ((a % 128 : Nat) : Int) := by
  have := u8_and_nat a 127 h (by decide)
  rw [and127 a h] at this
  exact this
theorem and_u8_15 (a : Nat) (h : a < 256) : bits .and .u8 (a : Int) 15 = ((a % 16 : Nat) : Int) := by
  have := u8_and_nat a 15 h (by decide)
  rw [and15 a h] at this
  exact this
theorem not_u32 (a : Nat) (h : a < 4294967296) : bits .xor .u32 (if IntKind.signed .u32 then -1 else IntKind.max .u32) (a : Int) = ((4294967295 ^^^ a : Nat) : Int) := by
  have e : (if IntKind.signed .u32 then -1 else IntKind.max .u32) = ((4294967295 : Nat) : Int) := rfl
  rw [e]; exact u32_xor_nat _ _ (by decide) h
theorem byte_u8 (a : Nat) : IntKind.u8.wrap (a : Int) = (((UInt8.ofNat a).toNat : Nat) : Int) := by
  have e : (UInt8.ofNat a).toNat = a % 256 := by simp
  rw [IntKind.wrap_u8', e]; exact (Int.natCast_emod _ 256).symm
theorem setRange_all (c : Array Value) (vs : List Value) (h : c.size = vs.length) : setRange c 0 vs = vs.toArray := by
  apply Array.ext'
  apply List.ext_getElem?
  intro i
  rw [Array.getElem?_toList, setRange_get]
  by_cases hi : i < vs.length
  · rw [if_pos (by omega)]; simp
  · rw [if_neg (by omega), List.getElem?_eq_none (by simpa using hi)]
    exact Array.getElem?_eq_none (by omega)
section
variable {P : Program} {κ : World} {n : Nat} {L M R : List Assn} {ρ : Env} {fn : Func} {X : Type} {val : X → Value} {post : X → List Assn} {F : Assn}
theorem hx_pick {Q : Exit → Act → World → Prop} {e : Exit} {A : Assn} (k : Pick A L R) (h : HX κ n e (A :: R) ρ Q) : HX κ n e L ρ Q := hx_ent (Ent.pick k) h
theorem hx_pure {Q : Exit → Act → World → Prop} {e : Exit} {φ : Prop} (h : φ → HX κ n e L ρ Q) : HX κ n e (pu φ :: L) ρ Q := fun a w ha hw => h hw.pure a w ha hw.tail
theorem hx_ret2A {e : Exit} (he : e = .ret ∨ e = .normal) {t u : Nat} {T : TypeId} {b off sz by_ : Nat} {z v2 : Value} {cs : Array Value} {d : TypeDesc} (hr : fn.results = #[.cell t T, .tmp u]) (hv : oev ρ (.tmp t) = some (.pointer (some ⟨b, off, none⟩))) (hv2 : oev ρ (.tmp u) = some v2) (hu : P.underlying T = some d) (ht : TyF P T sz z by_) (hd : TypeDesc.flat d = false) (hc : Cells L b off sz cs) (x : X) (hx : .tuple #[.agg cs, v2] = val x) (k : Ent L (post x ++ [F])) : HX κ n e L ρ (Done P κ fn val post F) := fun a w ha hw => by
  have : (results fn a.tmps).run P w = .ok (.tuple #[.agg cs, v2]) w := by
    obtain ⟨c, E, fr, h, hm, hv'⟩ := hc κ w hw
    subst hv'
    have h1 := slot_getD ha hv
    have h2 : a.tmps[t]?.getD undef = .pointer (some ⟨b, off, none⟩) := by simpa using h1
    have h3 := slot_getD ha hv2
    have h4 : a.tmps[u]?.getD undef = v2 := by simpa using h3
    simp [results, hr, h2, h4, asAddr, run_loadVar_agg hu ht hd h hm]
  rcases he with rfl | rfl <;> exact ⟨ha.defers, _, this, x, by rw [hx], hw.ent k⟩
theorem hx_ret4A {e : Exit} (he : e = .ret ∨ e = .normal) {t u s s2 : Nat} {T U : TypeId} {b off sz by_ b' off' sz' by' : Nat} {z z' v2 v3 : Value} {cs cs' : Array Value} {d d' : TypeDesc} (hr : fn.results = #[.cell t T, .cell u U, .tmp s, .tmp s2]) (hv : oev ρ (.tmp t) = some (.pointer (some ⟨b, off, none⟩))) (hu' : oev ρ (.tmp u) = some (.pointer (some ⟨b', off', none⟩))) (hv2 : oev ρ (.tmp s) = some v2) (hv3 : oev ρ (.tmp s2) = some v3)
    (hu : P.underlying T = some d) (ht : TyF P T sz z by_) (hd : TypeDesc.flat d = false) (hc : Cells L b off sz cs) (hu2 : P.underlying U = some d') (ht2 : TyF P U sz' z' by') (hd2 : TypeDesc.flat d' = false) (hc2 : Cells L b' off' sz' cs') (x : X) (hx : .tuple #[.agg cs, .agg cs', v2, v3] = val x) (k : Ent L (post x ++ [F])) : HX κ n e L ρ (Done P κ fn val post F) := fun a w ha hw => by
  have : (results fn a.tmps).run P w = .ok (.tuple #[.agg cs, .agg cs', v2, v3]) w := by
    obtain ⟨c, E, fr, h, hm, hv'⟩ := hc κ w hw
    obtain ⟨c2, E2, fr2, h', hm', hv''⟩ := hc2 κ w hw
    subst hv' hv''
    have h1 := slot_getD ha hv
    have h2 : a.tmps[t]?.getD undef = .pointer (some ⟨b, off, none⟩) := by simpa using h1
    have h1' := slot_getD ha hu'
    have h2' : a.tmps[u]?.getD undef = .pointer (some ⟨b', off', none⟩) := by simpa using h1'
    have h3 := slot_getD ha hv2
    have h4 : a.tmps[s]?.getD undef = v2 := by simpa using h3
    have h5 := slot_getD ha hv3
    have h6 : a.tmps[s2]?.getD undef = v3 := by simpa using h5
    simp [results, hr, h2, h2', h4, h6, asAddr, run_loadVar_agg hu ht hd h hm, run_loadVar_agg hu2 ht2 hd2 h' hm']
  rcases he with rfl | rfl <;> exact ⟨ha.defers, _, this, x, by rw [hx], hw.ent k⟩
theorem hx_ret3A {e : Exit} (he : e = .ret ∨ e = .normal) {t u s : Nat} {T : TypeId} {b off sz by_ : Nat} {z v2 v3 : Value} {cs : Array Value} {d : TypeDesc} (hr : fn.results = #[.cell t T, .tmp u, .tmp s]) (hv : oev ρ (.tmp t) = some (.pointer (some ⟨b, off, none⟩))) (hv2 : oev ρ (.tmp u) = some v2) (hv3 : oev ρ (.tmp s) = some v3) (hu : P.underlying T = some d) (ht : TyF P T sz z by_) (hd : TypeDesc.flat d = false) (hc : Cells L b off sz cs) (x : X) (hx : .tuple #[.agg cs, v2, v3] = val x) (k : Ent L (post x ++ [F])) : HX κ n e L ρ (Done P κ fn val post F) := fun a w ha hw => by
  have : (results fn a.tmps).run P w = .ok (.tuple #[.agg cs, v2, v3]) w := by
    obtain ⟨c, E, fr, h, hm, hv'⟩ := hc κ w hw
    subst hv'
    have h1 := slot_getD ha hv
    have h2 : a.tmps[t]?.getD undef = .pointer (some ⟨b, off, none⟩) := by simpa using h1
    have h3 := slot_getD ha hv2
    have h4 : a.tmps[u]?.getD undef = v2 := by simpa using h3
    have h5 := slot_getD ha hv3
    have h6 : a.tmps[s]?.getD undef = v3 := by simpa using h5
    simp [results, hr, h2, h4, h6, asAddr, run_loadVar_agg hu ht hd h hm]
  rcases he with rfl | rfl <;> exact ⟨ha.defers, _, this, x, by rw [hx], hw.ent k⟩
end
/-- an array is built as a struct of like fields -/
theorem fill_arr (s : Nat) (ps : List (Nat × Nat)) (hps : ∀ (i : Nat) (q : Nat × Nat), ps[i]? = some q → q = (i * s, s)) : ∀ (vs : List (Nat × Value)) (zc cs : Array Value), Instr.fill (fun i : Nat => ps[i]?) zc vs = some cs → Instr.fill (fun i : Nat => some (i * s, s)) zc vs = some cs
  | [], zc, cs, h => h
  | (i, v) :: r, zc, cs, h => by
    unfold Instr.fill at h ⊢
    cases hp : ps[i]? with
    | none => rw [hp] at h; cases h
    | some q =>
      have hq := hps i q hp
      subst hq
      rw [hp] at h
      simp only at h ⊢
      split at h
      · cases h
      · rename_i c
        rw [if_neg c]
        exact fill_arr s ps hps r _ cs h
theorem StructF.ofArr {P : Program} {t e : TypeId} {m s by' be' : Nat} {ps : List (Nat × Nat)} {z ze : Value} {sz : Nat} (hu : P.underlying t = some (.array m e)) (ht : TyF P t sz z by') (he : TyF P e s ze be') (hps : (ps.zipIdx.all fun q => decide (q.1 = (q.2 * s, s))) = true) : StructF P t ps z.cells :=
  ⟨fun vs cs w hf => by
    have h1 := fill_arr s ps (fun i q hq => by
      have := List.all_eq_true.1 hps (q, i) (List.mem_of_getElem? (by rw [List.getElem?_zipIdx, hq]; simp))
      simpa using this) vs _ _ hf
    simp only [Instr.build, Sem.run_bind, ht.run_zero, Result.andThen_ok, run_underlying hu, he.run_size, h1]
    rfl⟩
/-- a number without sign, and a text, as elements -/
structure UNum where
  v : Nat
instance : Enc UNum := ⟨1, fun x => [.int .u64 (x.v : Int)], fun _ => rfl, fun x v h => by simp at h; subst h; rfl, by decide⟩
structure Str where
  s : List UInt8
instance : Enc Str := ⟨1, fun x => [vS x.s], fun _ => rfl, fun x v h => by simp at h; subst h; rfl, by decide⟩
end Go.SL
