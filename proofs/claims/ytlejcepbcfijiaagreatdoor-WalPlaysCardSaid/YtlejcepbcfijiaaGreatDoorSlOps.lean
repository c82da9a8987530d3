/-
  THE LOGIC's RULES FOR OPERATIONS: each operation's value ('Ev') or effect ('Eff'). Conditions: none; it speaks of any program.
-/
import Derived.Test.YtlejcepbcfijiaaGreatDoorSl
set_option linter.unusedVariables false
set_option linter.unusedSimpArgs false
namespace Go.SL
open Go

inductive ArgsAre (ρ : Env) : List Operand → List Value → Prop
  | nil : ArgsAre ρ [] []
  | cons {x : Operand} {v : Value} {xs : List Operand} {vs : List Value} : oev ρ x = some v → ArgsAre ρ xs vs → ArgsAre ρ (x :: xs) (v :: vs)
theorem ArgsAre.eval {n : Nat} {ρ : Env} {a : Act} (ha : EnvOk n ρ a) {xs : List Operand} {vs : List Value} (h : ArgsAre ρ xs vs) : xs.map a.eval = vs := by
  induction h with
  | nil => rfl
  | cons hx _ ih => rw [List.map_cons, ih, ha.eval hx]

/-! ### 1. From one operation to the next -/
/-- The operation's effect: whatever it comes to is one of these. -/
def Eff (P : Program) (κ : World) (n : Nat) (L : List Assn) (ρ : Env) (o : Oper) {X : Type} (L' : X → List Assn) (v : X → Value) : Prop :=
  ∀ a w (K : Act → World → Prop) (Q : Exit → Act → World → Prop), EnvOk n ρ a → Sat κ L w → (∀ x w', Sat κ (L' x) w' → K (a.put o.dst (v x)) w') → o.wp P a w K Q

section
variable {P : Program} {κ : World} {n : Nat} {L M R : List Assn} {ρ : Env} {ops : Array Oper} {o : Oper} {l : List Oper} {Q : Exit → Act → World → Prop}

theorem ho_nil (h : HX κ n .normal L ρ Q) : HOps P κ n ops L ρ [] Q := fun a w ha hw => wpList_nil (h a w ha hw)
theorem ho_ent (k : Ent L M) (h : HOps P κ n ops M ρ l Q) : HOps P κ n ops L ρ l Q := fun a w ha hw => h a w ha (hw.ent k)
theorem ho_pick {A : Assn} (k : Pick A L R) (h : HOps P κ n ops (A :: R) ρ l Q) : HOps P κ n ops L ρ l Q := ho_ent (Ent.pick k) h
theorem ho_pure {φ : Prop} (h : φ → HOps P κ n ops L ρ l Q) : HOps P κ n ops (pu φ :: L) ρ l Q := fun a w ha hw => h hw.pure a w ha hw.tail
theorem ho_pu {φ : Prop} (k : Pick (pu φ) L R) (h : φ → HOps P κ n ops R ρ l Q) : HOps P κ n ops L ρ l Q := ho_pick k (ho_pure h)
theorem ho_ex {X : Type} {A : X → Assn} (h : ∀ x, HOps P κ n ops (A x :: L) ρ l Q) : HOps P κ n ops (ex A :: L) ρ l Q := fun a w ha hw => let ⟨x, hx⟩ := hw.exists; h x a w ha hx
theorem ho_star {S : List Assn} (k : App M L S) (h : HOps P κ n ops S ρ l Q) : HOps P κ n ops (star M :: L) ρ l Q := fun a w ha hw => h a w ha (k.eq ▸ hw.unstar)
theorem ho_freeze {b : Nat} {ob : Obj} (k : Pick (pt b ob) L R) (h : HOps P κ n ops (ro (roB b ob) :: R) ρ l Q) : HOps P κ n ops L ρ l Q := fun a w ha hw => h a w ha (hw.freeze k)

theorem hx_freeze {e : Exit} {b : Nat} {ob : Obj} (k : Pick (pt b ob) L R) (h : HX κ n e (ro (roB b ob) :: R) ρ Q) : HX κ n e L ρ Q := fun a w ha hw => h a w ha (hw.freeze k)
theorem ht_freeze {b : Nat} {ob : Obj} {c : Code} (k : Pick (pt b ob) L R) (h : HT P κ n (ro (roB b ob) :: R) ρ c Q) : HT P κ n L ρ c Q := fun a w ha hw => h a w ha (hw.freeze k)
theorem Ev.eff {v : Value} (h : Ev P κ n L ρ o v) : Eff P κ n L ρ o (fun _ : Unit => L) (fun _ => v) := fun a w K Q ha hw hk => by
  unfold Oper.wp
  rw [h a w ha hw]
  exact hk () w hw

theorem ho_eff {X : Type} {L' : X → List Assn} {v : X → Value} {d : Nat} (hg : o.guard = none) (hd : o.dst = some d) (hn : Nat.blt d n = true) (he : Eff P κ n L ρ o L' v)
    (k : ∀ x, HOps P κ n ops (L' x) ((d, v x) :: ρ) l Q) : HOps P κ n ops L ρ (o :: l) Q := fun a w ha hw =>
  wpList_plain hg fun K hK => he a w K Q ha hw fun x w' hw' => hK _ _ (k x _ _ (by rw [hd]; exact ha.put (Nat.blt_eq ▸ hn) _) hw')
theorem ho_eff0 {X : Type} {L' : X → List Assn} {v : X → Value} (hg : o.guard = none) (hd : o.dst = none) (he : Eff P κ n L ρ o L' v)
    (k : ∀ x, HOps P κ n ops (L' x) ρ l Q) : HOps P κ n ops L ρ (o :: l) Q := fun a w ha hw =>
  wpList_plain hg fun K hK => he a w K Q ha hw fun x w' hw' => hK _ _ (k x _ _ (by rw [hd]; exact ha) hw')
theorem ho_ev {v : Value} {d : Nat} (hg : o.guard = none) (hd : o.dst = some d) (hn : Nat.blt d n = true) (he : Ev P κ n L ρ o v)
    (k : HOps P κ n ops L ((d, v) :: ρ) l Q) : HOps P κ n ops L ρ (o :: l) Q := ho_eff hg hd hn he.eff fun _ => k

/-- what a guard asks, in the frame as far as it is known -/
def gval (ops : Array Oper) (ρ : Env) (j : Nat) : Option Value := ((ops[j]?).bind (·.dst)).bind ρ.get
theorem gval_yielded {a : Act} (ha : EnvOk n ρ a) {j : Nat} {b : Bool} (h : gval ops ρ j = some (.bool b)) : yielded ops a.tmps j = some b := by
  unfold gval at h
  unfold yielded
  cases hd : (ops[j]?).bind (·.dst) with
  | none => rw [hd] at h; cases h
  | some d =>
    rw [hd] at h
    have := ha.slot d _ h
    simp only [Option.bind_some, this]
theorem gval_undef {a : Act} (ha : EnvOk n ρ a) {j : Nat} (h : gval ops ρ j = some undef) : yielded ops a.tmps j = none := by
  unfold gval at h
  unfold yielded
  cases hd : (ops[j]?).bind (·.dst) with
  | none => rw [hd] at h; cases h
  | some d =>
    rw [hd] at h
    have := ha.slot d _ h
    simp only [Option.bind_some, this]; rfl
theorem ho_effg {X : Type} {L' : X → List Assn} {v : X → Value} {d j : Nat} {b : Bool} (hg : o.guard = some (j, b)) (hv : gval ops ρ j = some (.bool b)) (hd : o.dst = some d) (hn : Nat.blt d n = true) (he : Eff P κ n L ρ o L' v)
    (k : ∀ x, HOps P κ n ops (L' x) ((d, v x) :: ρ) l Q) : HOps P κ n ops L ρ (o :: l) Q := fun a w ha hw => by
  refine wpList_step fun K hK => ?_
  rw [if_pos (by simp [Region.wanted, hg, gval_yielded ha hv])]
  exact he a w K Q ha hw fun x w' hw' => hK _ _ (k x _ _ (by rw [hd]; exact ha.put (Nat.blt_eq ▸ hn) _) hw')
theorem ho_evg {v : Value} {d j : Nat} {b : Bool} (hg : o.guard = some (j, b)) (hv : gval ops ρ j = some (.bool b)) (hd : o.dst = some d) (hn : Nat.blt d n = true) (he : Ev P κ n L ρ o v)
    (k : HOps P κ n ops L ((d, v) :: ρ) l Q) : HOps P κ n ops L ρ (o :: l) Q := ho_effg hg hv hd hn he.eff fun _ => k
theorem ho_pass {d j : Nat} {b : Bool} (hg : o.guard = some (j, b)) (hv : gval ops ρ j = some (.bool !b)) (hd : o.dst = some d) (hn : Nat.blt d n = true)
    (k : HOps P κ n ops L ((d, undef) :: ρ) l Q) : HOps P κ n ops L ρ (o :: l) Q := fun a w ha hw => by
  refine wpList_step fun K hK => ?_
  rw [if_neg (by simp [Region.wanted, hg, gval_yielded ha hv])]
  exact hK _ _ (k _ _ (by rw [hd]; exact ha.put (Nat.blt_eq ▸ hn) _) hw)
theorem ho_pass0 {j : Nat} {b : Bool} (hg : o.guard = some (j, b)) (hv : gval ops ρ j = some (.bool !b)) (hd : o.dst = none)
    (k : HOps P κ n ops L ρ l Q) : HOps P κ n ops L ρ (o :: l) Q := fun a w ha hw => by
  refine wpList_step fun K hK => ?_
  rw [if_neg (by simp [Region.wanted, hg, gval_yielded ha hv])]
  exact hK _ _ (k _ _ (by rw [hd]; exact ha) hw)

theorem ho_passU {d j : Nat} {b : Bool} (hg : o.guard = some (j, b)) (hv : gval ops ρ j = some undef) (hd : o.dst = some d) (hn : Nat.blt d n = true)
    (k : HOps P κ n ops L ((d, undef) :: ρ) l Q) : HOps P κ n ops L ρ (o :: l) Q := fun a w ha hw => by
  refine wpList_step fun K hK => ?_
  rw [if_neg (by simp [Region.wanted, hg, gval_undef ha hv])]
  exact hK _ _ (k _ _ (by rw [hd]; exact ha.put (Nat.blt_eq ▸ hn) _) hw)
theorem ho_passU0 {j : Nat} {b : Bool} (hg : o.guard = some (j, b)) (hv : gval ops ρ j = some undef) (hd : o.dst = none)
    (k : HOps P κ n ops L ρ l Q) : HOps P κ n ops L ρ (o :: l) Q := fun a w ha hw => by
  refine wpList_step fun K hK => ?_
  rw [if_neg (by simp [Region.wanted, hg, gval_undef ha hv])]
  exact hK _ _ (k _ _ (by rw [hd]; exact ha) hw)

/-! ### 2. Types -/
/-- what the program's table says of a type: its number of cells, its zero value, its bytes -/
structure TyF (P : Program) (t : TypeId) (sz : Nat) (z : Value) (bytes : Nat) : Prop where mk ::
  info : (P.info? t).map (fun i => (i.size, i.zero, i.bytes)) = some (sz, some z, bytes)
section
variable {t : TypeId} {sz bytes : Nat} {z : Value} (h : TyF P t sz z bytes) (w : World)
include h
theorem TyF.run_info : ∃ i, (typeInfo t).run P w = .ok i w ∧ i.size = sz ∧ i.zero = some z ∧ i.bytes = bytes ∧ P.info? t = some i := by
  obtain ⟨i, hi, he⟩ := Option.map_eq_some_iff.1 h.info
  simp only [Prod.mk.injEq] at he
  exact ⟨i, by simp [typeInfo, hi], he.1, he.2.1, he.2.2, hi⟩
theorem TyF.run_size : (sizeOf t).run P w = .ok sz w := by
  obtain ⟨i, hi, e, _⟩ := h.run_info w
  simp only [sizeOf, Sem.run_bind, hi, Result.andThen_ok, Sem.run_pure, e]
theorem TyF.run_zero : (zeroValue t).run P w = .ok z w := by
  obtain ⟨i, hi, _, e, _⟩ := h.run_info w
  simp only [zeroValue, Sem.run_bind, hi, Result.andThen_ok, e]
  rfl
end
/-- one cell, no struct and no array -/
def TypeDesc.flat : TypeDesc → Bool
  | .struct _ | .array _ _ => false
  | _ => true
theorem run_isAgg_flat {t : TypeId} {d : TypeDesc} (h : P.underlying t = some d) (hd : TypeDesc.flat d = true) (w : World) : (isAgg t).run P w = .ok false w := by
  simp only [isAgg, Sem.run_bind, run_underlying h, Result.andThen_ok]
  cases d <;> first | rfl | (simp [TypeDesc.flat] at hd)
theorem run_isAgg_agg {t : TypeId} {d : TypeDesc} (h : P.underlying t = some d) (hd : TypeDesc.flat d = false) (w : World) : (isAgg t).run P w = .ok true w := by
  simp only [isAgg, Sem.run_bind, run_underlying h, Result.andThen_ok]
  cases d <;> first | rfl | (simp [TypeDesc.flat] at hd)

/-! ### 3. Values -/
theorem ev_move {x : Operand} {v : Value} (ho : o.op = .move x) (hx : oev ρ x = some v) : Ev P κ n L ρ o v := fun a w ha hw => by
  simp only [execOp, ho, ha.eval hx]; rfl
theorem ev_assign {x : Operand} {v : Value} (ho : o.op = .assign x) (hx : oev ρ x = some v) : Ev P κ n L ρ o v := fun a w ha hw => by
  simp only [execOp, ho, ha.eval hx]; rfl
theorem ev_pick_t {c x y : Operand} {v : Value} (ho : o.op = .pick c x y) (hc : oev ρ c = some (.bool true)) (hx : oev ρ x = some v) : Ev P κ n L ρ o v := fun a w ha hw => by
  simp only [execOp, ho, ha.eval hc, ha.eval hx]; rfl
theorem ev_pick_f {c x y : Operand} {v : Value} (ho : o.op = .pick c x y) (hc : oev ρ c = some (.bool false)) (hx : oev ρ y = some v) : Ev P κ n L ρ o v := fun a w ha hw => by
  simp only [execOp, ho, ha.eval hc, ha.eval hx]; rfl
theorem ev_not {x : Operand} {t : TypeId} {b : Bool} (ho : o.op = .unOp .not t x) (hx : oev ρ x = some (.bool b)) : Ev P κ n L ρ o (.bool !b) := fun a w ha hw => by
  simp only [execOp, ho, ha.eval hx]; rfl
theorem ev_extract {x : Operand} {i : Nat} {vs : Array Value} {v : Value} (ho : o.op = .extract x i) (hx : oev ρ x = some (.tuple vs)) (hi : vs[i]? = some v) : Ev P κ n L ρ o v := fun a w ha hw => by
  simp only [execOp, ho, ha.eval hx, Instr.extract, hi]; rfl
theorem ev_nilCheck {x : Operand} {p : Addr} (ho : o.op = .nilCheck x) (hx : oev ρ x = some (.pointer (some p))) : Ev P κ n L ρ o (.pointer (some p)) := fun a w ha hw => by
  simp only [execOp, ho, ha.eval hx]; rfl
theorem ev_makeFunc {fn : Fn} {f c : List Operand} {fv cv : List Value} (ho : o.op = .makeFunc fn f.toArray c.toArray) (hf : ArgsAre ρ f fv) (hc : ArgsAre ρ c cv) : Ev P κ n L ρ o (.func fn fv.toArray cv.toArray) := fun a w ha hw => by
  simp only [execOp, ho, List.map_toArray, hf.eval ha, hc.eval ha]; rfl

/-! whole numbers -/
theorem ev_add {x y : Operand} {t u : TypeId} {k : IntKind} {i j r : Int} (ho : o.op = .binOp .add t x y u) (hx : oev ρ x = some (.int k i)) (hy : oev ρ y = some (.int k j)) (hr : k.wrap (i + j) = r) : Ev P κ n L ρ o (.int k r) := fun a w ha hw => by
  simp only [execOp, ho, ha.eval hx, ha.eval hy, ← hr]; simp [binOp, eqGuard, Op.intArith]
theorem ev_sub {x y : Operand} {t u : TypeId} {k : IntKind} {i j r : Int} (ho : o.op = .binOp .sub t x y u) (hx : oev ρ x = some (.int k i)) (hy : oev ρ y = some (.int k j)) (hr : k.wrap (i - j) = r) : Ev P κ n L ρ o (.int k r) := fun a w ha hw => by
  simp only [execOp, ho, ha.eval hx, ha.eval hy, ← hr]; simp [binOp, eqGuard, Op.intArith]
theorem ev_mul {x y : Operand} {t u : TypeId} {k : IntKind} {i j r : Int} (ho : o.op = .binOp .mul t x y u) (hx : oev ρ x = some (.int k i)) (hy : oev ρ y = some (.int k j)) (hr : k.wrap (i * j) = r) : Ev P κ n L ρ o (.int k r) := fun a w ha hw => by
  simp only [execOp, ho, ha.eval hx, ha.eval hy, ← hr]; simp [binOp, eqGuard, Op.intArith]
theorem in_i64 {z : Int} (h : -9223372036854775808 ≤ z ∧ z ≤ 9223372036854775807) : IntKind.i64.wrap z = z := IntWalk.i64_in z h

/-- the six comparisons of whole numbers -/
def cmpI : BinOp → Int → Int → Option Bool
  | .eql, a, b => some (decide (a = b))
  | .neq, a, b => some (!decide (a = b))
  | .lss, a, b => some (decide (a < b))
  | .leq, a, b => some (decide (a ≤ b))
  | .gtr, a, b => some (decide (b < a))
  | .geq, a, b => some (decide (b ≤ a))
  | _, _, _ => none
theorem ev_cmp {c : BinOp} {x y : Operand} {t u : TypeId} {k : IntKind} {i j : Int} {b : Bool} (ho : o.op = .binOp c t x y u) (hx : oev ρ x = some (.int k i)) (hy : oev ρ y = some (.int k j)) (hb : cmpI c i j = some b) : Ev P κ n L ρ o (.bool b) := fun a w ha hw => by
  simp only [execOp, ho, ha.eval hx, ha.eval hy]
  cases c <;> simp only [cmpI, reduceCtorEq, Option.some.injEq] at hb <;> subst hb <;> simp [binOp, eqGuard, Op.intCmp]
  · cases h : decide (i = j) <;> simp_all
  · cases h : decide (i = j) <;> simp_all
/-- A comparison parts the way: its answer is known on either. -/
theorem ho_cmp {c : BinOp} {x y : Operand} {t u : TypeId} {k : IntKind} {i j : Int} {b : Bool} {d : Nat} (hg : o.guard = none) (hd : o.dst = some d) (hn : Nat.blt d n = true)
    (ho : o.op = .binOp c t x y u) (hx : oev ρ x = some (.int k i)) (hy : oev ρ y = some (.int k j)) (hb : cmpI c i j = some b)
    (ht : b = true → HOps P κ n ops L ((d, .bool true) :: ρ) l Q) (hf : b = false → HOps P κ n ops L ((d, .bool false) :: ρ) l Q) : HOps P κ n ops L ρ (o :: l) Q := by
  refine ho_ev hg hd hn (ev_cmp ho hx hy hb) ?_
  cases b
  · exact hf rfl
  · exact ht rfl
theorem ho_cmpg {c : BinOp} {x y : Operand} {t u : TypeId} {k : IntKind} {i j : Int} {b : Bool} {d m : Nat} {b' : Bool} (hg : o.guard = some (m, b')) (hv : gval ops ρ m = some (.bool b')) (hd : o.dst = some d) (hn : Nat.blt d n = true)
    (ho : o.op = .binOp c t x y u) (hx : oev ρ x = some (.int k i)) (hy : oev ρ y = some (.int k j)) (hb : cmpI c i j = some b)
    (ht : b = true → HOps P κ n ops L ((d, .bool true) :: ρ) l Q) (hf : b = false → HOps P κ n ops L ((d, .bool false) :: ρ) l Q) : HOps P κ n ops L ρ (o :: l) Q := by
  refine ho_evg hg hv hd hn (ev_cmp ho hx hy hb) ?_
  cases b
  · exact hf rfl
  · exact ht rfl

theorem ho_lt {x y : Operand} {t u : TypeId} {k : IntKind} {i j : Int} {d : Nat} (hg : o.guard = none) (hd : o.dst = some d) (hn : Nat.blt d n = true) (ho : o.op = .binOp .lss t x y u) (hx : oev ρ x = some (.int k i)) (hy : oev ρ y = some (.int k j))
    (ht : i < j → HOps P κ n ops L ((d, .bool true) :: ρ) l Q) (hf : j ≤ i → HOps P κ n ops L ((d, .bool false) :: ρ) l Q) : HOps P κ n ops L ρ (o :: l) Q :=
  ho_cmp hg hd hn ho hx hy rfl (fun h => ht (by simp at h; omega)) (fun h => hf (by simp at h; omega))
theorem ho_ltg {x y : Operand} {t u : TypeId} {k : IntKind} {i j : Int} {d : Nat} {m : Nat} {b' : Bool} (hg : o.guard = some (m, b')) (hv : gval ops ρ m = some (.bool b')) (hd : o.dst = some d) (hn : Nat.blt d n = true) (ho : o.op = .binOp .lss t x y u) (hx : oev ρ x = some (.int k i)) (hy : oev ρ y = some (.int k j))
    (ht : i < j → HOps P κ n ops L ((d, .bool true) :: ρ) l Q) (hf : j ≤ i → HOps P κ n ops L ((d, .bool false) :: ρ) l Q) : HOps P κ n ops L ρ (o :: l) Q :=
  ho_cmpg hg hv hd hn ho hx hy rfl (fun h => ht (by simp at h; omega)) (fun h => hf (by simp at h; omega))
theorem ho_le {x y : Operand} {t u : TypeId} {k : IntKind} {i j : Int} {d : Nat} (hg : o.guard = none) (hd : o.dst = some d) (hn : Nat.blt d n = true) (ho : o.op = .binOp .leq t x y u) (hx : oev ρ x = some (.int k i)) (hy : oev ρ y = some (.int k j))
    (ht : i ≤ j → HOps P κ n ops L ((d, .bool true) :: ρ) l Q) (hf : j < i → HOps P κ n ops L ((d, .bool false) :: ρ) l Q) : HOps P κ n ops L ρ (o :: l) Q :=
  ho_cmp hg hd hn ho hx hy rfl (fun h => ht (by simp at h; omega)) (fun h => hf (by simp at h; omega))
theorem ho_leg {x y : Operand} {t u : TypeId} {k : IntKind} {i j : Int} {d : Nat} {m : Nat} {b' : Bool} (hg : o.guard = some (m, b')) (hv : gval ops ρ m = some (.bool b')) (hd : o.dst = some d) (hn : Nat.blt d n = true) (ho : o.op = .binOp .leq t x y u) (hx : oev ρ x = some (.int k i)) (hy : oev ρ y = some (.int k j))
    (ht : i ≤ j → HOps P κ n ops L ((d, .bool true) :: ρ) l Q) (hf : j < i → HOps P κ n ops L ((d, .bool false) :: ρ) l Q) : HOps P κ n ops L ρ (o :: l) Q :=
  ho_cmpg hg hv hd hn ho hx hy rfl (fun h => ht (by simp at h; omega)) (fun h => hf (by simp at h; omega))
theorem ho_gt {x y : Operand} {t u : TypeId} {k : IntKind} {i j : Int} {d : Nat} (hg : o.guard = none) (hd : o.dst = some d) (hn : Nat.blt d n = true) (ho : o.op = .binOp .gtr t x y u) (hx : oev ρ x = some (.int k i)) (hy : oev ρ y = some (.int k j))
    (ht : j < i → HOps P κ n ops L ((d, .bool true) :: ρ) l Q) (hf : i ≤ j → HOps P κ n ops L ((d, .bool false) :: ρ) l Q) : HOps P κ n ops L ρ (o :: l) Q :=
  ho_cmp hg hd hn ho hx hy rfl (fun h => ht (by simp at h; omega)) (fun h => hf (by simp at h; omega))
theorem ho_gtg {x y : Operand} {t u : TypeId} {k : IntKind} {i j : Int} {d : Nat} {m : Nat} {b' : Bool} (hg : o.guard = some (m, b')) (hv : gval ops ρ m = some (.bool b')) (hd : o.dst = some d) (hn : Nat.blt d n = true) (ho : o.op = .binOp .gtr t x y u) (hx : oev ρ x = some (.int k i)) (hy : oev ρ y = some (.int k j))
    (ht : j < i → HOps P κ n ops L ((d, .bool true) :: ρ) l Q) (hf : i ≤ j → HOps P κ n ops L ((d, .bool false) :: ρ) l Q) : HOps P κ n ops L ρ (o :: l) Q :=
  ho_cmpg hg hv hd hn ho hx hy rfl (fun h => ht (by simp at h; omega)) (fun h => hf (by simp at h; omega))
theorem ho_ge {x y : Operand} {t u : TypeId} {k : IntKind} {i j : Int} {d : Nat} (hg : o.guard = none) (hd : o.dst = some d) (hn : Nat.blt d n = true) (ho : o.op = .binOp .geq t x y u) (hx : oev ρ x = some (.int k i)) (hy : oev ρ y = some (.int k j))
    (ht : j ≤ i → HOps P κ n ops L ((d, .bool true) :: ρ) l Q) (hf : i < j → HOps P κ n ops L ((d, .bool false) :: ρ) l Q) : HOps P κ n ops L ρ (o :: l) Q :=
  ho_cmp hg hd hn ho hx hy rfl (fun h => ht (by simp at h; omega)) (fun h => hf (by simp at h; omega))
theorem ho_geg {x y : Operand} {t u : TypeId} {k : IntKind} {i j : Int} {d : Nat} {m : Nat} {b' : Bool} (hg : o.guard = some (m, b')) (hv : gval ops ρ m = some (.bool b')) (hd : o.dst = some d) (hn : Nat.blt d n = true) (ho : o.op = .binOp .geq t x y u) (hx : oev ρ x = some (.int k i)) (hy : oev ρ y = some (.int k j))
    (ht : j ≤ i → HOps P κ n ops L ((d, .bool true) :: ρ) l Q) (hf : i < j → HOps P κ n ops L ((d, .bool false) :: ρ) l Q) : HOps P κ n ops L ρ (o :: l) Q :=
  ho_cmpg hg hv hd hn ho hx hy rfl (fun h => ht (by simp at h; omega)) (fun h => hf (by simp at h; omega))
theorem ho_eq {x y : Operand} {t u : TypeId} {k : IntKind} {i j : Int} {d : Nat} (hg : o.guard = none) (hd : o.dst = some d) (hn : Nat.blt d n = true) (ho : o.op = .binOp .eql t x y u) (hx : oev ρ x = some (.int k i)) (hy : oev ρ y = some (.int k j))
    (ht : i = j → HOps P κ n ops L ((d, .bool true) :: ρ) l Q) (hf : i ≠ j → HOps P κ n ops L ((d, .bool false) :: ρ) l Q) : HOps P κ n ops L ρ (o :: l) Q :=
  ho_cmp hg hd hn ho hx hy rfl (fun h => ht (by simp at h; omega)) (fun h => hf (by simp at h; omega))
theorem ho_eqg {x y : Operand} {t u : TypeId} {k : IntKind} {i j : Int} {d : Nat} {m : Nat} {b' : Bool} (hg : o.guard = some (m, b')) (hv : gval ops ρ m = some (.bool b')) (hd : o.dst = some d) (hn : Nat.blt d n = true) (ho : o.op = .binOp .eql t x y u) (hx : oev ρ x = some (.int k i)) (hy : oev ρ y = some (.int k j))
    (ht : i = j → HOps P κ n ops L ((d, .bool true) :: ρ) l Q) (hf : i ≠ j → HOps P κ n ops L ((d, .bool false) :: ρ) l Q) : HOps P κ n ops L ρ (o :: l) Q :=
  ho_cmpg hg hv hd hn ho hx hy rfl (fun h => ht (by simp at h; omega)) (fun h => hf (by simp at h; omega))
theorem ho_ne {x y : Operand} {t u : TypeId} {k : IntKind} {i j : Int} {d : Nat} (hg : o.guard = none) (hd : o.dst = some d) (hn : Nat.blt d n = true) (ho : o.op = .binOp .neq t x y u) (hx : oev ρ x = some (.int k i)) (hy : oev ρ y = some (.int k j))
    (ht : i ≠ j → HOps P κ n ops L ((d, .bool true) :: ρ) l Q) (hf : i = j → HOps P κ n ops L ((d, .bool false) :: ρ) l Q) : HOps P κ n ops L ρ (o :: l) Q :=
  ho_cmp hg hd hn ho hx hy rfl (fun h => ht (by simp at h; omega)) (fun h => hf (by simp at h; omega))
theorem ho_neg {x y : Operand} {t u : TypeId} {k : IntKind} {i j : Int} {d : Nat} {m : Nat} {b' : Bool} (hg : o.guard = some (m, b')) (hv : gval ops ρ m = some (.bool b')) (hd : o.dst = some d) (hn : Nat.blt d n = true) (ho : o.op = .binOp .neq t x y u) (hx : oev ρ x = some (.int k i)) (hy : oev ρ y = some (.int k j))
    (ht : i ≠ j → HOps P κ n ops L ((d, .bool true) :: ρ) l Q) (hf : i = j → HOps P κ n ops L ((d, .bool false) :: ρ) l Q) : HOps P κ n ops L ρ (o :: l) Q :=
  ho_cmpg hg hv hd hn ho hx hy rfl (fun h => ht (by simp at h; omega)) (fun h => hf (by simp at h; omega))
/-- A truth value that isn't known parts the way. -/
theorem ho_bool {t : Nat} {b : Bool} (hb : ρ.get t = some (.bool b)) (ht : b = true → HOps P κ n ops L ((t, .bool true) :: ρ) l Q) (hf : b = false → HOps P κ n ops L ((t, .bool false) :: ρ) l Q) : HOps P κ n ops L ρ l Q := fun a w ha hw => by
  have key : ∀ c, b = c → EnvOk n ((t, .bool c) :: ρ) a := fun c hc => ⟨ha.size, ha.defers, fun s v e => by
    simp only [Env.get] at e
    by_cases hk : t = s
    · subst hk
      rw [show Nat.beq t t = true from by simp] at e
      simp only [cond_true, Option.some.injEq] at e
      subst e; subst hc; exact ha.slot t _ hb
    · rw [beq_ne hk] at e
      exact ha.slot s v e⟩
  cases b
  · exact hf rfl a w (key _ rfl) hw
  · exact ht rfl a w (key _ rfl) hw
theorem ht_bool {t : Nat} {b : Bool} {c : Code} (hb : ρ.get t = some (.bool b)) (ht : b = true → HT P κ n L ((t, .bool true) :: ρ) c Q) (hf : b = false → HT P κ n L ((t, .bool false) :: ρ) c Q) : HT P κ n L ρ c Q := fun a w ha hw => by
  have key : ∀ c, b = c → EnvOk n ((t, .bool c) :: ρ) a := fun c hc => ⟨ha.size, ha.defers, fun s v e => by
    simp only [Env.get] at e
    by_cases hk : t = s
    · subst hk
      rw [show Nat.beq t t = true from by simp] at e
      simp only [cond_true, Option.some.injEq] at e
      subst e; subst hc; exact ha.slot t _ hb
    · rw [beq_ne hk] at e
      exact ha.slot s v e⟩
  cases b
  · exact hf rfl a w (key _ rfl) hw
  · exact ht rfl a w (key _ rfl) hw

/-! strings: told as lists of bytes -/
def mkS (l : List UInt8) : ByteArray := ⟨l.toArray⟩
abbrev vS (l : List UInt8) : Value := .string (mkS l)
theorem mkS_size (l : List UInt8) : (mkS l).size = l.length := by show l.toArray.size = _; simp
theorem mkS_data (l : List UInt8) : (mkS l).data.toList = l := by simp [mkS]
theorem ba_toList_loop (s : ByteArray) (i : Nat) (acc : List UInt8) : ByteArray.toList.loop s i acc = acc.reverse ++ s.data.toList.drop i := by
  rw [ByteArray.toList.loop]
  split
  · rename_i h
    rw [ba_toList_loop s (i + 1) _]
    have h' : i < s.data.toList.length := by rw [Array.length_toList]; exact h
    rw [List.drop_eq_getElem_cons h']
    have hg : s.get! i = s.data.toList[i] := by
      simp only [ByteArray.get!, Array.getElem_toList]
      exact getElem!_pos s.data i (by simpa using h')
    rw [hg]; simp
  · rename_i h
    have h' : s.data.toList.length ≤ i := by rw [Array.length_toList]; exact Nat.le_of_not_lt h
    rw [List.drop_of_length_le h']; simp
termination_by s.size - i
theorem mkS_toList (l : List UInt8) : (mkS l).toList = l := by
  unfold ByteArray.toList
  rw [ba_toList_loop]
  simp [mkS]
theorem mkS_inj {a b : List UInt8} (h : mkS a = mkS b) : a = b := by rw [← mkS_toList a, h, mkS_toList]
theorem mkS_of (s : ByteArray) : mkS s.data.toList = s := by cases s; rfl
theorem mkS_append (a b : List UInt8) : mkS a ++ mkS b = mkS (a ++ b) := by
  show ByteArray.append _ _ = _
  simp [ByteArray.append, mkS]
theorem mkS_extract (l : List UInt8) (i j : Nat) : (mkS l).extract i j = mkS ((l.take j).drop i) := by
  apply ByteArray.ext
  rw [ByteArray.data_extract]
  apply Array.ext'
  simp [mkS, List.extract_eq_take_drop, List.drop_take]

theorem ev_lenS {x : Operand} {t : TypeId} {s : List UInt8} (ho : o.op = .call { callee := .builtin .len, args := #[x], argTypes := #[t] }) (ht : P.underlying t = some .string) (hx : oev ρ x = some (vS s)) :
    Ev P κ n L ρ o (.int .i64 s.length) := fun a w ha hw => by
  simp only [execOp, ho, resolve, Sem.run_bind, Sem.run_pure, Result.andThen_ok, invoke, builtin, List.map_toArray, List.map_cons, List.map_nil, ha.eval hx]
  simp [Builtin.len_, run_underlying ht, goInt, mkS_size]
theorem ev_addS {x y : Operand} {t u : TypeId} {s r : List UInt8} (ho : o.op = .binOp .add t x y u) (hx : oev ρ x = some (vS s)) (hy : oev ρ y = some (vS r)) (hlen : s.length + r.length ≤ 9223372036854775807) : Ev P κ n L ρ o (vS (s ++ r)) := fun a w ha hw => by
  simp only [execOp, ho, ha.eval hx, ha.eval hy]
  simp [binOp, eqGuard, Op.stringOp, mkS_size, mkS_append]
  omega
def cmpS : BinOp → List UInt8 → List UInt8 → Option Bool
  | .eql, a, b => some (decide (a = b))
  | .neq, a, b => some (!decide (a = b))
  | .lss, a, b => some (Op.bytesLess a b)
  | .leq, a, b => some (Op.bytesLess a b || decide (a = b))
  | .gtr, a, b => some (!(Op.bytesLess a b || decide (a = b)))
  | .geq, a, b => some (!Op.bytesLess a b)
  | _, _, _ => none
theorem ev_cmpS {c : BinOp} {x y : Operand} {t u : TypeId} {s r : List UInt8} {b : Bool} (ho : o.op = .binOp c t x y u) (hx : oev ρ x = some (vS s)) (hy : oev ρ y = some (vS r)) (hb : cmpS c s r = some b) : Ev P κ n L ρ o (.bool b) := fun a w ha hw => by
  simp only [execOp, ho, ha.eval hx, ha.eval hy]
  have e : ∀ a b : List UInt8, (a == b) = decide (a = b) := fun a b => by rw [Bool.eq_iff_iff]; simp
  cases c <;> simp only [cmpS, reduceCtorEq, Option.some.injEq] at hb <;> subst hb <;> simp [binOp, eqGuard, Op.stringOp, mkS_toList, e]
theorem ho_cmpS {c : BinOp} {x y : Operand} {t u : TypeId} {s r : List UInt8} {b : Bool} {d : Nat} (hg : o.guard = none) (hd : o.dst = some d) (hn : Nat.blt d n = true)
    (ho : o.op = .binOp c t x y u) (hx : oev ρ x = some (vS s)) (hy : oev ρ y = some (vS r)) (hb : cmpS c s r = some b)
    (ht : b = true → HOps P κ n ops L ((d, .bool true) :: ρ) l Q) (hf : b = false → HOps P κ n ops L ((d, .bool false) :: ρ) l Q) : HOps P κ n ops L ρ (o :: l) Q := by
  refine ho_ev hg hd hn (ev_cmpS ho hx hy hb) ?_
  cases b
  · exact hf rfl
  · exact ht rfl
theorem ho_cmpSg {c : BinOp} {x y : Operand} {t u : TypeId} {s r : List UInt8} {b : Bool} {d m : Nat} {b' : Bool} (hg : o.guard = some (m, b')) (hv : gval ops ρ m = some (.bool b')) (hd : o.dst = some d) (hn : Nat.blt d n = true)
    (ho : o.op = .binOp c t x y u) (hx : oev ρ x = some (vS s)) (hy : oev ρ y = some (vS r)) (hb : cmpS c s r = some b)
    (ht : b = true → HOps P κ n ops L ((d, .bool true) :: ρ) l Q) (hf : b = false → HOps P κ n ops L ((d, .bool false) :: ρ) l Q) : HOps P κ n ops L ρ (o :: l) Q := by
  refine ho_evg hg hv hd hn (ev_cmpS ho hx hy hb) ?_
  cases b
  · exact hf rfl
  · exact ht rfl
theorem ho_eqS {x y : Operand} {t u : TypeId} {s r : List UInt8} {d : Nat} (hg : o.guard = none) (hd : o.dst = some d) (hn : Nat.blt d n = true) (ho : o.op = .binOp .eql t x y u) (hx : oev ρ x = some (vS s)) (hy : oev ρ y = some (vS r))
    (ht : s = r → HOps P κ n ops L ((d, .bool true) :: ρ) l Q) (hf : s ≠ r → HOps P κ n ops L ((d, .bool false) :: ρ) l Q) : HOps P κ n ops L ρ (o :: l) Q :=
  ho_cmpS hg hd hn ho hx hy rfl (fun h => ht (by simpa using h)) (fun h => hf (by simpa using h))
theorem ho_eqSg {x y : Operand} {t u : TypeId} {s r : List UInt8} {d : Nat} {m : Nat} {b' : Bool} (hg : o.guard = some (m, b')) (hv : gval ops ρ m = some (.bool b')) (hd : o.dst = some d) (hn : Nat.blt d n = true) (ho : o.op = .binOp .eql t x y u) (hx : oev ρ x = some (vS s)) (hy : oev ρ y = some (vS r))
    (ht : s = r → HOps P κ n ops L ((d, .bool true) :: ρ) l Q) (hf : s ≠ r → HOps P κ n ops L ((d, .bool false) :: ρ) l Q) : HOps P κ n ops L ρ (o :: l) Q :=
  ho_cmpSg hg hv hd hn ho hx hy rfl (fun h => ht (by simpa using h)) (fun h => hf (by simpa using h))
theorem ho_neS {x y : Operand} {t u : TypeId} {s r : List UInt8} {d : Nat} (hg : o.guard = none) (hd : o.dst = some d) (hn : Nat.blt d n = true) (ho : o.op = .binOp .neq t x y u) (hx : oev ρ x = some (vS s)) (hy : oev ρ y = some (vS r))
    (ht : s ≠ r → HOps P κ n ops L ((d, .bool true) :: ρ) l Q) (hf : s = r → HOps P κ n ops L ((d, .bool false) :: ρ) l Q) : HOps P κ n ops L ρ (o :: l) Q :=
  ho_cmpS hg hd hn ho hx hy rfl (fun h => ht (by simpa using h)) (fun h => hf (by simpa using h))
theorem ho_neSg {x y : Operand} {t u : TypeId} {s r : List UInt8} {d : Nat} {m : Nat} {b' : Bool} (hg : o.guard = some (m, b')) (hv : gval ops ρ m = some (.bool b')) (hd : o.dst = some d) (hn : Nat.blt d n = true) (ho : o.op = .binOp .neq t x y u) (hx : oev ρ x = some (vS s)) (hy : oev ρ y = some (vS r))
    (ht : s ≠ r → HOps P κ n ops L ((d, .bool true) :: ρ) l Q) (hf : s = r → HOps P κ n ops L ((d, .bool false) :: ρ) l Q) : HOps P κ n ops L ρ (o :: l) Q :=
  ho_cmpSg hg hv hd hn ho hx hy rfl (fun h => ht (by simpa using h)) (fun h => hf (by simpa using h))
theorem ev_sliceS {x : Operand} {t : TypeId} {s : List UInt8} {lo hi : Option Operand} {i j : Nat} (ho : o.op = .slice t x lo hi none) (ht : P.underlying t = some .string) (hx : oev ρ x = some (vS s))
    (hlo : (match lo with | none => i = 0 | some y => ∃ k, oev ρ y = some (.int k (i : Int)))) (hhi : (match hi with | none => j = s.length | some y => ∃ k, oev ρ y = some (.int k (j : Int)))) (hij : i ≤ j) (hjs : j ≤ s.length) :
    Ev P κ n L ρ o (vS ((s.take j).drop i)) := fun a w ha hw => by
  have hs : ∀ (v : Value) (m : Nat) (k : IntKind) (z : Nat) (c : BoundsCode), z ≤ m → (Instr.sliceBound (.int k (z : Int)) m c).run P w = .ok z w := fun v m k z c hz => by
    simp only [Instr.sliceBound, asIntOf, Sem.run_bind, Sem.run_pure, Result.andThen_ok]
    rw [if_pos ⟨Int.natCast_nonneg _, by exact_mod_cast hz⟩]; simp
  have hrun : (Instr.sliceAt t (vS s) (lo.map a.eval) (hi.map a.eval) (Option.map a.eval none)).run P w = .ok (vS ((s.take j).drop i)) w := by
    cases lo with
    | none =>
      subst hlo
      cases hi with
      | none => subst hhi; simp [Instr.sliceAt, Instr.slice, run_underlying ht, Instr.sliceBounds, mkS]
      | some y => obtain ⟨k, hy⟩ := hhi; simp [Instr.sliceAt, Instr.slice, run_underlying ht, Instr.sliceBounds, mkS_size, mkS_extract, ha.eval hy, hs .nilFunc s.length k j _ hjs]
    | some u =>
      obtain ⟨ku, hu⟩ := hlo
      cases hi with
      | none => subst hhi; simp [Instr.sliceAt, Instr.slice, run_underlying ht, Instr.sliceBounds, mkS_size, mkS_extract, ha.eval hu, hs .nilFunc s.length ku i _ hij]
      | some y => obtain ⟨k, hy⟩ := hhi; simp [Instr.sliceAt, Instr.slice, run_underlying ht, Instr.sliceBounds, mkS_size, mkS_extract, ha.eval hy, ha.eval hu, hs .nilFunc s.length k j _ hjs, hs .nilFunc j ku i _ hij]
  simp only [execOp, ho, ha.eval hx, Sem.run_bind, hrun, Result.andThen_ok, Sem.run_pure]

/-! conversions between whole numbers; of one text type to another -/
theorem ev_convI {x : Operand} {s t : TypeId} {k k' : IntKind} {i r : Int} (ho : o.op = .convert s t x) (hs : ∃ d, P.underlying s = some d) (ht : P.underlying t = some (.int k)) (hx : oev ρ x = some (.int k' i)) (hr : k.wrap i = r) : Ev P κ n L ρ o (.int k r) := fun a w ha hw => by
  obtain ⟨d, hd⟩ := hs
  simp only [execOp, ho, ha.eval hx, ← hr]
  simp [convert, run_underlying hd, run_underlying ht, Conv.intToInt]
theorem ev_maxI {x y : Operand} {ts : Array TypeId} {k k' : IntKind} {i j r : Int} (ho : o.op = .call { callee := .builtin .max, args := #[x, y], argTypes := ts }) (hx : oev ρ x = some (.int k i)) (hy : oev ρ y = some (.int k' j)) (hr : max i j = r) : Ev P κ n L ρ o (.int k r) := fun a w ha hw => by
  simp only [execOp, ho, resolve, Sem.run_bind, Sem.run_pure, Result.andThen_ok, invoke, builtin, List.map_toArray, List.map_cons, List.map_nil, ha.eval hx, ha.eval hy, ← hr]
  simp only [Builtin.max_, List.foldlM, Builtin.max2, Sem.run_bind, Sem.run_pure, Result.andThen_ok]
  congr 2
  split <;> (congr 1; omega)
theorem ev_minI {x y : Operand} {ts : Array TypeId} {k k' : IntKind} {i j r : Int} (ho : o.op = .call { callee := .builtin .min, args := #[x, y], argTypes := ts }) (hx : oev ρ x = some (.int k i)) (hy : oev ρ y = some (.int k' j)) (hr : min i j = r) : Ev P κ n L ρ o (.int k r) := fun a w ha hw => by
  simp only [execOp, ho, resolve, Sem.run_bind, Sem.run_pure, Result.andThen_ok, invoke, builtin, List.map_toArray, List.map_cons, List.map_nil, ha.eval hx, ha.eval hy, ← hr]
  simp only [Builtin.min_, List.foldlM, Builtin.min2, Sem.run_bind, Sem.run_pure, Result.andThen_ok]
  congr 2
  split <;> (congr 1; omega)
/-- a pointer held against nil -/
theorem run_equalIn_ptrNil {t e : TypeId} (ht : P.underlying t = some (.pointer e)) (p : Option Addr) (d : Nat) (w : World) : (Op.equalIn (d + 1) t (.pointer p) (.pointer none)).run P w = .ok p.isNone w := by
  cases p <;> simp [Op.equalIn, run_underlying ht]
theorem ev_cmpB {c : BinOp} {x y : Operand} {t u : TypeId} {a' b' b : Bool} (ho : o.op = .binOp c t x y u) (ht : P.underlying t = some .bool) (hx : oev ρ x = some (.bool a')) (hy : oev ρ y = some (.bool b'))
    (hb : (match c with | .eql => some (a' == b') | .neq => some (!(a' == b')) | _ => none) = some b) : Ev P κ n L ρ o (.bool b) := fun a w ha hw => by
  have key : (Op.equal t (.bool a') (.bool b')).run P w = .ok (a' == b') w := run_equalIn_bool w 9999 t a' b' ht
  simp only [execOp, ho, ha.eval hx, ha.eval hy]
  cases c <;> simp only [reduceCtorEq, Option.some.injEq] at hb <;> subst hb <;> simp [binOp, eqGuard, key]
theorem ev_ptrNil {c : BinOp} {x y : Operand} {t u e : TypeId} {p : Option Addr} {b : Bool} (ho : o.op = .binOp c t x y u) (ht : P.underlying t = some (.pointer e)) (hx : oev ρ x = some (.pointer p)) (hy : oev ρ y = some (.pointer none))
    (hb : (match c with | .eql => some p.isNone | .neq => some p.isSome | _ => none) = some b) : Ev P κ n L ρ o (.bool b) := fun a w ha hw => by
  have key : (Op.equal t (.pointer p) (.pointer none)).run P w = .ok p.isNone w := run_equalIn_ptrNil ht p 9999 w
  simp only [execOp, ho, ha.eval hx, ha.eval hy]
  cases c <;> simp only [reduceCtorEq, Option.some.injEq] at hb <;> subst hb <;> simp [binOp, eqGuard, key]
end
end Go.SL
