/-
  THE LOGIC's RULES FOR CALLS: contracts ('Fn'), how a function's body is entered and left. Conditions: none; it speaks of any program.
-/
import Derived.Test.YtlejcepbcfijiaaGreatDoorSlSlice
set_option linter.unusedVariables false
set_option linter.unusedSimpArgs false
namespace Go.SL
open Go

inductive Picks : List Assn → List Assn → List Assn → Prop
  | nil {L : List Assn} : Picks [] L L
  | cons {A : Assn} {M L R S : List Assn} : Pick A L R → Picks M R S → Picks (A :: M) L S
  | ro {φ : RoP} {M L R S : List Assn} : Pick (ro φ) L R → Picks M L S → Picks (ro φ :: M) L S
theorem Picks.ent {M L R : List Assn} (k : Picks M L R) : Ent L (M ++ R) := by
  induction k with
  | nil => exact Ent.refl _
  | cons h _ ih => exact Ent.cons h ih
  | ro h _ ih => exact Ent.roWeak h (fun _ h => h) ih
theorem Sat.wrap {κ : World} {M R : List Assn} {w : World} (h : Sat κ (M ++ R) w) : Sat κ (M ++ [star R]) w := h.ent fun p r e => by
  obtain ⟨p1, p2, h1, h2, h3, hM, hR⟩ := e.append
  exact Sep.join h1 h2 h3 hM ⟨p2, Part.no, Part.le.refl _, Part.no_le _, (Part.no_disj _).symm, hR, trivial⟩
theorem Sat.unwrap {κ : World} {M R : List Assn} {w : World} (h : Sat κ (M ++ [star R]) w) : Sat κ (M ++ R) w := h.ent fun p r e => by
  obtain ⟨p1, p2, h1, h2, h3, hM, hR⟩ := e.append
  obtain ⟨q1, q2, k1, k2, k3, hq, _⟩ := hR
  exact Sep.join h1 (k1.trans h2) (h3.mono (Part.le.refl _) k1) hM hq

def Enters (P : Program) (f : FuncId) : Prop := ∀ args w, (callFunc f args).run P w = .ok (.enter f args) w
theorem enters_of {P : Program} {f : FuncId} {fn : Func} {c : Code} (hf : P.funcs[f]? = some fn) (hn : (fn.name == "runtime.NumGoroutine") = false) (hb : fn.body = some c) : Enters P f := fun args w => by
  have hn' : ¬ fn.name = "runtime.NumGoroutine" := by simpa using hn
  simp [callFunc, hf, hn', hb]

/-- THE CONTRACT: called with these arguments where these chunks are, it returns one of these values, and leaves these chunks; all else stays. -/
structure Ctr (P : Program) (f : FuncId) (args : Array Value) (pre : List Assn) {X : Type} (val : X → Value) (post : X → List Assn) : Prop where mk ::
  enter : Enters P f
  calls : ∀ κ F w, Sat κ (pre ++ [F]) w → Calls P f args w fun e w' => ∃ x, e = .returned (val x) ∧ Sat κ (post x ++ [F]) w'

section
variable {P : Program} {κ : World} {n : Nat} {L M R : List Assn} {ρ : Env} {ops : Array Oper} {o : Oper} {l : List Oper} {Q : Exit → Act → World → Prop}

theorem eff_call {X : Type} {val : X → Value} {post : X → List Assn} {pre : List Assn} {fx : Operand} {xs : List Operand} {ts : Array TypeId} {f : FuncId} {first cap args : Array Value} {vs : List Value}
    (ho : o.op = .call { callee := .value fx, args := xs.toArray, argTypes := ts }) (hf : oev ρ fx = some (.func (.func f) first cap)) (hxs : ArgsAre ρ xs vs) (hargs : first ++ vs.toArray ++ cap = args) (c : Ctr P f args pre val post) (hp : Picks pre L R) {L' : X → List Assn} (happ : ∀ x, App (post x) R (L' x)) :
    Eff P κ n L ρ o L' val := fun a w K Q ha hw hk => by
  subst hargs
  have : (execOp a.eval o).run P w = .ok (.enter f (first ++ vs.toArray ++ cap)) w := by
    simp only [execOp, ho, resolve, Deferred.ofValue, ha.eval hf, Sem.run_bind, Sem.run_pure, Result.andThen_ok, invoke, List.map_toArray, hxs.eval ha, c.enter _ w]
  simp only [Oper.wp, this, Oper.upon]
  refine (c.calls κ (star R) w (hw.ent hp.ent).wrap).mono fun e w' h => ?_
  obtain ⟨x, rfl, hx⟩ := h
  exact hk x w' ((happ x).eq ▸ hx.unwrap)

/-! #### a body is entered and left -/
def envOf : Nat → List Value → Env
  | _, [] => []
  | i, v :: vs => (i, v) :: envOf (i + 1) vs
theorem envOf_get : ∀ (vs : List Value) (i t : Nat) (v : Value), (envOf i vs).get t = some v → i ≤ t ∧ vs[t - i]? = some v
  | [], i, t, v, h => by simp [envOf, Env.get] at h
  | u :: vs, i, t, v, h => by
    simp only [envOf, Env.get] at h
    by_cases hk : i = t
    · subst hk
      rw [show Nat.beq i i = true from by simp] at h
      simp only [cond_true, Option.some.injEq] at h
      subst h; simp
    · rw [beq_ne hk] at h
      obtain ⟨h1, h2⟩ := envOf_get vs (i + 1) t v h
      refine ⟨by omega, ?_⟩
      obtain ⟨j, rfl⟩ : ∃ j, t = i + 1 + j := ⟨t - i - 1, by omega⟩
      rw [show i + 1 + j - i = j + 1 from by omega, List.getElem?_cons_succ]
      rw [show i + 1 + j - (i + 1) = j from by omega] at h2
      exact h2
theorem fn_intro {f : FuncId} {fn : Func} {c : Code} {vs : List Value} {pre : List Assn} {X : Type} {val : X → Value} {post : X → List Assn} (hf : P.funcs[f]? = some fn) (hn : (fn.name == "runtime.NumGoroutine") = false) (hb : fn.body = some c) (hnt : fn.ntmps = n) (hsz : vs.length ≤ n) {S : Assn → List Assn} (happ : ∀ F, App pre [F] (S F))
    (h : ∀ κ F, HT P κ n (S F) (envOf 0 vs) c (bodyPost P fn fun e w' => ∃ x, e = .returned (val x) ∧ Sat κ (post x ++ [F]) w')) : Ctr P f vs.toArray pre val post :=
  ⟨enters_of hf hn hb, fun κ F w hw => calls_of_wp hf hb (h κ F _ _ ⟨by simp [hnt]; omega, rfl, fun t v e => by
    have := (envOf_get vs 0 t v e).2
    simp only [Nat.sub_zero] at this
    have hlt : t < vs.length := by
      rcases Nat.lt_or_ge t vs.length with h' | h'
      · exact h'
      · rw [List.getElem?_eq_none h'] at this; cases this
    rw [Array.getElem?_append_left (by simpa using hlt)]
    simpa using this⟩ ((happ F).eq ▸ hw))⟩

section
variable {fn : Func} {X : Type} {val : X → Value} {post : X → List Assn} {F : Assn}
/-- what a body must come to -/
abbrev Done (P : Program) (κ : World) (fn : Func) {X : Type} (val : X → Value) (post : X → List Assn) (F : Assn) : Exit → Act → World → Prop := bodyPost P fn fun e w' => ∃ x, e = .returned (val x) ∧ Sat κ (post x ++ [F]) w'
theorem hx_ret0 {e : Exit} (he : e = .ret ∨ e = .normal) (hr : fn.results = #[]) (x : X) (hv : val x = .tuple #[]) (k : Ent L (post x ++ [F])) : HX κ n e L ρ (Done P κ fn val post F) := fun a w ha hw => by
  have : (results fn a.tmps).run P w = .ok (.tuple #[]) w := results_none hr _ _ _
  rcases he with rfl | rfl <;> exact ⟨ha.defers, _, this, x, by rw [hv], hw.ent k⟩
theorem slot_getD {a : Act} (ha : EnvOk n ρ a) {t : Nat} {v : Value} (h : oev ρ (.tmp t) = some v) : a.tmps.getD t undef = v := by
  have := ha.slot t v h
  simp [this]
theorem hx_ret1 {e : Exit} (he : e = .ret ∨ e = .normal) {t : Nat} {v : Value} (hr : fn.results = #[.tmp t]) (hv : oev ρ (.tmp t) = some v) (x : X) (hx : v = val x) (k : Ent L (post x ++ [F])) : HX κ n e L ρ (Done P κ fn val post F) := fun a w ha hw => by
  have : (results fn a.tmps).run P w = .ok v w := by rw [results_tmp hr, slot_getD ha hv]
  rcases he with rfl | rfl <;> exact ⟨ha.defers, _, this, x, by rw [hx], hw.ent k⟩
theorem hx_ret1A {e : Exit} (he : e = .ret ∨ e = .normal) {t : Nat} {T : TypeId} {b off sz by_ : Nat} {z : Value} {cs : Array Value} {d : TypeDesc} (hr : fn.results = #[.cell t T]) (hv : oev ρ (.tmp t) = some (.pointer (some ⟨b, off, none⟩))) (hu : P.underlying T = some d) (ht : TyF P T sz z by_) (hd : TypeDesc.flat d = false) (hc : Cells L b off sz cs) (x : X) (hx : .agg cs = val x) (k : Ent L (post x ++ [F])) : HX κ n e L ρ (Done P κ fn val post F) := fun a w ha hw => by
  have : (results fn a.tmps).run P w = .ok (.agg cs) w := by
    obtain ⟨c, E, fr, h, hm, hv'⟩ := hc κ w hw
    subst hv'
    have h1 := slot_getD ha hv
    have h2 : a.tmps[t]?.getD undef = .pointer (some ⟨b, off, none⟩) := by simpa using h1
    simp [results, hr, h2, asAddr, run_loadVar_agg hu ht hd h hm]
  rcases he with rfl | rfl <;> exact ⟨ha.defers, _, this, x, by rw [hx], hw.ent k⟩
theorem hx_ret2 {e : Exit} (he : e = .ret ∨ e = .normal) {t u : Nat} {v1 v2 : Value} (hr : fn.results = #[.tmp t, .tmp u]) (hv : oev ρ (.tmp t) = some v1) (hv2 : oev ρ (.tmp u) = some v2) (x : X) (hx : .tuple #[v1, v2] = val x) (k : Ent L (post x ++ [F])) : HX κ n e L ρ (Done P κ fn val post F) := fun a w ha hw => by
  have : (results fn a.tmps).run P w = .ok (.tuple #[v1, v2]) w := by rw [results_tmp2 hr, slot_getD ha hv, slot_getD ha hv2]
  rcases he with rfl | rfl <;> exact ⟨ha.defers, _, this, x, by rw [hx], hw.ent k⟩
theorem hx_ret3 {e : Exit} (he : e = .ret ∨ e = .normal) {t u s : Nat} {v1 v2 v3 : Value} (hr : fn.results = #[.tmp t, .tmp u, .tmp s]) (hv : oev ρ (.tmp t) = some v1) (hv2 : oev ρ (.tmp u) = some v2) (hv3 : oev ρ (.tmp s) = some v3) (x : X) (hx : .tuple #[v1, v2, v3] = val x) (k : Ent L (post x ++ [F])) : HX κ n e L ρ (Done P κ fn val post F) := fun a w ha hw => by
  have : (results fn a.tmps).run P w = .ok (.tuple #[v1, v2, v3]) w := by
    have h1 := slot_getD ha hv
    have h2 := slot_getD ha hv2
    have h3 := slot_getD ha hv3
    simp only [results, hr, ← h1, ← h2, ← h3]
    simp [Sem.run_pure]
  rcases he with rfl | rfl <;> exact ⟨ha.defers, _, this, x, by rw [hx], hw.ent k⟩
end
end
end Go.SL
