/-
  THE LOGIC IN SHORT FORM: what needs no memory is reckoned by one function ('run'); rules that see to their small duties themselves. Conditions: none; it speaks of any program.
-/
import Derived.Test.YtlejcepbcfijiaaGreatDoorSlBits
set_option linter.unusedVariables false
set_option linter.unusedSimpArgs false
namespace Go.SL
open Go
/-! ### 1. What a walk knows of the program's types and fields -/
inductive TK where | boo | ptr | sli | str
structure Tb where mk ::
  und : List (Nat × TK)
  fld : List (Nat × Nat × Nat)
def tbU : List (Nat × TK) → Nat → Option TK
  | [], _ => none
  | (s, k) :: l, t => match Nat.beq s t with | true => some k | false => tbU l t
def tbF : List (Nat × Nat × Nat) → Nat → Nat → Option Nat
  | [], _, _ => none
  | (s, f, fo) :: l, t, g => match Nat.beq s t with | true => (match Nat.beq f g with | true => some fo | false => tbF l t g) | false => tbF l t g
def TK.Ok (P : Program) (t : Nat) : TK → Prop
  | .boo => P.underlying t = some .bool
  | .ptr => ∃ e, P.underlying t = some (.pointer e)
  | .sli => ∃ e, P.underlying t = some (.slice e)
  | .str => P.underlying t = some .string
structure TbOk (P : Program) (T : Tb) : Prop where mk ::
  und : ∀ x ∈ T.und, TK.Ok P x.1 x.2
  fld : ∀ x ∈ T.fld, FieldF P x.1 x.2.1 x.2.2
class HasTb (P : Program) where
  T : Tb
  ok : TbOk P T
class UndC (P : Program) (t : TypeId) (d : outParam TypeDesc) : Prop where
  out : P.underlying t = some d
class TyC (P : Program) (t : TypeId) (sz : outParam Nat) (z : outParam Value) (b : outParam Nat) : Prop where
  out : TyF P t sz z b
theorem tbU_ok {P : Program} {t : Nat} {k : TK} : ∀ {l : List (Nat × TK)}, (∀ x ∈ l, TK.Ok P x.1 x.2) → tbU l t = some k → TK.Ok P t k
  | [], _, h => by simp [tbU] at h
  | (s, k') :: l, hl, h => by
    unfold tbU at h
    split at h
    · rename_i e
      cases h
      have := Nat.eq_of_beq_eq_true e
      subst this
      exact hl (s, k) (by simp)
    · exact tbU_ok (fun x hx => hl x (by simp [hx])) h
theorem tbF_ok {P : Program} {t g fo : Nat} : ∀ {l : List (Nat × Nat × Nat)}, (∀ x ∈ l, FieldF P x.1 x.2.1 x.2.2) → tbF l t g = some fo → FieldF P t g fo
  | [], _, h => by simp [tbF] at h
  | (s, f, fo') :: l, hl, h => by
    unfold tbF at h
    cases e : Nat.beq s t with
    | true =>
      rw [e] at h
      cases e2 : Nat.beq f g with
      | true =>
        rw [e2] at h
        cases h
        have := Nat.eq_of_beq_eq_true e
        have := Nat.eq_of_beq_eq_true e2
        subst s f
        exact hl (t, g, fo) (by simp)
      | false => rw [e2] at h; exact tbF_ok (fun x hx => hl x (by simp [hx])) h
    | false => rw [e] at h; exact tbF_ok (fun x hx => hl x (by simp [hx])) h
/-! ### 2. Operations that need no memory -/
def nth : List Value → Nat → Option Value
  | [], _ => none
  | v :: _, 0 => some v
  | _ :: l, i + 1 => nth l i
theorem nth_eq : ∀ (l : List Value) (i : Nat), nth l i = l[i]?
  | [], i => by simp [nth]
  | v :: l, 0 => by simp [nth]
  | v :: l, i + 1 => by simp [nth, nth_eq l i]
def oevs (ρ : Env) : List Operand → Option (List Value)
  | [] => some []
  | x :: l => match oev ρ x with
    | some v => (match oevs ρ l with | some vs => some (v :: vs) | none => none)
    | none => none
theorem oevs_are {ρ : Env} : ∀ {l : List Operand} {vs : List Value}, oevs ρ l = some vs → ArgsAre ρ l vs
  | [], vs, h => by simp [oevs] at h; subst h; exact .nil
  | x :: l, vs, h => by
    unfold oevs at h
    split at h
    · rename_i v hv
      split at h
      · rename_i ws hw
        cases h
        exact .cons hv (oevs_are hw)
      · cases h
    · cases h
def eqB : Bool → Bool → Bool
  | true, true => true
  | false, false => true
  | true, false => false
  | false, true => false
def eqOp (T : Tb) (ρ : Env) (t : TypeId) (x y : Operand) : Option Bool :=
  match tbU T.und t with
  | some .boo => (match oev ρ x, oev ρ y with | some (.bool a), some (.bool b) => some (eqB a b) | _, _ => none)
  | some .ptr => (match oev ρ x, oev ρ y with | some (.pointer (some _)), some (.pointer none) => some false | some (.pointer none), some (.pointer none) => some true | _, _ => none)
  | _ => none
def pureOp (T : Tb) (ρ : Env) (o : Op) : Option Value :=
  match o with
  | .move x => oev ρ x
  | .assign x => oev ρ x
  | .pick c x y => (match oev ρ c with | some (.bool true) => oev ρ x | some (.bool false) => oev ρ y | _ => none)
  | .unOp .not _ x => (match oev ρ x with | some (.bool true) => some (.bool false) | some (.bool false) => some (.bool true) | _ => none)
  | .extract x i => (match oev ρ x with | some (.tuple ⟨vs⟩) => nth vs i | _ => none)
  | .nilCheck x => (match oev ρ x with | some (.pointer (some p)) => some (.pointer (some p)) | _ => none)
  | .makeFunc f ⟨a⟩ ⟨c⟩ => (match oevs ρ a with | some fv => (match oevs ρ c with | some cv => some (.func f fv.toArray cv.toArray) | none => none) | none => none)
  | .fieldAddr s x f => (match oev ρ x with | some (.pointer (some ⟨b, 0, none⟩)) => (match tbF T.fld s f with | some fo => some (.pointer (some ⟨b, fo, none⟩)) | none => none) | _ => none)
  | .binOp .eql t x y _ => (match eqOp T ρ t x y with | some true => some (.bool true) | some false => some (.bool false) | none => none)
  | .binOp .neq t x y _ => (match eqOp T ρ t x y with | some true => some (.bool false) | some false => some (.bool true) | none => none)
  | .call ⟨.builtin .len, ⟨[x]⟩, ⟨[t]⟩⟩ => (match oev ρ x with
    | some (.slice _ m _) => (match tbU T.und t with | some .sli => some (.int .i64 (m : Int)) | _ => none)
    | some (.string ⟨⟨l⟩⟩) => (match tbU T.und t with | some .str => some (.int .i64 (l.length : Int)) | _ => none)
    | _ => none)
  | _ => none
def guardIs (ops : Array Oper) (ρ : Env) : Option (Nat × Bool) → Option Bool
  | none => some true
  | some (j, b) => match gval ops ρ j with
    | some (.bool true) => some b
    | some (.bool false) => (match b with | true => some false | false => some true)
    | some (.tuple ⟨[]⟩) => some false
    | _ => none
theorem guard_true {ops : Array Oper} {ρ : Env} {o : Oper} (h : guardIs ops ρ o.guard = some true) {n : Nat} {a : Act} (ha : EnvOk n ρ a) : Region.wanted o (yielded ops a.tmps) = true := by
  unfold guardIs at h
  split at h
  · rename_i hg; simp [Region.wanted, hg]
  · rename_i j b hg
    split at h
    · rename_i hv; cases h; simp [Region.wanted, hg, gval_yielded ha hv]
    · rename_i hv
      split at h
      · cases h
      · simp [Region.wanted, hg, gval_yielded ha hv]
    · cases h
    · cases h
theorem guard_false {ops : Array Oper} {ρ : Env} {o : Oper} (h : guardIs ops ρ o.guard = some false) {n : Nat} {a : Act} (ha : EnvOk n ρ a) : Region.wanted o (yielded ops a.tmps) = false := by
  unfold guardIs at h
  split at h
  · cases h
  · rename_i j b hg
    split at h
    · rename_i hv; cases h; simp [Region.wanted, hg, gval_yielded ha hv]
    · rename_i hv
      split at h
      · simp [Region.wanted, hg, gval_yielded ha hv]
      · cases h
    · rename_i hv
      have hu : gval ops ρ j = some undef := hv
      simp [Region.wanted, hg, gval_undef ha hu]
    · cases h
section
variable {P : Program} {κ : World} {n : Nat} {L : List Assn} {ρ : Env} {o : Oper}
theorem eqOp_ev {T : Tb} (hT : TbOk P T) {t u : TypeId} {x y : Operand} {c : BinOp} {b : Bool} (ho : o.op = .binOp c t x y u) (h : eqOp T ρ t x y = some b) (hc : c = .eql ∨ c = .neq) : Ev P κ n L ρ o (.bool (match c with | .eql => b | _ => !b)) := by
  unfold eqOp at h
  split at h
  · rename_i hu
    have hu := tbU_ok hT.und hu
    split at h
    · rename_i a b' hx hy
      cases h
      have e : eqB a b' = (a == b') := by cases a <;> cases b' <;> rfl
      rcases hc with rfl | rfl
      · exact ev_cmpB ho hu hx hy (by simp [e])
      · exact ev_cmpB ho hu hx hy (by simp [e])
    · cases h
  · rename_i hu
    obtain ⟨e, hu⟩ := tbU_ok hT.und hu
    split at h
    · rename_i hx hy
      cases h
      rcases hc with rfl | rfl
      · exact ev_ptrNil ho hu hx hy rfl
      · exact ev_ptrNil ho hu hx hy rfl
    · rename_i hx hy
      cases h
      rcases hc with rfl | rfl
      · exact ev_ptrNil ho hu hx hy rfl
      · exact ev_ptrNil ho hu hx hy rfl
    · cases h
  · cases h
theorem pureOp_ev {T : Tb} (hT : TbOk P T) {v : Value} (h : pureOp T ρ o.op = some v) : Ev P κ n L ρ o v := by
  unfold pureOp at h
  split at h
  · rename_i ho; exact ev_move ho h
  · rename_i ho; exact ev_assign ho h
  · rename_i ho
    split at h
    · rename_i hc; exact ev_pick_t ho hc h
    · rename_i hc; exact ev_pick_f ho hc h
    · cases h
  · rename_i ho
    split at h
    · rename_i hx; cases h; exact ev_not ho hx
    · rename_i hx; cases h; exact ev_not ho hx
    · cases h
  · rename_i ho
    split at h
    · rename_i vs hx; rw [nth_eq] at h; exact ev_extract ho hx (by simpa using h)
    · cases h
  · rename_i ho
    split at h
    · rename_i hx; cases h; exact ev_nilCheck ho hx
    · cases h
  · rename_i ho
    split at h
    · rename_i hf
      split at h
      · rename_i hc; cases h; exact ev_makeFunc ho (oevs_are hf) (oevs_are hc)
      · cases h
    · cases h
  · rename_i ho
    split at h
    · rename_i hx
      split at h
      · rename_i hf; cases h; exact ev_fieldAddr0 ho (tbF_ok hT.fld hf) hx
      · cases h
    · cases h
  · rename_i ho
    split at h
    · rename_i he; cases h; exact eqOp_ev hT ho he (.inl rfl)
    · rename_i he; cases h; exact eqOp_ev hT ho he (.inl rfl)
    · cases h
  · rename_i ho
    split at h
    · rename_i he; cases h; exact eqOp_ev hT ho he (.inr rfl)
    · rename_i he; cases h; exact eqOp_ev hT ho he (.inr rfl)
    · cases h
  · rename_i ho
    split at h
    · rename_i hx
      split at h
      · rename_i hu; cases h
        obtain ⟨e, hu⟩ := tbU_ok hT.und hu
        exact ev_lenSl ho hu hx
      · cases h
    · rename_i hx
      split at h
      · rename_i hu; cases h; exact ev_lenS ho (tbU_ok hT.und hu) hx
      · cases h
    · cases h
  · cases h
end
/-! ### 2b. A struct built of parts of any size -/
def setRow (l : List Value) (off : Nat) : List Value → List Value
  | [] => l
  | v :: vs => setRow (l.set off v) (off + 1) vs
theorem setRow_length : ∀ (vs : List Value) (l : List Value) (off : Nat), (setRow l off vs).length = l.length
  | [], l, off => rfl
  | v :: vs, l, off => by unfold setRow; rw [setRow_length vs, List.length_set]
theorem row_fold (off : Nat) : ∀ (cl l : List Value) (k : Nat), (cl.zipIdx k).foldl (fun (cs : Array Value) (x : Value × Nat) => cs.setIfInBounds (off + x.2) x.1) l.toArray = (setRow l (off + k) cl).toArray
  | [], l, k => rfl
  | v :: cl, l, k => by
    rw [List.zipIdx_cons, List.foldl_cons]
    have e : l.toArray.setIfInBounds (off + k) v = (l.set (off + k) v).toArray := by simp
    rw [e, row_fold off cl]; rfl
def setParts (ps : List (Nat × Nat)) : List Value → List (Nat × List Value) → Option (List Value)
  | l, [] => some l
  | l, (i, cl) :: r => match ps[i]? with
    | some (off, sz) => (match Nat.beq cl.length sz with | true => setParts ps (setRow l off cl) r | false => none)
    | none => none
inductive PartCells : List (Nat × Value) → List (Nat × List Value) → Prop
  | nil : PartCells [] []
  | cons {i : Nat} {v : Value} {cl : List Value} {r : List (Nat × Value)} {s : List (Nat × List Value)} : v.cells = cl.toArray → PartCells r s → PartCells ((i, v) :: r) ((i, cl) :: s)
theorem fill_setParts {ps : List (Nat × Nat)} {vs : List (Nat × Value)} {vc : List (Nat × List Value)} (h : PartCells vs vc) : ∀ {l csl : List Value}, (∀ (i off s : Nat), ps[i]? = some (off, s) → off + s ≤ l.length) → setParts ps l vc = some csl → Instr.fill (fun i : Nat => ps[i]?) l.toArray vs = some csl.toArray := by
  induction h with
  | nil => intro l csl _ h; simp only [setParts, Option.some.injEq] at h; subst h; rfl
  | @cons i v cl r s hv _ ih =>
    intro l csl hps h
    simp only [setParts] at h
    simp only [Instr.fill]
    cases hp : ps[i]? with
    | none => rw [hp] at h; cases h
    | some os =>
      obtain ⟨off, sz⟩ := os
      rw [hp] at h
      have hle := hps i off sz hp
      simp only at h
      split at h
      · rename_i hb
        have hsz := Nat.eq_of_beq_eq_true hb
        have e : (v.cells.zipIdx.foldl (fun cs (x : Value × Nat) => cs.setIfInBounds (off + x.2) x.1) l.toArray) = (setRow l off cl).toArray := by
          rw [hv]
          have := row_fold off cl l 0
          simpa using this
        have hlen : ¬ (v.cells.size ≠ sz ∨ off + v.cells.size > l.toArray.size) := by rw [hv]; simp; omega
        simp only [decide_eq_true_eq, Bool.or_eq_true]
        rw [if_neg hlen]
        have := ih (l := setRow l off cl) (csl := csl) (fun j o t hj => by rw [setRow_length]; exact hps j o t hj) h
        rw [← this, ← e]
      · cases h
section
variable {P : Program} {κ : World} {n : Nat} {L : List Assn} {ρ : Env} {o : Oper}
theorem ev_buildM {t : TypeId} {ps : List (Nat × Nat)} {zl csl : List Value} {xs : List (Nat × Operand)} {vs : List (Nat × Value)} {vc : List (Nat × List Value)} (ho : o.op = .build t xs.toArray) (hs : StructF P t ps zl.toArray) (hxs : PartsAre ρ xs vs) (hpc : PartCells vs vc) (hps : (ps.all fun p => p.1 + p.2 ≤ zl.length) = true) (hf : setParts ps zl vc = some csl) : Ev P κ n L ρ o (.agg csl.toArray) :=
  ev_build ho hs hxs (fill_setParts hpc (fun i off s h => by
    have := List.all_eq_true.1 hps _ (List.mem_of_getElem? h)
    simpa using this) hf)
end
/-! ### 3. What stands behind a piece of code; the reckoning -/
inductive Fr where
  | seq (y : Code)
  | blk (i : Nat)
  | inv (R : Act → World → Prop)
def Kd (P : Program) (Q0 : Exit → Act → World → Prop) : List Fr → Exit → Act → World → Prop
  | [] => Q0
  | .seq y :: K => Exit.then (fun a w => y.wp P (Kd P Q0 K) a w) (Kd P Q0 K)
  | .blk i :: K => Exit.inBlock i (Kd P Q0 K)
  | .inv R :: K => Exit.then R (Kd P Q0 K)
inductive Pt where
  | c (c : Code)
  | o (ops : Array Oper) (l : List Oper)
  | e (e : Exit)
def Den (P : Program) (κ : World) (n : Nat) (Q0 : Exit → Act → World → Prop) (L : List Assn) : Pt → Env → List Fr → Prop
  | .c c, ρ, K => HT P κ n L ρ c (Kd P Q0 K)
  | .o ops l, ρ, K => HOps P κ n ops L ρ l (Kd P Q0 K)
  | .e e, ρ, K => HX κ n e L ρ (Kd P Q0 K)
def run (T : Tb) (n : Nat) : Nat → Pt → Env → List Fr → Option (Pt × Env × List Fr)
  | 0, p, ρ, K => some (p, ρ, K)
  | k + 1, p, ρ, K => match p with
    | .c c => (match c with
      | .seq x y => run T n k (.c x) ρ (.seq y :: K)
      | .skip => run T n k (.e .normal) ρ K
      | .ret => run T n k (.e .ret) ρ K
      | .exit i => run T n k (.e (.exit i)) ρ K
      | .block i c => run T n k (.c c) ρ (.blk i :: K)
      | .region _ ⟨l⟩ false => run T n k (.o l.toArray l) ρ K
      | .cond x a b => (match oev ρ x with | some (.bool true) => run T n k (.c a) ρ K | some (.bool false) => run T n k (.c b) ρ K | _ => none)
      | _ => none)
    | .o ops l => (match l with
      | [] => run T n k (.e .normal) ρ K
      | o :: l => (match guardIs ops ρ o.guard with
        | some true => (match o.dst with
          | some d => (match Nat.blt d n with
            | true => (match pureOp T ρ o.op with | some v => run T n k (.o ops l) ((d, v) :: ρ) K | none => none)
            | false => none)
          | none => none)
        | some false => (match o.dst with
          | some d => (match Nat.blt d n with
            | true => run T n k (.o ops l) ((d, undef) :: ρ) K
            | false => none)
          | none => run T n k (.o ops l) ρ K)
        | none => none))
    | .e e => (match e with
      | .normal => (match K with
        | .seq y :: K => run T n k (.c y) ρ K
        | .blk _ :: K => run T n k (.e .normal) ρ K
        | _ => none)
      | .ret => (match K with
        | _ :: K => run T n k (.e .ret) ρ K
        | [] => none)
      | .exit i => (match K with
        | .blk j :: K => (match Nat.beq i j with | true => run T n k (.e .normal) ρ K | false => run T n k (.e (.exit i)) ρ K)
        | .seq _ :: K => run T n k (.e (.exit i)) ρ K
        | .inv _ :: K => run T n k (.e (.exit i)) ρ K
        | [] => none)
      | _ => none)
section
variable {P : Program} {κ : World} {n : Nat} {Q0 : Exit → Act → World → Prop} {L M R : List Assn} {ρ ρ' : Env} {K K' : List Fr} {p p' : Pt} {ops : Array Oper} {l : List Oper} {o : Oper}
theorem ho_do {X : Type} {L' : X → List Assn} {v : X → Value} {Q : Exit → Act → World → Prop} (hg : guardIs ops ρ o.guard = some true) {d : Nat} (hd : o.dst = some d) (hn : Nat.blt d n = true) (he : Eff P κ n L ρ o L' v)
    (k : ∀ x, HOps P κ n ops (L' x) ((d, v x) :: ρ) l Q) : HOps P κ n ops L ρ (o :: l) Q := fun a w ha hw => by
  refine wpList_step fun K hK => ?_
  rw [if_pos (guard_true hg ha)]
  exact he a w K Q ha hw fun x w' hw' => hK _ _ (k x _ _ (by rw [hd]; exact ha.put (Nat.blt_eq ▸ hn) _) hw')
theorem ho_do0 {X : Type} {L' : X → List Assn} {v : X → Value} {Q : Exit → Act → World → Prop} (hg : guardIs ops ρ o.guard = some true) (hd : o.dst = none) (he : Eff P κ n L ρ o L' v)
    (k : ∀ x, HOps P κ n ops (L' x) ρ l Q) : HOps P κ n ops L ρ (o :: l) Q := fun a w ha hw => by
  refine wpList_step fun K hK => ?_
  rw [if_pos (guard_true hg ha)]
  exact he a w K Q ha hw fun x w' hw' => hK _ _ (k x _ _ (by rw [hd]; exact ha) hw')
theorem ho_no {Q : Exit → Act → World → Prop} (hg : guardIs ops ρ o.guard = some false) {d : Nat} (hd : o.dst = some d) (hn : Nat.blt d n = true) (k : HOps P κ n ops L ((d, undef) :: ρ) l Q) : HOps P κ n ops L ρ (o :: l) Q := fun a w ha hw => by
  refine wpList_step fun K hK => ?_
  rw [if_neg (by rw [guard_false hg ha]; decide)]
  exact hK _ _ (k _ _ (by rw [hd]; exact ha.put (Nat.blt_eq ▸ hn) _) hw)
theorem ho_no0 {Q : Exit → Act → World → Prop} (hg : guardIs ops ρ o.guard = some false) (hd : o.dst = none) (k : HOps P κ n ops L ρ l Q) : HOps P κ n ops L ρ (o :: l) Q := fun a w ha hw => by
  refine wpList_step fun K hK => ?_
  rw [if_neg (by rw [guard_false hg ha]; decide)]
  exact hK _ _ (k _ _ (by rw [hd]; exact ha) hw)
theorem run_sound {T : Tb} (hT : TbOk P T) : ∀ {k : Nat} {p : Pt} {ρ : Env} {K : List Fr}, run T n k p ρ K = some (p', ρ', K') → Den P κ n Q0 L p' ρ' K' → Den P κ n Q0 L p ρ K
  | 0, p, ρ, K, h, g => by
    simp only [run, Option.some.injEq, Prod.mk.injEq] at h
    obtain ⟨rfl, rfl, rfl⟩ := h
    exact g
  | k + 1, p, ρ, K, h, g => by
    unfold run at h
    split at h
    · split at h
      · exact ht_seq (run_sound hT h g)
      · exact ht_skip (run_sound hT h g)
      · exact ht_ret (run_sound hT h g)
      · exact ht_exit (run_sound hT h g)
      · exact ht_block (run_sound hT h g)
      · exact ht_region (run_sound hT h g)
      · split at h
        · rename_i hx; exact ht_then hx (run_sound hT h g)
        · rename_i hx; exact ht_else hx (run_sound hT h g)
        · cases h
      · cases h
    · split at h
      · exact ho_nil (run_sound hT h g)
      · split at h
        · rename_i hg
          split at h
          · rename_i hd
            split at h
            · rename_i hn
              split at h
              · rename_i hv; exact ho_do hg hd hn (pureOp_ev hT hv).eff fun _ => run_sound hT h g
              · cases h
            · cases h
          · cases h
        · rename_i hg
          split at h
          · rename_i hd
            split at h
            · rename_i hn; exact ho_no hg hd hn (run_sound hT h g)
            · cases h
          · rename_i hd; exact ho_no0 hg hd (run_sound hT h g)
        · cases h
    · split at h
      · split at h
        · exact hx_then (show Den P κ n Q0 L _ ρ _ from run_sound hT h g)
        · exact hx_block_normal (show Den P κ n Q0 L (.e .normal) ρ _ from run_sound hT h g)
        · cases h
      · split at h
        · rename_i f K
          have g' : Den P κ n Q0 L (.e .ret) ρ _ := run_sound hT h g
          cases f with
          | seq y => exact hx_through trivial g'
          | blk i => exact hx_block_ret g'
          | inv R => exact hx_through trivial g'
        · cases h
      · rename_i i
        split at h
        · split at h
          · rename_i e
            have := Nat.eq_of_beq_eq_true e
            subst this
            exact hx_block_here (show Den P κ n Q0 L (.e .normal) ρ _ from run_sound hT h g)
          · rename_i e
            exact hx_block_past (by rintro rfl; simp at e) (show Den P κ n Q0 L (.e (.exit i)) ρ _ from run_sound hT h g)
        · exact hx_through trivial (show Den P κ n Q0 L (.e (.exit i)) ρ _ from run_sound hT h g)
        · exact hx_through trivial (show Den P κ n Q0 L (.e (.exit i)) ρ _ from run_sound hT h g)
        · cases h
      · cases h
end
/-! ### 4. Regions that draw their order -/
def nthO : List Oper → Nat → Option Oper
  | [], _ => none
  | o :: _, 0 => some o
  | _ :: l, i + 1 => nthO l i
theorem nthO_eq : ∀ (l : List Oper) (i : Nat), nthO l i = l[i]?
  | [], i => by simp [nthO]
  | o :: l, 0 => by simp [nthO]
  | o :: l, i + 1 => by simp [nthO, nthO_eq l i]
def pureG (T : Tb) (ops : List Oper) (ρ : Env) (o : Oper) : Option Value := match guardIs ops.toArray ρ o.guard with
  | some true => pureOp T ρ o.op
  | some false => some undef
  | none => none
def runD (T : Tb) (n : Nat) (ops : List Oper) (effs : List Nat) : Nat → Tree → List Tr → Env → Option (Tree × List Tr × Env)
  | 0, t, tr, ρ => some (t, tr, ρ)
  | k + 1, t, tr, ρ => match t with
    | .op i is => (match nthO ops i with
      | some o => (match effs.contains i with
        | false => (match o.dst with
          | some d => (match Nat.blt d n with
            | true => (match pureG T ops ρ o with | some v => runD T n ops effs k is (⟨i, ρ, v⟩ :: tr) ((d, v) :: ρ) | none => none)
            | false => none)
          | none => none)
        | true => (match guardIs ops.toArray ρ o.guard with
          | some false => (match o.dst with
            | some d => (match Nat.blt d n with
              | true => runD T n ops effs k is tr ((d, undef) :: ρ)
              | false => none)
            | none => runD T n ops effs k is tr ρ)
          | _ => none))
      | none => none)
    | _ => none
section
variable {P : Program} {κ : World} {n i : Nat} {ops : List Oper} {effs : List Nat} {L : List Assn} {ρ ρ' : Env} {Q : Exit → Act → World → Prop} {is t' : Tree} {tr tr' : List Tr} {o : Oper}
theorem pureG_ev {T : Tb} (hT : TbOk P T) {v : Value} (h : pureG T ops ρ o = some v) : EvG P κ n ops L ρ o v := fun a w ha hw => by
  unfold pureG at h
  split at h
  · rename_i hg; exact .inl ⟨guard_true hg ha, pureOp_ev hT h a w ha hw⟩
  · rename_i hg; cases h; exact .inr ⟨guard_false hg ha, rfl⟩
  · cases h
theorem EvG.go {v : Value} (hg : guardIs ops.toArray ρ o.guard = some true) (h : Ev P κ n L ρ o v) : EvG P κ n ops L ρ o v := fun a w ha hw => .inl ⟨guard_true hg ha, h a w ha hw⟩
theorem FL.pu [HasTb P] {t : Tr} (ho : nthO ops t.i = some o) (h : pureG (HasTb.T P) ops t.ρ o = some t.v) (k : FL P κ n ops i L tr) : FL P κ n ops i L (t :: tr) := FL.ev (by rw [← nthO_eq]; exact ho) (pureG_ev HasTb.ok h) k
theorem hd_do {X : Type} {L' : X → List Assn} {v : X → Value} {d : Nat} (ho : nthO ops i = some o) (he : effs.contains i = true) (hg : guardIs ops.toArray ρ o.guard = some true) (hd : o.dst = some d) (hn : Nat.blt d n = true) (hv : Eff P κ n L ρ o L' v)
    (hf : ∀ x, FL P κ n ops i (L' x) tr) (k : ∀ x, HD P κ n ops effs Q is tr (L' x) ((d, v x) :: ρ)) : HD P κ n ops effs Q (.op i is) tr L ρ :=
  ⟨o, by rw [← nthO_eq]; exact ho, .inr (.inl ⟨by simpa using he, X, L', v, fun a ha => guard_true hg ha, hv, fun d' h => by rw [hd] at h; cases h; exact Nat.blt_eq ▸ hn, hf, fun x => by rw [hd]; exact k x⟩)⟩
theorem hd_do0 {X : Type} {L' : X → List Assn} {v : X → Value} (ho : nthO ops i = some o) (he : effs.contains i = true) (hg : guardIs ops.toArray ρ o.guard = some true) (hd : o.dst = none) (hv : Eff P κ n L ρ o L' v)
    (hf : ∀ x, FL P κ n ops i (L' x) tr) (k : ∀ x, HD P κ n ops effs Q is tr (L' x) ρ) : HD P κ n ops effs Q (.op i is) tr L ρ :=
  ⟨o, by rw [← nthO_eq]; exact ho, .inr (.inl ⟨by simpa using he, X, L', v, fun a ha => guard_true hg ha, hv, fun (d' : Tmp) (h : o.dst = some d') => (by rw [hd] at h; cases h), hf, fun x => by rw [hd]; exact k x⟩)⟩
theorem runD_sound {T : Tb} (hT : TbOk P T) : ∀ {k : Nat} {t : Tree} {tr : List Tr} {ρ : Env}, runD T n ops effs k t tr ρ = some (t', tr', ρ') → HD P κ n ops effs Q t' tr' L ρ' → HD P κ n ops effs Q t tr L ρ
  | 0, t, tr, ρ, h, g => by
    simp only [runD, Option.some.injEq, Prod.mk.injEq] at h
    obtain ⟨rfl, rfl, rfl⟩ := h
    exact g
  | k + 1, t, tr, ρ, h, g => by
    unfold runD at h
    split at h
    · split at h
      · rename_i ho
        split at h
        · rename_i he
          split at h
          · rename_i hd
            split at h
            · rename_i hn
              split at h
              · rename_i hv
                exact hd_ev (by rw [← nthO_eq]; exact ho) he hd hn (pureG_ev hT hv) (runD_sound hT h g)
              · cases h
            · cases h
          · cases h
        · rename_i he
          split at h
          · rename_i hg
            split at h
            · rename_i hd
              split at h
              · rename_i hn
                exact ⟨_, by rw [← nthO_eq]; exact ho, .inr (.inr ⟨by simpa using he, fun a ha => guard_false hg ha, fun d' h => by rw [hd] at h; cases h; exact Nat.blt_eq ▸ hn, by rw [hd]; exact runD_sound hT h g⟩)⟩
              · cases h
            · rename_i hd
              exact ⟨_, by rw [← nthO_eq]; exact ho, .inr (.inr ⟨by simpa using he, fun a ha => guard_false hg ha, fun (d' : Tmp) (h : _ = some d') => (by rw [hd] at h; cases h), by rw [hd]; exact runD_sound hT h g⟩)⟩
          · cases h
      · cases h
    · cases h
end
end Go.SL
