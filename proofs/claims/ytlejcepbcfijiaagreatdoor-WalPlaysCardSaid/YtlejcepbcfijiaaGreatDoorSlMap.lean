/-
  THE LOGIC's RULES FOR LITERALS AND FOR MAPS KEYED BY int. Conditions: none; it speaks of any program.
-/
import Derived.Test.YtlejcepbcfijiaaGreatDoorSlCall
set_option linter.unusedVariables false
set_option linter.unusedSimpArgs false
namespace Go.SL
open Go
open Enc (sz enc)

/-! ### 1. Literals -/
inductive PartsAre (ρ : Env) : List (Nat × Operand) → List (Nat × Value) → Prop
  | nil : PartsAre ρ [] []
  | cons {i : Nat} {x : Operand} {v : Value} {xs : List (Nat × Operand)} {vs : List (Nat × Value)} : oev ρ x = some v → PartsAre ρ xs vs → PartsAre ρ ((i, x) :: xs) ((i, v) :: vs)
theorem PartsAre.eval {n : Nat} {ρ : Env} {a : Act} (ha : EnvOk n ρ a) {xs : List (Nat × Operand)} {vs : List (Nat × Value)} (h : PartsAre ρ xs vs) : (xs.map fun p => (p.1, a.eval p.2)) = vs := by
  induction h with
  | nil => rfl
  | cons hx _ ih => simp only [List.map_cons, ih, ha.eval hx]
/-- the struct type's places (offset, cells), and its zero value's cells -/
structure StructF (P : Program) (t : TypeId) (ps : List (Nat × Nat)) (zc : Array Value) : Prop where mk ::
  run : ∀ (vs : List (Nat × Value)) (cs : Array Value) (w : World), Instr.fill (fun i : Nat => ps[i]?) zc vs = some cs → (Instr.build t vs.toArray).run P w = .ok (.agg cs) w
theorem StructF.of {P : Program} {t : TypeId} {fs : Array Field} {ps : List (Nat × Nat)} {z : Value} {sz by_ : Nat} (hu : P.underlying t = some (.struct fs)) (ht : TyF P t sz z by_) (hm : ∀ w, (fs.mapM fun f => do pure (f.offset, ← sizeOf f.type) : Sem (Array (Nat × Nat))).run P w = .ok ps.toArray w) : StructF P t ps z.cells :=
  ⟨fun vs cs w hf => by
    have h1 : (fun i : Nat => ps.toArray[i]?) = (fun i : Nat => ps[i]?) := by funext i; simp
    simp only [Instr.build, Sem.run_bind, ht.run_zero, Result.andThen_ok, run_underlying hu, hm, h1, hf]
    rfl⟩
section
variable {P : Program} {κ : World} {n : Nat} {L M R : List Assn} {ρ : Env} {ops : Array Oper} {o : Oper} {l : List Oper} {Q : Exit → Act → World → Prop}
theorem ev_build {t : TypeId} {ps : List (Nat × Nat)} {zc cs : Array Value} {xs : List (Nat × Operand)} {vs : List (Nat × Value)} (ho : o.op = .build t xs.toArray) (hs : StructF P t ps zc) (hxs : PartsAre ρ xs vs) (hf : Instr.fill (fun i : Nat => ps[i]?) zc vs = some cs) : Ev P κ n L ρ o (.agg cs) := fun a w ha hw => by
  have e : (xs.toArray.map fun p => (p.1, a.eval p.2)) = vs.toArray := by rw [List.map_toArray, hxs.eval ha]
  have e' : (xs.toArray.map fun (i, x) => (i, a.eval x)) = vs.toArray := e
  simp only [execOp, ho, e', Sem.run_bind, hs.run vs cs w hf, Result.andThen_ok, Sem.run_pure]
/-- parts of one cell each -/
def setMany (ps : List (Nat × Nat)) : List Value → List (Nat × Value) → Option (List Value)
  | l, [] => some l
  | l, (i, v) :: r => match ps[i]? with
    | some (off, 1) => setMany ps (l.set off v) r
    | _ => none
inductive OneAll : List (Nat × Value) → Prop
  | nil : OneAll []
  | cons {i : Nat} {v : Value} {r : List (Nat × Value)} : v.cells = #[v] → OneAll r → OneAll ((i, v) :: r)
theorem fill_setMany {ps : List (Nat × Nat)} {vs : List (Nat × Value)} (h : OneAll vs) : ∀ {l csl : List Value}, (∀ (i off s : Nat), ps[i]? = some (off, s) → off + s ≤ l.length) → setMany ps l vs = some csl → Instr.fill (fun i : Nat => ps[i]?) l.toArray vs = some csl.toArray := by
  induction h with
  | nil => intro l csl _ h; simp only [setMany, Option.some.injEq] at h; subst h; rfl
  | @cons i v r hv _ ih =>
    intro l csl hps h
    simp only [setMany] at h
    simp only [Instr.fill]
    cases hp : ps[i]? with
    | none => rw [hp] at h; cases h
    | some os =>
      obtain ⟨off, s⟩ := os
      rw [hp] at h
      have hle := hps i off s hp
      by_cases hs : s = 1
      · subst hs
        simp only at h
        have e : (v.cells.zipIdx.foldl (fun cs (x : Value × Nat) => cs.setIfInBounds (off + x.2) x.1) l.toArray) = (l.set off v).toArray := by rw [hv]; simp
        have hlen : ¬ (v.cells.size ≠ 1 ∨ off + v.cells.size > l.toArray.size) := by rw [hv]; simp; omega
        simp only [decide_eq_true_eq, Bool.or_eq_true]
        rw [if_neg hlen]
        have := ih (l := l.set off v) (csl := csl) (fun j o t hj => by rw [List.length_set]; exact hps j o t hj) h
        rw [← this]
        congr 1
      · split at h
        · rename_i h'; simp only [Option.some.injEq, Prod.mk.injEq] at h'; exact absurd h'.2 hs
        · cases h
theorem ev_build1 {t : TypeId} {ps : List (Nat × Nat)} {zl csl : List Value} {xs : List (Nat × Operand)} {vs : List (Nat × Value)} (ho : o.op = .build t xs.toArray) (hs : StructF P t ps zl.toArray) (hxs : PartsAre ρ xs vs) (hone : OneAll vs) (hps : (ps.all fun p => p.1 + p.2 ≤ zl.length) = true) (hf : setMany ps zl vs = some csl) : Ev P κ n L ρ o (.agg csl.toArray) :=
  ev_build ho hs hxs (fill_setMany hone (fun i off s h => by
    have := List.all_eq_true.1 hps _ (List.mem_of_getElem? h)
    simpa using this) hf)
theorem eff_buildSlice {α : Type} [Enc α] {t E : TypeId} {by_ len : Nat} {z : Value} {xs : List (Nat × Operand)} {vs : List (Nat × Value)} {ys : List α} (ho : o.op = .buildSlice t len xs.toArray) (ht : P.underlying t = some (.slice E)) (hE : TyF P E (sz α) z by_) (hxs : PartsAre ρ xs vs) (hlen : ys.length = len) (hsmall : ¬ len * sz α > 2 ^ 24)
    (hf : Instr.fill (fun i => some (i * sz α, sz α)) ((Array.range (len * sz α)).map fun i => (if len * sz α = 0 then #[] else z.cells)[i % (if len * sz α = 0 then #[] else z.cells).size]!) vs = some (flat ys).toArray) :
    Eff P κ n L ρ o (fun b : Nat => ownS E (some ⟨b, 0, none⟩) len len ys :: L) (fun b => .slice (some ⟨b, 0, none⟩) len len) := fun a w K Q ha hw hk => by
  have e' : (xs.toArray.map fun (i, x) => (i, a.eval x)) = vs.toArray := by
    have e : (xs.toArray.map fun p => (p.1, a.eval p.2)) = vs.toArray := by rw [List.map_toArray, hxs.eval ha]
    exact e
  have hrun : (Instr.buildSlice t len vs.toArray).run P w = .ok (.slice (some ⟨w.heap.size, 0, none⟩) len len) (w.alloc (.cells (flat ys).toArray E)) := by
    simp only [Instr.buildSlice, Sem.run_bind, run_underlying ht, Result.andThen_ok, hE.run_size]
    rw [if_neg hsmall]
    by_cases h0 : len * sz α = 0
    · rw [if_pos h0]
      rw [if_pos h0] at hf
      simp only [pure_bind, hf]
      rfl
    · rw [if_neg h0]
      rw [if_neg h0] at hf
      simp only [Sem.run_bind, hE.run_zero, pure_bind, Result.andThen_ok, hf]
      rfl
  have : (execOp a.eval o).run P w = .ok (.value (.slice (some ⟨w.heap.size, 0, none⟩) len len)) (w.alloc (.cells (flat ys).toArray E)) := by
    simp only [execOp, ho, e', Sem.run_bind, hrun, Result.andThen_ok, Sem.run_pure]
  simp only [Oper.wp, this]
  have hr := Row.fresh ys #[]
  rw [Array.append_empty] at hr
  exact hk w.heap.size _ ((hw.alloc _).ent (ownS_close (by simp [flat_length, hlen]) hr hlen (Nat.le_refl _)))

end
/-- the parts are all elements, from number i on -/
inductive ElemsAre {α : Type} [Enc α] : Nat → List (Nat × Value) → List α → Prop
  | nil {i : Nat} : ElemsAre i [] []
  | cons {i : Nat} {v : Value} {y : α} {vs : List (Nat × Value)} {ys : List α} : v.cells = (enc y).toArray → ElemsAre (i + 1) vs ys → ElemsAre i ((i, v) :: vs) (y :: ys)
theorem foldl_setRange (off : Nat) : ∀ (cs : List Value) (k : Nat) (c : Array Value), ((cs.zipIdx k).foldl (fun a (x : Value × Nat) => a.setIfInBounds (off + x.2) x.1) c) = setRange c (off + k) cs
  | [], k, c => rfl
  | v :: cs, k, c => by
    rw [List.zipIdx_cons, List.foldl_cons, foldl_setRange off cs (k + 1)]
    rfl
theorem fill_elems {α : Type} [Enc α] : ∀ {i : Nat} {vs : List (Nat × Value)} {ys : List α}, ElemsAre i vs ys → ∀ (done : List α) (c : Array Value), done.length = i → c.size = (i + ys.length) * sz α → Row c 0 done → ∃ c', Instr.fill (fun j => some (j * sz α, sz α)) c vs = some c' ∧ c'.size = c.size ∧ Row c' 0 (done ++ ys)
  | i, _, _, .nil, done, c, hd, hs, hr => ⟨c, rfl, rfl, by simpa using hr⟩
  | i, _, _, .cons (v := v) (y := y) (vs := vs) (ys := ys) hv h, done, c, hd, hs, hr => by
    have hlen : v.cells.size = sz α := by rw [hv]; simp [Enc.len]
    have hfit : (i + 1) * sz α ≤ c.size := by rw [hs, List.length_cons]; exact Nat.mul_le_mul_right _ (by omega)
    rw [Nat.succ_mul] at hfit
    have hf : (v.cells.zipIdx.foldl (fun (cs : Array Value) (x : Value × Nat) => cs.setIfInBounds (i * sz α + x.2) x.1) c) = setRange c (done.length * sz α) (flat [y]) := by
      rw [hv, hd]
      have := foldl_setRange (i * sz α) (enc y) 0 c
      simpa [flat] using this
    have hcap : c.size = (i + (ys.length + 1)) * sz α := hs
    obtain ⟨c', h1, h2, h3⟩ := fill_elems h (done ++ [y]) (setRange c (done.length * sz α) (flat [y])) (by simp [hd]) (by rw [setRange_size, hs, List.length_cons]; congr 1; omega) (hr.grow hcap (by rw [hd]; simp))
    refine ⟨c', ?_, by rw [h2, setRange_size], by simpa using h3⟩
    simp only [Instr.fill]
    rw [if_neg (by rw [hlen]; simp; omega)]
    have hf' : (v.cells.zipIdx.foldl (fun (cs : Array Value) (x : Value × Nat) => match x with | (c, j) => cs.setIfInBounds (i * sz α + j) c) c) = setRange c (done.length * sz α) (flat [y]) := hf
    rw [hf']
    exact h1
section
variable {P : Program} {κ : World} {n : Nat} {L M R : List Assn} {ρ : Env} {ops : Array Oper} {o : Oper} {l : List Oper} {Q : Exit → Act → World → Prop}
theorem eff_buildAll {α : Type} [Enc α] {t E : TypeId} {by_ len : Nat} {z : Value} {xs : List (Nat × Operand)} {vs : List (Nat × Value)} (ys : List α) (ho : o.op = .buildSlice t len xs.toArray) (ht : P.underlying t = some (.slice E)) (hE : TyF P E (sz α) z by_) (hxs : PartsAre ρ xs vs) (hys : ElemsAre 0 vs ys) (hlen : ys.length = len) (hsmall : len * sz α ≤ 16777216) :
    Eff P κ n L ρ o (fun b : Nat => ownS E (some ⟨b, 0, none⟩) len len ys :: L) (fun b => .slice (some ⟨b, 0, none⟩) len len) := by
  subst hlen
  obtain ⟨c', h1, h2, h3⟩ := fill_elems hys [] ((Array.range (ys.length * sz α)).map fun i => (if ys.length * sz α = 0 then #[] else z.cells)[i % (if ys.length * sz α = 0 then #[] else z.cells).size]!) rfl (by simp) (Row.nil _ _)
  refine eff_buildSlice ho ht hE hxs rfl (by omega) ?_
  rw [h1]
  congr 1
  have hsz : c'.size = ys.length * sz α := by rw [h2]; simp
  have he := h3.extract
  rw [Nat.zero_add, List.nil_append, ← hsz] at he
  rw [← he]; simp
end
section
variable {P : Program} {κ : World} {n : Nat} {L M R : List Assn} {ρ : Env} {ops : Array Oper} {o : Oper} {l : List Oper} {Q : Exit → Act → World → Prop}
/-! ### 2. Maps keyed by int -/
structure EntOk (en : List MapEntry) (clock : Nat) (es : List (Int × Value)) : Prop where mk ::
  kv : (en.map fun e => (e.key, e.val)) = es.map fun x => (Value.int .i64 x.1, x.2)
  born : (en.map fun e => e.born).Nodup
  lt : ∀ e ∈ en, e.born < clock
  keys : (es.map fun x => x.1).Nodup
/-- the map in block b: its entries in their order -/
def mapI (b : Nat) (es : List (Int × Value)) : Assn :=
  ⟨fun p _ => ∃ (en : List MapEntry) (clock : Nat), p b = some (.map en.toArray clock) ∧ EntOk en clock es,
   fun ⟨en, c, h1, h2⟩ hp _ => ⟨en, c, hp.out _ _ h1, h2⟩⟩
def getI (es : List (Int × Value)) (k : Int) : Option Value := (es.find? (·.1 == k)).map (·.2)
def putI (es : List (Int × Value)) (k : Int) (v : Value) : List (Int × Value) := match es.findIdx? (·.1 == k) with | some j => es.set j (k, v) | none => es ++ [(k, v)]
def delI (es : List (Int × Value)) (k : Int) : List (Int × Value) := match es.findIdx? (·.1 == k) with | some j => es.eraseIdx j | none => es
theorem eff_makeMap {t : TypeId} (ho : o.op = .makeMap t none) : Eff P κ n L ρ o (fun b : Nat => mapI b [] :: L) (fun b => .map (some b)) := fun a w K Q ha hw hk => by
  have : (execOp a.eval o).run P w = .ok (.value (.map (some w.heap.size))) (w.alloc (.map #[] 0)) := by
    simp only [execOp, ho, Option.map_none, Instr.makeMap]
    rfl
  simp only [Oper.wp, this]
  refine hk _ _ ((hw.alloc _).ent fun p r ⟨p1, p2, k1, k2, k3, hA, hL⟩ => ⟨p1, p2, k1, k2, k3, ⟨[], 0, hA, ⟨rfl, by simp, by simp, by simp⟩⟩, hL⟩)
theorem mapI_open {b : Nat} {es : List (Int × Value)} {w : World} (hw : Sat κ (mapI b es :: R) w) : ∃ (en : List MapEntry) (clock : Nat), Sat κ (pt b (.map en.toArray clock) :: R) w ∧ EntOk en clock es := by
  obtain ⟨p, r, h1, h2, h3, p1, p2, k1, k2, k3, ⟨en, clock, hA, hB⟩, hL⟩ := hw.sep
  exact ⟨en, clock, ⟨hw.os, hw.tape, hw.output, p, r, h1, h2, h3, p1, p2, k1, k2, k3, hA, hL⟩, hB⟩
theorem mapI_close {b : Nat} {es : List (Int × Value)} {en : List MapEntry} {clock : Nat} (h : EntOk en clock es) : Ent (pt b (.map en.toArray clock) :: R) (mapI b es :: R) := fun p r ⟨p1, p2, k1, k2, k3, hA, hL⟩ => ⟨p1, p2, k1, k2, k3, ⟨en, clock, hA, h⟩, hL⟩
theorem run_checkKeyI {K : TypeId} (hK : P.underlying K = some (.int .i64)) (em : Bool) (m : Nat) (v : Value) (w : World) : (Instr.checkKey em (m + 1) K v).run P w = .ok () w := by
  cases v <;> simp [Instr.checkKey, run_underlying hK]
/-- where the key is found -/
theorem findNow_I (k : Int) : ∀ (en : List MapEntry) (es : List (Int × Value)) (i : Nat), (en.map fun e => (e.key, e.val)) = es.map (fun x => (Value.int .i64 x.1, x.2)) →
    Instr.findNow (.int .i64) (.int .i64 k) en i = some ((es.findIdx? (·.1 == k)).bind fun j => (es[j]?).map fun x => (i + j, x.2))
  | [], es, i, h => by
    obtain rfl : es = [] := by cases es <;> simp at h ⊢
    simp [Instr.findNow]
  | e :: en, [], i, h => by simp at h
  | e :: en, x :: es, i, h => by
    simp only [List.map_cons, List.cons.injEq, Prod.mk.injEq] at h
    obtain ⟨⟨hk, hv⟩, ht⟩ := h
    have ih := findNow_I k en es (i + 1) ht
    simp only [Instr.findNow, hk, Instr.sameNow, if_true]
    by_cases hx : x.1 = k
    · subst hx
      simp [List.findIdx?_cons, hv]
    · have h1 : (k == x.1) = false := by simpa using fun h => hx h.symm
      have h2 : (x.1 == k) = false := by simpa using hx
      rw [h1]
      simp only [ih, List.findIdx?_cons, h2]
      cases es.findIdx? (·.1 == k) with
      | none => simp
      | some j => simp [Nat.add_assoc, Nat.add_comm 1 j]
theorem run_findKeyI {K : TypeId} (hK : P.underlying K = some (.int .i64)) {k : Int} {en : List MapEntry} {es : List (Int × Value)} (h : (en.map fun e => (e.key, e.val)) = es.map (fun x => (Value.int .i64 x.1, x.2))) (w : World) :
    (Instr.findKey K (.int .i64 k) en).run P w = .ok ((es.findIdx? (·.1 == k)).bind fun j => (es[j]?).map fun x => (j, x.2)) w := by
  simp only [Instr.findKey, Sem.run_bind, run_underlying hK, Result.andThen_ok, findNow_I k en es 0 h, Nat.zero_add, Sem.run_pure]
theorem getI_findIdx (es : List (Int × Value)) (k : Int) : getI es k = (es.findIdx? (·.1 == k)).bind fun j => (es[j]?).map (·.2) := by
  unfold getI
  induction es with
  | nil => simp
  | cons x es ih =>
    by_cases hx : (x.1 == k) = true
    · simp [List.find?_cons, List.findIdx?_cons, hx]
    · simp only [List.find?_cons, List.findIdx?_cons, hx, Bool.false_eq_true, if_false]
      rw [ih]
      cases es.findIdx? (·.1 == k) <;> simp
theorem ev_lookupOkI {T K V : TypeId} {x y : Operand} {b : Nat} {k : Int} {es : List (Int × Value)} {sz by_ : Nat} {z : Value} (ho : o.op = .lookup T x y true) (hT : P.underlying T = some (.map K V)) (hK : P.underlying K = some (.int .i64)) (hV : TyF P V sz z by_)
    (hx : oev ρ x = some (.map (some b))) (hy : oev ρ y = some (.int .i64 k)) (hp : Pick (mapI b es) L R) {v : Value} {ok : Bool} (hv : (getI es k).getD z = v) (hok : (getI es k).isSome = ok) : Ev P κ n L ρ o (.tuple #[v, .bool ok]) := fun a w ha hw => by
  subst hv; subst hok
  obtain ⟨en, clock, hw', hen⟩ := mapI_open (hw.ent (Ent.pick hp))
  have hb := hw'.heap .here
  have hg : (getObj b).run P w = .ok (.map en.toArray clock) w := by simp [getObj, Sem.run, hb]
  simp only [execOp, ho, ha.eval hx, ha.eval hy, Instr.lookup, Sem.run_bind, run_underlying hT, Result.andThen_ok, hg, Sem.run_pure, run_checkKeyI hK, List.toList_toArray, run_findKeyI hK hen.kv]
  rw [getI_findIdx]
  cases hf : es.findIdx? (·.1 == k) with
  | none => simp [hV.run_zero]
  | some j =>
    have hj : j < es.length := (List.findIdx?_eq_some_iff_getElem.1 hf).1
    simp [List.getElem?_eq_getElem hj]
theorem ev_lookupI {T K V : TypeId} {x y : Operand} {b : Nat} {k : Int} {es : List (Int × Value)} {sz by_ : Nat} {z : Value} (ho : o.op = .lookup T x y false) (hT : P.underlying T = some (.map K V)) (hK : P.underlying K = some (.int .i64)) (hV : TyF P V sz z by_)
    (hx : oev ρ x = some (.map (some b))) (hy : oev ρ y = some (.int .i64 k)) (hp : Pick (mapI b es) L R) {v : Value} (hv : (getI es k).getD z = v) : Ev P κ n L ρ o v := fun a w ha hw => by
  subst hv
  obtain ⟨en, clock, hw', hen⟩ := mapI_open (hw.ent (Ent.pick hp))
  have hb := hw'.heap .here
  have hg : (getObj b).run P w = .ok (.map en.toArray clock) w := by simp [getObj, Sem.run, hb]
  simp only [execOp, ho, ha.eval hx, ha.eval hy, Instr.lookup, Sem.run_bind, run_underlying hT, Result.andThen_ok, hg, Sem.run_pure, run_checkKeyI hK, List.toList_toArray, run_findKeyI hK hen.kv]
  rw [getI_findIdx]
  cases hf : es.findIdx? (·.1 == k) with
  | none => simp [hV.run_zero]
  | some j =>
    have hj : j < es.length := (List.findIdx?_eq_some_iff_getElem.1 hf).1
    simp [List.getElem?_eq_getElem hj]
theorem ev_lenI {T K V : TypeId} {x : Operand} {b : Nat} {es : List (Int × Value)} (ho : o.op = .call { callee := .builtin .len, args := #[x], argTypes := #[T] }) (hT : P.underlying T = some (.map K V)) (hx : oev ρ x = some (.map (some b))) (hp : Pick (mapI b es) L R) : Ev P κ n L ρ o (.int .i64 es.length) := fun a w ha hw => by
  obtain ⟨en, clock, hw', hen⟩ := mapI_open (hw.ent (Ent.pick hp))
  have hb := hw'.heap .here
  have hg : (getObj b).run P w = .ok (.map en.toArray clock) w := by simp [getObj, Sem.run, hb]
  have hl : en.length = es.length := by have := congrArg List.length hen.kv; simpa using this
  simp only [execOp, ho, resolve, Sem.run_bind, Sem.run_pure, Result.andThen_ok, invoke, builtin, List.map_toArray, List.map_cons, List.map_nil, ha.eval hx]
  simp [Builtin.len_, run_underlying hT, hg, goInt, hl]

/-! stores and deletions -/
theorem findIdx_key {es : List (Int × Value)} {k : Int} {j : Nat} (h : es.findIdx? (·.1 == k) = some j) : ∃ hj : j < es.length, (es[j]'hj).1 = k := by
  obtain ⟨hj, h1, _⟩ := List.findIdx?_eq_some_iff_getElem.1 h
  exact ⟨hj, by simpa using h1⟩
theorem findIdx_no {es : List (Int × Value)} {k : Int} (h : es.findIdx? (·.1 == k) = none) : ∀ x ∈ es, x.1 ≠ k := by
  intro x hx
  have := List.findIdx?_eq_none_iff.1 h x hx
  simpa using this
theorem EntOk.put {en : List MapEntry} {clock : Nat} {es : List (Int × Value)} (h : EntOk en clock es) (k : Int) (v : Value) :
    match es.findIdx? (·.1 == k) with
    | some j => EntOk (en.modify j fun e => { e with key := .int .i64 k, val := v }) clock (putI es k v)
    | none => EntOk (en ++ [{ key := .int .i64 k, val := v, born := clock }]) (clock + 1) (putI es k v) := by
  have hl : en.length = es.length := by have := congrArg List.length h.kv; simpa using this
  unfold putI
  cases hf : es.findIdx? (·.1 == k) with
  | none =>
    simp only
    refine ⟨by simp [h.kv], ?_, ?_, ?_⟩
    · rw [List.map_append, List.nodup_append]
      refine ⟨h.born, by simp, ?_⟩
      intro a ha b hb
      simp at hb; subst hb
      obtain ⟨e, he, rfl⟩ := List.mem_map.1 ha
      exact Nat.ne_of_lt (h.lt e he)
    · intro e he
      rcases List.mem_append.1 he with he | he
      · exact Nat.lt_succ_of_lt (h.lt e he)
      · simp at he; subst he; simp
    · rw [List.map_append, List.nodup_append]
      refine ⟨h.keys, by simp, ?_⟩
      intro a ha b hb
      simp at hb; subst hb
      obtain ⟨x, hx, rfl⟩ := List.mem_map.1 ha
      exact findIdx_no hf x hx
  | some j =>
    obtain ⟨hj, hk⟩ := findIdx_key hf
    have hj' : j < en.length := by omega
    simp only
    have hborn : ((en.modify j fun e => { e with key := .int .i64 k, val := v }).map fun e => e.born) = en.map fun e => e.born := by
      apply List.ext_getElem
      · simp
      · intro i h1 h2
        simp only [List.getElem_map, List.getElem_modify]
        split <;> rfl
    refine ⟨?_, by rw [hborn]; exact h.born, ?_, ?_⟩
    · apply List.ext_getElem
      · simp [hl]
      · intro i h1 h2
        have h1' : i < en.length := by simpa using h1
        have h2' : i < es.length := by omega
        have hi := congrArg (fun l => l[i]?) h.kv
        simp only [List.getElem?_map, List.getElem?_eq_getElem h1', List.getElem?_eq_getElem h2', Option.map_some, Option.some.injEq] at hi
        simp only [List.getElem_map, List.getElem_modify, List.getElem_set]
        split
        · rfl
        · exact hi
    · intro e he
      obtain ⟨i, hi, rfl⟩ := List.mem_iff_getElem.1 he
      simp only [List.getElem_modify]
      have hi' : i < en.length := by simpa using hi
      have := h.lt _ (List.getElem_mem hi')
      split
      · exact this
      · exact this
    · have : (es.set j (k, v)).map (fun x => x.1) = es.map fun x => x.1 := by
        apply List.ext_getElem
        · simp
        · intro i h1 h2
          simp only [List.getElem_map, List.getElem_set]
          split
          · rename_i hij; subst hij; exact hk.symm
          · rfl
      rw [this]; exact h.keys
theorem EntOk.del {en : List MapEntry} {clock : Nat} {es : List (Int × Value)} (h : EntOk en clock es) {k : Int} {j : Nat} (hf : es.findIdx? (·.1 == k) = some j) : EntOk (en.eraseIdx j) clock (delI es k) := by
  unfold delI
  rw [hf]
  have e1 : ∀ {α β : Type} (l : List α) (f : α → β), (l.eraseIdx j).map f = (l.map f).eraseIdx j := fun l f => by
    apply List.ext_getElem?
    intro i
    simp only [List.getElem?_map, List.getElem?_eraseIdx]
    split <;> rfl
  refine ⟨by rw [e1, e1, h.kv], by rw [e1]; exact h.born.eraseIdx _, fun e he => h.lt e (List.mem_of_mem_eraseIdx he), by simp only; rw [e1]; exact h.keys.eraseIdx _⟩
theorem sameBits_int (k : Int) : Instr.sameBits 10000 (.int .i64 k) (.int .i64 k) = true := by simp [Instr.sameBits]
theorem eff_putI {T K V : TypeId} {x y u : Operand} {b : Nat} {k : Int} {v : Value} {es : List (Int × Value)} (ho : o.op = .mapUpdate T x y u) (hT : P.underlying T = some (.map K V)) (hK : P.underlying K = some (.int .i64))
    (hx : oev ρ x = some (.map (some b))) (hy : oev ρ y = some (.int .i64 k)) (hu : oev ρ u = some v) (hp : Pick (mapI b es) L R) : Eff P κ n L ρ o (fun _ : Unit => mapI b (putI es k v) :: R) (fun _ => undef) := fun a w K' Q ha hw hk => by
  obtain ⟨en, clock, hw', hen⟩ := mapI_open (hw.ent (Ent.pick hp))
  have hb := hw'.heap .here
  have hg : (getObj b).run P w = .ok (.map en.toArray clock) w := by simp [getObj, Sem.run, hb]
  have hset : ∀ o' : Obj, (∀ c E f, o' ≠ .cells c E f) → (setObj b o').run P w = .ok () (setObj' w b o') := fun o' _ => by simp [setObj, Sem.run, hb, setObj']
  have hput := hen.put k v
  have hl : en.length = es.length := by have := congrArg List.length hen.kv; simpa using this
  cases hf : es.findIdx? (·.1 == k) with
  | none =>
    rw [hf] at hput
    simp only at hput
    have hfk : (Instr.findKey K (.int .i64 k) en).run P w = .ok none w := by rw [run_findKeyI hK hen.kv, hf]; rfl
    have : (execOp a.eval o).run P w = .ok .skip (setObj' w b (.map (en ++ [({ key := .int .i64 k, val := v, born := clock } : MapEntry)]).toArray (clock + 1))) := by
      simp only [execOp, ho, ha.eval hx, ha.eval hy, ha.eval hu, Instr.mapUpdate, Sem.run_bind, run_underlying hT, Result.andThen_ok, hg, run_checkKeyI hK, hfk]
      rw [hset _ (by simp)]
      simp
    simp only [Oper.wp, this]
    exact hk () _ ((hw'.set .here _).ent (mapI_close hput))
  | some j =>
    rw [hf] at hput
    simp only at hput
    obtain ⟨hj, hkey⟩ := findIdx_key hf
    have hj' : j < en.length := by omega
    have hfk : (Instr.findKey K (.int .i64 k) en).run P w = .ok (some (j, (es[j]'hj).2)) w := by rw [run_findKeyI hK hen.kv, hf]; simp [List.getElem?_eq_getElem hj]
    have hek : (en[j]'hj').key = .int .i64 k := by
      have hi := congrArg (fun l => l[j]?) hen.kv
      simp only [List.getElem?_map, List.getElem?_eq_getElem hj', List.getElem?_eq_getElem hj, Option.map_some, Option.some.injEq, Prod.mk.injEq] at hi
      rw [hi.1, hkey]
    have hmod : en.toArray.modify j (fun e : MapEntry => { e with key := .int .i64 k, val := v }) = (en.modify j fun e => { e with key := .int .i64 k, val := v }).toArray := by simp
    have : (execOp a.eval o).run P w = .ok .skip (setObj' w b (.map (en.modify j fun e : MapEntry => { e with key := .int .i64 k, val := v }).toArray clock)) := by
      simp only [execOp, ho, ha.eval hx, ha.eval hy, ha.eval hu, Instr.mapUpdate, Sem.run_bind, run_underlying hT, Result.andThen_ok, hg, run_checkKeyI hK, hfk]
      simp only [List.getElem?_toArray, List.getElem?_eq_getElem hj', Option.map_some, Option.getD_some, hek, Instr.keyThatStays, sameBits_int, if_true, Sem.run_pure, Result.andThen_ok]
      rw [hmod, hset _ (by simp)]
      rfl
    simp only [Oper.wp, this]
    exact hk () _ ((hw'.set .here _).ent (mapI_close hput))
theorem eff_delI {T K V : TypeId} {x y : Operand} {b : Nat} {k : Int} {es : List (Int × Value)} (ho : o.op = .call { callee := .builtin .delete, args := #[x, y], argTypes := #[T, K] }) (hT : P.underlying T = some (.map K V)) (hK : P.underlying K = some (.int .i64))
    (hx : oev ρ x = some (.map (some b))) (hy : oev ρ y = some (.int .i64 k)) (hp : Pick (mapI b es) L R) : Eff P κ n L ρ o (fun _ : Unit => mapI b (delI es k) :: R) (fun _ => .tuple #[]) := fun a w K' Q ha hw hk => by
  obtain ⟨en, clock, hw', hen⟩ := mapI_open (hw.ent (Ent.pick hp))
  have hb := hw'.heap .here
  have hg : (getObj b).run P w = .ok (.map en.toArray clock) w := by simp [getObj, Sem.run, hb]
  have hset : ∀ o' : Obj, (setObj b o').run P w = .ok () (setObj' w b o') := fun o' => by simp [setObj, Sem.run, hb, setObj']
  cases hf : es.findIdx? (·.1 == k) with
  | none =>
    have hd : delI es k = es := by unfold delI; rw [hf]
    have hfk : (Instr.findKey K (.int .i64 k) en).run P w = .ok none w := by rw [run_findKeyI hK hen.kv, hf]; rfl
    have : (execOp a.eval o).run P w = .ok (.value (.tuple #[])) (setObj' w b (.map en.toArray clock)) := by
      simp only [execOp, ho, resolve, Sem.run_bind, Sem.run_pure, Result.andThen_ok, invoke, builtin, List.map_toArray, List.map_cons, List.map_nil, ha.eval hx, ha.eval hy]
      simp [Builtin.delete_, run_underlying hT, hg, run_checkKeyI hK, hfk, hset]
    simp only [Oper.wp, this]
    exact hk () _ ((hw'.set .here _).ent (mapI_close (hd.symm ▸ hen)))
  | some j =>
    obtain ⟨hj, hkey⟩ := findIdx_key hf
    have hfk : (Instr.findKey K (.int .i64 k) en).run P w = .ok (some (j, (es[j]'hj).2)) w := by rw [run_findKeyI hK hen.kv, hf]; simp [List.getElem?_eq_getElem hj]
    have : (execOp a.eval o).run P w = .ok (.value (.tuple #[])) (setObj' w b (.map (en.eraseIdx j).toArray clock)) := by
      simp only [execOp, ho, resolve, Sem.run_bind, Sem.run_pure, Result.andThen_ok, invoke, builtin, List.map_toArray, List.map_cons, List.map_nil, ha.eval hx, ha.eval hy]
      simp [Builtin.delete_, run_underlying hT, hg, run_checkKeyI hK, hfk, hset]
    simp only [Oper.wp, this]
    exact hk () _ ((hw'.set .here _).ent (mapI_close (hen.del hf)))

/-! ### 3. Ranging over a map that isn't changed meanwhile -/
structure RangeOk (en : List MapEntry) (clock : Nat) (seen : Array Nat) (left : List (Int × Value)) (cur : Option (Int × Value)) : Prop where mk ::
  left_ : ((en.filter fun e => !seen.contains e.born).map fun e => (e.key, e.val)) = left.map fun x => (Value.int .i64 x.1, x.2)
  cur_ : ∀ x, cur = some x → ∃ e ∈ en, seen.back? = some e.born ∧ (e.key, e.val) = (Value.int .i64 x.1, x.2)
/-- the iterator in block it over the map in block b: what is left, and where it stands -/
def rangeI (it b : Nat) (es left : List (Int × Value)) (cur : Option (Int × Value)) : Assn :=
  ⟨fun p _ => ∃ (en : List MapEntry) (clock : Nat) (seen : Array Nat), p b = some (.map en.toArray clock) ∧ p it = some (.mapIter (some b) clock seen clock) ∧ it ≠ b ∧ EntOk en clock es ∧ RangeOk en clock seen left cur,
   fun ⟨en, c, s, h1, h2, h3⟩ hp _ => ⟨en, c, s, hp.out _ _ h1, hp.out _ _ h2, h3⟩⟩
theorem rangeI_open {it b : Nat} {es left : List (Int × Value)} {cur : Option (Int × Value)} {w : World} (hw : Sat κ (rangeI it b es left cur :: R) w) : ∃ (en : List MapEntry) (clock : Nat) (seen : Array Nat), Sat κ (pt b (.map en.toArray clock) :: pt it (.mapIter (some b) clock seen clock) :: R) w ∧ EntOk en clock es ∧ RangeOk en clock seen left cur := by
  obtain ⟨p, r, h1, h2, h3, p1, p2, k1, k2, k3, ⟨en, clock, seen, hA, hB, hne, hC⟩, hL⟩ := hw.sep
  refine ⟨en, clock, seen, ⟨hw.os, hw.tape, hw.output, p, r, h1, h2, h3, ?_⟩, hC⟩
  have hd : (Part.one b (.map en.toArray clock)).disj (Part.one it (.mapIter (some b) clock seen clock)) := Part.one_disj (by simp [Part.one, Ne.symm hne])
  have hd2 : (Part.one it (.mapIter (some b) clock seen clock)).disj p2 := Part.one_disj (k3.some_left hB)
  have hd1 : (Part.one b (.map en.toArray clock)).disj p2 := Part.one_disj (k3.some_left hA)
  exact ⟨Part.one b _, (Part.one it _).or p2, (Part.one_le hA).trans k1, Part.or_le ((Part.one_le hB).trans k1) k2, (Part.disj_or hd.symm hd1.symm).symm, by simp [pt, Part.one], Part.one it _, p2, Part.le_or_left _ _, Part.le_or_right hd2, hd2, by simp [pt, Part.one], hL⟩
theorem rangeI_close {it b : Nat} {es left : List (Int × Value)} {cur : Option (Int × Value)} {en : List MapEntry} {clock : Nat} {seen : Array Nat} (h : EntOk en clock es) (h' : RangeOk en clock seen left cur) : Ent (pt b (.map en.toArray clock) :: pt it (.mapIter (some b) clock seen clock) :: R) (rangeI it b es left cur :: R) := fun p r ⟨p1, p2, k1, k2, k3, hA, q1, q2, l1, l2, l3, hB, hR⟩ => by
  have hA : p1 b = _ := hA
  have hB : q1 it = _ := hB
  have hne : it ≠ b := fun e => by
    subst e
    have := k3.some_left hA
    rw [l1.out _ _ hB] at this; cases this
  have hd : p1.disj q1 := k3.mono (Part.le.refl _) l1
  have hd2 : p1.disj q2 := k3.mono (Part.le.refl _) l2
  exact ⟨p1.or q1, q2, Part.or_le k1 (l1.trans k2), l2.trans k2, Part.disj_or hd2 l3, ⟨en, clock, seen, (Part.le_or_left _ _).out _ _ hA, (Part.le_or_right hd).out _ _ hB, hne, h, h'⟩, hR⟩
theorem eff_range {T K V : TypeId} {x : Operand} {b : Nat} {es : List (Int × Value)} (ho : o.op = .range T x) (hT : P.underlying T = some (.map K V)) (hx : oev ρ x = some (.map (some b))) (hp : Pick (mapI b es) L R) : Eff P κ n L ρ o (fun it : Nat => rangeI it b es es none :: R) (fun it => .pointer (some ⟨it, 0, none⟩)) := fun a w K' Q ha hw hk => by
  obtain ⟨en, clock, hw', hen⟩ := mapI_open (hw.ent (Ent.pick hp))
  have hb := hw'.heap .here
  have hg : (getObj b).run P w = .ok (.map en.toArray clock) w := by simp [getObj, Sem.run, hb]
  have : (execOp a.eval o).run P w = .ok (.value (.pointer (some ⟨w.heap.size, 0, none⟩))) (w.alloc (.mapIter (some b) clock #[] clock)) := by
    simp only [execOp, ho, ha.eval hx, Instr.range, Sem.run_bind, run_underlying hT, Result.andThen_ok, hg, Sem.run_pure]
    rfl
  simp only [Oper.wp, this]
  refine hk w.heap.size _ (((hw'.alloc _).ent (Ent.cons (.there .here) (Ent.refl _))).ent (rangeI_close hen ⟨?_, by simp⟩))
  have : (en.filter fun e => !(#[] : Array Nat).contains e.born) = en := by apply List.filter_eq_self.2; simp
  rw [this]; exact hen.kv
theorem rangeI_end {it b : Nat} {es left : List (Int × Value)} {cur : Option (Int × Value)} : Ent (rangeI it b es left cur :: R) (mapI b es :: R) := fun p r ⟨p1, p2, k1, k2, k3, ⟨en, clock, seen, hA, hB, hne, hC, hD⟩, hR⟩ => ⟨p1, p2, k1, k2, k3, ⟨en, clock, hA, hC⟩, hR⟩
theorem nodup_born_eq {en : List MapEntry} (h : (en.map fun e => e.born).Nodup) {e e' : MapEntry} (he : e ∈ en) (he' : e' ∈ en) (hb : e.born = e'.born) : e = e' := by
  obtain ⟨i, hi, rfl⟩ := List.mem_iff_getElem.1 he
  obtain ⟨j, hj, rfl⟩ := List.mem_iff_getElem.1 he'
  have hij : i = j := by
    have h1 : i < (en.map fun e => e.born).length := by simpa using hi
    have h2 : j < (en.map fun e => e.born).length := by simpa using hj
    exact (List.getElem_inj (h₀ := h1) (h₁ := h2) h).1 (by simpa using hb)
  subst hij; rfl
theorem filter_erase : ∀ {F : List MapEntry}, (F.map fun e => e.born).Nodup → ∀ {i : Nat} {e : MapEntry}, F[i]? = some e → (F.filter fun x => !(x.born == e.born)) = F.eraseIdx i
  | [], _, i, e, h => by simp at h
  | f :: F, hn, 0, e, h => by
    simp only [List.getElem?_cons_zero, Option.some.injEq] at h
    subst h
    simp only [List.map_cons, List.nodup_cons] at hn
    simp only [List.filter_cons, beq_self_eq_true, Bool.not_true, Bool.false_eq_true, if_false, List.eraseIdx_cons_zero]
    apply List.filter_eq_self.2
    intro x hx
    have : x.born ≠ f.born := fun e => hn.1 (e ▸ List.mem_map.2 ⟨x, hx, rfl⟩)
    simpa using this
  | f :: F, hn, i + 1, e, h => by
    simp only [List.getElem?_cons_succ] at h
    simp only [List.map_cons, List.nodup_cons] at hn
    have hne : f.born ≠ e.born := fun e' => hn.1 (e' ▸ List.mem_map.2 ⟨e, List.mem_of_getElem? h, rfl⟩)
    simp only [List.filter_cons, List.eraseIdx_cons_succ]
    rw [if_pos (by simpa using hne), filter_erase hn.2 h]
theorem filter_push {en : List MapEntry} (hb : (en.map fun e => e.born).Nodup) (seen : Array Nat) {i : Nat} {e : MapEntry} (he : (en.filter fun e => !seen.contains e.born)[i]? = some e) :
    (en.filter fun x => !(seen.push e.born).contains x.born) = (en.filter fun e => !seen.contains e.born).eraseIdx i := by
  have hn : ((en.filter fun e => !seen.contains e.born).map fun e => e.born).Nodup := List.Nodup.sublist ((List.filter_sublist).map _) hb
  rw [← filter_erase hn he, List.filter_filter]
  apply List.filter_congr
  intro x _
  by_cases h : x.born = e.born <;> simp [Array.contains_push, Bool.not_or, Bool.and_comm, h]
theorem choose_mapNext {m : Nat} (hm : 0 < m) {L : List Assn} {w : World} (hw : Sat κ L w) : ∃ i w1, i < m ∧ (choose (.mapNext m)).run P w = .ok i w1 ∧ w1.heap = w.heap ∧ Sat κ L w1 := by
  rw [run_choose]
  by_cases h1 : m ≤ 1
  · rw [if_pos (by simpa [Question.forced] using h1)]
    exact ⟨0, w, hm, rfl, rfl, hw⟩
  · rw [if_neg (by simpa [Question.forced] using h1)]
    exact ⟨_, _, Nat.mod_lt _ hm, rfl, rfl, hw.drew⟩
/-- the next entry, whichever the order: none is left, or one of those that are left -/
theorem eff_nextI {x : Operand} {it b : Nat} {es left : List (Int × Value)} {cur : Option (Int × Value)} (ho : o.op = .next x false) (hx : oev ρ x = some (.pointer (some ⟨it, 0, none⟩))) (hp : Pick (rangeI it b es left cur) L R) :
    Eff P κ n L ρ o (fun r : Option Nat => match r with | none => pu (left = []) :: rangeI it b es [] none :: R | some i => pu (i < left.length) :: rangeI it b es (left.eraseIdx i) left[i]? :: R)
      (fun r => match r with | none => .tuple #[.bool false] | some i => .tuple #[.bool true, .int .i64 ((left[i]?.map (·.1)).getD 0), (left[i]?.map (·.2)).getD undef]) := fun a w K' Q ha hw hk => by
  obtain ⟨en, clock, seen, hw', hen, hra⟩ := rangeI_open (hw.ent (Ent.pick hp))
  have hb := hw'.heap .here
  have hi := hw'.heap (.there .here)
  have hg : (getObj b).run P w = .ok (.map en.toArray clock) w := by simp [getObj, Sem.run, hb]
  have hgi : (getObj it).run P w = .ok (.mapIter (some b) clock seen clock) w := by simp [getObj, Sem.run, hi]
  have hall : (!seen.isEmpty && !en.toArray.isEmpty && en.toArray.all fun e => decide (e.born ≥ clock)) = false := by
    cases en with
    | nil => simp
    | cons e en =>
      have := hen.lt e (by simp)
      simp; intro _ h; omega
  let F := en.filter fun e => !seen.contains e.born
  have hF : F.length = left.length := by have := congrArg List.length hra.left_; simpa [F] using this
  have hleft : (en.toArray.filter fun e => !seen.contains e.born) = F.toArray := by simp [F]
  have hlt : ∀ e ∈ F, e.born < clock := fun e he => hen.lt e (List.mem_filter.1 he).1
  have hold : (F.toArray.filter fun e => decide (e.born < clock)) = F.toArray := by
    rw [List.filter_toArray]
    congr 1
    exact List.filter_eq_self.2 fun e he => by simpa using hlt e he
  have hnew : (F.toArray.filter fun e => decide (e.born ≥ clock)) = #[] := by
    rw [List.filter_toArray]
    have : (F.filter fun e => decide (e.born ≥ clock)) = [] := List.filter_eq_nil_iff.2 fun e he => by have := hlt e he; simp; omega
    rw [this]
  by_cases h0 : left = []
  · have hF0 : F = [] := List.eq_nil_of_length_eq_zero (by rw [hF, h0]; rfl)
    have : (execOp a.eval o).run P w = .ok (.value (.tuple #[.bool false])) w := by
      simp only [execOp, ho, ha.eval hx, Instr.next, Sem.run_bind, hgi, Result.andThen_ok, hg]
      simp only [hall, hleft, hold, hnew, hF0]
      simp [Question.forced]
    simp only [Oper.wp, this]
    subst h0
    refine hk none w (hw'.ent ?_)
    exact (rangeI_close hen ⟨hra.left_, by simp⟩).trans (Ent.pu rfl (Ent.refl _))
  · have hpos : 0 < F.length := by rw [hF]; exact List.length_pos_iff.2 h0
    obtain ⟨i, w1, hi1, hch, hheap, hw1⟩ := choose_mapNext (P := P) hpos hw'
    obtain ⟨e, he⟩ : ∃ e, F[i]? = some e := ⟨F[i], List.getElem?_eq_getElem hi1⟩
    have hkv : (e.key, e.val) = (Value.int .i64 ((left[i]?.map (·.1)).getD 0), (left[i]?.map (·.2)).getD undef) := by
      have := congrArg (fun l => l[i]?) hra.left_
      simp only [List.getElem?_map] at this
      have he' : (en.filter fun e => !seen.contains e.born)[i]? = some e := he
      rw [he', List.getElem?_eq_getElem (by omega : i < left.length)] at this
      simp only [Option.map_some, Option.some.injEq] at this
      rw [this, List.getElem?_eq_getElem (by omega : i < left.length)]; rfl
    have hset : ∀ o' : Obj, (setObj it o').run P w1 = .ok () (setObj' w1 it o') := fun o' => by simp [setObj, Sem.run, hheap, hi, setObj']
    have hemp : F.toArray.isEmpty = false := by cases hF' : F with
      | nil => rw [hF'] at hpos; simp at hpos
      | cons x l => rfl
    have hcand : ((if F.toArray.isEmpty then #[none] else #[]) ++ (F.toArray ++ #[]).map some : Array (Option MapEntry)) = (F.map some).toArray := by
      rw [hemp]; simp
    have : (execOp a.eval o).run P w = .ok (.value (.tuple #[.bool true, e.key, e.val])) (setObj' w1 it (.mapIter (some b) clock (seen.push e.born) clock)) := by
      simp only [execOp, ho, ha.eval hx, Instr.next, Sem.run_bind, hgi, Result.andThen_ok, hg]
      simp only [hall, hleft, hold, hnew, Bool.false_eq_true, if_false, pure_bind, Sem.run_bind, hcand]
      simp only [List.size_toArray, List.length_map, hch, Result.andThen_ok, List.getElem?_toArray, List.getElem?_map, he, Option.map_some, Sem.run_bind, hset, Result.andThen_ok, Sem.run_pure]
    simp only [Oper.wp, this]
    simp only [Prod.mk.injEq] at hkv
    rw [hkv.1, hkv.2]
    refine hk (some i) _ (((hw1.set (.there .here) _).ent (Ent.cons (.there .here) (Ent.cons .here (Ent.refl _)))).ent ?_)
    refine (rangeI_close (left := left.eraseIdx i) (cur := left[i]?) hen ⟨?_, ?_⟩).trans (Ent.pu (by omega) (Ent.refl _))
    · rw [filter_push hen.born seen he]
      have e1 : ∀ {α β : Type} (l : List α) (f : α → β), (l.eraseIdx i).map f = (l.map f).eraseIdx i := fun l f => by
        apply List.ext_getElem?
        intro j
        simp only [List.getElem?_map, List.getElem?_eraseIdx]
        split <;> rfl
      rw [e1, e1, hra.left_]
    · intro x hx'
      refine ⟨e, (List.mem_filter.1 (List.mem_of_getElem? he)).1, by simp, ?_⟩
      rw [hkv.1, hkv.2, hx']; rfl
theorem ev_entryI {x : Operand} {it b : Nat} {es left : List (Int × Value)} {kv : Int × Value} (ho : o.op = .entry x) (hx : oev ρ x = some (.pointer (some ⟨it, 0, none⟩))) (hp : Pick (rangeI it b es left (some kv)) L R) : Ev P κ n L ρ o (.tuple #[.int .i64 kv.1, kv.2]) := fun a w ha hw => by
  obtain ⟨en, clock, seen, hw', hen, hra⟩ := rangeI_open (hw.ent (Ent.pick hp))
  have hb := hw'.heap .here
  have hi := hw'.heap (.there .here)
  have hg : (getObj b).run P w = .ok (.map en.toArray clock) w := by simp [getObj, Sem.run, hb]
  have hgi : (getObj it).run P w = .ok (.mapIter (some b) clock seen clock) w := by simp [getObj, Sem.run, hi]
  obtain ⟨e, he, hs, hkv⟩ := hra.cur_ kv rfl
  have hfind : en.find? (fun e' => e'.born == e.born) = some e := by
    cases hf : en.find? (fun e' => e'.born == e.born) with
    | none => have := List.find?_eq_none.1 hf e he; simp at this
    | some e' =>
      have h1 := List.mem_of_find?_eq_some hf
      have h2 := List.find?_some hf
      rw [nodup_born_eq hen.born h1 he (by simpa using h2)]
  simp only [Prod.mk.injEq] at hkv
  simp only [execOp, ho, ha.eval hx, Instr.entry, Sem.run_bind, hgi, Result.andThen_ok, hs, hg]
  simp [hfind, hkv.1, hkv.2]
end

/-! ### 4. What the map's list tells -/
theorem getI_put (es : List (Int × Value)) (k : Int) (v : Value) (i : Int) : getI (putI es k v) i = if i = k then some v else getI es i := by
  unfold putI
  cases hf : es.findIdx? (·.1 == k) with
  | none =>
    have hno := findIdx_no hf
    simp only [getI, List.find?_append]
    by_cases hi : i = k
    · subst hi
      have : es.find? (·.1 == i) = none := List.find?_eq_none.2 fun x hx => by simpa using hno x hx
      simp [this]
    · have : (k == i) = false := by simpa using fun h => hi h.symm
      simp [hi, this]
  | some j =>
    obtain ⟨hj, h1, h2⟩ := List.findIdx?_eq_some_iff_getElem.1 hf
    simp only [getI]
    induction es generalizing j with
    | nil => simp at hj
    | cons x es ih =>
      cases j with
      | zero =>
        simp only [List.getElem_cons_zero, beq_iff_eq] at h1
        simp only [List.set_cons_zero, List.find?_cons]
        by_cases hi : i = k
        · subst hi; simp
        · have e1 : (k == i) = false := by simpa using fun h => hi h.symm
          have e2 : (x.1 == i) = false := by rw [h1]; exact e1
          simp [e1, e2, hi]
      | succ j =>
        have hx : (x.1 == k) = false := by have := h2 0 (by omega); simpa using this
        have hf' : es.findIdx? (·.1 == k) = some j := by
          rw [List.findIdx?_cons, hx] at hf
          simpa using hf
        obtain ⟨hj', h1', h2'⟩ := List.findIdx?_eq_some_iff_getElem.1 hf'
        have := ih j hf' hj' h1' h2'
        simp only [List.set_cons_succ, List.find?_cons]
        by_cases hxi : (x.1 == i) = true
        · have hne : i ≠ k := by
            intro e; subst e; rw [hx] at hxi; cases hxi
          simp [hxi, hne]
        · simp only [hxi]; exact this
theorem find_none_of_not_mem {es : List (Int × Value)} {k : Int} (h : k ∉ es.map (·.1)) : es.find? (·.1 == k) = none :=
  List.find?_eq_none.2 fun x hx => by
    have : x.1 ≠ k := fun e => h (e ▸ List.mem_map.2 ⟨x, hx, rfl⟩)
    simpa using this
theorem getI_del {es : List (Int × Value)} (hn : (es.map fun x => x.1).Nodup) (k i : Int) : getI (delI es k) i = if i = k then none else getI es i := by
  unfold delI
  cases hf : es.findIdx? (·.1 == k) with
  | none =>
    have hno := findIdx_no hf
    simp only [getI]
    by_cases hi : i = k
    · subst hi
      have : es.find? (·.1 == i) = none := List.find?_eq_none.2 fun x hx => by simpa using hno x hx
      simp [this]
    · simp [hi]
  | some j =>
    obtain ⟨hj, h1, h2⟩ := List.findIdx?_eq_some_iff_getElem.1 hf
    simp only [getI]
    induction es generalizing j with
    | nil => simp at hj
    | cons x es ih =>
      simp only [List.map_cons, List.nodup_cons] at hn
      cases j with
      | zero =>
        simp only [List.getElem_cons_zero, beq_iff_eq] at h1
        simp only [List.eraseIdx_cons_zero, List.find?_cons]
        by_cases hi : i = k
        · subst hi
          rw [find_none_of_not_mem (h1 ▸ hn.1)]; simp
        · have e2 : (x.1 == i) = false := by rw [h1]; simpa using fun h => hi h.symm
          simp [e2, hi]
      | succ j =>
        have hx : (x.1 == k) = false := by have := h2 0 (by omega); simpa using this
        have hf' : es.findIdx? (·.1 == k) = some j := by
          rw [List.findIdx?_cons, hx] at hf
          simpa using hf
        obtain ⟨hj', h1', h2'⟩ := List.findIdx?_eq_some_iff_getElem.1 hf'
        have := ih hn.2 j hf' hj' h1' h2'
        simp only [List.eraseIdx_cons_succ, List.find?_cons]
        by_cases hxi : (x.1 == i) = true
        · have hne : i ≠ k := by
            intro e; subst e; rw [hx] at hxi; cases hxi
          simp [hxi, hne]
        · simp only [hxi]; exact this
theorem putI_nodup {es : List (Int × Value)} (hn : (es.map fun x => x.1).Nodup) (k : Int) (v : Value) : ((putI es k v).map fun x => x.1).Nodup := by
  unfold putI
  cases hf : es.findIdx? (·.1 == k) with
  | none =>
    simp only
    rw [List.map_append, List.nodup_append]
    refine ⟨hn, by simp, ?_⟩
    intro a ha b hb
    simp at hb; subst hb
    obtain ⟨x, hx, rfl⟩ := List.mem_map.1 ha
    exact findIdx_no hf x hx
  | some j =>
    obtain ⟨hj, hk⟩ := findIdx_key hf
    have : (es.set j (k, v)).map (fun x => x.1) = es.map fun x => x.1 := by
      apply List.ext_getElem
      · simp
      · intro i h1 h2
        simp only [List.getElem_map, List.getElem_set]
        split
        · rename_i hij; subst hij; exact hk.symm
        · rfl
    simp only
    rw [this]; exact hn
theorem delI_nodup {es : List (Int × Value)} (hn : (es.map fun x => x.1).Nodup) (k : Int) : ((delI es k).map fun x => x.1).Nodup := by
  unfold delI
  cases hf : es.findIdx? (·.1 == k) with
  | none => exact hn
  | some j =>
    simp only
    have e1 : ∀ {α β : Type} (l : List α) (f : α → β), (l.eraseIdx j).map f = (l.map f).eraseIdx j := fun l f => by
      apply List.ext_getElem?
      intro i
      simp only [List.getElem?_map, List.getElem?_eraseIdx]
      split <;> rfl
    rw [e1]; exact hn.eraseIdx _
theorem getI_some_mem {es : List (Int × Value)} {k : Int} {v : Value} (h : getI es k = some v) : (k, v) ∈ es := by
  unfold getI at h
  obtain ⟨x, hx, rfl⟩ := Option.map_eq_some_iff.1 h
  have h1 := List.mem_of_find?_eq_some hx
  have h2 := List.find?_some hx
  have h2' : x.1 = k := by simpa using h2
  rw [← h2']; exact h1
theorem getI_of_mem {es : List (Int × Value)} (hn : (es.map fun x => x.1).Nodup) {k : Int} {v : Value} (h : (k, v) ∈ es) : getI es k = some v := by
  unfold getI
  induction es with
  | nil => cases h
  | cons x es ih =>
    simp only [List.map_cons, List.nodup_cons] at hn
    rcases List.mem_cons.1 h with h | h
    · subst h; simp
    · have hne : (x.1 == k) = false := by
        have : x.1 ≠ k := fun e => hn.1 (e ▸ List.mem_map.2 ⟨(k, v), h, rfl⟩)
        simpa using this
      simp only [List.find?_cons, hne]
      exact ih hn.2 h
section
variable {P : Program} {κ : World} {n : Nat} {L M R : List Assn} {ρ : Env} {ops : Array Oper} {o : Oper} {l : List Oper} {Q : Exit → Act → World → Prop}
theorem mapI_nodup {b : Nat} {es : List (Int × Value)} {w : World} (hw : Sat κ L w) (k : Pick (mapI b es) L R) : (es.map fun x => x.1).Nodup :=
  let ⟨_, _, _, h⟩ := mapI_open (hw.ent (Ent.pick k)); h.keys
end
end Go.SL
