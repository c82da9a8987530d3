/-
  THE LOGIC's RULES FOR MEMORY: variables, structs, fields, loads and stores. Conditions: none; it speaks of any program.
-/
import Derived.Test.YtlejcepbcfijiaaGreatDoorSlOps
set_option linter.unusedVariables false
set_option linter.unusedSimpArgs false
namespace Go.SL
open Go

/-! ### 1. Cells -/
theorem addr_add (b off j : Nat) : (⟨b, off, none⟩ : Addr).add j = ⟨b, off + j, none⟩ := by
  unfold Addr.add; split
  · rename_i h; subst h; rfl
  · rfl
theorem cell_of {w : World} {b : Nat} {c : Array Value} {E : TypeId} {fr : Nat × Nat} (h : w.heap[b]? = some (.cells c E fr)) (off : Nat) : w.cell? ⟨b, off, none⟩ = c[off]? := by
  simp [World.cell?, h]
theorem run_loadCellsFrom {P : Program} {w : World} {b : Nat} {c : Array Value} {E : TypeId} {fr : Nat × Nat} (h : w.heap[b]? = some (.cells c E fr)) (off : Nat) :
    ∀ (m i : Nat) (acc : Array Value), off + i + m ≤ c.size → (loadCellsFrom ⟨b, off, none⟩ i m acc).run P w = .ok (acc ++ c.extract (off + i) (off + i + m)) w
  | 0, i, acc, _ => by simp [loadCellsFrom]; omega
  | m + 1, i, acc, hlt => by
    have hl : off + i < c.size := by omega
    simp only [loadCellsFrom, Sem.run_bind, run_load, addr_add, cell_of h, Array.getElem?_eq_getElem hl, Result.andThen_ok]
    rw [run_loadCellsFrom h off m (i + 1) _ (by omega)]
    congr 1
    apply Array.ext'
    simp only [Array.toList_append, Array.toList_push, Array.toList_extract, List.append_assoc]
    congr 1
    rw [List.extract_eq_take_drop, List.extract_eq_take_drop, show off + i + (m + 1) - (off + i) = m + 1 from by omega, show off + (i + 1) + m - (off + (i + 1)) = m from by omega,
      List.drop_eq_getElem_cons (by simpa using hl : off + i < c.toList.length)]
    simp [Nat.add_assoc]
theorem run_loadCells {P : Program} {w : World} {b : Nat} {c : Array Value} {E : TypeId} {fr : Nat × Nat} (h : w.heap[b]? = some (.cells c E fr)) (off m : Nat) (hlt : off + m ≤ c.size) :
    (loadCells ⟨b, off, none⟩ m).run P w = .ok (c.extract off (off + m)) w := by
  unfold loadCells
  rw [run_loadCellsFrom h off m 0 #[] (by omega)]
  simp

/-- some cells replaced from a place on -/
def setRange (c : Array Value) (off : Nat) : List Value → Array Value
  | [] => c
  | v :: vs => setRange (c.setIfInBounds off v) (off + 1) vs
theorem setRange_size (c : Array Value) (off : Nat) (vs : List Value) : (setRange c off vs).size = c.size := by
  induction vs generalizing c off with
  | nil => rfl
  | cons v vs ih => simp [setRange, ih]
theorem setRange_get (vs : List Value) : ∀ (c : Array Value) (off i : Nat), (setRange c off vs)[i]? = if off ≤ i ∧ i < off + vs.length ∧ i < c.size then vs[i - off]? else c[i]? := by
  induction vs with
  | nil => intro c off i; simp [setRange]; omega
  | cons v vs ih =>
    intro c off i
    simp only [setRange, ih, Array.size_setIfInBounds, List.length_cons]
    by_cases h1 : off + 1 ≤ i ∧ i < off + 1 + vs.length ∧ i < c.size
    · rw [if_pos h1, if_pos (by omega)]
      obtain ⟨j, rfl⟩ : ∃ j, i = off + 1 + j := ⟨i - off - 1, by omega⟩
      rw [show off + 1 + j - (off + 1) = j from by omega, show off + 1 + j - off = j + 1 from by omega]
      simp
    · rw [if_neg h1]
      by_cases h2 : i = off
      · subst h2
        by_cases h3 : i < c.size
        · rw [if_pos (by omega)]; simp [h3]
        · rw [if_neg (by omega)]; simp [h3]
      · rw [if_neg (by omega), Array.getElem?_setIfInBounds_ne (Ne.symm h2)]

theorem setCell_eq {w : World} {b : Nat} {c : Array Value} {E : TypeId} {fr : Nat × Nat} (h : w.heap[b]? = some (.cells c E fr)) (off : Nat) (v : Value) : w.setCell ⟨b, off, none⟩ v = setObj' w b (.cells (c.setIfInBounds off v) E fr) := by
  have hlt : b < w.heap.size := (Array.getElem?_eq_some_iff.1 h).1
  have hv : w.heap[b] = .cells c E fr := (Array.getElem?_eq_some_iff.1 h).2
  simp only [World.setCell, setObj']
  congr 1
  apply Array.ext
  · simp
  · intro i h1 h2
    by_cases hi : i = b
    · subst hi
      have hi' : i < w.heap.size := hlt
      simp [Array.getElem_modify, hv, Array.getElem_setIfInBounds, hi']
    · have h1' : i < w.heap.size := by simpa using h1
      rw [Array.getElem_modify, if_neg (Ne.symm hi), Array.getElem_setIfInBounds h1', if_neg (Ne.symm hi)]
theorem setObj_heap {w : World} {b : Nat} {o o' : Obj} (h : w.heap[b]? = some o) : (setObj' w b o').heap[b]? = some o' := by
  have hlt : b < w.heap.size := (Array.getElem?_eq_some_iff.1 h).1
  simp [setObj', hlt]
theorem setObj_twice (w : World) (b : Nat) (o o' : Obj) : setObj' (setObj' w b o) b o' = setObj' w b o' := by
  simp only [setObj']
  congr 1
  apply Array.ext
  · simp
  · intro i h1 h2
    have h1' : i < w.heap.size := by simpa using h1
    by_cases hi : i = b
    · subst hi; simp [Array.getElem_setIfInBounds, h1']
    · simp [Array.getElem_setIfInBounds, h1', Ne.symm hi]
theorem setObj_same {w : World} {b : Nat} {o : Obj} (h : w.heap[b]? = some o) : setObj' w b o = w := by
  have hlt : b < w.heap.size := (Array.getElem?_eq_some_iff.1 h).1
  have hv : w.heap[b] = o := (Array.getElem?_eq_some_iff.1 h).2
  have e : w.heap.setIfInBounds b o = w.heap := by
    apply Array.ext
    · simp
    · intro j h1 h2
      by_cases hj : j = b
      · subst hj; simp [hv]
      · rw [Array.getElem_setIfInBounds h2, if_neg (Ne.symm hj)]
  simp only [setObj', e]
theorem run_storeCells {P : Program} {b : Nat} {E : TypeId} (off : Nat) : ∀ (vs : List Value) (i : Nat) (w : World) (c : Array Value), w.heap[b]? = some (.cells c E (0, 0)) → (∀ v ∈ vs, v.oneCell' = true) → off + i + vs.length ≤ c.size →
    (storeCells ⟨b, off, none⟩ vs i).run P w = .ok () (setObj' w b (.cells (setRange c (off + i) vs) E (0, 0)))
  | [], i, w, c, h, _, _ => by
    simp only [storeCells, Sem.run_pure, setRange, setObj_same h]
  | v :: vs, i, w, c, h, hone, hlt => by
    simp only [List.length_cons] at hlt
    have hl : off + i < c.size := by omega
    have hfz : w.frozen? ⟨b, off + i, none⟩ = false := by simp [World.frozen?, h]
    simp only [storeCells, Sem.run_bind, addr_add, run_store P w _ v .plain (hone v (by simp)), cell_of h, Array.getElem?_eq_getElem hl, hfz, Bool.false_eq_true, if_false, Result.andThen_ok]
    rw [setCell_eq h, run_storeCells off vs (i + 1) _ (c.setIfInBounds (off + i) v) (setObj_heap h) (fun u hu => hone u (by simp [hu])) (by simp; omega), setObj_twice]
    simp [setRange, Nat.add_assoc]

section
variable {P : Program} {κ : World} {n : Nat} {L M R : List Assn} {ρ : Env} {ops : Array Oper} {o : Oper} {l : List Oper} {Q : Exit → Act → World → Prop}

/-! ### 2. New variables -/
theorem newRow_run {E : TypeId} {c : Array Value} (w : World) : (newRow E c).run P w = .ok ⟨w.heap.size, 0, none⟩ (w.alloc (.cells c E)) := rfl
theorem eff_box {E : TypeId} {x : Operand} {v : Value} {c : Array Value} (ho : o.op = .box E x) (hx : oev ρ x = some v) (hc : v.cells = c) :
    Eff P κ n L ρ o (fun b : Nat => pt b (.cells c E (0, 0)) :: L) (fun b => .pointer (some ⟨b, 0, none⟩)) := fun a w K Q ha hw hk => by
  subst hc
  simp only [Oper.wp, execOp, ho, ha.eval hx]
  exact hk w.heap.size (w.alloc (.cells v.cells E (0, 0))) (hw.alloc _)
theorem eff_boxA {E : TypeId} {x : Operand} {cs : Array Value} (ho : o.op = .box E x) (hx : oev ρ x = some (.agg cs)) : Eff P κ n L ρ o (fun b : Nat => pt b (.cells cs E (0, 0)) :: L) (fun b => .pointer (some ⟨b, 0, none⟩)) := eff_box ho hx rfl
theorem eff_box1 {E : TypeId} {x : Operand} {v : Value} (ho : o.op = .box E x) (hx : oev ρ x = some v) (hv : v.cells = #[v]) : Eff P κ n L ρ o (fun b : Nat => pt b (.cells #[v] E (0, 0)) :: L) (fun b => .pointer (some ⟨b, 0, none⟩)) := eff_box ho hx hv
theorem eff_alloc {E : TypeId} {sz by_ : Nat} {z : Value} {c : Array Value} (ho : o.op = .alloc E) (ht : TyF P E sz z by_) (hc : z.cells = c) :
    Eff P κ n L ρ o (fun b : Nat => pt b (.cells c E (0, 0)) :: L) (fun b => .pointer (some ⟨b, 0, none⟩)) := fun a w K Q ha hw hk => by
  subst hc
  have : (execOp a.eval o).run P w = .ok (.value (.pointer (some ⟨w.heap.size, 0, none⟩))) (w.alloc (.cells z.cells E (0, 0))) := by
    simp only [execOp, ho, Instr.alloc, Sem.run_bind, ht.run_zero, Result.andThen_ok]
    rfl
  simp only [Oper.wp, this]
  exact hk w.heap.size _ (hw.alloc _)

/-! ### 3. Loads -/
theorem run_loadVar_flat {t : TypeId} {d : TypeDesc} (ht : P.underlying t = some d) (hd : TypeDesc.flat d = true) {w : World} {b off : Nat} {c : Array Value} {E : TypeId} {fr : Nat × Nat} {v : Value} (h : w.heap[b]? = some (.cells c E fr)) (hv : c[off]? = some v) :
    (loadVar t ⟨b, off, none⟩).run P w = .ok v w := by
  simp only [loadVar, Sem.run_bind, run_isAgg_flat ht hd, Result.andThen_ok]
  simp [cell_of h, hv]
theorem run_loadVar_agg {t : TypeId} {d : TypeDesc} {sz by_ : Nat} {z : Value} (hu : P.underlying t = some d) (ht : TyF P t sz z by_) (hd : TypeDesc.flat d = false) {w : World} {b off : Nat} {c : Array Value} {E : TypeId} {fr : Nat × Nat} (h : w.heap[b]? = some (.cells c E fr)) (hv : off + sz ≤ c.size) :
    (loadVar t ⟨b, off, none⟩).run P w = .ok (.agg (c.extract off (off + sz))) w := by
  simp only [loadVar, Sem.run_bind, run_isAgg_agg hu hd, Result.andThen_ok, if_true, ht.run_size, run_loadCells h off sz hv, Sem.run_pure]
/-- what is known of a cell: the memory has it whenever the chunks are there -/
def Cell (L : List Assn) (b off : Nat) (v : Value) : Prop := ∀ κ w, Sat κ L w → ∃ c E fr, w.heap[b]? = some (.cells c E fr) ∧ c[off]? = some v
def Cells (L : List Assn) (b off m : Nat) (cs : Array Value) : Prop := ∀ κ w, Sat κ L w → ∃ c E fr, w.heap[b]? = some (.cells c E fr) ∧ off + m ≤ c.size ∧ c.extract off (off + m) = cs
theorem cell_pt {b off : Nat} {c : Array Value} {E : TypeId} {fr : Nat × Nat} {v : Value} (k : Pick (pt b (.cells c E fr)) L R) (h : c[off]? = some v) : Cell L b off v := fun κ w hw => ⟨c, E, fr, hw.heap k, h⟩
theorem cell_ro {b off : Nat} {c : Array Value} {E : TypeId} {fr : Nat × Nat} {v : Value} (k : Pick (ro (roB b (.cells c E fr))) L R) (h : c[off]? = some v) : Cell L b off v := fun κ w hw => ⟨c, E, fr, hw.ro k, h⟩
theorem cells_pt {b off m : Nat} {c : Array Value} {E : TypeId} {fr : Nat × Nat} {cs : Array Value} (k : Pick (pt b (.cells c E fr)) L R) (hm : off + m ≤ c.size) (h : c.extract off (off + m) = cs) : Cells L b off m cs := fun κ w hw => ⟨c, E, fr, hw.heap k, hm, h⟩
theorem cells_ro {b off m : Nat} {c : Array Value} {E : TypeId} {fr : Nat × Nat} {cs : Array Value} (k : Pick (ro (roB b (.cells c E fr))) L R) (hm : off + m ≤ c.size) (h : c.extract off (off + m) = cs) : Cells L b off m cs := fun κ w hw => ⟨c, E, fr, hw.ro k, hm, h⟩
theorem ev_load {t : TypeId} {x : Operand} {b off : Nat} {v : Value} {d : TypeDesc} (ho : o.op = .load t x) (ht : P.underlying t = some d) (hd : TypeDesc.flat d = true) (hx : oev ρ x = some (.pointer (some ⟨b, off, none⟩))) (hc : Cell L b off v) : Ev P κ n L ρ o v := fun a w ha hw => by
  obtain ⟨c, E, fr, h, hv⟩ := hc κ w hw
  simp only [execOp, ho, ha.eval hx, Instr.loadAt, Instr.sureAddr, Sem.run_bind, Sem.run_pure, Result.andThen_ok, run_loadVar_flat ht hd h hv]
theorem ev_loadA {t : TypeId} {x : Operand} {b off sz by_ : Nat} {z : Value} {cs : Array Value} {d : TypeDesc} (ho : o.op = .load t x) (hu : P.underlying t = some d) (ht : TyF P t sz z by_) (hd : TypeDesc.flat d = false) (hx : oev ρ x = some (.pointer (some ⟨b, off, none⟩))) (hc : Cells L b off sz cs) : Ev P κ n L ρ o (.agg cs) := fun a w ha hw => by
  obtain ⟨c, E, fr, h, hm, hv⟩ := hc κ w hw
  subst hv
  simp only [execOp, ho, ha.eval hx, Instr.loadAt, Instr.sureAddr, Sem.run_bind, Sem.run_pure, Result.andThen_ok, run_loadVar_agg hu ht hd h hm]

/-! ### 4. Stores -/
theorem eff_store {t : TypeId} {x y : Operand} {b off : Nat} {v : Value} {c c' : Array Value} {E : TypeId} {by_ : Nat} {z : Value} (ho : o.op = .store t x y) (ht : TyF P t v.cells.size z by_) (hx : oev ρ x = some (.pointer (some ⟨b, off, none⟩))) (hy : oev ρ y = some v)
    (k : Pick (pt b (.cells c E (0, 0))) L R) (hone : ∀ u ∈ v.cells.toList, u.oneCell' = true) (hlt : off + v.cells.size ≤ c.size) (hc : setRange c off v.cells.toList = c') :
    Eff P κ n L ρ o (fun _ : Unit => pt b (.cells c' E (0, 0)) :: R) (fun _ => undef) := fun a w K Q ha hw hk => by
  subst hc
  have h := hw.heap k
  have : (execOp a.eval o).run P w = .ok .skip (setObj' w b (.cells (setRange c off v.cells.toList) E (0, 0))) := by
    simp only [execOp, ho, ha.eval hx, ha.eval hy, Instr.storeAt, Instr.sureAddr, Sem.run_bind, Sem.run_pure, Result.andThen_ok, storeVar, ht.run_size]
    rw [if_neg (by simp)]
    rw [run_storeCells off v.cells.toList 0 w c h hone (by simpa using hlt)]
    rfl
  simp only [Oper.wp, this]
  exact hk () _ (hw.set k _)

theorem lt_of_blt {a b : Nat} (h : Nat.blt a b = true) : a < b := Nat.blt_eq ▸ h
theorem eff_store1 {t : TypeId} {x y : Operand} {b off : Nat} {v : Value} {c c' : Array Value} {E : TypeId} {by_ : Nat} {z : Value} (ho : o.op = .store t x y) (ht : TyF P t 1 z by_) (hx : oev ρ x = some (.pointer (some ⟨b, off, none⟩))) (hy : oev ρ y = some v)
    (k : Pick (pt b (.cells c E (0, 0))) L R) (hv : v.cells = #[v]) (hone : v.oneCell' = true) (hlt : off < c.size) (hc : c.setIfInBounds off v = c') :
    Eff P κ n L ρ o (fun _ : Unit => pt b (.cells c' E (0, 0)) :: R) (fun _ => undef) := by
  refine eff_store ho (by rw [hv]; exact ht) hx hy k (by rw [hv]; intro u hu; simp at hu; subst hu; exact hone) (by rw [hv]; exact hlt) ?_
  rw [hv]
  exact hc
theorem cells_agg (cs : Array Value) : (Value.agg cs).cells = cs := rfl
theorem eff_storeA {t : TypeId} {x y : Operand} {b off sz : Nat} {csl : List Value} {c c' : Array Value} {E : TypeId} {by_ : Nat} {z : Value} (ho : o.op = .store t x y) (ht : TyF P t sz z by_) (hx : oev ρ x = some (.pointer (some ⟨b, off, none⟩))) (hy : oev ρ y = some (.agg csl.toArray))
    (k : Pick (pt b (.cells c E (0, 0))) L R) (hsz : csl.length = sz) (hone : (csl.all fun u => u.oneCell') = true) (hlt : Nat.ble (off + sz) c.size = true) (hc : setRange c off csl = c') :
    Eff P κ n L ρ o (fun _ : Unit => pt b (.cells c' E (0, 0)) :: R) (fun _ => undef) := by
  refine eff_store (v := .agg csl.toArray) ho (by rw [cells_agg]; simp only [List.size_toArray, hsz]; exact ht) hx hy k (fun u hu => by rw [cells_agg] at hu; exact List.all_eq_true.1 hone u hu) (by rw [cells_agg]; simp only [List.size_toArray, hsz]; exact Nat.le_of_ble_eq_true hlt) (by rw [cells_agg]; exact hc)


/-! ### 5. Fields -/
/-- the field's place in the struct -/
def FieldF (P : Program) (s : TypeId) (f fo : Nat) : Prop := ∀ (a : Addr) (w : World), (Instr.fieldAt s (.pointer (some a)) f).run P w = .ok (.pointer (some (a.add fo))) w
theorem FieldF.mk {s : TypeId} {f fo : Nat} {fs : Array Field} {fd : Field} {sz : Nat} (hs : P.underlying s = some (.struct fs)) (hf : fs[f]? = some fd) (ho : fd.offset = fo) (hz : (P.info? fd.type).map (·.size) = some (sz + 1)) : FieldF P s f fo := fun a w => by
  subst ho
  obtain ⟨i, hi, he⟩ := Option.map_eq_some_iff.1 hz
  simp [Instr.fieldAt, run_underlying hs, hf, Instr.sureAddr, fieldPlace, sizeOf, typeInfo, hi, he]
theorem ev_fieldAddr {s : TypeId} {x : Operand} {f fo b off : Nat} (ho : o.op = .fieldAddr s x f) (hf : FieldF P s f fo) (hx : oev ρ x = some (.pointer (some ⟨b, off, none⟩))) : Ev P κ n L ρ o (.pointer (some ⟨b, off + fo, none⟩)) := fun a w ha hw => by
  have := hf ⟨b, off, none⟩ w
  simp only [execOp, ho, ha.eval hx, Sem.run_bind, this, Result.andThen_ok, Sem.run_pure, addr_add]
theorem ev_fieldAddr0 {s : TypeId} {x : Operand} {f fo b : Nat} (ho : o.op = .fieldAddr s x f) (hf : FieldF P s f fo) (hx : oev ρ x = some (.pointer (some ⟨b, 0, none⟩))) : Ev P κ n L ρ o (.pointer (some ⟨b, fo, none⟩)) := fun a w ha hw => by
  have := hf ⟨b, 0, none⟩ w
  simp only [execOp, ho, ha.eval hx, Sem.run_bind, this, Result.andThen_ok, Sem.run_pure, addr_add, Nat.zero_add]
end
end Go.SL
