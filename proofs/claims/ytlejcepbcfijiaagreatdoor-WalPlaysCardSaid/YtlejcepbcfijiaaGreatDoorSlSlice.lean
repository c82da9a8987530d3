/-
  THE LOGIC's RULES FOR SLICES: told as typed lists, read-only ('roS') or one's own ('ownS'). Conditions: none; it speaks of any program.
-/
import Derived.Test.YtlejcepbcfijiaaGreatDoorSlMem
set_option linter.unusedVariables false
set_option linter.unusedSimpArgs false
namespace Go.SL
open Go

/-! ### 1. Typed elements -/
class Enc (α : Type) where
  sz : Nat
  enc : α → List Value
  len : ∀ x, (enc x).length = sz
  one : ∀ x, ∀ v ∈ enc x, v.oneCell' = true
  pos : 0 < sz
open Enc (sz enc)
instance : Enc UInt8 := ⟨1, fun x => [.int .u8 (x.toNat : Int)], fun _ => rfl, fun x v h => by simp at h; subst h; rfl, by decide⟩
instance : Enc Int := ⟨1, fun x => [.int .i64 x], fun _ => rfl, fun x v h => by simp at h; subst h; rfl, by decide⟩
def flat {α : Type} [Enc α] (xs : List α) : List Value := xs.flatMap enc
section
variable {α : Type} [Enc α]
theorem flat_nil : flat ([] : List α) = [] := rfl
theorem flat_cons (x : α) (xs : List α) : flat (x :: xs) = enc x ++ flat xs := rfl
theorem flat_append (xs ys : List α) : flat (xs ++ ys) = flat xs ++ flat ys := by simp [flat]
theorem flat_length (xs : List α) : (flat xs).length = xs.length * sz α := by
  induction xs with
  | nil => simp [flat]
  | cons x xs ih => rw [flat_cons, List.length_append, ih, Enc.len, List.length_cons, Nat.succ_mul, Nat.add_comm]
theorem flat_one (xs : List α) : ∀ v ∈ flat xs, v.oneCell' = true := by
  intro v hv
  simp only [flat, List.mem_flatMap] at hv
  obtain ⟨x, _, h⟩ := hv
  exact Enc.one x v h
theorem flat_take (xs : List α) (k : Nat) : (flat xs).take (k * sz α) = flat (xs.take k) := by
  induction xs generalizing k with
  | nil => simp [flat]
  | cons x xs ih =>
    cases k with
    | zero => simp [flat]
    | succ k => rw [flat_cons, List.take_succ_cons, flat_cons, Nat.succ_mul, Nat.add_comm, List.take_append, Enc.len, List.take_of_length_le (by rw [Enc.len]; omega), show sz α + k * sz α - sz α = k * sz α from by omega, ih]
theorem flat_drop (xs : List α) (k : Nat) : (flat xs).drop (k * sz α) = flat (xs.drop k) := by
  induction xs generalizing k with
  | nil => simp [flat]
  | cons x xs ih =>
    cases k with
    | zero => simp [flat]
    | succ k => rw [flat_cons, List.drop_succ_cons, Nat.succ_mul, Nat.add_comm, List.drop_append, Enc.len, List.drop_of_length_le (by rw [Enc.len]; omega), show sz α + k * sz α - sz α = k * sz α from by omega, ih, List.nil_append]
theorem flat_get {xs : List α} {i : Nat} {x : α} (h : xs[i]? = some x) {k : Nat} (hk : k < sz α) : (flat xs)[i * sz α + k]? = (enc x)[k]? := by
  have hlt : i < xs.length := by
    rcases Nat.lt_or_ge i xs.length with h' | h'
    · exact h'
    · rw [List.getElem?_eq_none h'] at h; cases h
  have e : (flat xs).drop (i * sz α) = enc x ++ flat (xs.drop (i + 1)) := by
    rw [flat_drop, List.drop_eq_getElem_cons hlt, flat_cons]
    rw [List.getElem?_eq_getElem hlt] at h
    cases h; rfl
  rw [← List.getElem?_drop, e, List.getElem?_append_left (by rw [Enc.len]; exact hk)]
end

/-- the row of cells from a place on tells these elements -/
def Row {α : Type} [Enc α] (c : Array Value) (off : Nat) (xs : List α) : Prop := (c.toList.drop off).take (xs.length * sz α) = flat xs
section
variable {α : Type} [Enc α]
theorem Row.size {c : Array Value} {off : Nat} {xs : List α} (h : Row c off xs) (hn : xs ≠ []) : off + xs.length * sz α ≤ c.size := by
  have := congrArg List.length h
  rw [flat_length, List.length_take, List.length_drop] at this
  have e : c.toList.length = c.size := Array.length_toList
  have hp : 0 < xs.length * sz α := Nat.mul_pos (List.length_pos_iff.2 hn) Enc.pos
  omega
theorem Row.at {c : Array Value} {off : Nat} {xs : List α} (h : Row c off xs) {i : Nat} {x : α} (hx : xs[i]? = some x) {k : Nat} {v : Value} (hv : (enc x)[k]? = some v) : c[off + i * sz α + k]? = some v := by
  have hk : k < sz α := by
    rcases Nat.lt_or_ge k (sz α) with h' | h'
    · exact h'
    · rw [List.getElem?_eq_none (by rw [Enc.len]; exact h')] at hv; cases hv
  have hlt : i < xs.length := by
    rcases Nat.lt_or_ge i xs.length with h' | h'
    · exact h'
    · rw [List.getElem?_eq_none h'] at hx; cases hx
  have hm : i * sz α + k < xs.length * sz α := by
    have : (i + 1) * sz α ≤ xs.length * sz α := Nat.mul_le_mul_right _ hlt
    rw [Nat.succ_mul] at this; omega
  have e := flat_get hx hk
  rw [← h, List.getElem?_take_of_lt hm, List.getElem?_drop, hv] at e
  rw [← Array.getElem?_toList, Nat.add_assoc]
  exact e
theorem Row.extract {c : Array Value} {off : Nat} {xs : List α} (h : Row c off xs) : c.extract off (off + xs.length * sz α) = (flat xs).toArray := by
  apply Array.ext'
  rw [Array.toList_extract, List.extract_eq_take_drop, show off + xs.length * sz α - off = xs.length * sz α from by omega]
  exact h
theorem Row.whole {c : Array Value} {off : Nat} {xs : List α} (h : Row c off xs) {i : Nat} {x : α} (hx : xs[i]? = some x) : off + i * sz α + sz α ≤ c.size ∧ c.extract (off + i * sz α) (off + i * sz α + sz α) = (enc x).toArray := by
  have hlt : i < xs.length := by
    rcases Nat.lt_or_ge i xs.length with h' | h'
    · exact h'
    · rw [List.getElem?_eq_none h'] at hx; cases hx
  have hs : off + i * sz α + sz α ≤ c.size := by
    have h1 := h.size (by intro e; rw [e] at hlt; simp at hlt)
    have : (i + 1) * sz α ≤ xs.length * sz α := Nat.mul_le_mul_right _ hlt
    rw [Nat.succ_mul] at this; omega
  refine ⟨hs, ?_⟩
  apply Array.ext
  · simp [Enc.len]; omega
  · intro k h1 h2
    have hk : k < (enc x).length := by simpa using h2
    have e := h.at hx (List.getElem?_eq_getElem hk)
    rw [Array.getElem?_eq_some_iff] at e
    obtain ⟨_, e⟩ := e
    simp only [Array.getElem_extract, List.getElem_toArray]
    exact e
theorem Row.nil (c : Array Value) (off : Nat) : Row c off ([] : List α) := by simp [Row, flat]
theorem Row.sub {c : Array Value} {off : Nat} {xs : List α} (h : Row c off xs) (i j : Nat) (hij : i ≤ j) (hj : j ≤ xs.length) : Row c (off + i * sz α) ((xs.take j).drop i) := by
  unfold Row at *
  have hl : ((xs.take j).drop i).length = j - i := by simp; omega
  rw [hl, ← flat_drop, ← flat_take, ← h, List.take_take, Nat.min_eq_left (Nat.mul_le_mul_right _ hj)]
  have e1 : j * sz α = i * sz α + (j - i) * sz α := by rw [← Nat.add_mul]; congr 1; omega
  rw [e1, ← List.drop_drop, List.drop_take, List.drop_drop]
  congr 1; omega
end

/-! ### 2. Slices -/
/-- in this memory the slice (its address, its length) tells these elements -/
structure SliceIn {α : Type} [Enc α] (q : Part) (a : Option Addr) (m : Nat) (xs : List α) : Prop where mk ::
  len : xs.length = m
  at_ : 0 < m → ∃ b off c E fr, a = some ⟨b, off, none⟩ ∧ q b = some (.cells c E fr) ∧ Row c off xs
theorem SliceIn.mono {α : Type} [Enc α] {q q' : Part} {a : Option Addr} {m : Nat} {xs : List α} (h : SliceIn q a m xs) (k : q.le q') : SliceIn q' a m xs :=
  ⟨h.len, fun hm => let ⟨b, off, c, E, fr, h1, h2, h3⟩ := h.at_ hm; ⟨b, off, c, E, fr, h1, k.out _ _ h2, h3⟩⟩
theorem SliceIn.empty {α : Type} [Enc α] (q : Part) (a : Option Addr) : SliceIn q a 0 ([] : List α) := ⟨rfl, fun h => absurd h (by omega)⟩
def roS {α : Type} [Enc α] (a : Option Addr) (m : Nat) (xs : List α) : RoP := ⟨fun r => SliceIn r a m xs, fun h k => h.mono k⟩
/-- a slice of one's own, that may be appended to and written: of its array's cells those behind its length are anything -/
def ownS {α : Type} [Enc α] (E : TypeId) (a : Option Addr) (m cap : Nat) (xs : List α) : Assn :=
  ⟨fun p _ => xs.length = m ∧ m ≤ cap ∧ ((a = none ∧ cap = 0) ∨ ∃ b c, a = some ⟨b, 0, none⟩ ∧ p b = some (.cells c E (0, 0)) ∧ c.size = cap * sz α ∧ Row c 0 xs),
   fun ⟨h1, h2, h3⟩ hp _ => ⟨h1, h2, h3.imp id fun ⟨b, c, e1, e2, e3, e4⟩ => ⟨b, c, e1, hp.out _ _ e2, e3, e4⟩⟩⟩
/-- whenever the chunks are there, the slice can be read -/
def Reads {α : Type} [Enc α] (L : List Assn) (a : Option Addr) (m : Nat) (xs : List α) : Prop := ∀ κ w, Sat κ L w → SliceIn (hp w) a m xs
section
variable {α : Type} [Enc α] {L M R : List Assn} {a : Option Addr} {m cap : Nat} {xs : List α} {E : TypeId}
theorem reads_ro (k : Pick (ro (roS a m xs)) L R) : Reads L a m xs := fun κ w hw => hw.ro k
theorem reads_nil (a : Option Addr) : Reads L a 0 ([] : List α) := fun κ w hw => SliceIn.empty _ _
theorem reads_own (k : Pick (ownS E a m cap xs) L R) : Reads L a m xs := fun κ w hw => by
  obtain ⟨p, r, h1, h2, h3, h4⟩ := hw.sep
  obtain ⟨p1, p2, k1, k2, k3, ⟨e1, e2, e3⟩, hL⟩ := k.sep h4
  refine ⟨e1, fun hm => ?_⟩
  rcases e3 with ⟨rfl, hc⟩ | ⟨b, c, rfl, hb, hs, hr⟩
  · omega
  · exact ⟨b, 0, c, E, (0, 0), rfl, h1.out _ _ (k1.out _ _ hb), hr⟩
theorem Reads.len (h : Reads L a m xs) {κ : World} {w : World} (hw : Sat κ L w) : xs.length = m := (h κ w hw).len
theorem Sat.roS_some {κ : World} {w : World} (hw : Sat κ L w) (h : Reads L a m xs) (hm : 0 < m) : ∃ b off, a = some ⟨b, off, none⟩ :=
  let ⟨b, off, _, _, _, e, _⟩ := (h κ w hw).at_ hm; ⟨b, off, e⟩
theorem cell_S {b off : Nat} {i k : Nat} {x : α} {v : Value} (h : Reads L (some ⟨b, off, none⟩) m xs) (hx : xs[i]? = some x) (hv : (enc x)[k]? = some v) : Cell L b (off + i * sz α + k) v := fun κ w hw => by
  have hs := h κ w hw
  have hm : 0 < m := by
    rw [← hs.len]
    rcases Nat.eq_zero_or_pos xs.length with e | e
    · rw [List.eq_nil_of_length_eq_zero e] at hx; cases hx
    · exact e
  obtain ⟨b', off', c, E, fr, e, hb, hr⟩ := hs.at_ hm
  cases e
  exact ⟨c, E, fr, hb, hr.at hx hv⟩
theorem cell_Sa {b off : Nat} {i k : Nat} {x : α} {v : Value} (ha : a = some ⟨b, off, none⟩) (h : Reads L a m xs) (hx : xs[i]? = some x) (hv : (enc x)[k]? = some v) : Cell L b (off + i * sz α + k) v := by subst ha; exact cell_S h hx hv
theorem cell_S0 {b off : Nat} {i : Nat} {x : α} {v : Value} (h : Reads L (some ⟨b, off, none⟩) m xs) (hx : xs[i]? = some x) (hv : (enc x)[0]? = some v) : Cell L b (off + i * sz α) v := cell_S h hx hv
theorem cell_Sa0 {b off : Nat} {i : Nat} {x : α} {v : Value} (ha : a = some ⟨b, off, none⟩) (h : Reads L a m xs) (hx : xs[i]? = some x) (hv : (enc x)[0]? = some v) : Cell L b (off + i * sz α) v := by subst ha; exact cell_S h hx hv
theorem cells_S {b off : Nat} {i : Nat} {x : α} (h : Reads L (some ⟨b, off, none⟩) m xs) (hx : xs[i]? = some x) : Cells L b (off + i * sz α) (sz α) (enc x).toArray := fun κ w hw => by
  have hs := h κ w hw
  have hm : 0 < m := by
    rw [← hs.len]
    rcases Nat.eq_zero_or_pos xs.length with e | e
    · rw [List.eq_nil_of_length_eq_zero e] at hx; cases hx
    · exact e
  obtain ⟨b', off', c, E, fr, e, hb, hr⟩ := hs.at_ hm
  cases e
  exact ⟨c, E, fr, hb, hr.whole hx⟩
theorem cells_Sa {b off : Nat} {i : Nat} {x : α} (ha : a = some ⟨b, off, none⟩) (h : Reads L a m xs) (hx : xs[i]? = some x) : Cells L b (off + i * sz α) (sz α) (enc x).toArray := by subst ha; exact cells_S h hx
end

/-! ### 3. What is asked of a slice -/
section
variable {P : Program} {κ : World} {n : Nat} {L M R : List Assn} {ρ : Env} {ops : Array Oper} {o : Oper} {l : List Oper} {Q : Exit → Act → World → Prop} {α : Type} [Enc α]
theorem ev_lenSl {x : Operand} {t E : TypeId} {a : Option Addr} {m cap : Nat} (ho : o.op = .call { callee := .builtin .len, args := #[x], argTypes := #[t] }) (ht : P.underlying t = some (.slice E)) (hx : oev ρ x = some (.slice a m cap)) :
    Ev P κ n L ρ o (.int .i64 m) := fun a w ha hw => by
  simp only [execOp, ho, resolve, Sem.run_bind, Sem.run_pure, Result.andThen_ok, invoke, builtin, List.map_toArray, List.map_cons, List.map_nil, ha.eval hx]
  simp [Builtin.len_, run_underlying ht, goInt]
theorem ev_indexAddr {t E : TypeId} {x y : Operand} {b off m cap size by_ : Nat} {k : IntKind} {i : Int} {z : Value} (ho : o.op = .indexAddr t x y) (ht : P.underlying t = some (.slice E)) (hE : TyF P E size z by_)
    (hx : oev ρ x = some (.slice (some ⟨b, off, none⟩) m cap)) (hy : oev ρ y = some (.int k i)) (h0 : 0 ≤ i) (h1 : i < m) : Ev P κ n L ρ o (.pointer (some ⟨b, off + i.toNat * size, none⟩)) := fun a w ha hw => by
  simp only [execOp, ho, ha.eval hx, ha.eval hy, Instr.indexAt, asIntOf, Sem.run_bind, Sem.run_pure, Result.andThen_ok, run_underlying ht]
  rw [if_pos ⟨h0, h1⟩]
  simp [hE.run_size, addr_add]
/-- an array's variable: the index is known -/
theorem ev_indexAddrA {t E : TypeId} {x y : Operand} {b off len size by_ : Nat} {k : IntKind} {i : Int} {z : Value} (ho : o.op = .indexAddr t x y) (ht : P.underlying t = some (.array len E)) (hE : TyF P E size z by_)
    (hx : oev ρ x = some (.pointer (some ⟨b, off, none⟩))) (hy : oev ρ y = some (.int k i)) (h0 : 0 ≤ i) (h1 : i < len) : Ev P κ n L ρ o (.pointer (some ⟨b, off + i.toNat * size, none⟩)) := fun a w ha hw => by
  simp only [execOp, ho, ha.eval hx, ha.eval hy, Instr.indexAt, asIntOf, Instr.sureAddr, Sem.run_bind, Sem.run_pure, Result.andThen_ok, run_underlying ht]
  rw [if_pos ⟨h0, h1⟩]
  simp [hE.run_size, addr_add]
theorem run_sliceBound {m : Nat} {k : IntKind} {z : Nat} {c : BoundsCode} (w : World) (hz : z ≤ m) : (Instr.sliceBound (.int k (z : Int)) m c).run P w = .ok z w := by
  simp only [Instr.sliceBound, asIntOf, Sem.run_bind, Sem.run_pure, Result.andThen_ok]
  rw [if_pos ⟨Int.natCast_nonneg _, by exact_mod_cast hz⟩]; simp
/-- a bound of a slice expression: absent, or a number -/
def BoundIs (ρ : Env) (x : Option Operand) (dflt i : Nat) : Prop := match x with | none => i = dflt | some y => ∃ k, oev ρ y = some (.int k (i : Int))
theorem run_sliceSl {t E : TypeId} {a : Option Addr} {m cap size by_ i j c : Nat} {z : Value} {ac : Act} (ha : EnvOk n ρ ac) (ht : P.underlying t = some (.slice E)) (hE : TyF P E size z by_) {lo hi mx : Option Operand}
    (hlo : BoundIs ρ lo 0 i) (hhi : BoundIs ρ hi m j) (hmx : BoundIs ρ mx cap c) (hmh : mx.isSome → hi.isSome) (hij : i ≤ j) (hjc : j ≤ c) (hc : c ≤ cap) (w : World) :
    (Instr.sliceAt t (.slice a m cap) (lo.map ac.eval) (hi.map ac.eval) (mx.map ac.eval)).run P w = .ok (.slice (if c = i then a else a.map (·.add (i * size))) (j - i) (c - i)) w := by
  have hb : (Instr.sliceBounds true m cap (lo.map ac.eval) (hi.map ac.eval) (mx.map ac.eval)).run P w = .ok (i, j, c) w := by
    unfold BoundIs at *
    cases mx with
    | none =>
      subst hmx
      cases lo with
      | none =>
        subst hlo
        cases hi with
        | none => subst hhi; simp [Instr.sliceBounds]
        | some y => obtain ⟨k, hy⟩ := hhi; simp [Instr.sliceBounds, ha.eval hy, run_sliceBound w hjc]
      | some u =>
        obtain ⟨ku, hu⟩ := hlo
        cases hi with
        | none => subst hhi; simp [Instr.sliceBounds, ha.eval hu, run_sliceBound w hij]
        | some y => obtain ⟨k, hy⟩ := hhi; simp [Instr.sliceBounds, ha.eval hy, ha.eval hu, run_sliceBound w hjc, run_sliceBound w hij]
    | some v =>
      obtain ⟨kv, hv⟩ := hmx
      cases hi with
      | none => exact absurd (hmh rfl) (by simp)
      | some y =>
        obtain ⟨k, hy⟩ := hhi
        cases lo with
        | none => subst hlo; simp [Instr.sliceBounds, ha.eval hy, ha.eval hv, run_sliceBound w hjc, run_sliceBound w hc]
        | some u => obtain ⟨ku, hu⟩ := hlo; simp [Instr.sliceBounds, ha.eval hy, ha.eval hu, ha.eval hv, run_sliceBound w hjc, run_sliceBound w hij, run_sliceBound w hc]
  simp [Instr.sliceAt, Instr.slice, run_underlying ht, hb, hE.run_size]
theorem SliceIn.sub {q : Part} {a : Option Addr} {m : Nat} {xs : List α} (h : SliceIn q a m xs) {i j c : Nat} (hij : i ≤ j) (hj : j ≤ m) (hjc : j ≤ c) : SliceIn q (if c = i then a else a.map (·.add (i * sz α))) (j - i) ((xs.take j).drop i) := by
  refine ⟨by simp [h.len]; omega, fun hp => ?_⟩
  obtain ⟨b, off, cs, E, fr, rfl, hb, hr⟩ := h.at_ (by omega)
  refine ⟨b, off + i * sz α, cs, E, fr, ?_, hb, hr.sub i j hij (by rw [h.len]; exact hj)⟩
  rw [if_neg (by omega)]
  simp [addr_add]
/-- x[i:j], x[i:j:c], all within x's length: it reads as that piece -/
theorem eff_slice {t E : TypeId} {x : Operand} {a : Option Addr} {m cap by_ i j c : Nat} {z : Value} {xs : List α} {lo hi mx : Option Operand} (ho : o.op = .slice t x lo hi mx) (ht : P.underlying t = some (.slice E)) (hE : TyF P E (sz α) z by_)
    (hx : oev ρ x = some (.slice a m cap)) (k : Pick (ro (roS a m xs)) L R) (hlo : BoundIs ρ lo 0 i) (hhi : BoundIs ρ hi m j) (hmx : BoundIs ρ mx cap c) (hmh : mx.isSome → hi.isSome) (hij : i ≤ j) (hj : j ≤ m) (hjc : j ≤ c) (hc : c ≤ cap) :
    Eff P κ n L ρ o (fun a' : Option Addr => ro (roS a' ((xs.take j).drop i).length ((xs.take j).drop i)) :: L) (fun a' => .slice a' ((xs.take j).drop i).length (c - i)) := fun ac w K Q ha hw hk => by
  have hlen : j - i = ((xs.take j).drop i).length := by have := (hw.ro k).len; simp; omega
  have hrun := run_sliceSl (P := P) ha ht hE hlo hhi hmx hmh hij hjc hc w (a := a) (m := m) (cap := cap)
  have : (execOp ac.eval o).run P w = .ok (.value (.slice (if c = i then a else a.map (·.add (i * sz α))) (j - i) (c - i))) w := by
    simp only [execOp, ho, ha.eval hx, Sem.run_bind, hrun, Result.andThen_ok, Sem.run_pure]
  simp only [Oper.wp, this]
  rw [hlen]
  exact hk _ _ (hw.ent (Ent.roWeak k (fun r h => hlen ▸ SliceIn.sub h hij hj hjc) (Ent.refl _)))

/-! ### 4. append -/
theorem run_firstCells {q : World} {a : Option Addr} {m cap : Nat} {ys : List α} (h : SliceIn (hp q) a m ys) : (Builtin.firstCells (sz α) m (.slice a m cap)).run P q = .ok (flat ys).toArray q := by
  rcases Nat.eq_zero_or_pos m with h0 | h0
  · subst h0
    obtain rfl : ys = [] := List.eq_nil_of_length_eq_zero h.len
    cases a with
    | none => simp [Builtin.firstCells, flat]
    | some p => simp [Builtin.firstCells, flat, loadCells, loadCellsFrom]
  · obtain ⟨b, off, c, E, fr, rfl, hb, hr⟩ := h.at_ h0
    have hs := hr.size (by intro e; rw [e] at h; have := h.len; simp at this; omega)
    have he := hr.extract
    rw [h.len] at hs he
    simp only [Builtin.firstCells]
    rw [run_loadCells hb off _ hs, he]
theorem nextslicecap_le {need cap : Nat} (h : cap < need) : Builtin.nextslicecap need cap ≤ 4 * need + 1024 := by
  unfold Builtin.nextslicecap
  split
  · omega
  · split
    · omega
    · simp only [Builtin.growBy]
      repeat' split
      all_goals omega
theorem room_ok {need cap by_ : Nat} (h : cap < need) (hb : (4 * need + 1024) * by_ ≤ 281474976710656) : ¬ Builtin.nextslicecap need cap * by_ > 2 ^ 48 := by
  have := Nat.mul_le_mul_right by_ (nextslicecap_le h)
  omega
theorem ownS_open {E : TypeId} {a : Option Addr} {m cap : Nat} {xs : List α} {w : World} (hw : Sat κ (ownS E a m cap xs :: R) w) :
    xs.length = m ∧ m ≤ cap ∧ ((a = none ∧ cap = 0 ∧ Sat κ R w) ∨ ∃ b c, a = some ⟨b, 0, none⟩ ∧ c.size = cap * sz α ∧ Row c 0 xs ∧ Sat κ (pt b (.cells c E (0, 0)) :: R) w) := by
  obtain ⟨p, r, h1, h2, h3, p1, p2, k1, k2, k3, ⟨e1, e2, e3⟩, hL⟩ := hw.sep
  refine ⟨e1, e2, ?_⟩
  rcases e3 with ⟨ha, hc⟩ | ⟨b, c, ha, hb, hs, hr⟩
  · exact .inl ⟨ha, hc, hw.tail⟩
  · exact .inr ⟨b, c, ha, hs, hr, hw.os, hw.tape, hw.output, p, r, h1, h2, h3, p1, p2, k1, k2, k3, hb, hL⟩
theorem ownS_close {E : TypeId} {b m cap : Nat} {xs : List α} {c : Array Value} (hs : c.size = cap * sz α) (hr : Row c 0 xs) (hm : xs.length = m) (hc : m ≤ cap) : Ent (pt b (.cells c E (0, 0)) :: R) (ownS E (some ⟨b, 0, none⟩) m cap xs :: R) := fun p r ⟨p1, p2, k1, k2, k3, hA, hL⟩ =>
  ⟨p1, p2, k1, k2, k3, ⟨hm, hc, .inr ⟨b, c, rfl, hA, hs, hr⟩⟩, hL⟩
theorem ownS_nil (E : TypeId) : Ent L (ownS E none 0 0 ([] : List α) :: L) := fun p r h => ⟨Part.no, p, Part.no_le _, Part.le.refl _, Part.no_disj _, ⟨rfl, Nat.le_refl _, .inl ⟨rfl, rfl⟩⟩, h⟩
/-- one's own slice is given up for everybody to read -/
theorem ownS_freeze {E : TypeId} {a : Option Addr} {m cap : Nat} {xs : List α} {w : World} (hw : Sat κ L w) (k : Pick (ownS E a m cap xs) L R) : Sat κ (ro (roS a m xs) :: R) w := by
  obtain ⟨h1, h2, h3⟩ := ownS_open (hw.ent (Ent.pick k))
  rcases h3 with ⟨ha, hc, hR⟩ | ⟨b, c, rfl, hs, hr, hR⟩
  · obtain rfl : m = 0 := by omega
    obtain rfl : xs = [] := List.eq_nil_of_length_eq_zero h1
    exact hR.ent fun p r h => ⟨Part.no, p, Part.no_le _, Part.le.refl _, Part.no_disj _, SliceIn.empty _ _, h⟩
  · exact (hR.freeze .here).ent fun p r ⟨p1, p2, k1, k2, k3, hA, hL⟩ => ⟨p1, p2, k1, k2, k3, ⟨h1, fun _ => ⟨b, 0, c, E, (0, 0), rfl, hA, hr⟩⟩, hL⟩
theorem ownS_cap {E : TypeId} {a : Option Addr} {m cap : Nat} {xs : List α} {w : World} (hw : Sat κ L w) (k : Pick (ownS E a m cap xs) L R) : xs.length = m ∧ m ≤ cap :=
  let ⟨h1, h2, _⟩ := ownS_open (hw.ent (Ent.pick k)); ⟨h1, h2⟩
theorem ho_cap {E : TypeId} {a : Option Addr} {m cap : Nat} {xs : List α} (k : Pick (ownS E a m cap xs) L R) (h : xs.length = m → m ≤ cap → HOps P κ n ops L ρ l Q) : HOps P κ n ops L ρ l Q := fun ac w ha hw => let ⟨h1, h2⟩ := ownS_cap hw k; h h1 h2 ac w ha hw
theorem ht_cap {E : TypeId} {a : Option Addr} {m cap : Nat} {xs : List α} {c : Code} (k : Pick (ownS E a m cap xs) L R) (h : xs.length = m → m ≤ cap → HT P κ n L ρ c Q) : HT P κ n L ρ c Q := fun ac w ha hw => let ⟨h1, h2⟩ := ownS_cap hw k; h h1 h2 ac w ha hw
theorem hx_cap {E : TypeId} {a : Option Addr} {m cap : Nat} {xs : List α} {e : Exit} (k : Pick (ownS E a m cap xs) L R) (h : xs.length = m → m ≤ cap → HX κ n e L ρ Q) : HX κ n e L ρ Q := fun ac w ha hw => let ⟨h1, h2⟩ := ownS_cap hw k; h h1 h2 ac w ha hw
theorem ho_freezeS {E : TypeId} {a : Option Addr} {m cap : Nat} {xs : List α} (k : Pick (ownS E a m cap xs) L R) (h : HOps P κ n ops (ro (roS a m xs) :: R) ρ l Q) : HOps P κ n ops L ρ l Q := fun ac w ha hw => h ac w ha (ownS_freeze hw k)
theorem ht_freezeS {E : TypeId} {a : Option Addr} {m cap : Nat} {xs : List α} {c : Code} (k : Pick (ownS E a m cap xs) L R) (h : HT P κ n (ro (roS a m xs) :: R) ρ c Q) : HT P κ n L ρ c Q := fun ac w ha hw => h ac w ha (ownS_freeze hw k)
theorem hx_freezeS {E : TypeId} {a : Option Addr} {m cap : Nat} {xs : List α} {e : Exit} (k : Pick (ownS E a m cap xs) L R) (h : HX κ n e (ro (roS a m xs) :: R) ρ Q) : HX κ n e L ρ Q := fun ac w ha hw => h ac w ha (ownS_freeze hw k)

theorem ht_someS {a : Option Addr} {m : Nat} {xs : List α} {c : Code} (h : Reads L a m xs) (hm : 0 < m) (k : ∀ b off, a = some ⟨b, off, none⟩ → HT P κ n L ρ c Q) : HT P κ n L ρ c Q := fun ac w ha hw => let ⟨b, off, e⟩ := hw.roS_some h hm; k b off e ac w ha hw
theorem ht_lenS {a : Option Addr} {m : Nat} {xs : List α} {c : Code} (h : Reads L a m xs) (k : xs.length = m → HT P κ n L ρ c Q) : HT P κ n L ρ c Q := fun ac w ha hw => k (h.len hw) ac w ha hw
theorem Row.grow {c : Array Value} {xs ys : List α} {cap : Nat} (hr : Row c 0 xs) (hs : c.size = cap * sz α) (hc : xs.length + ys.length ≤ cap) : Row (setRange c (xs.length * sz α) (flat ys)) 0 (xs ++ ys) := by
  unfold Row at *
  have hfit : xs.length * sz α + ys.length * sz α ≤ c.size := by rw [hs, ← Nat.add_mul]; exact Nat.mul_le_mul_right _ hc
  apply List.ext_getElem?
  intro i
  simp only [List.drop_zero] at *
  rw [List.length_append, Nat.add_mul]
  by_cases hi : i < xs.length * sz α + ys.length * sz α
  · rw [List.getElem?_take_of_lt hi, Array.getElem?_toList, setRange_get, flat_length]
    by_cases h2 : xs.length * sz α ≤ i
    · rw [if_pos ⟨h2, by omega, by omega⟩, flat_append, List.getElem?_append_right (by rw [flat_length]; exact h2), flat_length]
    · rw [if_neg (by omega), flat_append, List.getElem?_append_left (by rw [flat_length]; omega), ← hr, List.getElem?_take_of_lt (by omega), Array.getElem?_toList]
  · rw [List.getElem?_eq_none (by simp; omega), List.getElem?_eq_none (by rw [flat_append, List.length_append, flat_length, flat_length]; omega)]
theorem Row.fresh (xs : List α) (rest : Array Value) : Row ((flat xs).toArray ++ rest) 0 xs := by
  unfold Row
  rw [List.drop_zero, Array.toList_append, List.take_append_of_le_length (by simp [flat_length])]
  rw [List.take_of_length_le (by simp [flat_length])]
/-- What append comes to: the elements behind the slice's own, whoever's they are. -/
theorem run_append {t t' E : TypeId} {by_ : Nat} {z : Value} {ys : List α} {src : Value} (ht : P.underlying t = some (.slice E)) (hE : TyF P E (sz α) z by_) (hzc : z.cells.size = sz α) (hb0 : 0 < by_)
    {xs : List α} {a : Option Addr} {m cap k : Nat} {w : World} {L : List Assn} (hw : Sat κ L w) (hp : Pick (ownS E a m cap xs) L R) (ht' : ∃ d', P.underlying t' = some d' ∧ ∀ j, d' ≠ .int j)
    (hlen : ∀ w, (Builtin.lenOf src).run P w = .ok k w) (hk : ys.length = k) (hsrc : ∀ q, (w.heap = q.heap) → (Builtin.firstCells (sz α) k src).run P q = .ok (flat ys).toArray q) (hroom : (4 * (m + k) + 1024) * by_ ≤ 281474976710656) (T : TypeId) :
    ∃ a' cap' w', (Builtin.append_ #[t, t'] T #[.slice a m cap, src]).run P w = .ok (.slice a' (m + k) cap') w' ∧ Sat κ (ownS E a' (m + k) cap' (xs ++ ys) :: R) w' := by
  obtain ⟨d', hd', hint⟩ := ht'
  obtain ⟨i, hi, hi1, hi2, hi3, hi4⟩ := hE.run_info w
  have hnot : (match d' with | .int _ => true | _ => false) = false := by cases d' <;> first | rfl | exact absurd rfl (hint _)
  obtain ⟨hxl, hmc, hcase⟩ := ownS_open (hw.ent (Ent.pick hp))
  by_cases hfit : m + k ≤ cap
  · -- there is room
    rcases hcase with ⟨ha, hc0, hR⟩ | ⟨b, c, ha, hs, hr, hR⟩
    · obtain rfl : m = 0 := by omega
      obtain rfl : k = 0 := by omega
      obtain rfl : xs = [] := List.eq_nil_of_length_eq_zero hxl
      obtain rfl : ys = [] := List.eq_nil_of_length_eq_zero hk
      subst ha; subst hc0
      refine ⟨none, 0, w, ?_, hR.ent (ownS_nil E)⟩
      simp [Builtin.append_, run_underlying ht, hE.run_size, run_underlying hd', hnot, hlen, hsrc w rfl]
    · subst ha
      have hst := run_storeCells (P := P) (b := b) (E := E) (m * sz α) (flat ys) 0 w c (hR.heap .here) (flat_one ys) (by
        rw [flat_length, hs, hk, Nat.add_zero, ← Nat.add_mul]; exact Nat.mul_le_mul_right _ hfit)
      refine ⟨some ⟨b, 0, none⟩, cap, setObj' w b (.cells (setRange c (m * sz α) (flat ys)) E (0, 0)), ?_, (hR.set .here _).ent (ownS_close (by rw [setRange_size]; exact hs) (by subst hxl; subst hk; exact hr.grow hs hfit) (by simp [hxl, hk]) hfit)⟩
      simp [Builtin.append_, run_underlying ht, hE.run_size, run_underlying hd', hnot, hlen, hsrc w rfl, hfit, addr_add, hst]
  · -- a new array
    have hold : (Builtin.firstCells (sz α) m (.slice a m cap)).run P { w with drawn := w.drawn + 1 } = .ok (flat xs).toArray { w with drawn := w.drawn + 1 } :=
      run_firstCells (reads_own (hp) κ _ hw.drew)
    have hro := room_ok (need := m + k) (cap := cap) (by_ := by_) (by omega) hroom
    have hdr := hw.drew
    generalize hq : ({ w with drawn := w.drawn + 1 } : World) = q at *
    have hqh : w.heap = q.heap := by rw [← hq]
    let nc := Question.cut (.appendCap (m + k) cap E) (w.tape w.drawn (.appendCap (m + k) cap E))
    have hnc : m + k ≤ nc := Nat.le_add_right _ _
    let rest := Builtin.zeroCells z.cells (nc - (m + k))
    have hsz : ((flat xs).toArray ++ (flat ys).toArray ++ rest).size = nc * sz α := by
      simp only [Array.size_append, List.size_toArray, flat_length, rest, Builtin.zeroCells, Array.size_map, Array.size_range, hzc, hxl, hk]
      rw [← Nat.add_mul, ← Nat.add_mul]; congr 1; omega
    refine ⟨some ⟨q.heap.size, 0, none⟩, nc, q.alloc (.cells ((flat xs).toArray ++ (flat ys).toArray ++ rest) E), ?_, ?_⟩
    · have hz := hE.run_zero q
      have hq' : ∀ (f : Nat → World → Result Value), (Sem.run P (choose (.appendCap (m + k) cap E)) w).andThen f = f nc q := fun f => by
        rw [run_choose, if_neg (by simp [Question.forced]), hq]; rfl
      simp [Builtin.append_, run_underlying ht, hE.run_size, run_underlying hd', hnot, hlen, hfit, typeInfo, hi4, hi3, hro, hsrc q hqh, hold, hz, Nat.pos_iff_ne_zero.1 hb0, newRow]
      rw [if_neg (by simp [Question.forced]), show w.drew = q from hq, hold]
      simp only [Result.andThen_ok]
      rw [hsrc q hqh]
      simp only [Result.andThen_ok]
      rw [hz]
      simp only [Result.andThen_ok]
      congr 3
      apply Array.ext'
      simp [rest, nc]
    · have hR := (hdr.ent (Ent.pick hp)).tail
      refine (hR.alloc _).ent (ownS_close hsz ?_ (by simp [hxl, hk]) hnc)
      have := Row.fresh (xs ++ ys) rest
      rw [flat_append] at this
      simpa using this
/-- append(s, ys...): ys a slice that can be read (an element list, boxed, too) -/
theorem eff_append {t t' E : TypeId} {by_ : Nat} {z : Value} {x y : Operand} {xs ys : List α} {a a2 : Option Addr} {m cap k c2 : Nat} (ho : o.op = .call { callee := .builtin .append, args := #[x, y], argTypes := #[t, t'] })
    (ht : P.underlying t = some (.slice E)) (hE : TyF P E (sz α) z by_) (hzc : z.cells.size = sz α) (hb0 : 0 < by_) (ht' : P.underlying t' = some (.slice E))
    (hx : oev ρ x = some (.slice a m cap)) (hy : oev ρ y = some (.slice a2 k c2)) (hp : Pick (ownS E a m cap xs) L R) (hr : Reads L a2 k ys) (hroom : (4 * (m + k) + 1024) * by_ ≤ 281474976710656) :
    Eff P κ n L ρ o (fun p : Option Addr × Nat => ownS E p.1 (xs ++ ys).length p.2 (xs ++ ys) :: R) (fun p => .slice p.1 (xs ++ ys).length p.2) := fun ac w K Q ha hw hk => by
  have hs := hr κ w hw
  have hlen : m + k = (xs ++ ys).length := by rw [List.length_append, (ownS_cap hw hp).1, hs.len]
  obtain ⟨a', cap', w', hrun, hw'⟩ := run_append (P := P) (src := .slice a2 k c2) (ys := ys) ht hE hzc hb0 hw hp ⟨_, ht', fun j => by simp⟩ (k := k) (fun w => rfl) hs.len
    (fun q hq => run_firstCells (by have : SL.hp w = SL.hp q := by funext b; simp [SL.hp, hq]
                                    rw [← this]; exact hs)) hroom o.type
  have : (execOp ac.eval o).run P w = .ok (.value (.slice a' (m + k) cap')) w' := by
    simp only [execOp, ho, resolve, Sem.run_bind, Sem.run_pure, Result.andThen_ok, invoke, builtin, List.map_toArray, List.map_cons, List.map_nil, ha.eval hx, ha.eval hy, hrun]
  simp only [Oper.wp, this]
  rw [hlen] at hw' ⊢
  exact hk (a', cap') _ hw'
/-- append(b, s...): s a string -/
theorem eff_appendS {t t' E : TypeId} {by_ : Nat} {z : Value} {x y : Operand} {xs ys : List UInt8} {a : Option Addr} {m cap : Nat} (ho : o.op = .call { callee := .builtin .append, args := #[x, y], argTypes := #[t, t'] })
    (ht : P.underlying t = some (.slice E)) (hE : TyF P E 1 z by_) (hzc : z.cells.size = 1) (hb0 : 0 < by_) (ht' : P.underlying t' = some .string)
    (hx : oev ρ x = some (.slice a m cap)) (hy : oev ρ y = some (vS ys)) (hp : Pick (ownS E a m cap xs) L R) (hroom : (4 * (m + ys.length) + 1024) * by_ ≤ 281474976710656) :
    Eff P κ n L ρ o (fun p : Option Addr × Nat => ownS E p.1 (xs ++ ys).length p.2 (xs ++ ys) :: R) (fun p => .slice p.1 (xs ++ ys).length p.2) := fun ac w K Q ha hw hk => by
  have hl2 : m + ys.length = (xs ++ ys).length := by rw [List.length_append, (ownS_cap hw hp).1]
  obtain ⟨a', cap', w', hrun, hw'⟩ := run_append (P := P) (src := vS ys) (ys := ys) (α := UInt8) ht hE hzc hb0 hw hp ⟨_, ht', fun j => by simp⟩ (k := ys.length) (fun w => by simp [Builtin.lenOf, mkS_size]) rfl
    (fun q hq => by
      simp only [Builtin.firstCells, mkS_extract, List.take_length, List.drop_zero, Sem.run_pure]
      congr 1
      apply Array.ext'
      simp only [mkS, flat, Array.toList_map]
      exact List.map_eq_flatMap) hroom o.type
  have : (execOp ac.eval o).run P w = .ok (.value (.slice a' (m + ys.length) cap')) w' := by
    simp only [execOp, ho, resolve, Sem.run_bind, Sem.run_pure, Result.andThen_ok, invoke, builtin, List.map_toArray, List.map_cons, List.map_nil, ha.eval hx, ha.eval hy, hrun]
  simp only [Oper.wp, this]
  rw [hl2] at hw' ⊢
  exact hk (a', cap') _ hw'

/-! ### 5. Bytes and strings -/
/-- []byte(s) -/
theorem eff_bytes {src dst E : TypeId} {x : Operand} {s : List UInt8} (ho : o.op = .convert src dst x) (hs : P.underlying src = some .string) (hd : P.underlying dst = some (.slice E)) (hE : P.underlying E = some (.int .u8)) (hx : oev ρ x = some (vS s)) :
    Eff P κ n L ρ o (fun p : Nat × Nat => ro (roS (some ⟨p.1, 0, none⟩) s.length s) :: L) (fun p => .slice (some ⟨p.1, 0, none⟩) s.length p.2) := fun ac w K Q ha hw hk => by
  let nc := Question.cut (.appendCap s.length 0 E) (w.tape w.drawn (.appendCap s.length 0 E))
  let c : Array Value := ((mkS s).data.map fun b => Value.int .u8 b.toNat) ++ Array.replicate (nc - s.length) (.int .u8 0)
  have hdr := hw.drew
  generalize hq : ({ w with drawn := w.drawn + 1 } : World) = q at *
  have hc : c = (flat s).toArray ++ Array.replicate (nc - s.length) (.int .u8 0) := by
    have : ((mkS s).data.map fun b => Value.int .u8 b.toNat) = (flat s).toArray := by
      apply Array.ext'
      simp only [mkS, flat, Array.toList_map]
      exact List.map_eq_flatMap
    simp only [c, this]
  have hal := hdr.alloc (.cells c E)
  have hh : (q.alloc (.cells c E)).heap[q.heap.size]? = some (.cells c E (0, 0)) := hal.heap .here
  have hfz : (q.alloc (.cells c E)).freeze ⟨q.heap.size, c.size, none⟩ 1 = setObj' (q.alloc (.cells c E)) q.heap.size (.cells c E (c.size, c.size + 1)) := by
    have hlt : q.heap.size < (q.alloc (.cells c E)).heap.size := (Array.getElem?_eq_some_iff.1 hh).1
    have hv := (Array.getElem?_eq_some_iff.1 hh).2
    simp only [World.freeze, setObj', Nat.one_ne_zero, if_false]
    congr 1
    apply Array.ext
    · simp
    · intro i h1 h2
      by_cases hi : i = q.heap.size
      · subst hi
        rw [Array.getElem_modify, if_pos rfl, hv]
        simp
      · have h1' : i < (q.alloc (.cells c E)).heap.size := by simpa using h1
        rw [Array.getElem_modify, if_neg (Ne.symm hi), Array.getElem_setIfInBounds h1', if_neg (Ne.symm hi)]
  have hrun : (convert src dst (vS s)).run P w = .ok (.slice (some ⟨q.heap.size, 0, none⟩) s.length nc) (setObj' (q.alloc (.cells c E)) q.heap.size (.cells c E (c.size, c.size + 1))) := by
    have h2 : (Conv.stringToBytes E (mkS s)).run P w = .ok (.slice (some ⟨q.heap.size, 0, none⟩) s.length nc) (setObj' (q.alloc (.cells c E)) q.heap.size (.cells c E (c.size, c.size + 1))) := by
      simp only [Conv.stringToBytes, Sem.run_bind, run_choose, mkS_size]
      rw [if_neg (by simp [Question.forced])]
      simp only [Result.andThen_ok]
      rw [hq]
      have hn : (newRow E c).run P q = .ok ⟨q.heap.size, 0, none⟩ (q.alloc (.cells c E)) := rfl
      show Result.andThen (Sem.run P (newRow E c) q) _ = _
      rw [hn]
      simp only [Result.andThen_ok, markStringish, Sem.run_bind, run_shape, World.shape?, hh, run_freeze, hfz, Sem.run_pure]
      rfl
    simp only [convert, Sem.run_bind, run_underlying hs, run_underlying hd, Result.andThen_ok, run_underlying hE, h2]
  have : (execOp ac.eval o).run P w = .ok (.value (.slice (some ⟨q.heap.size, 0, none⟩) s.length nc)) (setObj' (q.alloc (.cells c E)) q.heap.size (.cells c E (c.size, c.size + 1))) := by
    simp only [execOp, ho, ha.eval hx, Sem.run_bind, hrun, Result.andThen_ok, Sem.run_pure]
  simp only [Oper.wp, this]
  refine hk (q.heap.size, nc) _ (((hal.set .here (.cells c E (c.size, c.size + 1))).freeze .here).ent fun p r ⟨p1, p2, k1, k2, k3, hA, hL⟩ => ⟨p1, p2, k1, k2, k3, ⟨rfl, fun _ => ⟨_, 0, c, E, _, rfl, hA, ?_⟩⟩, hL⟩)
  rw [hc]
  exact Row.fresh s _
theorem freeze_fresh {q : World} {b : Nat} {c : Array Value} {E : TypeId} (hh : q.heap[b]? = some (.cells c E (0, 0))) : q.freeze ⟨b, c.size, none⟩ 1 = setObj' q b (.cells c E (c.size, c.size + 1)) := by
  have hlt : b < q.heap.size := (Array.getElem?_eq_some_iff.1 hh).1
  have hv := (Array.getElem?_eq_some_iff.1 hh).2
  simp only [World.freeze, setObj', Nat.one_ne_zero, if_false]
  congr 1
  apply Array.ext
  · simp
  · intro i h1 h2
    by_cases hi : i = b
    · subst hi
      rw [Array.getElem_modify, if_pos rfl, hv]
      simp
    · have h1' : i < q.heap.size := by simpa using h1
      rw [Array.getElem_modify, if_neg (Ne.symm hi), Array.getElem_setIfInBounds h1', if_neg (Ne.symm hi)]
/-- bytes converted to bytes: the same ones, and nobody's to write any more -/
theorem eff_convSl {t E E' : TypeId} {x : Operand} {b m cap : Nat} {xs : List UInt8} (ho : o.op = .convert t t x) (ht : P.underlying t = some (.slice E)) (hE : P.underlying E = some (.int .u8)) (hx : oev ρ x = some (.slice (some ⟨b, 0, none⟩) m cap)) (k : Pick (ownS E' (some ⟨b, 0, none⟩) m cap xs) L R) :
    Eff P κ n L ρ o (fun _ : Unit => ro (roS (some ⟨b, 0, none⟩) m xs) :: R) (fun _ => .slice (some ⟨b, 0, none⟩) m cap) := fun ac w K Q ha hw hk => by
  obtain ⟨h1, h2, h3⟩ := ownS_open (hw.ent (Ent.pick k))
  rcases h3 with ⟨e, _⟩ | ⟨b', c, e, hs, hr, hR⟩
  · cases e
  · cases e
    have hh := hR.heap .here
    have hrun : (convert t t (.slice (some ⟨b, 0, none⟩) m cap)).run P w = .ok (.slice (some ⟨b, 0, none⟩) m cap) (setObj' w b (.cells c E' (c.size, c.size + 1))) := by
      simp only [convert, Sem.run_bind, run_underlying ht, Result.andThen_ok, beq_self_eq_true, run_underlying hE, markStringish, run_shape, World.shape?, hh, run_freeze, freeze_fresh hh, Sem.run_pure]
    have : (execOp ac.eval o).run P w = .ok (.value (.slice (some ⟨b, 0, none⟩) m cap)) (setObj' w b (.cells c E' (c.size, c.size + 1))) := by
      simp only [execOp, ho, ha.eval hx, Sem.run_bind, hrun, Result.andThen_ok, Sem.run_pure]
    simp only [Oper.wp, this]
    exact hk () _ (((hR.set .here (.cells c E' (c.size, c.size + 1))).freeze .here).ent fun p r ⟨p1, p2, k1, k2, k3, hA, hL⟩ => ⟨p1, p2, k1, k2, k3, ⟨h1, fun _ => ⟨b, 0, c, E', _, rfl, hA, hr⟩⟩, hL⟩)
theorem push_fold (l : List UInt8) : ∀ r : ByteArray, (l.map fun b => (b.toNat : Int)).foldl (fun r n => r.push (UInt8.ofNat n.toNat)) r = r ++ mkS l := by
  induction l with
  | nil => intro r; apply ByteArray.ext; simp [mkS]
  | cons b l ih =>
    intro r
    rw [List.map_cons, List.foldl_cons, ih]
    apply ByteArray.ext
    simp [mkS]
theorem run_bytesToString {a : Option Addr} {m cap : Nat} {s : List UInt8} {w : World} (h : SliceIn (hp w) a m s) : (Conv.bytesToString (.slice a m cap)).run P w = .ok (vS s) w := by
  have hf := run_firstCells (P := P) (cap := cap) h
  have he : (flat s).toArray = ((s.map fun b => (b.toNat : Int)).map (Value.int .u8)).toArray := by
    congr 1
    rw [List.map_map]
    exact List.map_eq_flatMap.symm
  cases a with
  | none =>
    have h0 : m = 0 := by
      rcases Nat.eq_zero_or_pos m with e | e
      · exact e
      · obtain ⟨b, off, c, E, fr, e', _⟩ := h.at_ e; cases e'
    subst h0
    obtain rfl : s = [] := List.eq_nil_of_length_eq_zero h.len
    rfl
  | some p =>
    have hl : (loadCells p m).run P w = .ok ((s.map fun b => (b.toNat : Int)).map (Value.int .u8)).toArray w := by
      rw [← he]
      simpa [Builtin.firstCells, show sz UInt8 = 1 from rfl] using hf
    rw [Go.run_bytesToString w p m cap _ hl, push_fold]
    simp
/-- string(b) -/
theorem ev_str {src dst E : TypeId} {x : Operand} {a : Option Addr} {m cap : Nat} {s : List UInt8} (ho : o.op = .convert src dst x) (hs : P.underlying src = some (.slice E)) (hE : P.underlying E = some (.int .u8)) (hd : P.underlying dst = some .string) (hx : oev ρ x = some (.slice a m cap)) (hr : Reads L a m s) : Ev P κ n L ρ o (vS s) := fun ac w ha hw => by
  have h := run_bytesToString (P := P) (cap := cap) (hr κ w hw)
  have hrun : (convert src dst (.slice a m cap)).run P w = .ok (vS s) w := by
    cases a <;> simp only [convert, Sem.run_bind, run_underlying hs, run_underlying hd, Result.andThen_ok, run_underlying hE, h]
  simp only [execOp, ho, ha.eval hx, Sem.run_bind, hrun, Result.andThen_ok, Sem.run_pure]
end
end Go.SL
