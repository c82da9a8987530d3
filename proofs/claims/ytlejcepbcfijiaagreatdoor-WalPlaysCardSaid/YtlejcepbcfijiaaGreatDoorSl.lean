/-
  A SEPARATION LOGIC over the walk's predicates: one hypothesis on the heap ('Sat κ L w': a list of chunks), a partial frame ('Env'), triples for code ('HT'), for operations ('HOps') and for exits ('HX'); contracts of functions ('Fn'). Conditions: none; it speaks of any program.
-/
import Derived.WalkKit
import Derived.Orders
set_option linter.unusedVariables false
set_option linter.unusedSimpArgs false
namespace Go.SL
open Go

/-! ### 1. Partial heaps, chunks -/
abbrev Part := Nat → Option Obj
structure Part.le (p q : Part) : Prop where mk ::
  out : ∀ b o, p b = some o → q b = some o
structure Part.disj (p q : Part) : Prop where mk ::
  out : ∀ b, p b = none ∨ q b = none
def hp (w : World) : Part := fun b => w.heap[b]?
def Part.one (b : Nat) (o : Obj) : Part := fun i => if i = b then some o else none
def Part.or (p q : Part) : Part := fun i => (p i).or (q i)
def Part.no : Part := fun _ => none

theorem Part.le.refl (p : Part) : p.le p := ⟨fun _ _ h => h⟩
theorem Part.le.trans {p q r : Part} (h : p.le q) (k : q.le r) : p.le r := ⟨fun b o e => k.out b o (h.out b o e)⟩
theorem Part.no_le (p : Part) : Part.no.le p := ⟨fun _ _ e => by simp [Part.no] at e⟩
theorem Part.no_disj (p : Part) : Part.no.disj p := ⟨fun _ => .inl rfl⟩
theorem Part.disj.symm {p q : Part} (h : p.disj q) : q.disj p := ⟨fun b => (h.out b).symm⟩
theorem Part.le.none {p q : Part} (h : p.le q) {b : Nat} (e : q b = none) : p b = none := by
  cases e' : p b with
  | none => rfl
  | some o => rw [h.out b o e'] at e; cases e
theorem Part.disj.mono {p q p' q' : Part} (h : p.disj q) (hp : p'.le p) (hq : q'.le q) : p'.disj q' := ⟨fun b => by
  rcases h.out b with h | h
  · exact .inl (hp.none h)
  · exact .inr (hq.none h)⟩
theorem Part.le_or_left (p q : Part) : p.le (p.or q) := ⟨fun b o h => by simp [Part.or, h]⟩
theorem Part.le_or_right {p q : Part} (h : p.disj q) : q.le (p.or q) := ⟨fun b o e => by
  rcases h.out b with h | h
  · simp [Part.or, h, e]
  · rw [h] at e; cases e⟩
theorem Part.or_le {p q r : Part} (h : p.le r) (k : q.le r) : (p.or q).le r := ⟨fun b o e => by
  unfold Part.or at e
  cases hb : p b with
  | none => rw [hb] at e; exact k.out b o (by simpa using e)
  | some o' => rw [hb] at e; simp at e; subst e; exact h.out b _ hb⟩
theorem Part.disj_or {p q r : Part} (h : p.disj r) (k : q.disj r) : (p.or q).disj r := ⟨fun b => by
  rcases h.out b with h | h
  · rcases k.out b with k | k
    · left; simp [Part.or, h, k]
    · exact .inr k
  · exact .inr h⟩
theorem Part.disj.some_left {p q : Part} (h : p.disj q) {b : Nat} {o : Obj} (e : p b = some o) : q b = none := by
  rcases h.out b with h | h
  · rw [e] at h; cases h
  · exact h
theorem Part.one_disj {b : Nat} {o : Obj} {q : Part} (h : q b = none) : (Part.one b o).disj q := ⟨fun i => by
  by_cases hi : i = b
  · subst hi; exact .inr h
  · left; simp [Part.one, hi]⟩
theorem Part.one_le {b : Nat} {o : Obj} {q : Part} (h : q b = some o) : (Part.one b o).le q := ⟨fun i x e => by
  unfold Part.one at e
  split at e
  · rename_i hi; subst hi; cases e; exact h
  · cases e⟩

structure Assn where
  h : Part → Part → Prop
  mono : ∀ {p p' r r' : Part}, h p r → p.le p' → r.le r' → h p' r'

def Sep : List Assn → Part → Part → Prop
  | [], _, _ => True
  | A :: L, p, r => ∃ p1 p2 : Part, p1.le p ∧ p2.le p ∧ p1.disj p2 ∧ A.h p1 r ∧ Sep L p2 r

theorem Sep.mono : ∀ {L : List Assn} {p p' r r' : Part}, Sep L p r → p.le p' → r.le r' → Sep L p' r'
  | [], _, _, _, _, _, _, _ => trivial
  | A :: L, p, p', r, r', ⟨p1, p2, h1, h2, hd, hA, hL⟩, hp, hr =>
    ⟨p1, p2, h1.trans hp, h2.trans hp, hd, A.mono hA (Part.le.refl _) hr, Sep.mono hL (Part.le.refl _) hr⟩

theorem Sep.swap {A B : Assn} {L : List Assn} {p r : Part} (h : Sep (A :: B :: L) p r) : Sep (B :: A :: L) p r := by
  obtain ⟨p1, p2, h1, h2, hd, hA, q1, q2, k1, k2, kd, hB, hL⟩ := h
  have d1 : p1.disj q1 := hd.mono (Part.le.refl _) k1
  have d2 : p1.disj q2 := hd.mono (Part.le.refl _) k2
  refine ⟨q1, p1.or q2, k1.trans h2, Part.or_le h1 (k2.trans h2), (Part.disj_or d1 kd.symm).symm, hB, p1, q2, Part.le_or_left _ _, Part.le_or_right d2, d2, hA, hL⟩

/-- taking one chunk out of a list -/
inductive Pick : Assn → List Assn → List Assn → Prop
  | here {A : Assn} {L : List Assn} : Pick A (A :: L) L
  | there {A B : Assn} {L R : List Assn} : Pick A L R → Pick A (B :: L) (B :: R)

theorem Pick.sep {A : Assn} {L R : List Assn} (k : Pick A L R) : ∀ {p r : Part}, Sep L p r → Sep (A :: R) p r := by
  induction k with
  | here => exact fun h => h
  | there k ih =>
    intro p r h
    obtain ⟨p1, p2, h1, h2, hd, hB, hL⟩ := h
    have h' : Sep (_ :: _ :: _) p r := ⟨p1, p2, h1, h2, hd, hB, ih hL⟩
    exact h'.swap

theorem Pick.back {A : Assn} {L R : List Assn} (k : Pick A L R) : ∀ {p r : Part}, Sep (A :: R) p r → Sep L p r := by
  induction k with
  | here => exact fun h => h
  | there k ih =>
    intro p r h
    obtain ⟨p1, p2, h1, h2, hd, hB, hL⟩ := h.swap
    exact ⟨p1, p2, h1, h2, hd, hB, ih hL⟩

theorem Sep.append : ∀ {L M : List Assn} {p r : Part}, Sep (L ++ M) p r → ∃ p1 p2 : Part, p1.le p ∧ p2.le p ∧ p1.disj p2 ∧ Sep L p1 r ∧ Sep M p2 r
  | [], M, p, r, h => ⟨Part.no, p, Part.no_le _, Part.le.refl _, Part.no_disj _, trivial, h⟩
  | A :: L, M, p, r, h => by
    obtain ⟨p1, p2, h1, h2, hd, hA, hL⟩ := h
    obtain ⟨q1, q2, k1, k2, kd, hq1, hq2⟩ := Sep.append hL
    have d1 : p1.disj q1 := hd.mono (Part.le.refl _) k1
    have d2 : p1.disj q2 := hd.mono (Part.le.refl _) k2
    exact ⟨p1.or q1, q2, Part.or_le h1 (k1.trans h2), k2.trans h2, Part.disj_or d2 kd, ⟨p1, q1, Part.le_or_left _ _, Part.le_or_right d1, d1, hA, hq1⟩, hq2⟩

theorem Sep.join : ∀ {L M : List Assn} {p1 p2 p r : Part}, p1.le p → p2.le p → p1.disj p2 → Sep L p1 r → Sep M p2 r → Sep (L ++ M) p r
  | [], M, p1, p2, p, r, _, h2, _, _, hM => hM.mono h2 (Part.le.refl _)
  | A :: L, M, p1, p2, p, r, h1, h2, hd, ⟨q1, q2, k1, k2, kd, hA, hL⟩, hM => by
    have d1 : q1.disj p2 := hd.mono k1 (Part.le.refl _)
    have d2 : q2.disj p2 := hd.mono k2 (Part.le.refl _)
    exact ⟨q1, q2.or p2, k1.trans h1, Part.or_le (k2.trans h1) h2, (Part.disj_or kd.symm d1.symm).symm, hA, Sep.join (Part.le_or_left _ _) (Part.le_or_right d2) d2 hL hM⟩

/-! ### 2. Kinds of chunks -/
/-- the block b is this object, and nobody else's -/
def pt (b : Nat) (o : Obj) : Assn := ⟨fun p _ => p b = some o, fun h hp _ => hp.out _ _ h⟩
/-- a predicate on memory that nobody writes any more -/
structure RoP where
  p : Part → Prop
  mono : ∀ {r r' : Part}, p r → r.le r' → p r'
def ro (φ : RoP) : Assn := ⟨fun _ r => φ.p r, fun h _ hr => φ.mono h hr⟩
def pu (φ : Prop) : Assn := ⟨fun _ _ => φ, fun h _ _ => h⟩
def ex {X : Type} (A : X → Assn) : Assn := ⟨fun p r => ∃ x, (A x).h p r, fun ⟨x, h⟩ hp hr => ⟨x, (A x).mono h hp hr⟩⟩
def star (M : List Assn) : Assn := ⟨Sep M, fun h hp hr => h.mono hp hr⟩
def roB (b : Nat) (o : Obj) : RoP := ⟨fun r => r b = some o, fun h hr => hr.out _ _ h⟩
def RoP.and (φ ψ : RoP) : RoP := ⟨fun r => φ.p r ∧ ψ.p r, fun h hr => ⟨φ.mono h.1 hr, ψ.mono h.2 hr⟩⟩

/-! ### 3. The world -/
structure Sat (κ : World) (L : List Assn) (w : World) : Prop where mk ::
  os : w.os = κ.os
  tape : w.tape = κ.tape
  output : w.output = κ.output
  sep : ∃ p r : Part, p.le (hp w) ∧ r.le (hp w) ∧ p.disj r ∧ Sep L p r

def Ent (L M : List Assn) : Prop := ∀ p r : Part, Sep L p r → Sep M p r
theorem Ent.refl (L : List Assn) : Ent L L := fun _ _ h => h
theorem Ent.trans {L M N : List Assn} (h : Ent L M) (k : Ent M N) : Ent L N := fun p r e => k p r (h p r e)
theorem Ent.nil {L : List Assn} : Ent L [] := fun _ _ _ => trivial
theorem Ent.cons {A : Assn} {L R M : List Assn} (k : Pick A L R) (h : Ent R M) : Ent L (A :: M) := fun p r e => by
  obtain ⟨p1, p2, h1, h2, hd, hA, hR⟩ := k.sep e
  exact ⟨p1, p2, h1, h2, hd, hA, h _ _ hR⟩
theorem Ent.pick {A : Assn} {L R : List Assn} (k : Pick A L R) : Ent L (A :: R) := fun _ _ e => k.sep e
theorem Ent.back {A : Assn} {L R : List Assn} (k : Pick A L R) : Ent (A :: R) L := fun _ _ e => k.back e
theorem Ent.pu {φ : Prop} {L M : List Assn} (hφ : φ) (h : Ent L M) : Ent L (SL.pu φ :: M) := fun p r e =>
  ⟨Part.no, p, Part.no_le _, Part.le.refl _, Part.no_disj _, hφ, h p r e⟩
theorem Ent.ex {X : Type} {A : X → Assn} {L M : List Assn} (x : X) (h : Ent L (A x :: M)) : Ent L (SL.ex A :: M) := fun p r e => by
  obtain ⟨p1, p2, h1, h2, hd, hA, hR⟩ := h p r e
  exact ⟨p1, p2, h1, h2, hd, ⟨x, hA⟩, hR⟩
theorem Ent.star {N L M : List Assn} (h : Ent L (N ++ M)) : Ent L (SL.star N :: M) := fun p r e => by
  obtain ⟨p1, p2, h1, h2, hd, hN, hM⟩ := (h p r e).append
  exact ⟨p1, p2, h1, h2, hd, hN, hM⟩
theorem Ent.frame {A : Assn} {L M : List Assn} (h : Ent L M) : Ent (A :: L) (A :: M) := Ent.cons .here h
theorem Ent.drop {A : Assn} {L M : List Assn} (h : Ent L M) : Ent (A :: L) M := fun p r ⟨_, _, _, h2, _, _, hL⟩ => h p r (hL.mono h2 (Part.le.refl _))
theorem Ent.roDup {φ : RoP} {L M : List Assn} (h : Ent (ro φ :: L) M) : Ent (ro φ :: L) (ro φ :: M) := fun p r e => by
  obtain ⟨p1, p2, h1, h2, hd, hA, hR⟩ := e
  refine ⟨Part.no, p, Part.no_le _, Part.le.refl _, Part.no_disj _, hA, h p r ⟨p1, p2, h1, h2, hd, hA, hR⟩⟩
/-- a read-only chunk may be told once more, or told as something weaker -/
theorem Ent.roWeak {φ ψ : RoP} {L R M : List Assn} (k : Pick (ro φ) L R) (hw : ∀ r, φ.p r → ψ.p r) (h : Ent L M) : Ent L (ro ψ :: M) := fun p r e => by
  obtain ⟨p1, p2, h1, h2, hd, hA, hR⟩ := k.sep e
  exact ⟨Part.no, p, Part.no_le _, Part.le.refl _, Part.no_disj _, hw _ hA, h p r e⟩

theorem Ent.roWeak2 {φ φ' ψ : RoP} {L R R' M : List Assn} (k : Pick (ro φ) L R) (k' : Pick (ro φ') L R') (hw : ∀ r, φ.p r → φ'.p r → ψ.p r) (h : Ent L M) : Ent L (ro ψ :: M) := fun p r e => by
  obtain ⟨p1, p2, h1, h2, hd, hA, hR⟩ := k.sep e
  obtain ⟨q1, q2, j1, j2, jd, hA', hR'⟩ := k'.sep e
  exact ⟨Part.no, p, Part.no_le _, Part.le.refl _, Part.no_disj _, hw _ hA hA', h p r e⟩
theorem Ent.roAnd {φ φ' : RoP} {L R R' M : List Assn} (k : Pick (ro φ) L R) (k' : Pick (ro φ') L R') (h : Ent (ro (RoP.and φ φ') :: L) M) : Ent L M := fun p r e => h p r (Ent.roWeak2 (ψ := RoP.and φ φ') k k' (fun _ a b => And.intro a b) (Ent.refl _) p r e)
/-- what needs no memory at all -/
theorem Ent.roTrue {ψ : RoP} {L M : List Assn} (hw : ∀ r, ψ.p r) (h : Ent L M) : Ent L (ro ψ :: M) := fun p r e => ⟨Part.no, p, Part.no_le _, Part.le.refl _, Part.no_disj _, hw _, h p r e⟩
theorem Sat.ent {κ : World} {L M : List Assn} {w : World} (h : Sat κ L w) (k : Ent L M) : Sat κ M w :=
  ⟨h.os, h.tape, h.output, let ⟨p, r, h1, h2, h3, h4⟩ := h.sep; ⟨p, r, h1, h2, h3, k p r h4⟩⟩

theorem Sat.drew {κ : World} {L : List Assn} {w : World} (h : Sat κ L w) : Sat κ L { w with drawn := w.drawn + 1 } := ⟨h.os, h.tape, h.output, h.sep⟩

theorem Sat.pure {κ : World} {φ : Prop} {L : List Assn} {w : World} (h : Sat κ (pu φ :: L) w) : φ := by
  obtain ⟨p, r, _, _, _, p1, p2, _, _, _, hA, _⟩ := h.sep
  exact hA
theorem Sat.tail {κ : World} {A : Assn} {L : List Assn} {w : World} (h : Sat κ (A :: L) w) : Sat κ L w := h.ent (Ent.drop (Ent.refl _))
theorem Sat.exists {κ : World} {X : Type} {A : X → Assn} {L : List Assn} {w : World} (h : Sat κ (ex A :: L) w) : ∃ x, Sat κ (A x :: L) w := by
  obtain ⟨p, r, h1, h2, h3, p1, p2, k1, k2, k3, ⟨x, hA⟩, hL⟩ := h.sep
  exact ⟨x, h.os, h.tape, h.output, p, r, h1, h2, h3, p1, p2, k1, k2, k3, hA, hL⟩
theorem Sat.unstar {κ : World} {M L : List Assn} {w : World} (h : Sat κ (star M :: L) w) : Sat κ (M ++ L) w := by
  obtain ⟨p, r, h1, h2, h3, p1, p2, k1, k2, k3, hM, hL⟩ := h.sep
  exact ⟨h.os, h.tape, h.output, p, r, h1, h2, h3, Sep.join k1 k2 k3 hM hL⟩

theorem Sep.addRo {φ : RoP} {L : List Assn} {p r : Part} (h : φ.p r) (k : Sep L p r) : Sep (SL.ro φ :: L) p r := ⟨Part.no, p, Part.no_le _, Part.le.refl _, Part.no_disj _, h, k⟩
theorem Sat.heap {κ : World} {b : Nat} {o : Obj} {L R : List Assn} {w : World} (h : Sat κ L w) (k : Pick (pt b o) L R) : w.heap[b]? = some o := by
  obtain ⟨p, r, h1, h2, h3, h4⟩ := h.sep
  obtain ⟨p1, p2, k1, k2, k3, hA, hL⟩ := k.sep h4
  exact h1.out _ _ (k1.out _ _ hA)
/-- what a read-only predicate says, it says of some part of the memory -/
theorem Sat.ro {κ : World} {φ : RoP} {L R : List Assn} {w : World} (h : Sat κ L w) (k : Pick (ro φ) L R) : φ.p (hp w) := by
  obtain ⟨p, r, h1, h2, h3, h4⟩ := h.sep
  obtain ⟨p1, p2, k1, k2, k3, hA, hL⟩ := k.sep h4
  exact φ.mono hA h2

theorem hp_alloc_new (w : World) (o : Obj) : hp (w.alloc o) w.heap.size = some o := by
  show (w.heap.push o)[w.heap.size]? = some o
  simp
theorem hp_alloc_le (w : World) (o : Obj) : (hp w).le (hp (w.alloc o)) := ⟨fun b o' h => by
  have h' : w.heap[b]? = some o' := h
  have hlt : b < w.heap.size := (Array.getElem?_eq_some_iff.1 h').1
  show (w.heap.push o)[b]? = some o'
  rw [Array.getElem?_push_lt hlt, ← h', Array.getElem?_eq_getElem hlt]⟩
theorem le_size {w : World} {p : Part} (h : p.le (hp w)) : p w.heap.size = none := h.none (by simp [hp])

theorem Sat.alloc {κ : World} {L : List Assn} {w : World} (h : Sat κ L w) (o : Obj) : Sat κ (pt w.heap.size o :: L) (w.alloc o) := by
  obtain ⟨p, r, h1, h2, h3, h4⟩ := h.sep
  have hd : (Part.one w.heap.size o).disj p := Part.one_disj (le_size h1)
  exact ⟨h.os, h.tape, h.output, (Part.one w.heap.size o).or p, r, Part.or_le (Part.one_le (hp_alloc_new w o)) (h1.trans (hp_alloc_le w o)), h2.trans (hp_alloc_le w o),
    Part.disj_or (Part.one_disj (le_size h2)) h3, Part.one w.heap.size o, p, Part.le_or_left _ _, Part.le_or_right hd, hd, by simp [pt, Part.one], h4⟩

/-- the same block with another object in it -/
def setObj' (w : World) (b : Nat) (o : Obj) : World := { w with heap := w.heap.setIfInBounds b o }

theorem Sat.set {κ : World} {b : Nat} {o : Obj} {L R : List Assn} {w : World} (h : Sat κ L w) (k : Pick (pt b o) L R) (o' : Obj) : Sat κ (pt b o' :: R) (setObj' w b o') := by
  obtain ⟨p, r, h1, h2, h3, h4⟩ := h.sep
  obtain ⟨p1, p2, k1, k2, k3, hA, hL⟩ := k.sep h4
  have hA : p1 b = some o := hA
  have hb : w.heap[b]? = some o := h1.out _ _ (k1.out _ _ hA)
  have hlt : b < w.heap.size := (Array.getElem?_eq_some_iff.1 hb).1
  have e2 : p2 b = none := k3.some_left hA
  have er : r b = none := h3.some_left (k1.out _ _ hA)
  have hold : ∀ i, i ≠ b → hp (setObj' w b o') i = hp w i := fun i hi => by
    simp only [hp, setObj']
    rw [Array.getElem?_setIfInBounds_ne (Ne.symm hi)]
  have hle : ∀ q : Part, q.le (hp w) → q b = none → q.le (hp (setObj' w b o')) := fun q hq hn => ⟨fun i x e => by
    have hi : i ≠ b := fun hi => by subst hi; rw [hn] at e; cases e
    rw [hold i hi]; exact hq.out _ _ e⟩
  have hd : (Part.one b o').disj p2 := Part.one_disj e2
  exact ⟨h.os, h.tape, h.output, (Part.one b o').or p2, r, Part.or_le (Part.one_le (by simp [hp, setObj', hlt])) (hle p2 (k2.trans h1) e2), hle r h2 er, Part.disj_or (Part.one_disj er) (h3.mono k2 (Part.le.refl _)),
    Part.one b o', p2, Part.le_or_left _ _, Part.le_or_right hd, hd, by simp [pt, Part.one], hL⟩

/-- what is mine may be given up for everybody to read -/
theorem Sat.freeze {κ : World} {b : Nat} {o : Obj} {L R : List Assn} {w : World} (h : Sat κ L w) (k : Pick (pt b o) L R) : Sat κ (SL.ro (roB b o) :: R) w := by
  obtain ⟨p, r, h1, h2, h3, h4⟩ := h.sep
  obtain ⟨p1, p2, k1, k2, k3, hA, hL⟩ := k.sep h4
  have hA : p1 b = some o := hA
  have er : r b = none := h3.some_left (k1.out _ _ hA)
  have e2 : p2 b = none := k3.some_left hA
  have hd : (Part.one b o).disj r := Part.one_disj er
  refine ⟨h.os, h.tape, h.output, p2, (Part.one b o).or r, k2.trans h1, Part.or_le (Part.one_le (h1.out _ _ (k1.out _ _ hA))) h2, (Part.disj_or (Part.one_disj e2) (h3.mono k2 (Part.le.refl _)).symm).symm,
    Part.no, p2, Part.no_le _, Part.le.refl _, Part.no_disj _, ?_, hL.mono (Part.le.refl _) (Part.le_or_right hd)⟩
  simp [SL.ro, roB, Part.or, Part.one]

/-! ### 4. The frame -/
open Classical in
noncomputable def least (p : Nat → Prop) : Nat := if h : ∃ m, p m ∧ ∀ k, k < m → ¬ p k then Classical.choose h else 0
theorem least_ex {p : Nat → Prop} (h : ∃ m, p m) : ∃ m, p m ∧ ∀ k, k < m → ¬ p k := by
  obtain ⟨m, hm⟩ := h
  induction m using Nat.strongRecOn with
  | _ m ih =>
    by_cases hk : ∃ k, k < m ∧ p k
    · obtain ⟨k, hlt, hp⟩ := hk
      exact ih k hlt hp
    · exact ⟨m, hm, fun k hlt hp => hk ⟨k, hlt, hp⟩⟩
theorem least_spec {p : Nat → Prop} (h : ∃ m, p m) : p (least p) ∧ ∀ k, k < least p → ¬ p k := by
  have h' := least_ex h
  unfold least
  rw [dif_pos h']
  exact Classical.choose_spec h'
theorem least_le {p : Nat → Prop} {m : Nat} (h : p m) : least p ≤ m := by
  have := (least_spec ⟨m, h⟩).2
  rcases Nat.lt_or_ge m (least p) with hlt | hge
  · exact absurd h (this m hlt)
  · exact hge
theorem beq_ne {d t : Nat} (h : ¬ d = t) : Nat.beq d t = false := by
  cases e : Nat.beq d t with
  | false => rfl
  | true => exact absurd (Nat.eq_of_beq_eq_true e) h
abbrev Env := List (Nat × Value)
def Env.get : Env → Nat → Option Value
  | [], _ => none
  | (k, v) :: ρ, t => bif Nat.beq k t then some v else Env.get ρ t
/-- The frame has so many slots, no deferred calls, and these slots hold these values. -/
structure EnvOk (n : Nat) (ρ : Env) (a : Act) : Prop where mk ::
  size : a.tmps.size = n
  defers : a.defers = []
  slot : ∀ t v, ρ.get t = some v → a.tmps[t]? = some v
def oev (ρ : Env) : Operand → Option Value
  | .tmp t => ρ.get t
  | .const v => some v
  | .global g => some (.pointer (some ⟨g, 0, none⟩))
  | .func f => some (.func (.func f) #[] #[])
theorem EnvOk.eval {n : Nat} {ρ : Env} {a : Act} (h : EnvOk n ρ a) {x : Operand} {v : Value} (hx : oev ρ x = some v) : a.eval x = v := by
  cases x with
  | tmp t => have := h.slot t v hx; simp [Act.eval, this]
  | const u => simpa [oev, Act.eval] using hx
  | global g => simpa [oev, Act.eval] using hx
  | func f => simpa [oev, Act.eval] using hx
theorem EnvOk.put {n : Nat} {ρ : Env} {a : Act} (h : EnvOk n ρ a) {d : Nat} (hd : d < n) (v : Value) : EnvOk n ((d, v) :: ρ) (a.put (some d) v) := by
  refine ⟨by simp [Act.put, h.size], by simp [Act.put, h.defers], fun t u e => ?_⟩
  simp only [Env.get] at e
  simp only [Act.put]
  by_cases hk : d = t
  · subst hk
    rw [show Nat.beq d d = true from by simp] at e
    simp only [cond_true, Option.some.injEq] at e
    subst e
    simp [h.size, hd]
  · rw [beq_ne hk] at e
    simp only [cond_false] at e
    rw [Array.getElem?_setIfInBounds_ne hk]
    exact h.slot t u e
theorem EnvOk.put_none {n : Nat} {ρ : Env} {a : Act} (h : EnvOk n ρ a) (v : Value) : EnvOk n ρ (a.put none v) := h
/-- Slots may be forgotten. -/
def EnvSub (ρ ρ' : Env) : Prop := ∀ t v, ρ'.get t = some v → ρ.get t = some v
theorem EnvOk.sub {n : Nat} {ρ ρ' : Env} {a : Act} (h : EnvOk n ρ a) (k : EnvSub ρ ρ') : EnvOk n ρ' a := ⟨h.size, h.defers, fun t v e => h.slot t v (k t v e)⟩
theorem EnvSub.nil (ρ : Env) : EnvSub ρ [] := fun t v e => by simp [Env.get] at e
theorem EnvSub.cons {ρ ρ' : Env} {d : Nat} {v : Value} (h : ρ.get d = some v) (k : EnvSub ρ ρ') : EnvSub ρ ((d, v) :: ρ') := fun t u e => by
  simp only [Env.get] at e
  by_cases hk : d = t
  · subst hk
    rw [show Nat.beq d d = true from by simp] at e
    simp only [cond_true, Option.some.injEq] at e
    subst e; exact h
  · rw [beq_ne hk] at e
    exact k t u (by simpa using e)

/-- lists put together, told so that the outcome is a plain list -/
inductive App : List Assn → List Assn → List Assn → Prop
  | nil {L : List Assn} : App [] L L
  | cons {A : Assn} {M L S : List Assn} : App M L S → App (A :: M) L (A :: S)
theorem App.eq {M L S : List Assn} (h : App M L S) : S = M ++ L := by
  induction h with
  | nil => rfl
  | cons _ ih => rw [ih]; rfl
/-! ### 5. Triples -/
section
variable (P : Program) (κ : World) (n : Nat)
def HX (e : Exit) (L : List Assn) (ρ : Env) (Q : Exit → Act → World → Prop) : Prop := ∀ a w, EnvOk n ρ a → Sat κ L w → Q e a w
def HT (L : List Assn) (ρ : Env) (c : Code) (Q : Exit → Act → World → Prop) : Prop := ∀ a w, EnvOk n ρ a → Sat κ L w → c.wp P Q a w
def HOps (ops : Array Oper) (L : List Assn) (ρ : Env) (l : List Oper) (Q : Exit → Act → World → Prop) : Prop := ∀ a w, EnvOk n ρ a → Sat κ L w → wpList P ops Q l a w
/-- The operation only reads: its value. -/
def Ev (L : List Assn) (ρ : Env) (o : Oper) (v : Value) : Prop := ∀ a w, EnvOk n ρ a → Sat κ L w → (execOp a.eval o).run P w = .ok (.value v) w
end

section
variable {P : Program} {κ : World} {n : Nat} {L M R : List Assn} {ρ : Env} {ops : Array Oper} {o : Oper} {l : List Oper} {Q : Exit → Act → World → Prop}

/-! #### code -/
theorem ht_seq {x y : Code} (h : HT P κ n L ρ x (Exit.then (fun a w => y.wp P Q a w) Q)) : HT P κ n L ρ (x.seq y) Q := fun a w ha hw => wp_seq (h a w ha hw)
theorem ht_skip (h : HX κ n .normal L ρ Q) : HT P κ n L ρ .skip Q := fun a w ha hw => wp_skip (h a w ha hw)
theorem ht_ret (h : HX κ n .ret L ρ Q) : HT P κ n L ρ .ret Q := fun a w ha hw => wp_ret (h a w ha hw)
theorem ht_exit {i : Nat} (h : HX κ n (.exit i) L ρ Q) : HT P κ n L ρ (.exit i) Q := fun a w ha hw => wp_exit (h a w ha hw)
theorem ht_block {i : Nat} {c : Code} (h : HT P κ n L ρ c (Exit.inBlock i Q)) : HT P κ n L ρ (.block i c) Q := fun a w ha hw => wp_block (h a w ha hw)
theorem ht_region {i : Nat} {l : List Oper} (h : HOps P κ n l.toArray L ρ l Q) : HT P κ n L ρ (.region i l.toArray false) Q := fun a w ha hw => wp_region_lit (h a w ha hw)
theorem ht_then {c : Operand} {x y : Code} (hc : oev ρ c = some (.bool true)) (h : HT P κ n L ρ x Q) : HT P κ n L ρ (.cond c x y) Q := fun a w ha hw => wp_cond_true (ha.eval hc) (h a w ha hw)
theorem ht_else {c : Operand} {x y : Code} (hc : oev ρ c = some (.bool false)) (h : HT P κ n L ρ y Q) : HT P κ n L ρ (.cond c x y) Q := fun a w ha hw => wp_cond_false (ha.eval hc) (h a w ha hw)
theorem ht_ent {c : Code} (k : Ent L M) (h : HT P κ n M ρ c Q) : HT P κ n L ρ c Q := fun a w ha hw => h a w ha (hw.ent k)
theorem ht_env {c : Code} {ρ' : Env} (k : EnvSub ρ ρ') (h : HT P κ n L ρ' c Q) : HT P κ n L ρ c Q := fun a w ha hw => h a w (ha.sub k) hw
theorem ht_pure {c : Code} {φ : Prop} (h : φ → HT P κ n L ρ c Q) : HT P κ n (pu φ :: L) ρ c Q := fun a w ha hw => h hw.pure a w ha hw.tail
theorem ht_ex {c : Code} {X : Type} {A : X → Assn} (h : ∀ x, HT P κ n (A x :: L) ρ c Q) : HT P κ n (ex A :: L) ρ c Q := fun a w ha hw => let ⟨x, hx⟩ := hw.exists; h x a w ha hx
theorem ht_star {c : Code} {S : List Assn} (k : App M L S) (h : HT P κ n S ρ c Q) : HT P κ n (star M :: L) ρ c Q := fun a w ha hw => h a w ha (k.eq ▸ hw.unstar)
theorem ht_pick {c : Code} {A : Assn} (k : Pick A L R) (h : HT P κ n (A :: R) ρ c Q) : HT P κ n L ρ c Q := ht_ent (Ent.pick k) h
theorem ht_post {c : Code} {Q' : Exit → Act → World → Prop} (h : HT P κ n L ρ c Q) (k : ∀ e a w, Q e a w → Q' e a w) : HT P κ n L ρ c Q' := fun a w ha hw => wp_mono (h a w ha hw) k

/-! #### exits -/
theorem hx_then {y : Code} (h : HT P κ n L ρ y Q) : HX κ n .normal L ρ (Exit.then (fun a w => y.wp P Q a w) Q) := h
theorem hx_through {e : Exit} {K : Act → World → Prop} (he : (match e with | .normal => False | _ => True)) (h : HX κ n e L ρ Q) : HX κ n e L ρ (Exit.then K Q) := fun a w ha hw => by
  cases e <;> first | exact he.elim | exact h a w ha hw
theorem hx_block_normal {i : Nat} (h : HX κ n .normal L ρ Q) : HX κ n .normal L ρ (Exit.inBlock i Q) := h
theorem hx_block_ret {i : Nat} (h : HX κ n .ret L ρ Q) : HX κ n .ret L ρ (Exit.inBlock i Q) := h
theorem hx_block_here {i : Nat} (h : HX κ n .normal L ρ Q) : HX κ n (.exit i) L ρ (Exit.inBlock i Q) := fun a w ha hw => by
  simp only [Exit.inBlock, if_true]; exact h a w ha hw
theorem hx_block_past {i j : Nat} (hne : i ≠ j) (h : HX κ n (.exit i) L ρ Q) : HX κ n (.exit i) L ρ (Exit.inBlock j Q) := fun a w ha hw => by
  simp only [Exit.inBlock, if_neg hne]; exact h a w ha hw
/-- what was said of a round's end: one of the frames and heaps again, the measure less -/
theorem hx_again {ι : Type} {I : ι → List Assn × Env} {μ : ι → Nat} {i : ι} (j : ι) (hμ : μ j < μ i) (hρ : EnvSub ρ (I j).2) (hL : Ent L (I j).1) : HX κ n .normal L ρ (Exit.then (fun a w => ∃ j, μ j < μ i ∧ EnvOk n (I j).2 a ∧ Sat κ (I j).1 w) Q) := fun a w ha hw =>
  ⟨j, hμ, ha.sub hρ, hw.ent hL⟩
/-- a place where ways meet: what stands there is one of these, and the rest is shown once -/
theorem ht_join {ι : Type} {x y : Code} (I : ι → List Assn × Env) (hx : HT P κ n L ρ x (Exit.then (fun a w => ∃ j, EnvOk n (I j).2 a ∧ Sat κ (I j).1 w) Q)) (hy : ∀ j, HT P κ n (I j).1 (I j).2 y Q) : HT P κ n L ρ (x.seq y) Q :=
  ht_seq (ht_post hx fun e a w h => by
    cases e with
    | normal => obtain ⟨j, ha, hw⟩ := h; exact hy j a w ha hw
    | _ => exact h)
theorem hx_joined {ι : Type} {I : ι → List Assn × Env} (j : ι) (hρ : EnvSub ρ (I j).2) (hL : Ent L (I j).1) : HX κ n .normal L ρ (Exit.then (fun a w => ∃ j, EnvOk n (I j).2 a ∧ Sat κ (I j).1 w) Q) := fun a w ha hw =>
  ⟨j, ha.sub hρ, hw.ent hL⟩
theorem hx_ent {e : Exit} (k : Ent L M) (h : HX κ n e M ρ Q) : HX κ n e L ρ Q := fun a w ha hw => h a w ha (hw.ent k)

/-! #### a loop -/
/-- A loop: at the head of each round one of these frames and heaps; a measure goes down. -/
theorem ht_loop {ι : Type} {c : Code} (I : ι → List Assn × Env) (μ : ι → Nat) (i0 : ι) (hL : Ent L (I i0).1) (hρ : EnvSub ρ (I i0).2)
    (round : ∀ i, HT P κ n (I i).1 (I i).2 c (Exit.then (fun a w => ∃ j, μ j < μ i ∧ EnvOk n (I j).2 a ∧ Sat κ (I j).1 w) Q)) : HT P κ n L ρ (.loop c) Q := fun a w ha hw => by
  refine wp_loop (fun a w => ∃ i, EnvOk n (I i).2 a ∧ Sat κ (I i).1 w) (fun a w => least fun m => ∃ i, μ i = m ∧ EnvOk n (I i).2 a ∧ Sat κ (I i).1 w) ⟨i0, ha.sub hρ, hw.ent hL⟩ ?_
  intro a w ⟨i, hi⟩
  obtain ⟨⟨j, hj, ha, hw⟩, hmin⟩ := least_spec (p := fun m => ∃ i, μ i = m ∧ EnvOk n (I i).2 a ∧ Sat κ (I i).1 w) ⟨_, i, rfl, hi⟩
  refine wp_mono (round j a w ha hw) fun e a' w' h => ?_
  cases e with
  | normal =>
    obtain ⟨k, hk, ha', hw'⟩ := h
    refine ⟨⟨k, ha', hw'⟩, ?_⟩
    have := least_le (p := fun m => ∃ i, μ i = m ∧ EnvOk n (I i).2 a' ∧ Sat κ (I i).1 w') ⟨k, rfl, ha', hw'⟩
    rw [← hj]
    exact Nat.lt_of_le_of_lt this hk
  | _ => exact h
end
end Go.SL
