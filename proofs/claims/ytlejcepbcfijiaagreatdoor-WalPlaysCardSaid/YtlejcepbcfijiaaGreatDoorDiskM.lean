/-
  THE DISK AS THE DOCUMENT HAS IT (layer 6), in plain Lean: no program in sight. Conditions: none.
-/
set_option linter.unusedVariables false
namespace Go.Dk

abbrev Bytes := List UInt8
abbrev Secs := Int → Option Bytes

def upd (f : Secs) (k : Int) (v : Option Bytes) : Secs := fun i => if i = k then v else f i
theorem upd_same (f : Secs) (k : Int) (v : Option Bytes) : upd f k v k = v := by simp [upd]
theorem upd_other {f : Secs} {k i : Int} {v : Option Bytes} (h : i ≠ k) : upd f k v i = f i := by simp [upd, h]

/-- a list of sectors without a place twice tells these sectors -/
structure Rep (l : List (Int × Bytes)) (f : Secs) : Prop where mk ::
  nodup : (l.map (·.1)).Nodup
  look : ∀ k, (l.find? (·.1 == k)).map (·.2) = f k
theorem Rep.mem {l : List (Int × Bytes)} {f : Secs} (h : Rep l f) (k : Int) : k ∈ l.map (·.1) ↔ (f k).isSome := by
  rw [← h.look k]
  constructor
  · intro hk
    obtain ⟨x, hx, rfl⟩ := List.mem_map.1 hk
    cases hf : l.find? (·.1 == x.1) with
    | none => have := List.find?_eq_none.1 hf x hx; simp at this
    | some y => rfl
  · intro hs
    cases hf : l.find? (·.1 == k) with
    | none => rw [hf] at hs; simp at hs
    | some y =>
      have h1 := List.mem_of_find?_eq_some hf
      have h2 := List.find?_some hf
      exact List.mem_map.2 ⟨y, h1, by simpa using h2⟩
theorem Rep.length {l m : List (Int × Bytes)} {f : Secs} (h : Rep l f) (k : Rep m f) : l.length = m.length := by
  have h1 : (l.map (·.1)).Perm (m.map (·.1)) := (List.perm_ext_iff_of_nodup h.nodup k.nodup).2 fun a => by rw [h.mem, k.mem]
  simpa using h1.length_eq
open Classical in
/-- how many sectors are used -/
noncomputable def card (f : Secs) : Nat := if h : ∃ l, Rep l f then (Classical.choose h).length else 0
theorem Rep.card {l : List (Int × Bytes)} {f : Secs} (h : Rep l f) : card f = l.length := by
  have h' : ∃ l, Rep l f := ⟨l, h⟩
  unfold Dk.card
  rw [dif_pos h']
  exact (Classical.choose_spec h').length h

inductive POp where
  | wr (at_ : Int) (b : Bytes)
  | fr (at_ : Int)
def POp.place : POp → Int
  | .wr k _ => k
  | .fr k => k
/-- the first n bytes of a write, over what was there -/
def torn (old b : Bytes) (n : Int) : Bytes := if n < b.length then b.take n.toNat ++ (if n.toNat < old.length then old.drop n.toNat else []) else b
def POp.run (o : POp) (n : Int) (f : Secs) : Secs :=
  match o with
  | .wr k b => upd f k (some (torn ((f k).getD []) b n))
  | .fr k => upd f k none

structure Disk where
  size : Int
  limit : Int
  view : Secs
  ground : Secs
  pend : List POp

def none_ : Secs := fun _ => none
def Disk.new (n : Int) : Disk := ⟨n, n, none_, none_, []⟩
def Disk.push (d : Disk) (o : POp) (n : Int) : Disk := { d with view := o.run n d.view, pend := d.pend ++ [o] }
/-- why a sector may not be written (0: it may) -/
noncomputable def Disk.werr (d : Disk) (k : Int) (b : Bytes) : Int :=
  if k < 0 ∨ d.size ≤ k then 61 else if 512 < b.length then 62 else if d.view k = none ∧ d.limit ≤ card d.view then 63 else 0
noncomputable def Disk.write (d : Disk) (k : Int) (b : Bytes) : Disk := if d.werr k b = 0 then d.push (.wr k b) b.length else d
def Disk.free (d : Disk) (k : Int) : Disk := if (d.view k).isSome then d.push (.fr k) 0 else d
def Disk.sync (d : Disk) : Disk := { d with ground := d.view, pend := [] }
/-- how much of the write with this number stays -/
def stays (l : List (Int × Int)) (i : Int) : Option Int := (l.find? (·.1 == i)).map (·.2)
def crashFrom (l : List (Int × Int)) : Nat → List POp → Secs → Secs
  | _, [], f => f
  | i, o :: os, f => crashFrom l (i + 1) os (match stays l i with | some n => o.run n f | none => f)
def Disk.crash (d : Disk) (l : List (Int × Int)) : Disk :=
  { d with ground := crashFrom l 0 d.pend d.ground, view := crashFrom l 0 d.pend d.ground, pend := [] }
def Disk.setLimit (d : Disk) (n : Int) : Disk := { d with limit := n }
theorem torn_eq (old b : Bytes) (n : Int) : torn old b n = if n < b.length ∧ min n.toNat b.length < old.length then b.take (min n.toNat b.length) ++ old.drop (min n.toNat b.length) else b.take (min n.toNat b.length) := by
  unfold torn
  by_cases h : n < b.length
  · have e : min n.toNat b.length = n.toNat := by omega
    rw [if_pos h, e]
    by_cases h2 : n.toNat < old.length
    · rw [if_pos h2, if_pos ⟨h, h2⟩]
    · rw [if_neg h2, if_neg (fun h' => h2 h'.2)]; simp
  · have e : min n.toNat b.length = b.length := by omega
    rw [if_neg h, if_neg (fun h' => h h'.1), e]; simp
theorem torn_all (old b : Bytes) : torn old b b.length = b := by simp [torn]
end Go.Dk
