/-
  LAW 06 IN PLAIN LEAN: what was synced and not touched since is the same behind any crash. Conditions: none.
-/
import Derived.Test.YtlejcepbcfijiaaLaw06M
set_option linter.unusedVariables false
namespace Go.Dk
/-- places below nought are never used -/
structure NN (d : Disk) : Prop where mk ::
  view : ∀ k, (d.view k).isSome = true → 0 ≤ k
  ground : ∀ k, (d.ground k).isSome = true → 0 ≤ k
  pend : ∀ o ∈ d.pend, 0 ≤ o.place
theorem nn_run {f : Secs} (h : ∀ k, (f k).isSome = true → 0 ≤ k) {o : POp} (ho : 0 ≤ o.place) (n : Int) : ∀ k, (o.run n f k).isSome = true → 0 ≤ k := by
  intro k hk
  by_cases e : k = o.place
  · rw [e]; exact ho
  · cases o with
    | wr i b => have e : k ≠ i := e; simp only [POp.run, upd_other e] at hk; exact h k hk
    | fr i => have e : k ≠ i := e; simp only [POp.run, upd_other e] at hk; exact h k hk
theorem nn_push {d : Disk} (h : NN d) {o : POp} (ho : 0 ≤ o.place) (n : Int) : NN (d.push o n) :=
  ⟨nn_run h.view ho n, h.ground, fun q hq => by
    rcases List.mem_append.1 hq with hq | hq
    · exact h.pend q hq
    · simp at hq; subst hq; exact ho⟩
theorem nn_crashFrom (l : List (Int × Int)) : ∀ (os : List POp) (i : Nat) (f : Secs), (∀ o ∈ os, 0 ≤ o.place) → (∀ k, (f k).isSome = true → 0 ≤ k) → ∀ k, (crashFrom l i os f k).isSome = true → 0 ≤ k
  | [], i, f, _, h => h
  | o :: os, i, f, ho, h => by
    refine nn_crashFrom l os (i + 1) _ (fun q hq => ho q (by simp [hq])) ?_
    cases stays l i with
    | some n => exact nn_run h (ho o (by simp)) n
    | none => exact h
theorem nn_act {d : Disk} (h : NN d) (x : MAct) : NN (d.act x) := by
  unfold Disk.act
  split
  · unfold Disk.write
    split
    · rename_i hw; exact nn_push (o := .wr x.place x.b) h (werr_zero hw).1 _
    · exact h
  · split
    · unfold Disk.free
      split
      · rename_i hs; exact nn_push (o := .fr x.place) h (h.view _ hs) _
      · exact h
    · split
      · exact ⟨h.view, h.view, fun o ho => by (cases ho)⟩
      · split
        · exact ⟨nn_crashFrom _ _ _ _ h.pend h.ground, nn_crashFrom _ _ _ _ h.pend h.ground, fun o ho => by (cases ho)⟩
        · split
          · exact ⟨h.view, h.ground, h.pend⟩
          · exact h
theorem nn_acts {d : Disk} (h : NN d) (xs : List MAct) : NN (d.acts xs) := by
  induction xs generalizing d with
  | nil => exact h
  | cons x xs ih => exact ih (nn_act h x)
theorem nn_new (n : Int) : NN (Disk.new n) := ⟨fun k h => by (simp [Disk.new, none_] at h), fun k h => by (simp [Disk.new, none_] at h), fun o ho => by (cases ho)⟩
/-- touched, once more -/
def touch (T : Nat → Bool) (k : Int) : Nat → Bool := fun i => if (i : Int) = k then true else T i
structure Keep (v : Secs) (d : Disk) (T : Nat → Bool) : Prop where mk ::
  nn : NN d
  ground : d.ground = v
  pend : ∀ o ∈ d.pend, o.place < 21 → T o.place.toNat = true
theorem keep_start {d : Disk} (h : NN d) : Keep d.view d.sync (fun _ => false) := ⟨⟨h.view, h.view, fun o ho => by (cases ho)⟩, rfl, fun o ho => by (cases ho)⟩
theorem aerr_place {d : Disk} (h : NN d) {x : MAct} (hk : x.kind = 0 ∨ x.kind = 1) (he : d.aerr x = 0) : 0 ≤ x.place := by
  unfold Disk.aerr at he
  split at he
  · exact (werr_zero he).1
  · rename_i h0
    have h1 : x.kind = 1 := hk.resolve_left h0
    rw [if_pos h1] at he
    split at he
    · rename_i hs; exact h.view _ hs
    · cases he
theorem keep_push {v : Secs} {d : Disk} {T : Nat → Bool} (h : Keep v d T) {o : POp} (ho : 0 ≤ o.place) (n : Int) (hT : o.place < 21 → T o.place.toNat = true) : Keep v (d.push o n) T :=
  ⟨nn_push h.nn ho n, h.ground, fun q hq => by
    rcases List.mem_append.1 hq with hq | hq
    · exact h.pend q hq
    · simp at hq; subst hq; exact hT⟩
theorem keep_touch {v : Secs} {d : Disk} {T : Nat → Bool} (h : Keep v d T) (k : Int) : Keep v d (touch T k) := by
  refine ⟨h.nn, h.ground, fun q hq hl => ?_⟩
  by_cases e : (q.place.toNat : Int) = k
  · simp [touch, e]
  · simp only [touch, if_neg e]; exact h.pend q hq hl
theorem touch_self (T : Nat → Bool) {k : Int} (h : 0 ≤ k) : touch T k k.toNat = true := by unfold touch; rw [if_pos (by omega)]
/-- an act that answered well, and its place is marked -/
theorem keep_yes {v : Secs} {d : Disk} {T : Nat → Bool} (h : Keep v d T) {x : MAct} (hk : x.kind = 0 ∨ x.kind = 1) (he : d.aerr x = 0) : Keep v (d.act x) (touch T x.place) := by
  have hp := aerr_place h.nn hk he
  have h' := keep_touch h x.place
  unfold Disk.act
  split
  · unfold Disk.write
    split
    · exact keep_push (o := .wr x.place x.b) h' hp _ (fun _ => touch_self T hp)
    · exact h'
  · rename_i h0
    rw [if_pos (hk.resolve_left h0)]
    unfold Disk.free
    split
    · exact keep_push (o := .fr x.place) h' hp _ (fun _ => touch_self T hp)
    · exact h'
/-- .. or it is no place of the first 21 -/
theorem keep_far {v : Secs} {d : Disk} {T : Nat → Bool} (h : Keep v d T) {x : MAct} (hk : x.kind = 0 ∨ x.kind = 1) (he : d.aerr x = 0) (hl : 21 ≤ x.place) : Keep v (d.act x) T := by
  have hp := aerr_place h.nn hk he
  unfold Disk.act
  split
  · unfold Disk.write
    split
    · exact keep_push (o := .wr x.place x.b) h hp _ (fun (hh : x.place < 21) => by omega)
    · exact h
  · rename_i h0
    rw [if_pos (hk.resolve_left h0)]
    unfold Disk.free
    split
    · exact keep_push (o := .fr x.place) h hp _ (fun (hh : x.place < 21) => by omega)
    · exact h
/-- .. or it was refused -/
theorem keep_no {v : Secs} {d : Disk} {T : Nat → Bool} (h : Keep v d T) {x : MAct} (hk : x.kind = 0 ∨ x.kind = 1) (he : d.aerr x ≠ 0) : Keep v (d.act x) T := by
  unfold Disk.aerr at he
  unfold Disk.act
  split
  · rename_i h0
    rw [if_pos h0] at he
    unfold Disk.write
    rw [if_neg he]; exact h
  · rename_i h0
    rw [if_neg h0, if_pos (hk.resolve_left h0)] at he
    rw [if_pos (hk.resolve_left h0)]
    unfold Disk.free
    split
    · rename_i hs; rw [if_pos hs] at he; exact absurd rfl he
    · exact h
theorem crash_other (l : List (Int × Int)) (k : Int) : ∀ (os : List POp) (i : Nat) (f : Secs), (∀ o ∈ os, o.place ≠ k) → crashFrom l i os f k = f k
  | [], i, f, _ => rfl
  | o :: os, i, f, h => by
    simp only [crashFrom]
    rw [crash_other l k os (i + 1) _ fun q hq => h q (by simp [hq])]
    cases stays l i with
    | some n =>
      have := h o (by simp)
      cases o with
      | wr j b => exact upd_other (Ne.symm this)
      | fr j => exact upd_other (Ne.symm this)
    | none => rfl
theorem keeps {v : Secs} {d : Disk} {T : Nat → Bool} (h : Keep v d T) (l : List (Int × Int)) {i : Nat} (hi : i < 21) (hT : T i = false) : (d.crash l).view i = v i := by
  show crashFrom l 0 d.pend d.ground i = v i
  rw [crash_other l i d.pend 0 d.ground fun o ho e => ?_, h.ground]
  have := h.pend o ho (by omega)
  rw [e] at this
  have e2 : (i : Int).toNat = i := by omega
  rw [e2, hT] at this; cases this
end Go.Dk
