/-
  LAW 06 IN PLAIN LEAN: acts on a disk. Conditions: none.
-/
import Derived.Test.YtlejcepbcfijiaaDoorDiskM
set_option linter.unusedVariables false
namespace Go.Dk
structure MAct where
  kind : Int
  place : Int
  b : Bytes
  l : List (Int × Int)
def MAct.few (x : MAct) : MAct := { x with b := x.b.take 600, l := x.l.take 60 }
structure MAct.Short (x : MAct) : Prop where mk ::
  b : x.b.length ≤ 600
  l : x.l.length ≤ 60
theorem MAct.few_short (x : MAct) : x.few.Short := ⟨by simp [MAct.few]; omega, by simp [MAct.few]; omega⟩
/-- the disk behind an act -/
noncomputable def Disk.act (d : Disk) (x : MAct) : Disk :=
  if x.kind = 0 then d.write x.place x.b else if x.kind = 1 then d.free x.place else if x.kind = 2 then d.sync else if x.kind = 3 then d.crash x.l else if x.kind = 4 then d.setLimit x.place else d
/-- what the act answers -/
noncomputable def Disk.aerr (d : Disk) (x : MAct) : Int :=
  if x.kind = 0 then d.werr x.place x.b else if x.kind = 1 then (if (d.view x.place).isSome then 0 else 61) else 0
theorem push_len (d : Disk) (o : POp) (n : Int) : (d.push o n).pend.length = d.pend.length + 1 := by simp [Disk.push]
theorem act_len (d : Disk) (x : MAct) : (d.act x).pend.length ≤ d.pend.length + 1 := by
  unfold Disk.act
  split
  · unfold Disk.write; split <;> simp [Disk.push]
  · split
    · unfold Disk.free; split <;> simp [Disk.push]
    · split
      · simp [Disk.sync]
      · split
        · simp [Disk.crash]
        · split <;> simp [Disk.setLimit]
/-- acts in a row -/
noncomputable def Disk.acts (d : Disk) : List MAct → Disk
  | [] => d
  | x :: xs => Disk.acts (d.act x) xs
theorem acts_snoc (d : Disk) (xs : List MAct) (x : MAct) : d.acts (xs ++ [x]) = (d.acts xs).act x := by
  induction xs generalizing d with
  | nil => rfl
  | cons y ys ih => exact ih _
theorem acts_len (d : Disk) (xs : List MAct) : (d.acts xs).pend.length ≤ d.pend.length + xs.length := by
  induction xs generalizing d with
  | nil => simp [Disk.acts]
  | cons y ys ih =>
    have := ih (d.act y)
    have := act_len d y
    simp only [Disk.acts, List.length_cons]; omega
theorem card_of {l : List (Int × Bytes)} {f : Secs} (h : Rep l f) {n : Nat} (hn : l.length = n) : card f = n := by rw [h.card, hn]
/-! ### A crash that leaves all is a sync -/
/-- the whole operation -/
def POp.full (o : POp) (f : Secs) : Secs := match o with | .wr k b => upd f k (some b) | .fr k => upd f k none
theorem run_full {o : POp} {n : Int} (h : ∀ k b, o = .wr k b → (b.length : Int) ≤ n) (f : Secs) : o.run n f = o.full f := by
  cases o with
  | wr k b =>
    have := h k b rfl
    simp only [POp.run, POp.full, torn]
    rw [if_neg (by omega)]
  | fr k => rfl
structure Inv (d : Disk) : Prop where mk ::
  len : ∀ k b, POp.wr k b ∈ d.pend → b.length ≤ 512
  eq : d.pend.foldl (fun f o => o.full f) d.ground = d.view
theorem inv_new (n : Int) : Inv (Disk.new n) := ⟨fun k b h => (by cases h), rfl⟩
theorem inv_push {d : Disk} (h : Inv d) {o : POp} {n : Int} (h1 : ∀ k b, o = .wr k b → (b.length : Int) ≤ n ∧ b.length ≤ 512) : Inv (d.push o n) := by
  refine ⟨fun k b hm => ?_, ?_⟩
  · rcases List.mem_append.1 hm with hm | hm
    · exact h.len k b hm
    · simp at hm; exact (h1 k b hm.symm).2
  · simp only [Disk.push, List.foldl_append, List.foldl_cons, List.foldl_nil, h.eq]
    rw [run_full fun k b e => (h1 k b e).1]
theorem werr_zero {d : Disk} {k : Int} {b : Bytes} (h : d.werr k b = 0) : 0 ≤ k ∧ k < d.size ∧ b.length ≤ 512 := by
  unfold Disk.werr at h
  split at h
  · cases h
  · split at h
    · cases h
    · omega
theorem inv_act {d : Disk} (h : Inv d) (x : MAct) : Inv (d.act x) := by
  unfold Disk.act
  split
  · unfold Disk.write
    split
    · rename_i hw
      exact inv_push h fun k b e => by cases e; exact ⟨by simp, (werr_zero hw).2.2⟩
    · exact h
  · split
    · unfold Disk.free
      split
      · exact inv_push h fun k b e => by cases e
      · exact h
    · split
      · exact ⟨fun k b hm => by (cases hm), rfl⟩
      · split
        · exact ⟨fun k b hm => by (cases hm), rfl⟩
        · split
          · exact ⟨h.len, h.eq⟩
          · exact h
theorem inv_acts {d : Disk} (h : Inv d) (xs : List MAct) : Inv (d.acts xs) := by
  induction xs generalizing d with
  | nil => exact h
  | cons x xs ih => exact ih (inv_act h x)
/-- survivors that let all stay -/
def allL (m : Nat) : List (Int × Int) := (List.range m).map fun (i : Nat) => ((i : Int), (600 : Int))
theorem allL_len (m : Nat) : (allL m).length = m := by simp [allL]
theorem allL_succ (m : Nat) : allL m ++ [((m : Int), (600 : Int))] = allL (m + 1) := by simp [allL, List.range_succ]
theorem stays_all (m i : Nat) (h : i < m) : stays (allL m) i = some 600 := by
  induction m with
  | zero => omega
  | succ m ih =>
    rw [← allL_succ]
    unfold stays
    rw [List.find?_append]
    by_cases hi : i < m
    · have := ih hi
      unfold stays at this
      cases hf : (allL m).find? (fun x => x.1 == (i : Int)) with
      | none => rw [hf] at this; cases this
      | some y => rw [hf] at this; simpa using this
    · obtain rfl : i = m := by omega
      have : (allL i).find? (fun x => x.1 == (i : Int)) = none := by
        rw [List.find?_eq_none]
        intro x hx
        simp only [allL, List.mem_map, List.mem_range] at hx
        obtain ⟨j, hj, rfl⟩ := hx
        simp; omega
      rw [this]; simp
theorem crash_full (l : List (Int × Int)) : ∀ (os : List POp) (i : Nat) (f : Secs), (∀ j, i ≤ j → j < i + os.length → stays l j = some 600) → (∀ k b, POp.wr k b ∈ os → b.length ≤ 512) → crashFrom l i os f = os.foldl (fun f o => o.full f) f
  | [], i, f, _, _ => rfl
  | o :: os, i, f, h, h2 => by
    have h0 := h i (Nat.le_refl _) (by simp)
    simp only [crashFrom, h0, List.foldl_cons]
    rw [run_full (fun k b e => by have := h2 k b (by simp [e]); omega)]
    exact crash_full l os (i + 1) _ (fun j h3 h4 => h j (by omega) (by simp; omega)) fun k b hm => h2 k b (by simp [hm])
theorem leaves {d : Disk} (h : Inv d) : d.crash (allL d.pend.length) = d.sync := by
  have := crash_full (allL d.pend.length) d.pend 0 d.ground (fun j _ hj => stays_all _ _ (by omega)) h.len
  unfold Disk.crash Disk.sync
  rw [this, h.eq]
theorem sync_crash (d : Disk) : d.sync.crash [] = d.sync := rfl
/-- so many of the acts -/
noncomputable def Disk.upto (n : Int) (ms : List MAct) (j : Nat) : Disk := (Disk.new n).acts ((ms.take j).map MAct.few)
theorem upto_zero (n : Int) (ms : List MAct) : Disk.upto n ms 0 = Disk.new n := rfl
theorem upto_step {n : Int} {ms : List MAct} {j : Nat} {m : MAct} (h : ms[j]? = some m) : Disk.upto n ms (j + 1) = (Disk.upto n ms j).act m.few := by
  unfold Disk.upto
  rw [List.take_add_one, h, List.map_append, Option.toList_some, List.map_cons, List.map_nil, acts_snoc]
theorem upto_inv (n : Int) (ms : List MAct) (j : Nat) : Inv (Disk.upto n ms j) := inv_acts (inv_new n) _
theorem upto_len (n : Int) (ms : List MAct) (j : Nat) : (Disk.upto n ms j).pend.length ≤ j := by
  have := acts_len (Disk.new n) ((ms.take j).map MAct.few)
  unfold Disk.upto
  simp [Disk.new] at this ⊢
  omega
end Go.Dk
