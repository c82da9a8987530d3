/-
  THE META PAGE IN PLAIN LEAN (layer 12): what two sectors tell, the steps of a write, and what a crash leaves of them. Conditions: none.
-/
import Derived.Test.YtlejcepbcfijiaaGreatDoorWireM
import Derived.Test.YtlejcepbcfijiaaGreatDoorDiskM
set_option linter.unusedVariables false
namespace Go.Mt
open Go.Dk Go.Wire
/-- what a sector tells -/
def tell (o : Option Dk.Bytes) : Option (Nat × Dk.Bytes) :=
  match o with
  | none => none
  | some b => if (getV b).2.2.2 = true ∧ (getV b).2.2.1 = b.length ∧ 0 < (getV b).1 then some ((getV b).1, (getV b).2.1) else none
theorem tell_pos {o : Option Dk.Bytes} {n : Nat} {b : Dk.Bytes} (h : tell o = some (n, b)) : 0 < n := by
  unfold tell at h
  split at h
  · cases h
  · split at h
    · rename_i c; cases h; exact c.2.2
    · cases h
theorem tell_put (seq : Nat) (body : Dk.Bytes) (h0 : 0 < seq) (h1 : seq < 2 ^ 64) (h2 : body.length ≤ 32768) : tell (some (put seq body)) = some (seq, body) := by
  have e := getV_some (get_put seq body h1 h2)
  simp [tell, e, h0]
theorem tell_cut (seq : Nat) (body : Dk.Bytes) (h1 : seq < 2 ^ 64) (h2 : body.length ≤ 32768) (k : Nat) (hk : k < (put seq body).length) : tell (some ((put seq body).take k)) = none := by
  have e := getV_none (get_cut seq body h1 h2 k hk)
  simp [tell, e]
structure St where mk ::
  number : Nat
  last : Nat
  body : Dk.Bytes
def St.pick (s : St) (i : Nat) (t : Option (Nat × Dk.Bytes)) : St := match t with
  | some x => if s.number < x.1 then ⟨x.1, i, x.2⟩ else s
  | none => s
def opened (f : Secs) (k : Int) : St := (St.pick ⟨0, 1, []⟩ 0 (tell (f k))).pick 1 (tell (f (k + 1)))
theorem opened_cases (f : Secs) (k : Int) :
    (tell (f k) = none ∧ tell (f (k + 1)) = none ∧ opened f k = ⟨0, 1, []⟩) ∨
    (∃ n b, tell (f k) = some (n, b) ∧ opened f k = ⟨n, 0, b⟩ ∧ ∀ n' b', tell (f (k + 1)) = some (n', b') → n' ≤ n) ∨
    (∃ n b, tell (f (k + 1)) = some (n, b) ∧ opened f k = ⟨n, 1, b⟩ ∧ ∀ n' b', tell (f k) = some (n', b') → n' < n) := by
  unfold opened
  rcases h0 : tell (f k) with _ | ⟨n0, b0⟩ <;> rcases h1 : tell (f (k + 1)) with _ | ⟨n1, b1⟩
  · exact .inl ⟨rfl, rfl, rfl⟩
  · have p1 := tell_pos h1
    refine .inr (.inr ⟨n1, b1, rfl, ?_, fun _ _ h => by cases h⟩)
    simp [St.pick, p1]
  · have p0 := tell_pos h0
    refine .inr (.inl ⟨n0, b0, rfl, ?_, fun _ _ h => by cases h⟩)
    simp [St.pick, p0]
  · have p0 := tell_pos h0
    have p1 := tell_pos h1
    by_cases c : n0 < n1
    · refine .inr (.inr ⟨n1, b1, rfl, ?_, fun _ _ h => by cases h; exact c⟩)
      simp [St.pick, p0, c]
    · refine .inr (.inl ⟨n0, b0, rfl, ?_, fun _ _ h => by cases h; omega⟩)
      simp [St.pick, p0, c]
theorem opened_none {f : Secs} {k : Int} (h0 : tell (f k) = none) (h1 : tell (f (k + 1)) = none) : opened f k = ⟨0, 1, []⟩ := by simp [opened, St.pick, h0, h1]
theorem opened_zero {f : Secs} {k : Int} {n : Nat} {b : Dk.Bytes} (h0 : tell (f k) = some (n, b)) (h1 : tell (f (k + 1)) = none ∨ ∃ n' b', tell (f (k + 1)) = some (n', b') ∧ n' ≤ n) : opened f k = ⟨n, 0, b⟩ := by
  have p0 := tell_pos h0
  rcases h1 with h1 | ⟨n', b', h1, hn⟩
  · simp [opened, St.pick, h0, h1, p0]
  · have : ¬ n < n' := by omega
    simp [opened, St.pick, h0, h1, p0, this]
theorem opened_one {f : Secs} {k : Int} {n : Nat} {b : Dk.Bytes} (h1 : tell (f (k + 1)) = some (n, b)) (h0 : tell (f k) = none ∨ ∃ n' b', tell (f k) = some (n', b') ∧ n' < n) : opened f k = ⟨n, 1, b⟩ := by
  have p1 := tell_pos h1
  rcases h0 with h0 | ⟨n', b', h0, hn⟩
  · simp [opened, St.pick, h0, h1, p1]
  · have p0 := tell_pos h0
    simp [opened, St.pick, h0, h1, p0, hn]
def picked (f : Secs) (k : Int) : Nat → St
  | 0 => ⟨0, 1, []⟩
  | q + 1 => (picked f k q).pick q (tell (f (k + (q : Int))))
theorem picked_succ (f : Secs) (k : Int) (q : Nat) : picked f k (q + 1) = (picked f k q).pick q (tell (f (k + (q : Int)))) := rfl
theorem picked_two (f : Secs) (k : Int) : picked f k 2 = opened f k := by simp [picked, opened]
theorem pick_yes {s : St} {i n : Nat} {b : Dk.Bytes} (h : s.number < n) : s.pick i (some (n, b)) = ⟨n, i, b⟩ := by simp [St.pick, h]
theorem pick_no {s : St} {i n : Nat} {b : Dk.Bytes} (h : ¬ s.number < n) : s.pick i (some (n, b)) = s := by simp [St.pick, h]
theorem tell_some {o : Option Dk.Bytes} {n : Nat} {b : Dk.Bytes} (h : tell o = some (n, b)) : (getV (o.getD [])).1 = n ∧ (getV (o.getD [])).2.1 = b := by
  unfold tell at h
  split at h
  · cases h
  · split at h
    · cases h; exact ⟨rfl, rfl⟩
    · cases h
theorem opened_last (f : Secs) (k : Int) : (opened f k).last = 0 ∨ (opened f k).last = 1 := by
  rcases opened_cases f k with ⟨_, _, e⟩ | ⟨_, _, _, e, _⟩ | ⟨_, _, _, e, _⟩ <;> rw [e] <;> simp
theorem opened_nil {f : Secs} {k : Int} (h : (opened f k).number = 0) : (opened f k).body = [] := by
  rcases opened_cases f k with ⟨_, _, e⟩ | ⟨n, b, h1, e, _⟩ | ⟨n, b, h1, e, _⟩
  · rw [e]
  · have := tell_pos h1; rw [e] at h; have h : n = 0 := h; omega
  · have := tell_pos h1; rw [e] at h; have h : n = 0 := h; omega
/-- the sector that is written next -/
def St.other (s : St) (k : Int) : Int := k + (1 - (s.last : Int))
/-- the other sector tells nothing, or what it told: the same is told -/
theorem opened_old {f g : Secs} {k : Int} (hk : g (k + (opened f k).last) = f (k + (opened f k).last)) (ho : tell (g ((opened f k).other k)) = none ∨ g ((opened f k).other k) = f ((opened f k).other k)) : opened g k = opened f k := by
  rcases opened_cases f k with ⟨h0, h1, e⟩ | ⟨n, b, h0, e, h1⟩ | ⟨n, b, h1, e, h0⟩
  · rw [e] at hk ho ⊢
    simp only [St.other, Int.natCast_one, Int.sub_self, Int.add_zero] at hk ho
    refine opened_none ?_ (by rw [hk]; exact h1)
    rcases ho with ho | ho
    · exact ho
    · rw [ho]; exact h0
  · rw [e] at hk ho ⊢
    simp only [St.other, Int.natCast_zero, Int.sub_zero, Int.add_zero] at hk ho
    refine opened_zero (by rw [hk]; exact h0) ?_
    rcases ho with ho | ho
    · exact .inl ho
    · rw [ho]
      rcases hc : tell (f (k + 1)) with _ | ⟨n', b'⟩
      · exact .inl rfl
      · exact .inr ⟨n', b', rfl, h1 _ _ hc⟩
  · rw [e] at hk ho ⊢
    simp only [St.other, Int.natCast_one, Int.sub_self, Int.add_zero] at hk ho
    refine opened_one (by rw [hk]; exact h1) ?_
    rcases ho with ho | ho
    · exact .inl ho
    · rw [ho]
      rcases hc : tell (f k) with _ | ⟨n', b'⟩
      · exact .inl rfl
      · exact .inr ⟨n', b', rfl, h0 _ _ hc⟩
/-- the other sector tells the next number: that is told -/
theorem opened_new {f g : Secs} {k : Int} {b' : Dk.Bytes} (hk : g (k + (opened f k).last) = f (k + (opened f k).last)) (ho : tell (g ((opened f k).other k)) = some ((opened f k).number + 1, b')) :
    opened g k = ⟨(opened f k).number + 1, 1 - (opened f k).last, b'⟩ := by
  rcases opened_cases f k with ⟨h0, h1, e⟩ | ⟨n, b, h0, e, h1⟩ | ⟨n, b, h1, e, h0⟩
  · rw [e] at hk ho ⊢
    simp only [St.other, Int.natCast_one, Int.sub_self, Int.add_zero] at hk ho
    exact opened_zero ho (.inl (by rw [hk]; exact h1))
  · rw [e] at hk ho ⊢
    simp only [St.other, Int.natCast_zero, Int.sub_zero, Int.add_zero] at hk ho
    exact opened_one ho (.inr ⟨n, b, by rw [hk]; exact h0, by show n < n + 1; omega⟩)
  · rw [e] at hk ho ⊢
    simp only [St.other, Int.natCast_one, Int.sub_self, Int.add_zero] at hk ho
    exact opened_zero ho (.inr ⟨n, b, by rw [hk]; exact h1, by show n ≤ n + 1; omega⟩)
/-! the steps -/
noncomputable def sd (d : Disk) (k : Int) (b : Dk.Bytes) : Nat → Disk
  | 0 => d
  | 1 => d.free k
  | 2 => (d.free k).sync
  | 3 => (d.free k).sync.write k b
  | _ => ((d.free k).sync.write k b).sync
structure Res where mk ::
  d : Disk
  fin : Bool
  err : Int
  number : Nat
  last : Nat
noncomputable def steps (d : Disk) (k : Int) (number last : Nat) (body : Dk.Bytes) (n : Int) : Res :=
  if 480 < body.length then ⟨d, false, 120, number, last⟩ else
  if n < 1 then ⟨d, false, 0, number, last⟩ else
  if n < 2 then ⟨sd d (k + (1 - (last : Int))) [] 1, false, 0, number, last⟩ else
  if n < 3 then ⟨sd d (k + (1 - (last : Int))) [] 2, false, 0, number, last⟩ else
  if (sd d (k + (1 - (last : Int))) [] 2).werr (k + (1 - (last : Int))) (put (number + 1) body) ≠ 0 then ⟨sd d (k + (1 - (last : Int))) [] 2, false, (sd d (k + (1 - (last : Int))) [] 2).werr (k + (1 - (last : Int))) (put (number + 1) body), number, last⟩ else
  if n < 4 then ⟨sd d (k + (1 - (last : Int))) (put (number + 1) body) 3, false, 0, number, last⟩ else
  ⟨sd d (k + (1 - (last : Int))) (put (number + 1) body) 4, true, 0, number + 1, 1 - last⟩
/-- the same, whatever the number -/
noncomputable def stepsW (d : Disk) (k : Int) (number last : Nat) (body : Dk.Bytes) (n : Int) : Res :=
  if 480 < body.length then ⟨d, false, 120, number, last⟩ else
  if n < 1 then ⟨d, false, 0, number, last⟩ else
  if n < 2 then ⟨sd d (k + (1 - (last : Int))) [] 1, false, 0, number, last⟩ else
  if n < 3 then ⟨sd d (k + (1 - (last : Int))) [] 2, false, 0, number, last⟩ else
  if (sd d (k + (1 - (last : Int))) [] 2).werr (k + (1 - (last : Int))) (put ((number + 1) % 18446744073709551616) body) ≠ 0 then ⟨sd d (k + (1 - (last : Int))) [] 2, false, (sd d (k + (1 - (last : Int))) [] 2).werr (k + (1 - (last : Int))) (put ((number + 1) % 18446744073709551616) body), number, last⟩ else
  if n < 4 then ⟨sd d (k + (1 - (last : Int))) (put ((number + 1) % 18446744073709551616) body) 3, false, 0, number, last⟩ else
  ⟨sd d (k + (1 - (last : Int))) (put ((number + 1) % 18446744073709551616) body) 4, true, 0, (number + 1) % 18446744073709551616, 1 - last⟩
theorem stepsW_eq {number : Nat} (h : number + 1 < 18446744073709551616) (d : Disk) (k : Int) (last : Nat) (body : Dk.Bytes) (n : Int) : stepsW d k number last body n = steps d k number last body n := by
  unfold stepsW steps
  rw [Nat.mod_eq_of_lt h]
theorem free_pend (d : Disk) (k : Int) : (d.free k).pend.length ≤ d.pend.length + 1 := by
  unfold Disk.free; split <;> simp [Disk.push]
theorem write_pend (d : Disk) (k : Int) (b : Dk.Bytes) : (d.write k b).pend.length ≤ d.pend.length + 1 := by
  unfold Disk.write; split <;> simp [Disk.push]
theorem free_view (d : Disk) (k : Int) : (d.free k).view = upd d.view k none := by
  unfold Disk.free
  split
  · rfl
  · rename_i h
    funext i
    by_cases e : i = k
    · subst e; rw [upd_same]; simpa using h
    · rw [upd_other e]
theorem write_view {d : Disk} {k : Int} {b : Dk.Bytes} (h : d.werr k b = 0) : (d.write k b).view = upd d.view k (some b) := by
  unfold Disk.write
  rw [if_pos h]
  show upd d.view k (some (torn _ b b.length)) = _
  rw [torn_all]
/-- what is told behind the steps and a crash: the other sector alone may have changed -/
structure Left (d c : Disk) (k : Int) (b : Dk.Bytes) (r : Res) : Prop where mk ::
  pend : c.pend = []
  ground : c.ground = c.view
  size : c.size = d.size
  limit : c.limit = d.limit
  rest : ∀ i, i ≠ k → c.view i = d.view i
  fin : r.fin = true → c.view k = some b
  other : c.view k = d.view k ∨ c.view k = none ∨ (∃ n, n < b.length ∧ c.view k = some (b.take n)) ∨ (c.view k = some b ∧ r.err = 0)
theorem left_same {d : Disk} {k : Int} {b : Dk.Bytes} {r : Res} {l : List (Int × Int)} (hp : d.pend = []) (hg : d.ground = d.view) (hr : r.fin = false) (hd : r.d = d) : Left d (r.d.crash l) k b r := by
  rw [hd]
  have hv : (d.crash l).view = d.view := by show crashFrom l 0 d.pend d.ground = _; rw [hp, hg]; rfl
  exact ⟨rfl, rfl, rfl, rfl, fun i _ => by rw [hv], fun h => (by rw [hr] at h; cases h), .inl (by rw [hv])⟩
theorem free_crash {d : Disk} {k : Int} {l : List (Int × Int)} (hp : d.pend = []) (hg : d.ground = d.view) : ((d.free k).crash l).view = d.view ∨ ((d.free k).crash l).view = upd d.view k none := by
  unfold Disk.free
  split
  · show crashFrom l 0 (d.pend ++ [.fr k]) d.ground = _ ∨ crashFrom l 0 (d.pend ++ [.fr k]) d.ground = _
    rw [hp, hg]
    simp only [List.nil_append, crashFrom]
    cases stays l ((0 : Nat) : Int) with
    | none => exact .inl rfl
    | some n => exact .inr rfl
  · left
    show crashFrom l 0 d.pend d.ground = _
    rw [hp, hg]; rfl
theorem free_size (d : Disk) (k : Int) : (d.free k).size = d.size ∧ (d.free k).limit = d.limit := by unfold Disk.free; split <;> exact ⟨rfl, rfl⟩
theorem write_size (d : Disk) (k : Int) (b : Dk.Bytes) : (d.write k b).size = d.size ∧ (d.write k b).limit = d.limit := by unfold Disk.write; split <;> exact ⟨rfl, rfl⟩
theorem torn_cases (b : Dk.Bytes) (m : Int) : (∃ n, n < b.length ∧ torn [] b m = b.take n) ∨ torn [] b m = b := by
  unfold torn
  by_cases c : m < b.length
  · rw [if_pos c]
    rcases Nat.lt_or_ge m.toNat b.length with c2 | c2
    · exact .inl ⟨m.toNat, c2, by simp⟩
    · have : b.length = 0 := by omega
      have := List.eq_nil_of_length_eq_zero this
      subst this
      exact .inr (by simp)
  · rw [if_neg c]; exact .inr rfl
theorem left (d : Disk) (k : Int) (number last : Nat) (body : Dk.Bytes) (n : Int) (l : List (Int × Int)) (hp : d.pend = []) (hg : d.ground = d.view) :
    Left d ((steps d k number last body n).d.crash l) (k + (1 - (last : Int))) (put (number + 1) body) (steps d k number last body n) := by
  generalize ho : k + (1 - (last : Int)) = o
  generalize hb : put (number + 1) body = b
  have hsv : (d.free o).sync.view = upd d.view o none := free_view d o
  have hs2 : ∀ (r : Res), r.d = (d.free o).sync → r.fin = false → Left d (r.d.crash l) o b r := fun r h1 h2 => by
    rw [h1]
    have hv : ((d.free o).sync.crash l).view = upd d.view o none := free_view d o
    exact ⟨rfl, rfl, (free_size d o).1, (free_size d o).2, fun i hi => by rw [hv, upd_other hi], fun h => (by rw [h2] at h; cases h), .inr (.inl (by rw [hv, upd_same]))⟩
  unfold steps
  rw [ho, hb]
  split
  · exact left_same hp hg rfl rfl
  · split
    · exact left_same hp hg rfl rfl
    · split
      · show Left d ((d.free o).crash l) o b _
        refine ⟨rfl, rfl, (free_size d o).1, (free_size d o).2, fun i hi => ?_, fun h => (by cases h), ?_⟩
        · rcases free_crash (k := o) (l := l) hp hg with h | h <;> rw [h]
          rw [upd_other hi]
        · rcases free_crash (k := o) (l := l) hp hg with h | h <;> rw [h]
          · exact .inl rfl
          · exact .inr (.inl (upd_same _ _ _))
      · split
        · exact hs2 _ rfl rfl
        · split
          · exact hs2 _ rfl rfl
          · rename_i hw
            have hw : (d.free o).sync.werr o b = 0 := Classical.not_not.1 hw
            split
            · show Left d (((d.free o).sync.write o b).crash l) o b _
              have hv : (((d.free o).sync.write o b).crash l).view = (match stays l ((0 : Nat) : Int) with | some m => upd d.view o (some (torn [] b m)) | none => upd d.view o none) := by
                unfold Disk.write
                rw [if_pos hw]
                show crashFrom l 0 ([] ++ [.wr o b]) (d.free o).view = _
                simp only [List.nil_append, crashFrom]
                cases stays l ((0 : Nat) : Int) with
                | none => exact free_view d o
                | some m =>
                  show upd (d.free o).view o (some (torn (((d.free o).view o).getD []) b m)) = _
                  rw [free_view, upd_same]
                  funext i
                  by_cases e : i = o
                  · subst e
                    rw [upd_same]
                    show _ = upd d.view i (some (torn [] b m)) i
                    rw [upd_same]; rfl
                  · show _ = upd d.view o (some (torn [] b m)) i
                    rw [upd_other e, upd_other e, upd_other e]
              refine ⟨rfl, rfl, ?_, ?_, fun i hi => ?_, fun h => (by cases h), ?_⟩
              · exact (write_size _ _ _).1.trans (free_size d o).1
              · exact (write_size _ _ _).2.trans (free_size d o).2
              · rw [hv]; cases stays l ((0 : Nat) : Int) <;> exact upd_other hi
              · rw [hv]
                cases stays l ((0 : Nat) : Int) with
                | none => exact .inr (.inl (upd_same _ _ _))
                | some m =>
                  rcases torn_cases b m with ⟨n', hn, e⟩ | e
                  · exact .inr (.inr (.inl ⟨n', hn, (upd_same _ _ _).trans (congrArg some e)⟩))
                  · exact .inr (.inr (.inr ⟨(upd_same _ _ _).trans (congrArg some e), rfl⟩))
            · show Left d (((d.free o).sync.write o b).sync.crash l) o b _
              have hv : (((d.free o).sync.write o b).sync.crash l).view = upd d.view o (some b) := by
                show ((d.free o).sync.write o b).view = _
                rw [write_view hw, hsv]
                funext i
                by_cases e : i = o
                · subst e; rw [upd_same, upd_same]
                · rw [upd_other e, upd_other e, upd_other e]
              refine ⟨rfl, rfl, ?_, ?_, fun i hi => by rw [hv, upd_other hi], fun _ => by rw [hv, upd_same], .inr (.inr (.inr ⟨by rw [hv, upd_same], rfl⟩))⟩
              · exact (write_size _ _ _).1.trans (free_size d o).1
              · exact (write_size _ _ _).2.trans (free_size d o).2
theorem steps_pend (d : Disk) (k : Int) (number last : Nat) (body : Dk.Bytes) (n : Int) : (steps d k number last body n).d.pend.length ≤ d.pend.length + 1 := by
  have h1 := free_pend d (k + (1 - (last : Int)))
  have h2 := write_pend (d.free (k + (1 - (last : Int)))).sync (k + (1 - (last : Int))) (put (number + 1) body)
  have e : (d.free (k + (1 - (last : Int)))).sync.pend.length = 0 := rfl
  unfold steps
  repeat' split
  all_goals first
    | (show d.pend.length ≤ _; omega)
    | exact h1
    | (show 0 ≤ _; omega)
    | (show ((d.free (k + (1 - (last : Int)))).sync.write (k + (1 - (last : Int))) (put (number + 1) body)).pend.length ≤ _; omega)
theorem steps_fin {d : Disk} {k : Int} {number last : Nat} {body : Dk.Bytes} {n : Int} (h : (steps d k number last body n).fin = true) : (steps d k number last body n).err = 0 := by
  unfold steps at h ⊢
  repeat (split at h; cases h)
  all_goals (try (cases h; done))
  repeat (first | (rw [if_neg (by assumption)]) | rfl)
/-- a round: what was told stays told, or what was being written is told -/
theorem outcome {d : Disk} {k : Int} {s : St} {body : Dk.Bytes} (n : Int) (l : List (Int × Int)) (hp : d.pend = []) (hg : d.ground = d.view) (hs : opened d.view k = s) (hn : s.number + 1 < 2 ^ 64) (hb : body.length ≤ 32768) :
    ((steps d k s.number s.last body n).fin = false ∧ opened ((steps d k s.number s.last body n).d.crash l).view k = s) ∨
    ((steps d k s.number s.last body n).err = 0 ∧ opened ((steps d k s.number s.last body n).d.crash l).view k = ⟨s.number + 1, 1 - s.last, body⟩) := by
  have hL := left d k s.number s.last body n l hp hg
  have hlast := opened_last d.view k
  rw [hs] at hlast
  have hko : k + (s.last : Int) ≠ k + (1 - (s.last : Int)) := by omega
  have hk : ((steps d k s.number s.last body n).d.crash l).view (k + ((opened d.view k).last : Int)) = d.view (k + ((opened d.view k).last : Int)) := by
    rw [hs]; exact hL.rest _ hko
  have hnew : ((steps d k s.number s.last body n).d.crash l).view (k + (1 - (s.last : Int))) = some (put (s.number + 1) body) → opened ((steps d k s.number s.last body n).d.crash l).view k = ⟨s.number + 1, 1 - s.last, body⟩ := fun e => by
    have := opened_new (b' := body) hk (by rw [hs]; unfold St.other; rw [e]; exact tell_put _ _ (by omega) hn hb)
    rw [hs] at this; exact this
  have hold : tell (((steps d k s.number s.last body n).d.crash l).view (k + (1 - (s.last : Int)))) = none ∨ ((steps d k s.number s.last body n).d.crash l).view (k + (1 - (s.last : Int))) = d.view (k + (1 - (s.last : Int))) → opened ((steps d k s.number s.last body n).d.crash l).view k = s := fun e => by
    have := opened_old hk (by rw [hs]; exact e)
    rw [hs] at this; exact this
  cases hf : (steps d k s.number s.last body n).fin with
  | true => exact .inr ⟨steps_fin hf, hnew (hL.fin hf)⟩
  | false =>
    rcases hL.other with e | e | ⟨m, hm, e⟩ | ⟨e, he⟩
    · exact .inl ⟨rfl, hold (.inr e)⟩
    · exact .inl ⟨rfl, hold (.inl (by rw [e]; rfl))⟩
    · exact .inl ⟨rfl, hold (.inl (by rw [e]; exact tell_cut _ _ hn hb m hm))⟩
    · exact .inr ⟨he, hnew e⟩
theorem card_two {f : Secs} {k : Int} (h : ∀ i, f i ≠ none → i = k ∨ i = k + 1) : card f ≤ 2 := by
  rcases h0 : f k with _ | x <;> rcases h1 : f (k + 1) with _ | y
  · have : Rep [] f := ⟨by simp, fun i => by
      by_cases e : i = k
      · subst e; simp [h0]
      · by_cases e1 : i = k + 1
        · subst e1; simp [h1]
        · have := fun hne => (h i hne); cases hf : f i with | none => rfl | some z => exact absurd (h i (by rw [hf]; simp)) (by omega)⟩
    rw [this.card]; simp
  · have : Rep [(k + 1, y)] f := ⟨by simp, fun i => by
      by_cases e1 : i = k + 1
      · subst e1; simp [h1]
      · have hne : ¬ k + 1 = i := fun e => e1 e.symm
        simp only [List.find?_cons, List.find?_nil]
        have hb : ((k + 1 == i) = false) := by simpa using hne
        rw [hb]
        by_cases e : i = k
        · subst e; simp [h0]
        · cases hf : f i with | none => rfl | some z => exact absurd (h i (by rw [hf]; simp)) (by omega)⟩
    rw [this.card]; simp
  · have : Rep [(k, x)] f := ⟨by simp, fun i => by
      by_cases e1 : i = k
      · subst e1; simp [h0]
      · have hb : ((k == i) = false) := by simpa using fun e : k = i => e1 e.symm
        simp only [List.find?_cons, List.find?_nil]
        rw [hb]
        by_cases e : i = k + 1
        · subst e; simp [h1]
        · cases hf : f i with | none => rfl | some z => exact absurd (h i (by rw [hf]; simp)) (by omega)⟩
    rw [this.card]; simp
  · have : Rep [(k, x), (k + 1, y)] f := ⟨by simp; omega, fun i => by
      by_cases e1 : i = k
      · subst e1; simp [h0]
      · have hb : ((k == i) = false) := by simpa using fun e : k = i => e1 e.symm
        simp only [List.find?_cons, List.find?_nil]
        rw [hb]
        by_cases e : i = k + 1
        · subst e; simp [h1]
        · have hb2 : ((k + 1 == i) = false) := by simpa using fun e2 : k + 1 = i => e e2.symm
          rw [hb2]
          cases hf : f i with | none => rfl | some z => exact absurd (h i (by rw [hf]; simp)) (by omega)⟩
    rw [this.card]; simp
/-- a disk that only has the two sectors -/
structure Fine (d : Disk) (k : Int) : Prop where mk ::
  pend : d.pend = []
  ground : d.ground = d.view
  lo : 0 ≤ k
  hi : k + 1 < d.size
  lim : 2 < d.limit
  supp : ∀ i, d.view i ≠ none → i = k ∨ i = k + 1
theorem fine_new {n k : Int} (h0 : 0 ≤ k) (h1 : k + 1 < n) (h2 : 2 < n) : Fine (Disk.new n) k := ⟨rfl, rfl, h0, h1, h2, fun i h => absurd rfl h⟩
theorem fine_werr {d : Disk} {k o : Int} {b : Dk.Bytes} (h : Fine d k) (ho : o = k ∨ o = k + 1) (hb : b.length ≤ 512) : (sd d o [] 2).werr o b = 0 := by
  have hv : (sd d o [] 2).view = upd d.view o none := free_view d o
  have hc : card (sd d o [] 2).view ≤ 2 := by
    rw [hv]
    refine card_two (k := k) fun i hi => ?_
    by_cases e : i = o
    · subst e; exact ho
    · rw [upd_other e] at hi; exact h.supp i hi
  have hs : (sd d o [] 2).size = d.size := (free_size d o).1
  have hl : (sd d o [] 2).limit = d.limit := (free_size d o).2
  have h1 := h.lo
  have h2 := h.hi
  have h3 := h.lim
  unfold Disk.werr
  rw [if_neg (by rw [hs]; omega), if_neg (by omega), if_neg (by rw [hl]; omega)]
theorem other_in {s : St} {d : Disk} {k : Int} (hs : opened d.view k = s) : k + (1 - (s.last : Int)) = k ∨ k + (1 - (s.last : Int)) = k + 1 := by
  have := opened_last d.view k
  rw [hs] at this
  omega
theorem fine_put (number : Nat) (body : Dk.Bytes) (hn : number + 1 < 2 ^ 64) (hb : body.length ≤ 480) : (put (number + 1) body).length ≤ 512 := by
  have := put_len (number + 1) body hn (by omega)
  omega
theorem fine_steps {d : Disk} {k : Int} {s : St} {body : Dk.Bytes} (h : Fine d k) (hs : opened d.view k = s) (hb : body.length ≤ 480) (hn : s.number + 1 < 2 ^ 64) :
    steps d k s.number s.last body 3 = ⟨sd d (k + (1 - (s.last : Int))) (put (s.number + 1) body) 3, false, 0, s.number, s.last⟩ ∧
    steps d k s.number s.last body 4 = ⟨sd d (k + (1 - (s.last : Int))) (put (s.number + 1) body) 4, true, 0, s.number + 1, 1 - s.last⟩ := by
  have hw := fine_werr (b := put (s.number + 1) body) h (other_in hs) (fine_put _ _ hn hb)
  constructor
  · unfold steps
    rw [if_neg (by omega), if_neg (by omega), if_neg (by omega), if_neg (by omega), if_neg (by rw [hw]; exact fun h => h rfl), if_pos (by omega)]
  · unfold steps
    rw [if_neg (by omega), if_neg (by omega), if_neg (by omega), if_neg (by omega), if_neg (by rw [hw]; exact fun h => h rfl), if_neg (by omega)]
theorem fine_write {d : Disk} {k : Int} {s : St} {body : Dk.Bytes} (h : Fine d k) (hs : opened d.view k = s) (hb : body.length ≤ 480) (hn : s.number + 1 < 2 ^ 64) :
    Fine (sd d (k + (1 - (s.last : Int))) (put (s.number + 1) body) 4) k ∧ opened (sd d (k + (1 - (s.last : Int))) (put (s.number + 1) body) 4).view k = ⟨s.number + 1, 1 - s.last, body⟩ ∧
    (sd d (k + (1 - (s.last : Int))) (put (s.number + 1) body) 4).size = d.size := by
  have hw := fine_werr (b := put (s.number + 1) body) h (other_in hs) (fine_put _ _ hn hb)
  have hlast := opened_last d.view k
  rw [hs] at hlast
  have hoi := other_in hs
  have hko : k + (s.last : Int) ≠ k + (1 - (s.last : Int)) := by omega
  generalize ho : k + (1 - (s.last : Int)) = o at *
  have hv : (sd d o (put (s.number + 1) body) 4).view = upd (upd d.view o none) o (some (put (s.number + 1) body)) := by
    show ((sd d o [] 2).write o _).view = _
    rw [write_view hw]
    have : (sd d o [] 2).view = upd d.view o none := free_view d o
    rw [this]
  have hsz : (sd d o (put (s.number + 1) body) 4).size = d.size := (write_size _ _ _).1.trans (free_size d o).1
  have hlm : (sd d o (put (s.number + 1) body) 4).limit = d.limit := (write_size _ _ _).2.trans (free_size d o).2
  refine ⟨⟨rfl, rfl, h.lo, by rw [hsz]; exact h.hi, by rw [hlm]; exact h.lim, fun i hi => ?_⟩, ?_, hsz⟩
  · rw [hv] at hi
    by_cases e : i = o
    · subst e; exact hoi
    · rw [upd_other e, upd_other e] at hi; exact h.supp i hi
  · have := opened_new (f := d.view) (g := (sd d o (put (s.number + 1) body) 4).view) (k := k) (b' := body) (by rw [hs, hv, upd_other hko, upd_other hko]) (by rw [hs]; unfold St.other; rw [ho, hv, upd_same]; exact tell_put _ _ (by omega) hn (by omega))
    rw [hs] at this; exact this
/-- three steps and a crash that leaves nothing; one that leaves all -/
theorem fine_crash {d : Disk} {k : Int} {s : St} {body : Dk.Bytes} (h : Fine d k) (hs : opened d.view k = s) (hb : body.length ≤ 200) (hn : s.number + 1 < 2 ^ 64) :
    opened ((sd d (k + (1 - (s.last : Int))) (put (s.number + 1) body) 3).crash []).view k = s ∧
    opened ((sd d (k + (1 - (s.last : Int))) (put (s.number + 1) body) 3).crash [(0, 500)]).view k = ⟨s.number + 1, 1 - s.last, body⟩ := by
  have hw := fine_werr (b := put (s.number + 1) body) h (other_in hs) (fine_put _ _ hn (by omega))
  have hlast := opened_last d.view k
  rw [hs] at hlast
  have hko : k + (s.last : Int) ≠ k + (1 - (s.last : Int)) := by omega
  have hpl := put_len (s.number + 1) body hn (by omega)
  generalize ho : k + (1 - (s.last : Int)) = o at *
  generalize hp : put (s.number + 1) body = b at *
  have e3 : sd d o b 3 = (sd d o [] 2).push (.wr o b) b.length := by
    show (sd d o [] 2).write o b = _
    unfold Disk.write; rw [if_pos hw]
  have hg : (sd d o [] 2).view = upd d.view o none := free_view d o
  have v0 : ((sd d o b 3).crash []).view = upd d.view o none := by
    rw [e3]
    show crashFrom [] 0 ([] ++ [.wr o b]) (d.free o).view = _
    exact free_view d o
  have v1 : ((sd d o b 3).crash [(0, 500)]).view = upd (upd d.view o none) o (some b) := by
    rw [e3]
    show upd (d.free o).view o (some (torn (((d.free o).view o).getD []) b 500)) = _
    rw [free_view, upd_same]
    show upd _ o (some (torn [] b 500)) = _
    unfold torn
    rw [if_neg (by omega)]
  constructor
  · have := opened_old (f := d.view) (g := ((sd d o b 3).crash []).view) (k := k) (by rw [hs, v0, upd_other hko]) (.inl (by rw [hs]; unfold St.other; rw [ho, v0, upd_same]; rfl))
    rw [hs] at this; exact this
  · have := opened_new (f := d.view) (g := ((sd d o b 3).crash [(0, 500)]).view) (k := k) (b' := body) (by rw [hs, v1, upd_other hko, upd_other hko]) (by rw [hs]; unfold St.other; rw [ho, v1, upd_same, ← hp]; exact tell_put _ _ (by omega) hn (by omega))
    rw [hs] at this; exact this
end Go.Mt
