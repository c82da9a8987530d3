/-
  THE LOG'S PLAIN LAW (layer 8): what holds of the log and of the document's log, whatever is done. Conditions: none.
-/
import Derived.Test.YtlejcepbcfijiaaGreatDoorWalR
set_option linter.unusedVariables false
namespace Go.Wl
open Go.Dk Go.Wire
theorem run_ok {k : Nat} {fs : List Fd} {P : Seg → Prop} (hP : ∀ f ∈ fs, P f.seg) : ∀ (m : Nat) (c : Ch), (∀ s ∈ c.live, P s) → c.last < W → (∀ s ∈ (Ch.run k fs m c).live, P s) ∧ (Ch.run k fs m c).last < W ∧ (Ch.run k fs m c).live.length ≤ c.live.length + m
  | 0, c, h1, h2 => ⟨h1, h2, Nat.le_refl _⟩
  | m + 1, c, h1, h2 => by
    unfold Ch.run
    split
    · exact ⟨h1, h2, by omega⟩
    · have key : (∀ s ∈ (c.step k fs).live, P s) ∧ (c.step k fs).last < W ∧ (c.step k fs).live.length ≤ c.live.length + 1 := by
        unfold Ch.step
        cases hf : fs[c.next.toNat]? with
        | none => exact ⟨h1, h2, by simp⟩
        | some f =>
          refine ⟨fun s hs => ?_, Nat.mod_lt _ (by decide), by simp⟩
          rcases List.mem_append.1 hs with hs | hs
          · exact h1 s hs
          · obtain rfl := List.mem_singleton.1 hs
            exact hP f (List.mem_of_getElem? hf)
      obtain ⟨k1, k2, k3⟩ := key
      obtain ⟨g1, g2, g3⟩ := run_ok hP m _ k1 k2
      exact ⟨g1, g2, by omega⟩
theorem found_ok {d : Disk} {at_ : Int} {size n k : Nat} (h5 : ∀ k s, d.view k = some s → s.length ≤ 512) (hs : size ≤ 64) (hk : k < W) : (∀ s ∈ (found d at_ size n k).live, s.place < n ∧ s.count < W) ∧ (found d at_ size n k).last < W ∧ (found d at_ size n k).live.length ≤ n := by
  have h := run_ok (k := k) (fs := look d.view at_ size n) (P := fun s => s.place < n ∧ s.count < W) (fun f hf => by
    have h1 := look_place d.view at_ size n f hf
    have h2 := look_ok h5 hs n f hf
    exact ⟨h1, by show f.recs.length < W; have : W = 18446744073709551616 := rfl; omega⟩) (look d.view at_ size n).length ⟨[], k, [], bestF k (look d.view at_ size n) (look d.view at_ size n).length⟩ (fun s hs => by cases hs) hk
  have hl := look_len d.view at_ size n
  refine ⟨h.1, h.2.1, Nat.le_trans h.2.2 (by simpa using hl)⟩
theorem run_out {k : Nat} {fs : List Fd} (hP : ∀ f ∈ fs, f.recs.length ≤ 32768) : ∀ (m : Nat) (c : Ch), (Ch.run k fs m c).out.length ≤ c.out.length + 32768 * m
  | 0, c => Nat.le_refl _
  | m + 1, c => by
    unfold Ch.run
    split
    · omega
    · have key : (c.step k fs).out.length ≤ c.out.length + 32768 := by
        unfold Ch.step
        cases hf : fs[c.next.toNat]? with
        | none => simp
        | some f =>
          have h1 := hP f (List.mem_of_getElem? hf)
          have h2 := behind_len k f.recs
          show (c.out ++ behind k f.recs).length ≤ _
          rw [List.length_append]; omega
      have := run_out (k := k) hP m (c.step k fs)
      omega
theorem found_out {d : Disk} {at_ : Int} {size n k : Nat} (h5 : ∀ k s, d.view k = some s → s.length ≤ 512) (hs : size ≤ 64) (hn : n ≤ 10) : (found d at_ size n k).out.length ≤ 327680 := by
  have h := run_out (k := k) (fs := look d.view at_ size n) (fun f hf => (look_ok h5 hs n f hf).2) (look d.view at_ size n).length ⟨[], k, [], bestF k (look d.view at_ size n) (look d.view at_ size n).length⟩
  have hl := look_len d.view at_ size n
  have h : (found d at_ size n k).out.length ≤ 0 + 32768 * (look d.view at_ size n).length := h
  omega
structure Plays (at_ : Int) (n s q : Nat) (l : Lg) (r : Rf.RDisk) : Prop where mk ::
  ea : l.at_ = at_
  en : l.n = n
  es : l.size = s
  live : l.live.length ≤ 64 + q
  segs : ∀ x ∈ l.live, x.place < n ∧ x.count < W
  stream : l.stream.length ≤ s * 512
  cur : l.stream.length ≠ 0 → l.live ≠ []
  last : l.last < W
  rd : RD r l.d (10 * q) (10 * q)
section
variable {at_ : Int} {n s q : Nat} {l : Lg} {r r' : Rf.RDisk}
theorem Plays.pend (h : Plays at_ n s q l r) : l.d.pend.length = r.L.length ∧ r.L.length ≤ 10 * q := by
  have h1 := h.rd.all
  have h2 := congrArg List.length h.rd.rep.pend
  rw [List.length_map] at h2
  exact ⟨h2.symm, by omega⟩
theorem Plays.card (h : Plays at_ n s q l r) : Dk.card l.d.view = r.view.length := h.rd.rep.view.card
theorem Plays.ok (h : Plays at_ n s q l r) (hq : q ≤ 30) (hn : n ≤ 10) (hs : s ≤ 4) (hat : 0 ≤ at_ ∧ at_ + ((n * s : Nat) : Int) ≤ 65536) : l.Ok ∧ ∀ x ∈ l.live, x.count < 18446744073709551616 := by
  have hp := h.pend
  refine ⟨⟨by rw [h.ea]; exact hat.1, by rw [h.ea, h.en, h.es]; exact hat.2, by rw [h.es]; omega, by rw [h.en]; omega, by have := h.live; omega, fun x hx => by rw [h.en]; exact (h.segs x hx).1, by rw [h.es]; exact h.stream, h.cur, h.last, by omega⟩, fun x hx => (h.segs x hx).2⟩
theorem Plays.mono (h : Plays at_ n s q l r) : Plays at_ n s (q + 1) l r := ⟨h.ea, h.en, h.es, by have := h.live; omega, h.segs, h.stream, h.cur, h.last, h.rd.mono (by omega) (by omega)⟩
theorem seq_lt' (l : Lg) : l.seq < W := Nat.mod_lt _ (by decide)
theorem goOn_plays {fr : Nat} {str : Dk.Bytes} {ini : List Seg} {g : Seg} (h : Plays at_ n s q l r) (hini : ∀ x ∈ ini, x.place < n ∧ x.count < W) (hl : ini.length + 1 ≤ 65 + q) (hg : g.place < n) (hstr : str.length ≤ s * 512) (hr : RD r' (l.goOn fr str ini g).1.d (10 * q + s) (10 * q + 2 * s)) (hs : s ≤ 4) : Plays at_ n s (q + 1) (l.goOn fr str ini g).1 r' := by
  have hr2 : RD r' (l.goOn fr str ini g).1.d (10 * (q + 1)) (10 * (q + 1)) := hr.mono (by omega) (by omega)
  revert hr2
  unfold Lg.goOn
  split
  · intro hr2
    refine ⟨h.ea, h.en, h.es, by simp; omega, fun x hx => ?_, hstr, fun _ => by simp, seq_lt' l, hr2⟩
    rcases List.mem_append.1 hx with hx | hx
    · exact hini x hx
    · obtain rfl := List.mem_singleton.1 hx
      exact ⟨hg, Nat.mod_lt _ (by decide)⟩
  · split
    · intro hr2
      exact ⟨h.ea, h.en, h.es, by have := h.live; show l.live.length ≤ _; omega, h.segs, by show 0 ≤ _; omega, fun e => absurd rfl e, h.last, hr2⟩
    · intro hr2
      exact ⟨h.ea, h.en, h.es, by have := h.live; show l.live.length ≤ _; omega, h.segs, by show 0 ≤ _; omega, fun e => absurd rfl e, h.last, hr2⟩
theorem Plays.append {body : Dk.Bytes} (h : Plays at_ n s q l r) (hr : RD r' (l.append body).1.d (10 * q + l.size) (10 * q + 2 * l.size)) (hs : s ≤ 4) : Plays at_ n s (q + 1) (l.append body).1 r' := by
  rw [h.es] at hr
  have hr2 : RD r' (l.append body).1.d (10 * (q + 1)) (10 * (q + 1)) := hr.mono (by omega) (by omega)
  by_cases c1 : l.size * 512 < (Wire.put l.seq title).length + (Wire.put l.seq body).length
  · rw [app_long c1] at hr2 ⊢
    exact ⟨h.ea, h.en, h.es, by have := h.live; show l.live.length ≤ _; omega, h.segs, h.stream, h.cur, h.last, hr2⟩
  by_cases c2 : l.stream.length = 0 ∨ l.size * 512 < l.stream.length + (Wire.put l.seq body).length
  · by_cases c3 : nextFree l.live l.n 0 = l.n
    · rw [app_full c1 c2 c3] at hr2 ⊢
      exact ⟨h.ea, h.en, h.es, by have := h.live; show l.live.length ≤ _; omega, h.segs, h.stream, h.cur, h.last, hr2⟩
    · rw [app_fresh c1 c2 c3] at hr ⊢
      have hf := (nextFree_le l.live l.n 0).2
      have e := h.en
      have es := h.es
      refine goOn_plays h h.segs (by have := h.live; omega) (by show nextFree l.live l.n 0 < n; omega) (by rw [List.length_append, ← es]; omega) hr hs
  · obtain ⟨ini, g, hsp⟩ := live_split (h.cur (fun e => c2 (.inl e)))
    rw [app_cur c1 (fun e => c2 (.inl e)) (fun e => c2 (.inr e)) hsp] at hr ⊢
    have hll := h.live
    rw [hsp, List.length_append, List.length_singleton] at hll
    have es := h.es
    exact goOn_plays h (fun x hx => h.segs x (by rw [hsp]; simp [hx])) (by omega) (h.segs g (by rw [hsp]; simp)).1 (by rw [List.length_append, ← es]; omega) hr hs
theorem Plays.truncate {seq : Nat} (h : Plays at_ n s q l r) (hr : RD r' (l.truncate seq).1.d (10 * q) (10 * q)) : Plays at_ n s (q + 1) (l.truncate seq).1 r' := by
  have hr2 : RD r' (l.truncate seq).1.d (10 * (q + 1)) (10 * (q + 1)) := hr.mono (by omega) (by omega)
  revert hr2
  unfold Lg.truncate
  split
  · intro hr2
    exact ⟨h.ea, h.en, h.es, by have := h.live; show l.live.length ≤ _; omega, h.segs, h.stream, h.cur, h.last, hr2⟩
  · intro hr2
    have hst : (l.keepStream seq).length ≤ l.stream.length := by
      unfold Lg.keepStream
      split
      · split
        · exact Nat.le_refl _
        · simp
      · exact Nat.le_refl _
    refine ⟨h.ea, h.en, h.es, ?_, fun x hx => h.segs x (List.mem_filter.1 hx).1, by have := h.stream; show (l.keepStream seq).length ≤ _; omega, fun e => ?_, h.last, hr2⟩
    · have h1 := List.length_filter_le (keeps seq) l.live
      have := h.live
      show (l.live.filter (keeps seq)).length ≤ _; omega
    · have hls : l.stream.length ≠ 0 := fun e0 => e (by show (l.keepStream seq).length = 0; omega)
      obtain ⟨ini, g, hsp⟩ := live_split (h.cur hls)
      have e : (l.keepStream seq).length ≠ 0 := e
      unfold Lg.keepStream at e
      rw [hsp, List.getLast?_concat] at e
      simp only at e
      show l.live.filter (keeps seq) ≠ []
      split at e
      · rename_i hk
        rw [hsp, List.filter_append]
        simp [hk]
      · exact absurd rfl e
theorem Plays.sync (h : Plays at_ n s q l r) : Plays at_ n s (q + 1) { l with synced := l.last, d := l.d.sync } r.sync :=
  ⟨h.ea, h.en, h.es, by have := h.live; show l.live.length ≤ _; omega, h.segs, h.stream, h.cur, h.last, h.rd.sync.mono (by omega) (by omega)⟩
theorem Plays.limit (h : Plays at_ n s q l r) (m : Int) : Plays at_ n s (q + 1) { l with d := l.d.setLimit m } { r with limit := m } :=
  ⟨h.ea, h.en, h.es, by have := h.live; show l.live.length ≤ _; omega, h.segs, h.stream, h.cur, h.last, (h.rd.limit m).mono (by omega) (by omega)⟩
theorem plays_open {d : Disk} {k : Nat} (h5 : ∀ k s, d.view k = some s → s.length ≤ 512) (hs : s ≤ 4) (hn : n ≤ 10) (hk : k < W) (hr : RD r (openDisk d at_ s n k) (10 * q) (10 * q)) :
    Plays at_ n s q ⟨at_, n, s, (found d at_ s n k).live, [], max (found d at_ s n k).last k, max (found d at_ s n k).last k, openDisk d at_ s n k⟩ r := by
  obtain ⟨h1, h2, h3⟩ := found_ok (at_ := at_) (size := s) (n := n) (k := k) h5 (by omega) hk
  exact ⟨rfl, rfl, rfl, by show (found d at_ s n k).live.length ≤ _; omega, h1, by show 0 ≤ _; omega, fun e => absurd rfl e, by show max _ _ < W; omega, hr⟩
end
end Go.Wl
