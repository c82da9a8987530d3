/-
  THE LOGIC's WAY OUT: a contract on read-only memory becomes what a row wants. Conditions: none; it speaks of any program.
-/
import Derived.Test.YtlejcepbcfijiaaGreatDoorSlDraw
import Derived.WalkKit
import Derived.ProofKit
import Derived.OpenShut
import Derived.WideKeyArgs
import Derived.Deep.Slices
set_option linter.unusedVariables false
set_option linter.unusedSimpArgs false
namespace Go.SL
open Go Go.RowKit Go.ChangeShapes Go.WideShapes Go.Deep
open Enc (sz)

def allR (W : World) : RoP := ⟨fun r => (hp W).le r, fun h k => h.trans k⟩
/-- what was there is as it was -/
structure Kept (W w : World) : Prop where mk ::
  os : w.os = W.os
  out : w.output = W.output
  le : ∀ i, i < W.heap.size → w.heap[i]? = W.heap[i]?
theorem Kept.but {W w : World} (h : Kept W w) (may : MemPlace → Prop) : W.keptBut w may := ⟨h.os, h.out, fun i hi => by
  rw [h.le i hi]
  split
  · rename_i h1 h2; rw [h1] at h2; cases h2; exact ⟨rfl, rfl, rfl, fun _ _ => rfl⟩
  · rename_i h1 h2; rw [h1] at h2; cases h2; exact .inr ⟨rfl, rfl⟩
  · rfl⟩
theorem Kept.frozen {W w : World} (h : Kept W w) {a : Addr} (ha : a.block < W.heap.size) : w.frozen? a = W.frozen? a := by
  simp only [World.frozen?, h.le _ ha]
theorem kept_of_le {W w : World} (ho : w.os = W.os) (hout : w.output = W.output) (h : (hp W).le (hp w)) : Kept W w :=
  ⟨ho, hout, fun i hi => by
    have e := Array.getElem?_eq_getElem hi
    rw [e]; exact h.out i _ e⟩
theorem Kept.same {W w : World} (h : Kept W w) {p : MemPlace} (hp : p.block < W.heap.size) : W.sameAt w p := by
  cases p with
  | cell b off => simp only [World.sameAt, World.cell?]; rw [h.le b hp]
  | map b => exact h.le b hp
/-- a contract whose memory is all read-only, run from a world where it holds -/
theorem Ctr.run {P : Program} {f : FuncId} {args : Array Value} {φ : RoP} {v : Value} (c : Ctr P f args [ro φ] (fun _ : Unit => v) (fun _ => [])) {W : World} (h : φ.p (hp W)) : Calls P f args W fun e W' => e = .returned v ∧ Kept W W' := by
  refine (c.calls W (ro (allR W)) W ⟨rfl, rfl, rfl, Part.no, hp W, Part.no_le _, Part.le.refl _, Part.no_disj _, Sep.addRo h (Sep.addRo (Part.le.refl _) trivial)⟩).mono fun e W' he => ?_
  obtain ⟨x, he, hs⟩ := he
  exact ⟨he, kept_of_le hs.os hs.output (hs.ro (φ := allR W) .here)⟩
section
variable {H : Type} {enc : TypeId × Value → H} {P : Program}
/-- the row's answer, where the call left all as it was -/
theorem post_kept {f : Func} {s : ChangeSpec} {apart fresh handsOn again : Bool} {W W' : World} {args : Array Value} {v : Value} {ds gs : List (DataW H)} {before pa pv : List MemPlace}
    (hW : DataW.Whole enc P f.params.toList s.vars apart W args.toList ds gs before)
    (hres : ∀ (b : Nat) (sp : Nat → Bool) (hd : Bool), DataW.TrodAll enc P W' b sp hd f.resultTypes.toList (v.resultList f.resultTypes.size) (s.fn H (ds ++ gs)).results [])
    (hargs : ∀ sp : Nat → Bool, (∀ p ∈ before, sp p.block = true) → DataW.TrodAll enc P W' 0 sp true f.params.toList args.toList (s.fn H (ds ++ gs)).args pa)
    (hvars : ∀ sp : Nat → Bool, (∀ p ∈ before, sp p.block = true) → DataW.TrodVars enc P W' sp s.vars (s.fn H (ds ++ gs)).vars pv)
    (hps : before = pa ++ pv) (hk : Kept W W')
    (hok : ∀ (j : Nat) (t : TypeId) (r : Value), f.resultTypes[j]? = some t → (v.resultList f.resultTypes.size)[j]? = some r → Value.okWide P W' .any 0 t r) :
    s.post enc P f apart fresh handsOn again W args v W' := by
  have hlt := hW.lt
  have hold : ∀ p ∈ before, (fun b => decide (b < W.heap.size)) p.block = true := fun p hp => by simpa using hlt p hp
  refine ⟨ds, gs, before, [], pa, pv, hW, hres _ _ _, hargs _ hold, hvars _ hold, hk.but _, fun _ => ?_⟩
  obtain ⟨_, _, _, _, _, hz, hn⟩ := hW
  refine ⟨hok, _, _, ([] ++ pa) ++ pv, ⟨[] ++ pa, pv, trodAll_append (hargs _ (fun _ _ => rfl)) (hres _ _ _), hvars _ (fun _ _ => rfl), rfl, ?_, ?_⟩, ?_⟩
  · intro b off hp
    have hp' : MemPlace.cell b off ∈ before := by rw [hps]; simpa using hp
    rw [hk.frozen (a := ⟨b, off, none⟩) (hlt _ hp')]
    exact hz b off hp'
  · intro ha
    have := hn ha
    rw [hps] at this
    simpa using this
  · intro p hp _
    rw [hps]
    simpa using hp
/-- arguments read again -/
theorem args_again (hl : laidOutB P = true) {W W' : World} (hk : Kept W W') : ∀ {ts : List TypeId} {vs : List Value} {ds : List (DataW H)} {ps : List MemPlace} (_ : ∀ t ∈ ts, P.readableRec t = true ∧ t < P.types.size)
    (_ : DataW.TrodAll enc P W 0 (fun _ => true) true ts vs ds ps) (_ : ∀ p ∈ ps, p.block < W.heap.size) (sp : Nat → Bool) (_ : ∀ p ∈ ps, sp p.block = true), DataW.TrodAll enc P W' 0 sp true ts vs ds ps
  | [], [], [], ps, _, h, _, sp, _ => h
  | t :: ts, v :: vs, d :: ds, ps, hr, h, hlt, sp, hs => by
    obtain ⟨p, q, h1, h2, rfl⟩ := h
    have ht := hr t (by simp)
    exact ⟨p, q, Go.WideElems.Trod_stays hl ht.1 ht.2 h1 (fun x hx => hk.same (hlt x (by simp [hx]))) (fun x hx => hs x (by simp [hx])), args_again hl hk (fun u hu => hr u (by simp [hu])) h2 (fun x hx => hlt x (by simp [hx])) sp (fun x hx => hs x (by simp [hx])), rfl⟩
  | [], _ :: _, _, _, _, h, _, _, _ => by simp [DataW.TrodAll] at h
  | [], [], _ :: _, _, _, h, _, _, _ => by simp [DataW.TrodAll] at h
  | _ :: _, [], _, _, _, h, _, _, _ => by simp [DataW.TrodAll] at h
  | _ :: _, _ :: _, [], _, _, h, _, _, _ => by simp [DataW.TrodAll] at h
end
/-- a slice that is read, cell by cell -/
theorem sliceIn_of {α : Type} [Enc α] {W : World} {a : Addr} {len : Nat} {xs : List α} (hlen : xs.length = len) (hsz : 0 < sz α) (h : ∀ i x, xs[i]? = some x → ∀ k v, (Enc.enc x)[k]? = some v → W.cell? (a.add (i * sz α + k)) = some v) : SliceIn (hp W) (some a) len xs := by
  refine ⟨hlen, fun hm => ?_⟩
  have hx0 := List.getElem?_eq_getElem (l := xs) (i := 0) (by omega)
  have hk0 : 0 < (Enc.enc xs[0]).length := by rw [Enc.len]; exact hsz
  have h0 := h 0 _ hx0 0 _ (List.getElem?_eq_getElem hk0)
  simp only [Nat.zero_mul, Nat.add_zero, Addr.add, if_true] at h0
  obtain ⟨b, off, spot⟩ := a
  unfold World.cell? at h0
  cases hb : W.heap[b]? with
  | none => rw [hb] at h0; cases h0
  | some ob =>
    rw [hb] at h0
    cases ob with
    | cells c E fr =>
      simp only at h0
      cases spot with
      | some x => simp at h0
      | none =>
        refine ⟨b, off, c, E, fr, rfl, hb, ?_⟩
        unfold Row
        apply List.ext_getElem?
        intro j
        rw [List.getElem?_take]
        split
        · rename_i hj
          rw [List.getElem?_drop]
          have hi : j / sz α < xs.length := Nat.div_lt_of_lt_mul (by rw [Nat.mul_comm]; exact hj)
          have hk : j % sz α < sz α := Nat.mod_lt _ hsz
          have e : j / sz α * sz α + j % sz α = j := by rw [Nat.mul_comm]; exact Nat.div_add_mod j (sz α)
          have hx := List.getElem?_eq_getElem (l := xs) hi
          have hl : j % sz α < (Enc.enc xs[j / sz α]).length := by rw [Enc.len]; exact hk
          have hv := List.getElem?_eq_getElem hl
          have hc := h _ _ hx _ _ hv
          have hf := flat_get hx hk
          rw [e] at hc hf
          rw [hf, hv, Array.getElem?_toList]
          unfold World.cell? at hc
          by_cases hz : j = 0
          · subst hz
            simpa [Addr.add, hb] using hc
          · simpa [Addr.add, hz, hb] using hc
        · rename_i hj
          rw [List.getElem?_eq_none]
          rw [flat_length]; omega
    | _ => simp at h0
end Go.SL
