/-
  LAW 06: what a row's reading of the arguments says in the logic's words. Conditions: none.
-/
import Derived.Test.YtlejcepbcfijiaaLaw06
import Derived.Test.YtlejcepbcfijiaaSlClose
import Derived.Test.YtlejcepbcfijiaaRows
import Derived.Deep.SlicePairs
import Derived.JoinedCond
set_option maxRecDepth 100000
set_option linter.unusedVariables false
set_option linter.unusedSimpArgs false
namespace Go.Proofs.Ytlejcepbcfijiaa
open Go Go.SL Go.ChangeShapes Go.WideShapes Go.Deep Go.RowKit
section
variable {H : Type} {enc : TypeId × Value → H} {W : World} {base : Nat} {spare : Nat → Bool} {held : Bool}
theorem read_survivors {fuel : Nat} {cs : List Value} {x : DataW H × List MemPlace} (h : DataW.trod enc Try.prog W base spare held fuel 24 cs = some x) :
    ∃ (a : Option Addr) (c : Nat) (l : List (Int × Int)), cs = [.slice a l.length c] ∧ l.length ≤ c ∧ SliceIn (hp W) a l.length l := by
  rcases open_slice_pairs Try.underlying24 Try.underlying44 (by kernel_rfl) rfl rfl (by kernel_rfl) (by kernel_rfl) h with ⟨rfl, _⟩ | ⟨a, len, cap, m, n, V0, V1, D0, D1, P0, P1, rfl, hb, hl, hm, hmm, _, hx⟩
  · exact ⟨none, 0, [], rfl, Nat.le_refl _, SliceIn.empty _ _⟩
  · have hle : len ≤ m := by rw [hmm]; split <;> omega
    obtain ⟨f, hf⟩ := choose_lt (α := Int × Int) (n := len) (p := fun i q => V0 i = .int .i64 q.1 ∧ V1 i = .int .i64 q.2) (fun i hi => by
      obtain ⟨h1, h2, h3, h4⟩ := hx i (by omega)
      obtain ⟨k0, e0, _⟩ := DataW.trod_int Try.underlying3 h3
      obtain ⟨k1, e1, _⟩ := DataW.trod_int Try.underlying3 h4
      exact ⟨(k0, k1), by simpa using e0, by simpa using e1⟩)
    refine ⟨some a, cap, (List.range len).map f, by simp, by simpa using hl, ?_⟩
    have hlen : ((List.range len).map f).length = len := by simp
    rw [hlen]
    refine sliceIn_of hlen (by decide) fun i q hq k v hv => ?_
    have hi : i < len := by
      have := (List.getElem?_eq_some_iff.1 hq).1
      simpa using this
    simp [hi] at hq
    subst hq
    obtain ⟨h1, h2, _, _⟩ := hx i (by omega)
    obtain ⟨e0, e1⟩ := hf i hi
    rw [e0] at h1
    rw [e1] at h2
    match k, hv with
    | 0, hv => simp [Enc.enc] at hv; subst hv; exact h1
    | 1, hv => simp [Enc.enc] at hv; subst hv; exact h2
    | k + 2, hv => simp [Enc.enc] at hv
theorem read_acts {fuel : Nat} {cs : List Value} {x : DataW H × List MemPlace} (h : DataW.trod enc Try.prog W base spare held fuel 22 cs = some x) :
    ∃ (a : Option Addr) (c : Nat) (xs : List ActV) (ms : List Dk.MAct), cs = [.slice a xs.length c] ∧ SliceIn (hp W) a xs.length xs ∧ ActsOk (hp W) xs ms := by
  rcases open_slice Try.underlying22 h with ⟨rfl, _⟩ | ⟨a, len, cap, m, n, D, Pl, rfl, hb, hl, hm, hmm, _, hx⟩
  · exact ⟨none, 0, [], [], rfl, SliceIn.empty _ _, ⟨rfl, fun i x m h => by simp at h⟩⟩
  · have hle : len ≤ m := by rw [hmm]; split <;> omega
    have hc4 : Try.prog.cellsOf 32 = 4 := by kernel_rfl
    obtain ⟨f, hf⟩ := choose_lt (α := Option (ActV × Dk.MAct)) (n := len) (p := fun i q => ∃ y, q = some y ∧ (∀ k v, (Enc.enc y.1)[k]? = some v → W.cell? (a.add (i * 4 + k)) = some v) ∧ ActOk (hp W) y.1 y.2) (fun i hi => by
      obtain ⟨cs', h1, h2⟩ := hx i (by omega)
      rw [hc4] at h1
      obtain ⟨_, hlen, hcell⟩ := World.cells?_some h1
      obtain ⟨xs, n', _, _, _, hxl, hfs⟩ := DataW.trod_struct Try.underlying32 h2
      have hxl : xs.length = 4 := hxl
      match cs', hlen with
      | [v0, v1, v2, v3], _ =>
        have g0 := hfs 0 _ rfl
        have g1 := hfs 1 _ rfl
        have g2 := hfs 2 _ rfl
        have g3 := hfs 3 _ rfl
        rw [List.getElem?_eq_getElem (by omega)] at g0 g1 g2 g3
        obtain ⟨k0, e0, _⟩ := DataW.trod_int (k := .i64) Try.underlying3 g0
        obtain ⟨k1, e1, _⟩ := DataW.trod_int (k := .i64) Try.underlying3 g1
        obtain ⟨s2, e2, _⟩ := DataW.trod_string Try.underlying9 g2
        obtain ⟨a3, c3, l3, e3, hl3, hs3⟩ := read_survivors g3
        have c1 : Try.prog.cellsOf 3 = 1 := by kernel_rfl
        have c2 : Try.prog.cellsOf 9 = 1 := by kernel_rfl
        have c24 : Try.prog.cellsOf 24 = 1 := by kernel_rfl
        have e0 : [v0] = [Value.int .i64 k0] := by rw [← e0]; show _ = List.take (Try.prog.cellsOf 3) _; rw [c1]; rfl
        have e1 : [v1] = [Value.int .i64 k1] := by rw [← e1]; show _ = List.take (Try.prog.cellsOf 3) _; rw [c1]; rfl
        have e2 : [v2] = [Value.string s2] := by rw [← e2]; show _ = List.take (Try.prog.cellsOf 9) _; rw [c2]; rfl
        have e3 : [v3] = [Value.slice a3 l3.length c3] := by rw [← e3]; show _ = List.take (Try.prog.cellsOf 24) _; rw [c24]; rfl
        obtain rfl := List.cons.inj e0 |>.1
        obtain rfl := List.cons.inj e1 |>.1
        obtain rfl := List.cons.inj e2 |>.1
        obtain rfl := List.cons.inj e3 |>.1
        refine ⟨some (⟨k0, k1, s2.data.toList, a3, l3.length, c3⟩, ⟨k0, k1, s2.data.toList, l3⟩), _, rfl, fun k v hv => ?_, ⟨rfl, rfl, rfl, rfl, hl3, hs3⟩⟩
        have hk : k < 4 := by
          have := (List.getElem?_eq_some_iff.1 hv).1
          simpa [Enc.enc] using this
        have := hcell k hk
        rw [add_add] at this
        rw [this, ← hv]
        rfl)
    have hsome : ∀ i, i < len → ∃ y, f i = some y ∧ (∀ k v, (Enc.enc y.1)[k]? = some v → W.cell? (a.add (i * 4 + k)) = some v) ∧ ActOk (hp W) y.1 y.2 := hf
    let d0 : ActV × Dk.MAct := (⟨0, 0, [], none, 0, 0⟩, ⟨0, 0, [], []⟩)
    refine ⟨some a, cap, (List.range len).map fun i => ((f i).getD d0).1, (List.range len).map fun i => ((f i).getD d0).2, by simp, ?_, ⟨by simp, fun i x m h1 h2 => ?_⟩⟩
    · have hlen : ((List.range len).map fun i => ((f i).getD d0).1).length = len := by simp
      rw [hlen]
      refine sliceIn_of hlen (by decide) fun i q hq k v hv => ?_
      have hi : i < len := by
        have := (List.getElem?_eq_some_iff.1 hq).1
        simpa using this
      obtain ⟨y, hy, hc, _⟩ := hsome i hi
      simp [hi, hy] at hq
      subst hq
      exact hc k v hv
    · have hi : i < len := by
        have := (List.getElem?_eq_some_iff.1 h1).1
        simpa using this
      obtain ⟨y, hy, _, ho⟩ := hsome i hi
      simp [hi, hy] at h1 h2
      subst h1 h2
      exact ho
end
end Go.Proofs.Ytlejcepbcfijiaa
