/-
  LAW 12: what a row's reading of the arguments says in the logic's words. Conditions: none.
-/
import Derived.Test.YtlejcepbcfijiaaDoorLaw12
import Derived.Test.YtlejcepbcfijiaaDoorSlClose
import Derived.Test.YtlejcepbcfijiaaDoorRows
import Derived.Deep.SlicePairs
import Derived.JoinedCond
import Derived.Lib.LaidTab
set_option maxRecDepth 100000
set_option linter.unusedVariables false
set_option linter.unusedSimpArgs false
namespace Go.Proofs.YtlejcepbcfijiaaDoor
open Go Go.SL Go.ChangeShapes Go.WideShapes Go.Deep Go.RowKit
section
variable {H : Type} {enc : TypeId × Value → H} {W : World} {base : Nat} {spare : Nat → Bool} {held : Bool}
theorem read_survivors {fuel : Nat} {cs : List Value} {x : DataW H × List MemPlace} (h : DataW.trod enc Tryd.prog W base spare held fuel 31 cs = some x) :
    ∃ (a : Option Addr) (c : Nat) (l : List (Int × Int)), cs = [.slice a l.length c] ∧ l.length ≤ c ∧ SliceIn (hp W) a l.length l := by
  rcases open_slice_pairs Tryd.underlying31 Tryd.underlying81 (by kernel_rfl) rfl rfl (by kernel_rfl) (by kernel_rfl) h with ⟨rfl, _⟩ | ⟨a, len, cap, m, n, V0, V1, D0, D1, P0, P1, rfl, hb, hl, hm, hmm, _, hx⟩
  · exact ⟨none, 0, [], rfl, Nat.le_refl _, SliceIn.empty _ _⟩
  · have hle : len ≤ m := by rw [hmm]; split <;> omega
    obtain ⟨f, hf⟩ := choose_lt (α := Int × Int) (n := len) (p := fun i q => V0 i = .int .i64 q.1 ∧ V1 i = .int .i64 q.2) (fun i hi => by
      obtain ⟨h1, h2, h3, h4⟩ := hx i (by omega)
      obtain ⟨k0, e0, _⟩ := DataW.trod_int Tryd.underlying3 h3
      obtain ⟨k1, e1, _⟩ := DataW.trod_int Tryd.underlying3 h4
      exact ⟨(k0, k1), by simpa using e0, by simpa using e1⟩)
    refine ⟨some a, cap, (List.range len).map f, by simp, by simpa using hl, ?_⟩
    have hlen : ((List.range len).map f).length = len := by simp
    rw [hlen]
    refine sliceIn_of hlen (by decide) fun i q hq k v hv => ?_
    have hi : i < len := by
      have := (List.getElem?_eq_some_iff.1 hq).1
      simpa using this
    simp [hi] at hq
    subst hq
    obtain ⟨h1, h2, _, _⟩ := hx i (by omega)
    obtain ⟨e0, e1⟩ := hf i hi
    rw [e0] at h1
    rw [e1] at h2
    match k, hv with
    | 0, hv => simp [Enc.enc] at hv; subst hv; exact h1
    | 1, hv => simp [Enc.enc] at hv; subst hv; exact h2
    | k + 2, hv => simp [Enc.enc] at hv
theorem read_acts {fuel : Nat} {cs : List Value} {x : DataW H × List MemPlace} (h : DataW.trod enc Tryd.prog W base spare held fuel 22 cs = some x) :
    ∃ (a : Option Addr) (c : Nat) (xs : List ActV) (ms : List Dk.MAct), cs = [.slice a xs.length c] ∧ SliceIn (hp W) a xs.length xs ∧ ActsOk (hp W) xs ms := by
  rcases open_slice Tryd.underlying22 h with ⟨rfl, _⟩ | ⟨a, len, cap, m, n, D, Pl, rfl, hb, hl, hm, hmm, _, hx⟩
  · exact ⟨none, 0, [], [], rfl, SliceIn.empty _ _, ⟨rfl, fun i x m h => by simp at h⟩⟩
  · have hle : len ≤ m := by rw [hmm]; split <;> omega
    have hc4 : Tryd.prog.cellsOf 33 = 4 := by kernel_rfl
    obtain ⟨f, hf⟩ := choose_lt (α := Option (ActV × Dk.MAct)) (n := len) (p := fun i q => ∃ y, q = some y ∧ (∀ k v, (Enc.enc y.1)[k]? = some v → W.cell? (a.add (i * 4 + k)) = some v) ∧ ActOk (hp W) y.1 y.2) (fun i hi => by
      obtain ⟨cs', h1, h2⟩ := hx i (by omega)
      rw [hc4] at h1
      obtain ⟨_, hlen, hcell⟩ := World.cells?_some h1
      obtain ⟨xs, n', _, _, _, hxl, hfs⟩ := DataW.trod_struct Tryd.underlying33 h2
      have hxl : xs.length = 4 := hxl
      match cs', hlen with
      | [v0, v1, v2, v3], _ =>
        have g0 := hfs 0 _ rfl
        have g1 := hfs 1 _ rfl
        have g2 := hfs 2 _ rfl
        have g3 := hfs 3 _ rfl
        rw [List.getElem?_eq_getElem (by omega)] at g0 g1 g2 g3
        obtain ⟨k0, e0, _⟩ := DataW.trod_int (k := .i64) Tryd.underlying3 g0
        obtain ⟨k1, e1, _⟩ := DataW.trod_int (k := .i64) Tryd.underlying3 g1
        obtain ⟨s2, e2, _⟩ := DataW.trod_string Tryd.underlying9 g2
        obtain ⟨a3, c3, l3, e3, hl3, hs3⟩ := read_survivors g3
        have c1 : Tryd.prog.cellsOf 3 = 1 := by kernel_rfl
        have c2 : Tryd.prog.cellsOf 9 = 1 := by kernel_rfl
        have c24 : Tryd.prog.cellsOf 31 = 1 := by kernel_rfl
        have e0 : [v0] = [Value.int .i64 k0] := by rw [← e0]; show _ = List.take (Tryd.prog.cellsOf 3) _; rw [c1]; rfl
        have e1 : [v1] = [Value.int .i64 k1] := by rw [← e1]; show _ = List.take (Tryd.prog.cellsOf 3) _; rw [c1]; rfl
        have e2 : [v2] = [Value.string s2] := by rw [← e2]; show _ = List.take (Tryd.prog.cellsOf 9) _; rw [c2]; rfl
        have e3 : [v3] = [Value.slice a3 l3.length c3] := by rw [← e3]; show _ = List.take (Tryd.prog.cellsOf 31) _; rw [c24]; rfl
        obtain rfl := List.cons.inj e0 |>.1
        obtain rfl := List.cons.inj e1 |>.1
        obtain rfl := List.cons.inj e2 |>.1
        obtain rfl := List.cons.inj e3 |>.1
        refine ⟨some (⟨k0, k1, s2.data.toList, a3, l3.length, c3⟩, ⟨k0, k1, s2.data.toList, l3⟩), _, rfl, fun k v hv => ?_, ⟨rfl, rfl, rfl, rfl, hl3, hs3⟩⟩
        have hk : k < 4 := by
          have := (List.getElem?_eq_some_iff.1 hv).1
          simpa [Enc.enc] using this
        have := hcell k hk
        rw [add_add] at this
        rw [this, ← hv]
        rfl)
    have hsome : ∀ i, i < len → ∃ y, f i = some y ∧ (∀ k v, (Enc.enc y.1)[k]? = some v → W.cell? (a.add (i * 4 + k)) = some v) ∧ ActOk (hp W) y.1 y.2 := hf
    let d0 : ActV × Dk.MAct := (⟨0, 0, [], none, 0, 0⟩, ⟨0, 0, [], []⟩)
    refine ⟨some a, cap, (List.range len).map fun i => ((f i).getD d0).1, (List.range len).map fun i => ((f i).getD d0).2, by simp, ?_, ⟨by simp, fun i x m h1 h2 => ?_⟩⟩
    · have hlen : ((List.range len).map fun i => ((f i).getD d0).1).length = len := by simp
      rw [hlen]
      refine sliceIn_of hlen (by decide) fun i q hq k v hv => ?_
      have hi : i < len := by
        have := (List.getElem?_eq_some_iff.1 hq).1
        simpa using this
      obtain ⟨y, hy, hc, _⟩ := hsome i hi
      simp [hi, hy] at hq
      subst hq
      exact hc k v hv
    · have hi : i < len := by
        have := (List.getElem?_eq_some_iff.1 h1).1
        simpa using this
      obtain ⟨y, hy, _, ho⟩ := hsome i hi
      simp [hi, hy] at h1 h2
      subst h1 h2
      exact ho

instance : Inhabited Str := ⟨⟨[]⟩⟩
theorem read_strings {fuel : Nat} {cs : List Value} {x : DataW H × List MemPlace} (h : DataW.trod enc Tryd.prog W base spare held fuel 35 cs = some x) :
    ∃ (a : Option Addr) (c : Nat) (xs : List Str), cs = [.slice a xs.length c] ∧ SliceIn (hp W) a xs.length xs := by
  rcases open_slice Tryd.underlying35 h with ⟨rfl, _⟩ | ⟨a, len, cap, m, n, D, Pl, rfl, hb, hl, hm, hmm, _, hx⟩
  · exact ⟨none, 0, [], rfl, SliceIn.empty _ _⟩
  · have hle : len ≤ m := by rw [hmm]; split <;> omega
    have hc1 : Tryd.prog.cellsOf 9 = 1 := by kernel_rfl
    obtain ⟨f, hf⟩ := choose_lt (α := Str) (n := len) (p := fun i y => W.cell? (a.add i) = some (vS y.s)) (fun i hi => by
      obtain ⟨cs', h1, h2⟩ := hx i (by omega)
      rw [hc1] at h1
      obtain ⟨_, hlen, hcell⟩ := World.cells?_some h1
      match cs', hlen with
      | [v0], _ =>
        obtain ⟨s2, e2, _⟩ := DataW.trod_string Tryd.underlying9 h2
        obtain rfl := List.cons.inj e2 |>.1
        refine ⟨⟨s2.data.toList⟩, ?_⟩
        have := hcell 0 (by decide)
        rw [add_add] at this
        show W.cell? (a.add i) = some (.string (mkS s2.data.toList))
        rw [mkS_of]
        simpa using this)
    refine ⟨some a, cap, (List.range len).map f, by simp, ?_⟩
    have hlen : ((List.range len).map f).length = len := by simp
    rw [hlen]
    refine sliceIn_of hlen (by decide) fun i q hq k v hv => ?_
    have hi : i < len := by
      have := (List.getElem?_eq_some_iff.1 hq).1
      simpa using this
    simp [hi] at hq
    subst hq
    match k, hv with
    | 0, hv => simp [Enc.enc] at hv; subst hv; have := hf i hi; simpa [Enc.sz] using this
    | k + 1, hv => simp [Enc.enc] at hv

end

theorem bits_of {W : World} {laid : List (String × DataW Unit)} (h : Lib.TabIs Tryd.prog W "lapstone/num.bits" .u64 [0, 8, 16, 24, 32, 40, 48, 56, 64]) : bitsR.p (hp W) := by
  have gTab : Tryd.prog.globalNamed "lapstone/num.bits" = some 0 := by kernel_rfl
  have hc : ∀ i : Nat, i < 9 → W.cell? ⟨0, i, none⟩ = some (.int .u64 ((8 * i : Nat) : Int)) := fun i hi => by
    match i, hi with
    | 0, _ => exact h.cell gTab 0 (by decide)
    | 1, _ => exact h.cell gTab 1 (by decide)
    | 2, _ => exact h.cell gTab 2 (by decide)
    | 3, _ => exact h.cell gTab 3 (by decide)
    | 4, _ => exact h.cell gTab 4 (by decide)
    | 5, _ => exact h.cell gTab 5 (by decide)
    | 6, _ => exact h.cell gTab 6 (by decide)
    | 7, _ => exact h.cell gTab 7 (by decide)
    | 8, _ => exact h.cell gTab 8 (by decide)
  have h0 := hc 0 (by decide)
  unfold World.cell? at h0
  split at h0
  · rename_i cs E fr he
    refine ⟨cs, E, fr, he, fun i hi => ?_⟩
    have := hc i hi
    unfold World.cell? at this
    rw [he] at this
    simpa using this
  · cases h0
theorem slice_val {P : Program} {W : World} {r : Reach} {b0 : Nat} {t e : TypeId} {v : Value} {a : Option Addr} {m c : Nat} (ht : P.underlying t = some (.slice e)) (h : Value.okWide P W r b0 t v) (hc : v.cells.toList = [.slice a m c]) : v = .slice a m c := by
  cases v <;> simp_all [Value.cells, Value.okWide]
  all_goals (simp [Cell.okWide, Cell.ok, ht] at h)

end Go.Proofs.YtlejcepbcfijiaaDoor
