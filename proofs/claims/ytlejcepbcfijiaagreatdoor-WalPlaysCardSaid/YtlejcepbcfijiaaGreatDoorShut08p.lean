/-
  LAW 08: what the row of WalPlays reads of the arguments, in the logic's words. Conditions: none.
-/
import Derived.Test.YtlejcepbcfijiaaGreatDoorLaw08p
import Derived.Test.YtlejcepbcfijiaaGreatDoorSlClose
import Derived.Test.YtlejcepbcfijiaaGreatDoorRows
import Derived.Deep.SlicePairs
import Derived.JoinedCond
import Derived.Lib.LaidTab
set_option maxRecDepth 100000
set_option linter.unusedVariables false
set_option linter.unusedSimpArgs false
namespace Go.Proofs.YtlejcepbcfijiaaGreatDoor
open Go Go.SL Go.ChangeShapes Go.WideShapes Go.Deep Go.RowKit
section
variable {H : Type} {enc : TypeId × Value → H} {W : World} {base : Nat} {spare : Nat → Bool} {held : Bool}
theorem read_survivors {fuel : Nat} {cs : List Value} {x : DataW H × List MemPlace} (h : DataW.trod enc Tryz.prog W base spare held fuel 47 cs = some x) :
    ∃ (a : Option Addr) (c : Nat) (l : List (Int × Int)), cs = [.slice a l.length c] ∧ l.length ≤ c ∧ SliceIn (hp W) a l.length l := by
  rcases open_slice_pairs Tryz.underlying47 Tryz.underlying104 (by kernel_rfl) rfl rfl (by kernel_rfl) (by kernel_rfl) h with ⟨rfl, _⟩ | ⟨a, len, cap, m, n, V0, V1, D0, D1, P0, P1, rfl, hb, hl, hm, hmm, _, hx⟩
  · exact ⟨none, 0, [], rfl, Nat.le_refl _, SliceIn.empty _ _⟩
  · have hle : len ≤ m := by rw [hmm]; split <;> omega
    obtain ⟨f, hf⟩ := choose_lt (α := Int × Int) (n := len) (p := fun i q => V0 i = .int .i64 q.1 ∧ V1 i = .int .i64 q.2) (fun i hi => by
      obtain ⟨h1, h2, h3, h4⟩ := hx i (by omega)
      obtain ⟨k0, e0, _⟩ := DataW.trod_int Tryz.underlying3 h3
      obtain ⟨k1, e1, _⟩ := DataW.trod_int Tryz.underlying3 h4
      exact ⟨(k0, k1), by simpa using e0, by simpa using e1⟩)
    refine ⟨some a, cap, (List.range len).map f, by simp, by simpa using hl, ?_⟩
    have hlen : ((List.range len).map f).length = len := by simp
    rw [hlen]
    refine sliceIn_of hlen (by decide) fun i q hq k v hv => ?_
    have hi : i < len := by
      have := (List.getElem?_eq_some_iff.1 hq).1
      simpa using this
    simp [hi] at hq
    subst hq
    obtain ⟨h1, h2, _, _⟩ := hx i (by omega)
    obtain ⟨e0, e1⟩ := hf i hi
    rw [e0] at h1
    rw [e1] at h2
    match k, hv with
    | 0, hv => simp [Enc.enc] at hv; subst hv; exact h1
    | 1, hv => simp [Enc.enc] at hv; subst hv; exact h2
    | k + 2, hv => simp [Enc.enc] at hv


theorem read_place {r : Reach} {b0 : Nat} {v : Value} {d : DataW H} {ps : List MemPlace} (hv : Value.okWide Tryz.prog W r b0 23 v) (h : DataW.Trod enc Tryz.prog W base spare held 23 v d ps) :
    ∃ a b c e : Int, v = .agg #[.int .i64 a, .int .i64 b, .int .i64 c, .int .i64 e] := by
  simp only [Value.okWide, Tryz.underlying23] at hv
  obtain ⟨cs, rfl, hsz, _⟩ := hv
  have hc4 : Tryz.prog.cellsOf 23 = 4 := by kernel_rfl
  rw [hc4] at hsz
  obtain ⟨fuel, h⟩ := h
  obtain ⟨xs, n', _, _, _, hxl, hfs⟩ := DataW.trod_struct Tryz.underlying23 h
  have hxl : xs.length = 4 := hxl
  obtain ⟨l⟩ := cs
  match l, hsz with
  | [v0, v1, v2, v3], _ =>
    have g0 := hfs 0 _ rfl
    have g1 := hfs 1 _ rfl
    have g2 := hfs 2 _ rfl
    have g3 := hfs 3 _ rfl
    rw [List.getElem?_eq_getElem (by omega)] at g0 g1 g2 g3
    obtain ⟨k0, e0, _⟩ := DataW.trod_int (k := .i64) Tryz.underlying3 g0
    obtain ⟨k1, e1, _⟩ := DataW.trod_int (k := .i64) Tryz.underlying3 g1
    obtain ⟨k2, e2, _⟩ := DataW.trod_int (k := .i64) Tryz.underlying3 g2
    obtain ⟨k3, e3, _⟩ := DataW.trod_int (k := .i64) Tryz.underlying3 g3
    have c1 : Tryz.prog.cellsOf 3 = 1 := by kernel_rfl
    have e0 : [v0] = [Value.int .i64 k0] := by rw [← e0]; show _ = List.take (Tryz.prog.cellsOf 3) _; rw [c1]; rfl
    have e1 : [v1] = [Value.int .i64 k1] := by rw [← e1]; show _ = List.take (Tryz.prog.cellsOf 3) _; rw [c1]; rfl
    have e2 : [v2] = [Value.int .i64 k2] := by rw [← e2]; show _ = List.take (Tryz.prog.cellsOf 3) _; rw [c1]; rfl
    have e3 : [v3] = [Value.int .i64 k3] := by rw [← e3]; show _ = List.take (Tryz.prog.cellsOf 3) _; rw [c1]; rfl
    obtain rfl := List.cons.inj e0 |>.1
    obtain rfl := List.cons.inj e1 |>.1
    obtain rfl := List.cons.inj e2 |>.1
    obtain rfl := List.cons.inj e3 |>.1
    exact ⟨k0, k1, k2, k3, rfl⟩


theorem read_acts8 {fuel : Nat} {cs : List Value} {x : DataW H × List MemPlace} (h : DataW.trod enc Tryz.prog W base spare held fuel 25 cs = some x) :
    ∃ (a : Option Addr) (c : Nat) (xs : List ActW), cs = [.slice a xs.length c] ∧ SliceIn (hp W) a xs.length xs ∧ ∀ y ∈ xs, ActWOk (hp W) y := by
  rcases open_slice Tryz.underlying25 h with ⟨rfl, _⟩ | ⟨a, len, cap, m, n, D, Pl, rfl, hb, hl, hm, hmm, _, hx⟩
  · exact ⟨none, 0, [], rfl, SliceIn.empty _ _, fun y hy => by cases hy⟩
  · have hle : len ≤ m := by rw [hmm]; split <;> omega
    have hc5 : Tryz.prog.cellsOf 49 = 5 := by kernel_rfl
    obtain ⟨f, hf⟩ := choose_lt (α := Option ActW) (n := len) (p := fun i q => ∃ y, q = some y ∧ (∀ k v, (Enc.enc y)[k]? = some v → W.cell? (a.add (i * 5 + k)) = some v) ∧ ActWOk (hp W) y) (fun i hi => by
      obtain ⟨cs', h1, h2⟩ := hx i (by omega)
      rw [hc5] at h1
      obtain ⟨_, hlen, hcell⟩ := World.cells?_some h1
      obtain ⟨xs, n', _, _, _, hxl, hfs⟩ := DataW.trod_struct Tryz.underlying49 h2
      have hxl : xs.length = 5 := hxl
      match cs', hlen with
      | [v0, v1, v2, v3, v4], _ =>
        have g0 := hfs 0 _ rfl
        have g1 := hfs 1 _ rfl
        have g2 := hfs 2 _ rfl
        have g3 := hfs 3 _ rfl
        have g4 := hfs 4 _ rfl
        rw [List.getElem?_eq_getElem (by omega)] at g0 g1 g2 g3 g4
        obtain ⟨k0, e0, _⟩ := DataW.trod_int (k := .i64) Tryz.underlying3 g0
        obtain ⟨k1, e1, _⟩ := DataW.trod_int (k := .i64) Tryz.underlying3 g1
        obtain ⟨k2, e2, _, wf2⟩ := DataW.trod_int (k := .u64) Tryz.underlying24 g2
        obtain ⟨s3, e3, _⟩ := DataW.trod_string Tryz.underlying9 g3
        obtain ⟨a4, c4, l4, e4, hl4, hs4⟩ := read_survivors g4
        have hk2 : 0 ≤ k2 ∧ k2 ≤ 18446744073709551615 := by simpa [Lit.wf, IntKind.min, IntKind.max, IntKind.signed, IntKind.bits] using wf2
        obtain ⟨m2, rfl⟩ : ∃ m : Nat, k2 = (m : Int) := ⟨k2.toNat, by omega⟩
        have c1 : Tryz.prog.cellsOf 3 = 1 := by kernel_rfl
        have c2 : Tryz.prog.cellsOf 24 = 1 := by kernel_rfl
        have c3 : Tryz.prog.cellsOf 9 = 1 := by kernel_rfl
        have c5 : Tryz.prog.cellsOf 47 = 1 := by kernel_rfl
        have e0 : [v0] = [Value.int .i64 k0] := by rw [← e0]; show _ = List.take (Tryz.prog.cellsOf 3) _; rw [c1]; rfl
        have e1 : [v1] = [Value.int .i64 k1] := by rw [← e1]; show _ = List.take (Tryz.prog.cellsOf 3) _; rw [c1]; rfl
        have e2 : [v2] = [Value.int .u64 (m2 : Int)] := by rw [← e2]; show _ = List.take (Tryz.prog.cellsOf 24) _; rw [c2]; rfl
        have e3 : [v3] = [Value.string s3] := by rw [← e3]; show _ = List.take (Tryz.prog.cellsOf 9) _; rw [c3]; rfl
        have e4 : [v4] = [Value.slice a4 l4.length c4] := by rw [← e4]; show _ = List.take (Tryz.prog.cellsOf 47) _; rw [c5]; rfl
        obtain rfl := List.cons.inj e0 |>.1
        obtain rfl := List.cons.inj e1 |>.1
        obtain rfl := List.cons.inj e2 |>.1
        obtain rfl := List.cons.inj e3 |>.1
        obtain rfl := List.cons.inj e4 |>.1
        refine ⟨some ⟨k0, k1, m2, s3.data.toList, a4, c4, l4⟩, _, rfl, fun k v hv => ?_, ⟨by show m2 < _; omega, hl4, hs4⟩⟩
        have hk : k < 5 := by
          have := (List.getElem?_eq_some_iff.1 hv).1
          simpa [Enc.enc] using this
        have := hcell k hk
        rw [add_add] at this
        rw [this, ← hv]
        rfl)
    have hsome : ∀ i, i < len → ∃ y, f i = some y ∧ (∀ k v, (Enc.enc y)[k]? = some v → W.cell? (a.add (i * 5 + k)) = some v) ∧ ActWOk (hp W) y := hf
    let d0 : ActW := ⟨0, 0, 0, [], none, 0, []⟩
    refine ⟨some a, cap, (List.range len).map fun i => (f i).getD d0, by simp, ?_, fun y hy => ?_⟩
    · have hlen : ((List.range len).map fun i => (f i).getD d0).length = len := by simp
      rw [hlen]
      refine sliceIn_of hlen (by decide) fun i q hq k v hv => ?_
      have hi : i < len := by
        have := (List.getElem?_eq_some_iff.1 hq).1
        simpa using this
      obtain ⟨y, hy, hc, _⟩ := hsome i hi
      simp [hi, hy] at hq
      subst hq
      exact hc k v hv
    · obtain ⟨i, hi, rfl⟩ := List.mem_map.1 hy
      have hi : i < len := by simpa using hi
      obtain ⟨z, hz, _, ho⟩ := hsome i hi
      rw [hz]
      exact ho

end

theorem bits_of {W : World} {laid : List (String × DataW Unit)} (h : Lib.TabIs Tryz.prog W "lapstone/num.bits" .u64 [0, 8, 16, 24, 32, 40, 48, 56, 64]) : bitsR.p (hp W) := by
  have gTab : Tryz.prog.globalNamed "lapstone/num.bits" = some 0 := by kernel_rfl
  have hc : ∀ i : Nat, i < 9 → W.cell? ⟨0, i, none⟩ = some (.int .u64 ((8 * i : Nat) : Int)) := fun i hi => by
    match i, hi with
    | 0, _ => exact h.cell gTab 0 (by decide)
    | 1, _ => exact h.cell gTab 1 (by decide)
    | 2, _ => exact h.cell gTab 2 (by decide)
    | 3, _ => exact h.cell gTab 3 (by decide)
    | 4, _ => exact h.cell gTab 4 (by decide)
    | 5, _ => exact h.cell gTab 5 (by decide)
    | 6, _ => exact h.cell gTab 6 (by decide)
    | 7, _ => exact h.cell gTab 7 (by decide)
    | 8, _ => exact h.cell gTab 8 (by decide)
  have h0 := hc 0 (by decide)
  unfold World.cell? at h0
  split at h0
  · rename_i cs E fr he
    refine ⟨cs, E, fr, he, fun i hi => ?_⟩
    have := hc i hi
    unfold World.cell? at this
    rw [he] at this
    simpa using this
  · cases h0
theorem slice_val {P : Program} {W : World} {r : Reach} {b0 : Nat} {t e : TypeId} {v : Value} {a : Option Addr} {m c : Nat} (ht : P.underlying t = some (.slice e)) (h : Value.okWide P W r b0 t v) (hc : v.cells.toList = [.slice a m c]) : v = .slice a m c := by
  cases v <;> simp_all [Value.cells, Value.okWide]
  all_goals (simp [Cell.okWide, Cell.ok, ht] at h)

end Go.Proofs.YtlejcepbcfijiaaGreatDoor
