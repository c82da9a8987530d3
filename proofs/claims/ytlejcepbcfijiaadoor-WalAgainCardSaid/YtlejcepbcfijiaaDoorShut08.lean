/-
  LAW 08: what a row's reading of the arguments says in the logic's words. Conditions: none.
-/
import Derived.Test.YtlejcepbcfijiaaDoorLaw08
import Derived.Test.YtlejcepbcfijiaaDoorSlClose
import Derived.Test.YtlejcepbcfijiaaDoorRows
import Derived.Deep.SlicePairs
import Derived.JoinedCond
import Derived.Lib.LaidTab
set_option maxRecDepth 100000
set_option linter.unusedVariables false
set_option linter.unusedSimpArgs false
namespace Go.Proofs.YtlejcepbcfijiaaDoor
open Go Go.SL Go.ChangeShapes Go.WideShapes Go.Deep Go.RowKit
section
variable {H : Type} {enc : TypeId × Value → H} {W : World} {base : Nat} {spare : Nat → Bool} {held : Bool}
instance : Inhabited Str := ⟨⟨[]⟩⟩
theorem read_strings {fuel : Nat} {cs : List Value} {x : DataW H × List MemPlace} (h : DataW.trod enc Tryd.prog W base spare held fuel 35 cs = some x) :
    ∃ (a : Option Addr) (c : Nat) (xs : List Str), cs = [.slice a xs.length c] ∧ SliceIn (hp W) a xs.length xs := by
  rcases open_slice Tryd.underlying35 h with ⟨rfl, _⟩ | ⟨a, len, cap, m, n, D, Pl, rfl, hb, hl, hm, hmm, _, hx⟩
  · exact ⟨none, 0, [], rfl, SliceIn.empty _ _⟩
  · have hle : len ≤ m := by rw [hmm]; split <;> omega
    have hc1 : Tryd.prog.cellsOf 9 = 1 := by kernel_rfl
    obtain ⟨f, hf⟩ := choose_lt (α := Str) (n := len) (p := fun i y => W.cell? (a.add i) = some (vS y.s)) (fun i hi => by
      obtain ⟨cs', h1, h2⟩ := hx i (by omega)
      rw [hc1] at h1
      obtain ⟨_, hlen, hcell⟩ := World.cells?_some h1
      match cs', hlen with
      | [v0], _ =>
        obtain ⟨s2, e2, _⟩ := DataW.trod_string Tryd.underlying9 h2
        obtain rfl := List.cons.inj e2 |>.1
        refine ⟨⟨s2.data.toList⟩, ?_⟩
        have := hcell 0 (by decide)
        rw [add_add] at this
        show W.cell? (a.add i) = some (.string (mkS s2.data.toList))
        rw [mkS_of]
        simpa using this)
    refine ⟨some a, cap, (List.range len).map f, by simp, ?_⟩
    have hlen : ((List.range len).map f).length = len := by simp
    rw [hlen]
    refine sliceIn_of hlen (by decide) fun i q hq k v hv => ?_
    have hi : i < len := by
      have := (List.getElem?_eq_some_iff.1 hq).1
      simpa using this
    simp [hi] at hq
    subst hq
    match k, hv with
    | 0, hv => simp [Enc.enc] at hv; subst hv; have := hf i hi; simpa [Enc.sz] using this
    | k + 1, hv => simp [Enc.enc] at hv


theorem read_place {r : Reach} {b0 : Nat} {v : Value} {d : DataW H} {ps : List MemPlace} (hv : Value.okWide Tryd.prog W r b0 62 v) (h : DataW.Trod enc Tryd.prog W base spare held 62 v d ps) :
    ∃ a b c e : Int, v = .agg #[.int .i64 a, .int .i64 b, .int .i64 c, .int .i64 e] := by
  simp only [Value.okWide, Tryd.underlying62] at hv
  obtain ⟨cs, rfl, hsz, _⟩ := hv
  have hc4 : Tryd.prog.cellsOf 62 = 4 := by kernel_rfl
  rw [hc4] at hsz
  obtain ⟨fuel, h⟩ := h
  obtain ⟨xs, n', _, _, _, hxl, hfs⟩ := DataW.trod_struct Tryd.underlying62 h
  have hxl : xs.length = 4 := hxl
  obtain ⟨l⟩ := cs
  match l, hsz with
  | [v0, v1, v2, v3], _ =>
    have g0 := hfs 0 _ rfl
    have g1 := hfs 1 _ rfl
    have g2 := hfs 2 _ rfl
    have g3 := hfs 3 _ rfl
    rw [List.getElem?_eq_getElem (by omega)] at g0 g1 g2 g3
    obtain ⟨k0, e0, _⟩ := DataW.trod_int (k := .i64) Tryd.underlying3 g0
    obtain ⟨k1, e1, _⟩ := DataW.trod_int (k := .i64) Tryd.underlying3 g1
    obtain ⟨k2, e2, _⟩ := DataW.trod_int (k := .i64) Tryd.underlying3 g2
    obtain ⟨k3, e3, _⟩ := DataW.trod_int (k := .i64) Tryd.underlying3 g3
    have c1 : Tryd.prog.cellsOf 3 = 1 := by kernel_rfl
    have e0 : [v0] = [Value.int .i64 k0] := by rw [← e0]; show _ = List.take (Tryd.prog.cellsOf 3) _; rw [c1]; rfl
    have e1 : [v1] = [Value.int .i64 k1] := by rw [← e1]; show _ = List.take (Tryd.prog.cellsOf 3) _; rw [c1]; rfl
    have e2 : [v2] = [Value.int .i64 k2] := by rw [← e2]; show _ = List.take (Tryd.prog.cellsOf 3) _; rw [c1]; rfl
    have e3 : [v3] = [Value.int .i64 k3] := by rw [← e3]; show _ = List.take (Tryd.prog.cellsOf 3) _; rw [c1]; rfl
    obtain rfl := List.cons.inj e0 |>.1
    obtain rfl := List.cons.inj e1 |>.1
    obtain rfl := List.cons.inj e2 |>.1
    obtain rfl := List.cons.inj e3 |>.1
    exact ⟨k0, k1, k2, k3, rfl⟩

end

theorem bits_of {W : World} {laid : List (String × DataW Unit)} (h : Lib.TabIs Tryd.prog W "lapstone/num.bits" .u64 [0, 8, 16, 24, 32, 40, 48, 56, 64]) : bitsR.p (hp W) := by
  have gTab : Tryd.prog.globalNamed "lapstone/num.bits" = some 0 := by kernel_rfl
  have hc : ∀ i : Nat, i < 9 → W.cell? ⟨0, i, none⟩ = some (.int .u64 ((8 * i : Nat) : Int)) := fun i hi => by
    match i, hi with
    | 0, _ => exact h.cell gTab 0 (by decide)
    | 1, _ => exact h.cell gTab 1 (by decide)
    | 2, _ => exact h.cell gTab 2 (by decide)
    | 3, _ => exact h.cell gTab 3 (by decide)
    | 4, _ => exact h.cell gTab 4 (by decide)
    | 5, _ => exact h.cell gTab 5 (by decide)
    | 6, _ => exact h.cell gTab 6 (by decide)
    | 7, _ => exact h.cell gTab 7 (by decide)
    | 8, _ => exact h.cell gTab 8 (by decide)
  have h0 := hc 0 (by decide)
  unfold World.cell? at h0
  split at h0
  · rename_i cs E fr he
    refine ⟨cs, E, fr, he, fun i hi => ?_⟩
    have := hc i hi
    unfold World.cell? at this
    rw [he] at this
    simpa using this
  · cases h0
theorem slice_val {P : Program} {W : World} {r : Reach} {b0 : Nat} {t e : TypeId} {v : Value} {a : Option Addr} {m c : Nat} (ht : P.underlying t = some (.slice e)) (h : Value.okWide P W r b0 t v) (hc : v.cells.toList = [.slice a m c]) : v = .slice a m c := by
  cases v <;> simp_all [Value.cells, Value.okWide]
  all_goals (simp [Cell.okWide, Cell.ok, ht] at h)

end Go.Proofs.YtlejcepbcfijiaaDoor
