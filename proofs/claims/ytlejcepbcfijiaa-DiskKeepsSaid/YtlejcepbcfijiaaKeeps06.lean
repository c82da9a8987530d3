/-
  LAW 06: DiskKeeps: the row. Conditions: none.
-/
import Derived.Test.YtlejcepbcfijiaaShut06
import Derived.Test.YtlejcepbcfijiaaLaw06W
namespace Go.Proofs.Ytlejcepbcfijiaa.keeps06
open Go Go.SL Go.ChangeShapes Go.WideShapes Go.ChangeAt Go.RowKit
set_option linter.unusedVariables false
set_option maxRecDepth 100000
theorem own : ownKnob Try.prog.godebug = none := by kernel_rfl
theorem laidOut : laidOutB Try.prog = true := by kernel_rfl
theorem rd : ∀ t ∈ [3, 23, 24], Try.prog.readableRec t = true ∧ t < Try.prog.types.size := by
  intro t ht
  simp only [List.mem_cons, List.not_mem_nil, or_false] at ht
  rcases ht with rfl | rfl | rfl
  · exact ⟨by kernel_rfl, of_decide_eq_true (by kernel_rfl)⟩
  · exact ⟨by kernel_rfl, of_decide_eq_true (by kernel_rfl)⟩
  · exact ⟨by kernel_rfl, of_decide_eq_true (by kernel_rfl)⟩
theorem slice_val {P : Program} {W : World} {r : Reach} {b0 : Nat} {t e : TypeId} {v : Value} {a : Option Addr} {m c : Nat} (ht : P.underlying t = some (.slice e)) (h : Value.okWide P W r b0 t v) (hc : v.cells.toList = [.slice a m c]) : v = .slice a m c := by
  cases v <;> simp_all [Value.cells, Value.okWide]
  all_goals (simp [Cell.okWide, Cell.ok, ht] at h)
theorem array_val {P : Program} {W : World} {r : Reach} {b0 n : Nat} {t e : TypeId} {v : Value} (ht : P.underlying t = some (.array n e)) (h : Value.okWide P W r b0 t v) : ∃ cs, v = .agg cs := by
  unfold Value.okWide at h
  rw [ht] at h
  obtain ⟨cs, rfl, _⟩ := h
  exact ⟨cs, rfl⟩
theorem contract (H : Type) (enc : TypeId × Value → H) (W : World) (base : Nat) (args : Array Value) (ds gs : List (DataW H)) (before : List MemPlace)
    (hval : ∀ (j : Nat) t v, Try.f3.params[j]? = some t → args[j]? = some v → Value.okWide Try.prog W .any base t v)
    (hW : DataW.Whole enc Try.prog Try.f3.params.toList Rows.diskKeepsSpec.vars false W args.toList ds gs before) :
    Calls Try.prog 3 args W fun e W' => ∃ v, e = .returned v ∧ Rows.diskKeepsSpec.post enc Try.prog Try.f3 false true false false W args v W' := by
  have hW' := hW
  have hlt := hW.lt
  obtain ⟨p, q, hA0, hV, rfl, hfz, hnd⟩ := hW
  have hA : DataW.TrodAll enc Try.prog W 0 (fun _ => true) true Try.f3.params.toList args.toList ds p := hA0
  rw [Try.params3] at hA hval
  have hA' := hA
  obtain ⟨v0, v1, v2, d0, d1, d2, p0, p1, p2, rfl, rfl, rfl, h0, h1, h2⟩ := trodAll_three hA
  obtain ⟨rfl, rfl⟩ := trodVars_none hV
  obtain ⟨n, rfl, rfl, rfl, wn⟩ := open_int Try.underlying3 (hval 0 3 v0 rfl rfl) h0
  obtain ⟨fuel, h1⟩ := h1
  obtain ⟨ys, m, _, _, hl1, hly, hel⟩ := DataW.trod_array Try.underlying23 h1
  have c22 : Try.prog.cellsOf 22 = 1 := by kernel_rfl
  obtain ⟨cs, rfl⟩ := array_val Try.underlying23 (hval 1 23 v1 rfl rfl)
  have hl1 : cs.toList.length = 2 := hl1
  obtain ⟨w0, w1, rfl⟩ : ∃ w0 w1, cs = #[w0, w1] := by
    obtain ⟨l⟩ := cs
    match l, hl1 with
    | [w0, w1], _ => exact ⟨w0, w1, rfl⟩
  have e0 := hel 0 (by omega)
  have e1 := hel 1 (by omega)
  rw [c22, List.getElem?_eq_getElem (by omega)] at e0 e1
  simp only [Value.cells, Nat.zero_mul, Nat.one_mul, List.drop_zero, List.drop_succ_cons, List.take_succ_cons, List.take_zero] at e0 e1
  obtain ⟨a1, c1, xs1, ms1, hcs1, hxs1, hms1⟩ := read_acts e0
  obtain ⟨a2, c2, xs2, ms2, hcs2, hxs2, hms2⟩ := read_acts e1
  obtain rfl := (List.cons.inj hcs1).1
  obtain rfl := (List.cons.inj hcs2).1
  obtain ⟨fuel2, h2⟩ := h2
  obtain ⟨a3, c3, cl, hcs3, _, hcl⟩ := read_survivors h2
  obtain rfl := slice_val Try.underlying24 (hval 2 24 v2 rfl rfl) hcs3
  simp only [List.append_nil] at hW' hlt
  have hctr := law_DiskKeeps n a1 a2 a3 c1 c2 c3 xs1 xs2 ms1 ms2 cl
  let φ : RoP := RoP.and (RoP.and (roS a1 xs1.length xs1) (actsR xs1 ms1)) (RoP.and (RoP.and (roS a2 xs2.length xs2) (actsR xs2 ms2)) (roS a3 cl.length cl))
  refine (Ctr.run (φ := φ) ⟨hctr.enter, fun κ F w hw => hctr.calls κ F w (hw.ent
    (Ent.roWeak (φ := φ) .here (fun r h => h.1.1) (Ent.roWeak (φ := φ) .here (fun r h => h.1.2) (Ent.roWeak (φ := φ) .here (fun r h => h.2.1.1) (Ent.roWeak (φ := φ) .here (fun r h => h.2.1.2) (Ent.roWeak (φ := φ) .here (fun r h => h.2.2) (Ent.drop (Ent.refl _))))))))⟩
    ⟨⟨hxs1, hms1⟩, ⟨⟨hxs2, hms2⟩, hcl⟩⟩).mono fun e W' ⟨he, hk⟩ => ?_
  subst he
  exact ⟨_, rfl, post_kept (pa := _) (pv := []) hW' (fun _ _ _ => (trodAll_cons_mk (shut_bool Try.underlying4 _) trodAll_mk0)) (fun sp hs => args_again laidOut hk rd hA' hlt sp hs) (fun _ _ => rfl) (by simp) hk (ok_one (by kernel_rfl) rfl (okWide_bool_mk Try.underlying4 _))⟩

theorem lifted (os : Os) (started : os.Started) (H : Type) (enc : TypeId × Value → H) :
    ReturnsInHanded {} Try.checked os 3 .any (Rows.diskKeepsSpec.pre6 enc Try.prog Try.f3 Rows.diskKeepsRow.domain false) (Rows.diskKeepsSpec.post enc Try.prog Try.f3 false true false false) := by
  refine returnsInHanded_of_change (C := Try.checked) own started (by kernel_rfl) Try.func3
    (ChangeSpec.witness6 (enc := enc) (C := Try.checked) false ⟨#[], #[.int .i64 0, .agg #[.slice none 0 0, .slice none 0 0], .slice none 0 0], []⟩ 8 (by kernel_rfl) (by kernel_rfl) (by kernel_rfl) (by kernel_rfl)) ?_
  intro W base args ds gs before hval hW _ _
  exact contract H enc W base args ds gs before hval hW
theorem proved : Rows.DiskKeepsSaid :=
  OpenClaim.holds_of_wide 3 Try.f3 rfl rfl rfl rfl rfl rfl rfl ⟨rfl, rfl, rfl, rfl, rfl⟩ rfl rfl rfl rfl rfl (by kernel_rfl) Try.func3 (by kernel_rfl)
    (of_decide_eq_true (by kernel_rfl)) (by unfold Func.isWrapper; first | (rw [if_pos (by decide +kernel)]; kernel_rfl) | (rw [if_neg (by decide +kernel)]; exact ⟨rfl, rfl⟩))
    (fun os started H enc _ => lifted os started H enc)
end Go.Proofs.Ytlejcepbcfijiaa.keeps06
