/-
  LAW 06 (disk): the walks of its functions. Conditions: as each contract says.
-/
import Derived.Test.YtlejcepbcfijiaaDisk
import Derived.Test.YtlejcepbcfijiaaLaw06M
set_option maxRecDepth 100000
set_option linter.unusedVariables false
set_option linter.unusedSimpArgs false
namespace Go.Proofs.Ytlejcepbcfijiaa
open Go Go.SL


/-- an act in memory -/
structure ActV where
  kind : Int
  place : Int
  b : List UInt8
  la : Option Addr
  lm : Nat
  lc : Nat
instance : Enc ActV := ⟨4, fun x => [.int .i64 x.kind, .int .i64 x.place, vS x.b, .slice x.la x.lm x.lc], fun _ => rfl, fun x v h => by simp at h; rcases h with rfl | rfl | rfl | rfl <;> rfl, by decide⟩
abbrev ActV.val (x : ActV) : Value := .agg #[.int .i64 x.kind, .int .i64 x.place, vS x.b, .slice x.la x.lm x.lc]
structure ActOk (r : Part) (x : ActV) (m : Dk.MAct) : Prop where mk ::
  kind : m.kind = x.kind
  place : m.place = x.place
  b : m.b = x.b
  lm : x.lm = m.l.length
  lc : x.lm ≤ x.lc
  l : SliceIn r x.la m.l.length m.l
def actR (x : ActV) (m : Dk.MAct) : RoP := ⟨fun r => ActOk r x m, fun h k => ⟨h.kind, h.place, h.b, h.lm, h.lc, h.l.mono k⟩⟩
structure ActsOk (r : Part) (xs : List ActV) (ms : List Dk.MAct) : Prop where mk ::
  len : xs.length = ms.length
  at_ : ∀ (i : Nat) (x : ActV) (m : Dk.MAct), xs[i]? = some x → ms[i]? = some m → ActOk r x m
def actsR (xs : List ActV) (ms : List Dk.MAct) : RoP := ⟨fun r => ActsOk r xs ms, fun h k => ⟨h.len, fun i x m h1 h2 => let a := h.at_ i x m h1 h2; ⟨a.kind, a.place, a.b, a.lm, a.lc, a.l.mono k⟩⟩⟩
section
variable {P : Program} {κ : World} {n : Nat} {L M R R' : List Assn} {ρ : Env} {ops : Array Oper} {l : List Oper} {Q : Exit → Act → World → Prop}
theorem ht_act {c : Code} {x : ActV} {m : Dk.MAct} (k : Pick (ro (actR x m)) L R) (h : m.kind = x.kind → m.place = x.place → m.b = x.b → x.lm = m.l.length → x.lm ≤ x.lc → HT P κ n (ro (roS x.la m.l.length m.l) :: L) ρ c Q) : HT P κ n L ρ c Q := fun a w ha hw => by
  obtain ⟨p, r, h1, h2, h3, h4⟩ := hw.sep
  obtain ⟨p1, p2, k1, k2, k3, hA, hL⟩ := k.sep h4
  have hA : ActOk r x m := hA
  exact h hA.kind hA.place hA.b hA.lm hA.lc a w ha ⟨hw.os, hw.tape, hw.output, p, r, h1, h2, h3, Sep.addRo (φ := roS x.la m.l.length m.l) hA.l h4⟩
theorem ht_actAt {c : Code} {xs : List ActV} {ms : List Dk.MAct} {i : Nat} (hi : i < xs.length) (k : Pick (ro (actsR xs ms)) L R) (h : ∀ x m, xs[i]? = some x → ms[i]? = some m → HT P κ n (ro (actR x m) :: L) ρ c Q) : HT P κ n L ρ c Q := fun a w ha hw => by
  obtain ⟨p, r, h1, h2, h3, h4⟩ := hw.sep
  obtain ⟨p1, p2, k1, k2, k3, hA, hL⟩ := k.sep h4
  have hA : ActsOk r xs ms := hA
  have hi2 : i < ms.length := by rw [← hA.len]; exact hi
  have e1 := List.getElem?_eq_getElem hi
  have e2 := List.getElem?_eq_getElem hi2
  exact h _ _ e1 e2 a w ha ⟨hw.os, hw.tape, hw.output, p, r, h1, h2, h3, Sep.addRo (φ := actR _ _) (hA.at_ i _ _ e1 e2) h4⟩
theorem ht_actsLen {c : Code} {xs : List ActV} {ms : List Dk.MAct} (k : Pick (ro (actsR xs ms)) L R) (h : xs.length = ms.length → HT P κ n L ρ c Q) : HT P κ n L ρ c Q := fun a w ha hw => by
  have : ActsOk _ xs ms := hw.ro k
  exact h this.len a w ha hw
end

theorem law_few (x : ActV) (m : Dk.MAct) : Ctr Try.prog 8 #[x.val] [ro (actR x m)] (fun y : ActV => y.val) (fun y => [ro (actR y m.few)]) := by
 refine fn_intro Try.func8 rfl rfl Try.ntmps8 (Nat.le_of_ble_eq_true rfl) (fun _ => by repeat (first | exact App.nil | apply App.cons)) (fun κ F => ?_)
 refine ht_act (by (with_reducible repeat constructor); done) (fun hk hp hb hlm hlc => ?_)
 obtain ⟨xk, xp, xb, xla, xlm, xlc⟩ := x
 obtain ⟨mk, mp, mb, ml⟩ := m
 dsimp only [ActV.val, envOf] at hk hp hb hlm hlc ⊢
 subst hk hp hb hlm
 refine ht_seq ?_
 refine ht_region ?_
 refine ho_eff rfl rfl rfl (eff_boxA rfl rfl) (fun b1 => ?_)
 refine ho_eff rfl rfl rfl (eff_alloc rfl Try.ty32 (by first | exact cells_agg _ | exact rfl)) (fun b2 => ?_)
 refine ho_nil ?_
 refine hx_then ?_
 refine ht_seq ?_
 refine ht_seq ?_
 refine ht_region ?_
 refine ho_ev rfl rfl rfl (by first | exact ev_fieldAddr0 rfl Try.fld32_2 rfl | exact ev_fieldAddr rfl Try.fld32_2 rfl) ?_
 refine ho_ev rfl rfl rfl (ev_load rfl Try.underlying9 rfl rfl (by first | exact cell_pt (by (with_reducible repeat constructor); done) rfl | exact cell_ro (by (with_reducible repeat constructor); done) rfl)) ?_
 refine ho_ev rfl rfl rfl (ev_lenS rfl Try.underlying9 rfl) ?_
 refine ho_gt rfl rfl rfl rfl rfl rfl (fun g1 => ?_) (fun g1 => ?_)
 ·first | (exfalso; first | omega | (simp at g1; done) | contradiction) | skip
  all_goals (
   refine ho_nil ?_
   refine hx_then ?_
   refine ht_then rfl ?_
   refine ht_region ?_
   refine ho_ev rfl rfl rfl (by first | exact ev_fieldAddr0 rfl Try.fld32_2 rfl | exact ev_fieldAddr rfl Try.fld32_2 rfl) ?_
   refine ho_ev rfl rfl rfl (ev_load rfl Try.underlying9 rfl rfl (by first | exact cell_pt (by (with_reducible repeat constructor); done) rfl | exact cell_ro (by (with_reducible repeat constructor); done) rfl)) ?_
   refine ho_ev rfl rfl rfl (ev_sliceS (j := 600) rfl Try.underlying9 rfl rfl ⟨_, rfl⟩ (by omega) (by omega)) ?_
   refine ho_ev rfl rfl rfl (by first | exact ev_fieldAddr0 rfl Try.fld32_2 rfl | exact ev_fieldAddr rfl Try.fld32_2 rfl) ?_
   refine ho_eff0 rfl rfl (eff_store1 rfl Try.ty9 rfl rfl (by (with_reducible repeat constructor); done) rfl rfl (lt_of_blt rfl) (by simp only [List.setIfInBounds_toArray, List.set_cons_zero, List.set_cons_succ]; rfl)) (fun _ => ?_)
   refine ho_nil ?_
   refine hx_then ?_
   refine ht_seq ?_
   refine ht_seq ?_
   refine ht_region ?_
   refine ho_ev rfl rfl rfl (by first | exact ev_fieldAddr0 rfl Try.fld32_3 rfl | exact ev_fieldAddr rfl Try.fld32_3 rfl) ?_
   refine ho_ev rfl rfl rfl (ev_load rfl Try.underlying24 rfl rfl (by first | exact cell_pt (by (with_reducible repeat constructor); done) rfl | exact cell_ro (by (with_reducible repeat constructor); done) rfl)) ?_
   refine ho_ev rfl rfl rfl (ev_lenSl rfl Try.underlying24 rfl) ?_
   refine ho_gt rfl rfl rfl rfl rfl rfl (fun g2 => ?_) (fun g2 => ?_)
   ·first | (exfalso; first | omega | (simp at g2; done) | contradiction) | skip
    all_goals (
     refine ho_nil ?_
     refine hx_then ?_
     refine ht_then rfl ?_
     refine ht_region ?_
     refine ho_ev rfl rfl rfl (by first | exact ev_fieldAddr0 rfl Try.fld32_3 rfl | exact ev_fieldAddr rfl Try.fld32_3 rfl) ?_
     refine ho_ev rfl rfl rfl (ev_load rfl Try.underlying24 rfl rfl (by first | exact cell_pt (by (with_reducible repeat constructor); done) rfl | exact cell_ro (by (with_reducible repeat constructor); done) rfl)) ?_
     refine ho_eff rfl rfl rfl (eff_slice (α := (Int × Int)) (j := 60) rfl Try.underlying24 Try.ty44 rfl (by (with_reducible repeat constructor); done) rfl ⟨_, rfl⟩ rfl (by decide) (by omega) (by omega) (by omega) (by omega)) (fun a17 => ?_)
     refine ho_ev rfl rfl rfl (by first | exact ev_fieldAddr0 rfl Try.fld32_3 rfl | exact ev_fieldAddr rfl Try.fld32_3 rfl) ?_
     refine ho_eff0 rfl rfl (eff_store1 rfl Try.ty24 rfl rfl (by (with_reducible repeat constructor); done) rfl rfl (lt_of_blt rfl) (by simp only [List.setIfInBounds_toArray, List.set_cons_zero, List.set_cons_succ]; rfl)) (fun _ => ?_)
     refine ho_nil ?_
     refine hx_then ?_
     refine ht_seq ?_
     refine ht_region ?_
     refine ho_ev rfl rfl rfl (ev_loadA rfl Try.underlying32 Try.ty32 rfl rfl (by first | exact cells_pt (by (with_reducible repeat constructor); done) (Nat.le_of_ble_eq_true rfl) (by simp only [List.extract_toArray, List.extract_eq_take_drop, Nat.zero_add, Nat.sub_zero, Nat.add_sub_cancel_left, List.drop_zero, List.take_succ_cons, List.take_zero, List.drop_succ_cons]; rfl) | exact cells_ro (by (with_reducible repeat constructor); done) (Nat.le_of_ble_eq_true rfl) (by simp only [List.extract_toArray, List.extract_eq_take_drop, Nat.zero_add, Nat.sub_zero, Nat.add_sub_cancel_left, List.drop_zero, List.take_succ_cons, List.take_zero, List.drop_succ_cons]; rfl))) ?_
     refine ho_eff0 rfl rfl (eff_storeA rfl Try.ty32 rfl rfl (by (with_reducible repeat constructor); done) rfl rfl rfl (by simp only [setRange, List.setIfInBounds_toArray, List.set_cons_zero, List.set_cons_succ, Nat.zero_add]; rfl)) (fun _ => ?_)
     refine ho_nil ?_
     refine hx_then ?_
     refine ht_ret ?_
     refine hx_ret1A (.inl rfl) rfl rfl Try.underlying32 Try.ty32 rfl (cells_pt (by (with_reducible repeat constructor); done) (Nat.le_of_ble_eq_true rfl) rfl) (⟨mk, mp, _, _, _, _⟩ : ActV) rfl ?_
     first
      | refine Ent.roWeak (φ := roS (α := Int × Int) _ ((ml.take 60).drop 0).length ((ml.take 60).drop 0)) (by (with_reducible repeat constructor); done) (fun r h => ⟨rfl, rfl, ?_, ?_, ?_, ?_⟩) (Ent.cons (by (repeat constructor); done) Ent.nil)
      | refine Ent.roWeak (φ := roS (α := Int × Int) _ ml.length ml) (by (with_reducible repeat constructor); done) (fun r h => ⟨rfl, rfl, ?_, ?_, ?_, ?_⟩) (Ent.cons (by (repeat constructor); done) Ent.nil)
     ·simp only [Dk.MAct.few] <;> first | rfl | (rw [List.take_of_length_le (by omega)])
     ·simp only [Dk.MAct.few] <;> first | rfl | (rw [List.take_of_length_le (by omega)])
     ·first | (simp; omega) | omega
     ·simp only [Dk.MAct.few] <;> first | exact h | (rw [List.take_of_length_le (by omega)]; exact h)
    )
   ·first | (exfalso; first | omega | (simp at g2; done) | contradiction) | skip
    all_goals (
     refine ho_nil ?_
     refine hx_then ?_
     refine ht_else rfl ?_
     refine ht_skip ?_
     refine hx_then ?_
     refine ht_seq ?_
     refine ht_region ?_
     refine ho_ev rfl rfl rfl (ev_loadA rfl Try.underlying32 Try.ty32 rfl rfl (by first | exact cells_pt (by (with_reducible repeat constructor); done) (Nat.le_of_ble_eq_true rfl) (by simp only [List.extract_toArray, List.extract_eq_take_drop, Nat.zero_add, Nat.sub_zero, Nat.add_sub_cancel_left, List.drop_zero, List.take_succ_cons, List.take_zero, List.drop_succ_cons]; rfl) | exact cells_ro (by (with_reducible repeat constructor); done) (Nat.le_of_ble_eq_true rfl) (by simp only [List.extract_toArray, List.extract_eq_take_drop, Nat.zero_add, Nat.sub_zero, Nat.add_sub_cancel_left, List.drop_zero, List.take_succ_cons, List.take_zero, List.drop_succ_cons]; rfl))) ?_
     refine ho_eff0 rfl rfl (eff_storeA rfl Try.ty32 rfl rfl (by (with_reducible repeat constructor); done) rfl rfl rfl (by simp only [setRange, List.setIfInBounds_toArray, List.set_cons_zero, List.set_cons_succ, Nat.zero_add]; rfl)) (fun _ => ?_)
     refine ho_nil ?_
     refine hx_then ?_
     refine ht_ret ?_
     refine hx_ret1A (.inl rfl) rfl rfl Try.underlying32 Try.ty32 rfl (cells_pt (by (with_reducible repeat constructor); done) (Nat.le_of_ble_eq_true rfl) rfl) (⟨mk, mp, _, _, _, _⟩ : ActV) rfl ?_
     first
      | refine Ent.roWeak (φ := roS (α := Int × Int) _ ((ml.take 60).drop 0).length ((ml.take 60).drop 0)) (by (with_reducible repeat constructor); done) (fun r h => ⟨rfl, rfl, ?_, ?_, ?_, ?_⟩) (Ent.cons (by (repeat constructor); done) Ent.nil)
      | refine Ent.roWeak (φ := roS (α := Int × Int) _ ml.length ml) (by (with_reducible repeat constructor); done) (fun r h => ⟨rfl, rfl, ?_, ?_, ?_, ?_⟩) (Ent.cons (by (repeat constructor); done) Ent.nil)
     ·simp only [Dk.MAct.few] <;> first | rfl | (rw [List.take_of_length_le (by omega)])
     ·simp only [Dk.MAct.few] <;> first | rfl | (rw [List.take_of_length_le (by omega)])
     ·first | (simp; omega) | omega
     ·simp only [Dk.MAct.few] <;> first | exact h | (rw [List.take_of_length_le (by omega)]; exact h)
    )
  )
 ·first | (exfalso; first | omega | (simp at g1; done) | contradiction) | skip
  all_goals (
   refine ho_nil ?_
   refine hx_then ?_
   refine ht_else rfl ?_
   refine ht_skip ?_
   refine hx_then ?_
   refine ht_seq ?_
   refine ht_seq ?_
   refine ht_region ?_
   refine ho_ev rfl rfl rfl (by first | exact ev_fieldAddr0 rfl Try.fld32_3 rfl | exact ev_fieldAddr rfl Try.fld32_3 rfl) ?_
   refine ho_ev rfl rfl rfl (ev_load rfl Try.underlying24 rfl rfl (by first | exact cell_pt (by (with_reducible repeat constructor); done) rfl | exact cell_ro (by (with_reducible repeat constructor); done) rfl)) ?_
   refine ho_ev rfl rfl rfl (ev_lenSl rfl Try.underlying24 rfl) ?_
   refine ho_gt rfl rfl rfl rfl rfl rfl (fun g3 => ?_) (fun g3 => ?_)
   ·first | (exfalso; first | omega | (simp at g3; done) | contradiction) | skip
    all_goals (
     refine ho_nil ?_
     refine hx_then ?_
     refine ht_then rfl ?_
     refine ht_region ?_
     refine ho_ev rfl rfl rfl (by first | exact ev_fieldAddr0 rfl Try.fld32_3 rfl | exact ev_fieldAddr rfl Try.fld32_3 rfl) ?_
     refine ho_ev rfl rfl rfl (ev_load rfl Try.underlying24 rfl rfl (by first | exact cell_pt (by (with_reducible repeat constructor); done) rfl | exact cell_ro (by (with_reducible repeat constructor); done) rfl)) ?_
     refine ho_eff rfl rfl rfl (eff_slice (α := (Int × Int)) (j := 60) rfl Try.underlying24 Try.ty44 rfl (by (with_reducible repeat constructor); done) rfl ⟨_, rfl⟩ rfl (by decide) (by omega) (by omega) (by omega) (by omega)) (fun a17 => ?_)
     refine ho_ev rfl rfl rfl (by first | exact ev_fieldAddr0 rfl Try.fld32_3 rfl | exact ev_fieldAddr rfl Try.fld32_3 rfl) ?_
     refine ho_eff0 rfl rfl (eff_store1 rfl Try.ty24 rfl rfl (by (with_reducible repeat constructor); done) rfl rfl (lt_of_blt rfl) (by simp only [List.setIfInBounds_toArray, List.set_cons_zero, List.set_cons_succ]; rfl)) (fun _ => ?_)
     refine ho_nil ?_
     refine hx_then ?_
     refine ht_seq ?_
     refine ht_region ?_
     refine ho_ev rfl rfl rfl (ev_loadA rfl Try.underlying32 Try.ty32 rfl rfl (by first | exact cells_pt (by (with_reducible repeat constructor); done) (Nat.le_of_ble_eq_true rfl) (by simp only [List.extract_toArray, List.extract_eq_take_drop, Nat.zero_add, Nat.sub_zero, Nat.add_sub_cancel_left, List.drop_zero, List.take_succ_cons, List.take_zero, List.drop_succ_cons]; rfl) | exact cells_ro (by (with_reducible repeat constructor); done) (Nat.le_of_ble_eq_true rfl) (by simp only [List.extract_toArray, List.extract_eq_take_drop, Nat.zero_add, Nat.sub_zero, Nat.add_sub_cancel_left, List.drop_zero, List.take_succ_cons, List.take_zero, List.drop_succ_cons]; rfl))) ?_
     refine ho_eff0 rfl rfl (eff_storeA rfl Try.ty32 rfl rfl (by (with_reducible repeat constructor); done) rfl rfl rfl (by simp only [setRange, List.setIfInBounds_toArray, List.set_cons_zero, List.set_cons_succ, Nat.zero_add]; rfl)) (fun _ => ?_)
     refine ho_nil ?_
     refine hx_then ?_
     refine ht_ret ?_
     refine hx_ret1A (.inl rfl) rfl rfl Try.underlying32 Try.ty32 rfl (cells_pt (by (with_reducible repeat constructor); done) (Nat.le_of_ble_eq_true rfl) rfl) (⟨mk, mp, _, _, _, _⟩ : ActV) rfl ?_
     first
      | refine Ent.roWeak (φ := roS (α := Int × Int) _ ((ml.take 60).drop 0).length ((ml.take 60).drop 0)) (by (with_reducible repeat constructor); done) (fun r h => ⟨rfl, rfl, ?_, ?_, ?_, ?_⟩) (Ent.cons (by (repeat constructor); done) Ent.nil)
      | refine Ent.roWeak (φ := roS (α := Int × Int) _ ml.length ml) (by (with_reducible repeat constructor); done) (fun r h => ⟨rfl, rfl, ?_, ?_, ?_, ?_⟩) (Ent.cons (by (repeat constructor); done) Ent.nil)
     ·simp only [Dk.MAct.few] <;> first | rfl | (rw [List.take_of_length_le (by omega)])
     ·simp only [Dk.MAct.few] <;> first | rfl | (rw [List.take_of_length_le (by omega)])
     ·first | (simp; omega) | omega
     ·simp only [Dk.MAct.few] <;> first | exact h | (rw [List.take_of_length_le (by omega)]; exact h)
    )
   ·first | (exfalso; first | omega | (simp at g3; done) | contradiction) | skip
    all_goals (
     refine ho_nil ?_
     refine hx_then ?_
     refine ht_else rfl ?_
     refine ht_skip ?_
     refine hx_then ?_
     refine ht_seq ?_
     refine ht_region ?_
     refine ho_ev rfl rfl rfl (ev_loadA rfl Try.underlying32 Try.ty32 rfl rfl (by first | exact cells_pt (by (with_reducible repeat constructor); done) (Nat.le_of_ble_eq_true rfl) (by simp only [List.extract_toArray, List.extract_eq_take_drop, Nat.zero_add, Nat.sub_zero, Nat.add_sub_cancel_left, List.drop_zero, List.take_succ_cons, List.take_zero, List.drop_succ_cons]; rfl) | exact cells_ro (by (with_reducible repeat constructor); done) (Nat.le_of_ble_eq_true rfl) (by simp only [List.extract_toArray, List.extract_eq_take_drop, Nat.zero_add, Nat.sub_zero, Nat.add_sub_cancel_left, List.drop_zero, List.take_succ_cons, List.take_zero, List.drop_succ_cons]; rfl))) ?_
     refine ho_eff0 rfl rfl (eff_storeA rfl Try.ty32 rfl rfl (by (with_reducible repeat constructor); done) rfl rfl rfl (by simp only [setRange, List.setIfInBounds_toArray, List.set_cons_zero, List.set_cons_succ, Nat.zero_add]; rfl)) (fun _ => ?_)
     refine ho_nil ?_
     refine hx_then ?_
     refine ht_ret ?_
     refine hx_ret1A (.inl rfl) rfl rfl Try.underlying32 Try.ty32 rfl (cells_pt (by (with_reducible repeat constructor); done) (Nat.le_of_ble_eq_true rfl) rfl) (⟨mk, mp, _, _, _, _⟩ : ActV) rfl ?_
     first
      | refine Ent.roWeak (φ := roS (α := Int × Int) _ ((ml.take 60).drop 0).length ((ml.take 60).drop 0)) (by (with_reducible repeat constructor); done) (fun r h => ⟨rfl, rfl, ?_, ?_, ?_, ?_⟩) (Ent.cons (by (repeat constructor); done) Ent.nil)
      | refine Ent.roWeak (φ := roS (α := Int × Int) _ ml.length ml) (by (with_reducible repeat constructor); done) (fun r h => ⟨rfl, rfl, ?_, ?_, ?_, ?_⟩) (Ent.cons (by (repeat constructor); done) Ent.nil)
     ·simp only [Dk.MAct.few] <;> first | rfl | (rw [List.take_of_length_le (by omega)])
     ·simp only [Dk.MAct.few] <;> first | rfl | (rw [List.take_of_length_le (by omega)])
     ·first | (simp; omega) | omega
     ·simp only [Dk.MAct.few] <;> first | exact h | (rw [List.take_of_length_le (by omega)]; exact h)
    )
  )
theorem law_do (p : Nat) (d : Dk.Disk) (x : ActV) (m : Dk.MAct) (hs : m.Short) (hpl : d.pend.length < 4294967296) : Ctr Try.prog 7 #[.pointer (some ⟨p, 0, none⟩), x.val] [DiskAt p d, ro (actR x m)] (fun _ : Unit => .int .i64 (d.aerr m)) (fun _ => [DiskAt p (d.act m)]) := by
 refine fn_intro Try.func7 rfl rfl Try.ntmps7 (Nat.le_of_ble_eq_true rfl) (fun _ => by repeat (first | exact App.nil | apply App.cons)) (fun κ F => ?_)
 refine ht_act (by (with_reducible repeat constructor); done) (fun hk hp hb hlm hlc => ?_)
 obtain ⟨xk, xp, xb, xla, xlm, xlc⟩ := x
 obtain ⟨mk, mp, mb, ml⟩ := m
 dsimp only [ActV.val, envOf] at hk hp hb hlm hlc ⊢
 subst hk hp hb hlm
 have hsb := hs.b
 have hsl := hs.l
 dsimp only at hsb hsl
 refine ht_seq ?_
 refine ht_region ?_
 refine ho_eff rfl rfl rfl (eff_boxA rfl rfl) (fun b3 => ?_)
 refine ho_ev rfl rfl rfl (ev_assign rfl rfl) ?_
 refine ho_nil ?_
 refine hx_then ?_
 refine ht_seq ?_
 refine ht_seq ?_
 refine ht_region ?_
 refine ho_ev rfl rfl rfl (by first | exact ev_fieldAddr0 rfl Try.fld32_0 rfl | exact ev_fieldAddr rfl Try.fld32_0 rfl) ?_
 refine ho_ev rfl rfl rfl (ev_load rfl Try.underlying3 rfl rfl (by first | exact cell_pt (by (with_reducible repeat constructor); done) rfl | exact cell_ro (by (with_reducible repeat constructor); done) rfl)) ?_
 refine ho_nil ?_
 refine hx_then ?_
 refine ht_block ?_
 refine ht_seq ?_
 refine ht_region ?_
 refine ho_eq rfl rfl rfl rfl rfl rfl (fun g1 => ?_) (fun g1 => ?_)
 ·first | (exfalso; first | omega | (simp at g1; done) | contradiction) | skip
  all_goals (
   refine ho_ev rfl rfl rfl (ev_assign rfl rfl) ?_
   refine ho_nil ?_
   refine hx_then ?_
   refine ht_then rfl ?_
   refine ht_seq ?_
   refine ht_region ?_
   refine ho_ev rfl rfl rfl (ev_move rfl rfl) ?_
   refine ho_ev rfl rfl rfl (by first | exact ev_fieldAddr0 rfl Try.fld32_1 rfl | exact ev_fieldAddr rfl Try.fld32_1 rfl) ?_
   refine ho_ev rfl rfl rfl (ev_load rfl Try.underlying3 rfl rfl (by first | exact cell_pt (by (with_reducible repeat constructor); done) rfl | exact cell_ro (by (with_reducible repeat constructor); done) rfl)) ?_
   refine ho_ev rfl rfl rfl (by first | exact ev_fieldAddr0 rfl Try.fld32_2 rfl | exact ev_fieldAddr rfl Try.fld32_2 rfl) ?_
   refine ho_ev rfl rfl rfl (ev_load rfl Try.underlying9 rfl rfl (by first | exact cell_pt (by (with_reducible repeat constructor); done) rfl | exact cell_ro (by (with_reducible repeat constructor); done) rfl)) ?_
   refine ho_eff rfl rfl rfl (eff_bytes rfl Try.underlying9 Try.underlying36 Try.underlying5 rfl) (fun a14 => ?_)
   refine ho_eff rfl rfl rfl (eff_call rfl rfl (.cons rfl (.cons rfl (.cons rfl .nil))) rfl (disk_Write p d mp _ _ mb hpl (by omega)) (by repeat (first | exact Picks.nil | (apply Picks.ro; focus ((with_reducible repeat constructor); done)) | (apply Picks.cons; focus ((with_reducible repeat constructor); done)))) (fun _ => by repeat (first | exact App.nil | apply App.cons))) (fun _ => ?_)
   refine ho_ev rfl rfl rfl (ev_assign rfl rfl) ?_
   refine ho_nil ?_
   refine hx_then ?_
   refine ht_ret ?_
   refine hx_block_ret ?_
   refine hx_through trivial ?_
   (have ha : d.act (⟨mk, mp, mb, ml⟩ : Dk.MAct) = d.write mp mb := (by simp [Dk.Disk.act, *]); have he : d.aerr (⟨mk, mp, mb, ml⟩ : Dk.MAct) = d.werr mp mb := (by simp [Dk.Disk.aerr, *]); refine hx_ret1 (.inl rfl) rfl rfl () (by rw [he]) ?_; rw [ha]; exact Ent.cons (by (repeat constructor); done) (Ent.cons (by (repeat constructor); done) Ent.nil))
  )
 ·first | (exfalso; first | omega | (simp at g1; done) | contradiction) | skip
  all_goals (
   refine ho_ev rfl rfl rfl (ev_assign rfl rfl) ?_
   refine ho_nil ?_
   refine hx_then ?_
   refine ht_else rfl ?_
   refine ht_seq ?_
   refine ht_region ?_
   refine ho_eq rfl rfl rfl rfl rfl rfl (fun g2 => ?_) (fun g2 => ?_)
   ·first | (exfalso; first | omega | (simp at g2; done) | contradiction) | skip
    all_goals (
     refine ho_ev rfl rfl rfl (ev_assign rfl rfl) ?_
     refine ho_nil ?_
     refine hx_then ?_
     refine ht_then rfl ?_
     refine ht_seq ?_
     refine ht_region ?_
     refine ho_ev rfl rfl rfl (ev_move rfl rfl) ?_
     refine ho_ev rfl rfl rfl (by first | exact ev_fieldAddr0 rfl Try.fld32_1 rfl | exact ev_fieldAddr rfl Try.fld32_1 rfl) ?_
     refine ho_ev rfl rfl rfl (ev_load rfl Try.underlying3 rfl rfl (by first | exact cell_pt (by (with_reducible repeat constructor); done) rfl | exact cell_ro (by (with_reducible repeat constructor); done) rfl)) ?_
     refine ho_eff rfl rfl rfl (eff_call rfl rfl (.cons rfl (.cons rfl .nil)) rfl (disk_Free p d mp hpl) (by repeat (first | exact Picks.nil | (apply Picks.ro; focus ((with_reducible repeat constructor); done)) | (apply Picks.cons; focus ((with_reducible repeat constructor); done)))) (fun _ => by repeat (first | exact App.nil | apply App.cons))) (fun _ => ?_)
     refine ho_ev rfl rfl rfl (ev_assign rfl rfl) ?_
     refine ho_nil ?_
     refine hx_then ?_
     refine ht_ret ?_
     refine hx_block_ret ?_
     refine hx_through trivial ?_
     (have ha : d.act (⟨mk, mp, mb, ml⟩ : Dk.MAct) = d.free mp := (by simp [Dk.Disk.act, *]); have he : d.aerr (⟨mk, mp, mb, ml⟩ : Dk.MAct) = (if (d.view mp).isSome then 0 else 61) := (by simp [Dk.Disk.aerr, *]); refine hx_ret1 (.inl rfl) rfl rfl () (by rw [he]) ?_; rw [ha]; exact Ent.cons (by (repeat constructor); done) (Ent.cons (by (repeat constructor); done) Ent.nil))
    )
   ·first | (exfalso; first | omega | (simp at g2; done) | contradiction) | skip
    all_goals (
     refine ho_ev rfl rfl rfl (ev_assign rfl rfl) ?_
     refine ho_nil ?_
     refine hx_then ?_
     refine ht_else rfl ?_
     refine ht_seq ?_
     refine ht_region ?_
     refine ho_eq rfl rfl rfl rfl rfl rfl (fun g3 => ?_) (fun g3 => ?_)
     ·first | (exfalso; first | omega | (simp at g3; done) | contradiction) | skip
      all_goals (
       refine ho_ev rfl rfl rfl (ev_assign rfl rfl) ?_
       refine ho_nil ?_
       refine hx_then ?_
       refine ht_then rfl ?_
       refine ht_region ?_
       refine ho_ev rfl rfl rfl (ev_move rfl rfl) ?_
       refine ho_eff rfl rfl rfl (eff_call rfl rfl (.cons rfl .nil) rfl (disk_Sync p d) (by repeat (first | exact Picks.nil | (apply Picks.ro; focus ((with_reducible repeat constructor); done)) | (apply Picks.cons; focus ((with_reducible repeat constructor); done)))) (fun _ => by repeat (first | exact App.nil | apply App.cons))) (fun _ => ?_)
       refine ho_nil ?_
       refine hx_block_normal ?_
       refine hx_then ?_
       refine ht_seq ?_
       refine ht_region ?_
       refine ho_ev rfl rfl rfl (ev_assign rfl rfl) ?_
       refine ho_nil ?_
       refine hx_then ?_
       refine ht_ret ?_
       (have ha : d.act (⟨mk, mp, mb, ml⟩ : Dk.MAct) = d.sync := (by simp [Dk.Disk.act, *]); have he : d.aerr (⟨mk, mp, mb, ml⟩ : Dk.MAct) = 0 := (by simp [Dk.Disk.aerr, *]); refine hx_ret1 (.inl rfl) rfl rfl () (by rw [he]) ?_; rw [ha]; exact Ent.cons (by (repeat constructor); done) (Ent.cons (by (repeat constructor); done) Ent.nil))
      )
     ·first | (exfalso; first | omega | (simp at g3; done) | contradiction) | skip
      all_goals (
       refine ho_ev rfl rfl rfl (ev_assign rfl rfl) ?_
       refine ho_nil ?_
       refine hx_then ?_
       refine ht_else rfl ?_
       refine ht_seq ?_
       refine ht_region ?_
       refine ho_eq rfl rfl rfl rfl rfl rfl (fun g4 => ?_) (fun g4 => ?_)
       ·first | (exfalso; first | omega | (simp at g4; done) | contradiction) | skip
        all_goals (
         refine ho_ev rfl rfl rfl (ev_assign rfl rfl) ?_
         refine ho_nil ?_
         refine hx_then ?_
         refine ht_then rfl ?_
         refine ht_region ?_
         refine ho_ev rfl rfl rfl (ev_move rfl rfl) ?_
         refine ho_eff rfl rfl rfl (eff_buildAll (α := (Int × Int)) [] rfl Try.underlying24 Try.ty44 .nil .nil rfl (Nat.le_of_ble_eq_true rfl)) (fun b29 => ?_)
         refine ho_ev rfl rfl rfl (by first | exact ev_fieldAddr0 rfl Try.fld32_3 rfl | exact ev_fieldAddr rfl Try.fld32_3 rfl) ?_
         refine ho_ev rfl rfl rfl (ev_load rfl Try.underlying24 rfl rfl (by first | exact cell_pt (by (with_reducible repeat constructor); done) rfl | exact cell_ro (by (with_reducible repeat constructor); done) rfl)) ?_
         refine ho_eff rfl rfl rfl (eff_append (α := (Int × Int)) rfl Try.underlying24 Try.ty44 rfl (by decide) Try.underlying24 rfl rfl (by (with_reducible repeat constructor); done) (by first | exact reads_ro (by (with_reducible repeat constructor); done) | exact reads_own (by (with_reducible repeat constructor); done) | exact reads_nil _) (by first | omega | (simp only [List.length_append, List.length_cons, List.length_nil, List.length_drop, List.length_take]; omega) | (simp; omega))) (fun p32 => ?_)
         refine ho_freezeS (α := Int × Int) (by (with_reducible repeat constructor); done) ?_
         simp only [List.nil_append]
         refine ho_eff rfl rfl rfl (eff_call rfl rfl (.cons rfl (.cons rfl .nil)) rfl (disk_Crash p d _ _ ml (by omega) hpl) (by repeat (first | exact Picks.nil | (apply Picks.ro; focus ((with_reducible repeat constructor); done)) | (apply Picks.cons; focus ((with_reducible repeat constructor); done)))) (fun _ => by repeat (first | exact App.nil | apply App.cons))) (fun _ => ?_)
         refine ho_nil ?_
         refine hx_block_normal ?_
         refine hx_then ?_
         refine ht_seq ?_
         refine ht_region ?_
         refine ho_ev rfl rfl rfl (ev_assign rfl rfl) ?_
         refine ho_nil ?_
         refine hx_then ?_
         refine ht_ret ?_
         (have ha : d.act (⟨mk, mp, mb, ml⟩ : Dk.MAct) = d.crash ml := (by simp [Dk.Disk.act, *]); have he : d.aerr (⟨mk, mp, mb, ml⟩ : Dk.MAct) = 0 := (by simp [Dk.Disk.aerr, *]); refine hx_ret1 (.inl rfl) rfl rfl () (by rw [he]) ?_; rw [ha]; exact Ent.cons (by (repeat constructor); done) (Ent.cons (by (repeat constructor); done) Ent.nil))
        )
       ·first | (exfalso; first | omega | (simp at g4; done) | contradiction) | skip
        all_goals (
         refine ho_ev rfl rfl rfl (ev_assign rfl rfl) ?_
         refine ho_nil ?_
         refine hx_then ?_
         refine ht_else rfl ?_
         refine ht_seq ?_
         refine ht_region ?_
         refine ho_eq rfl rfl rfl rfl rfl rfl (fun g5 => ?_) (fun g5 => ?_)
         ·first | (exfalso; first | omega | (simp at g5; done) | contradiction) | skip
          all_goals (
           refine ho_ev rfl rfl rfl (ev_assign rfl rfl) ?_
           refine ho_nil ?_
           refine hx_then ?_
           refine ht_then rfl ?_
           refine ht_region ?_
           refine ho_ev rfl rfl rfl (ev_move rfl rfl) ?_
           refine ho_ev rfl rfl rfl (by first | exact ev_fieldAddr0 rfl Try.fld32_1 rfl | exact ev_fieldAddr rfl Try.fld32_1 rfl) ?_
           refine ho_ev rfl rfl rfl (ev_load rfl Try.underlying3 rfl rfl (by first | exact cell_pt (by (with_reducible repeat constructor); done) rfl | exact cell_ro (by (with_reducible repeat constructor); done) rfl)) ?_
           refine ho_eff rfl rfl rfl (eff_call rfl rfl (.cons rfl (.cons rfl .nil)) rfl (disk_Limit p d mp) (by repeat (first | exact Picks.nil | (apply Picks.ro; focus ((with_reducible repeat constructor); done)) | (apply Picks.cons; focus ((with_reducible repeat constructor); done)))) (fun _ => by repeat (first | exact App.nil | apply App.cons))) (fun _ => ?_)
           refine ho_nil ?_
           refine hx_block_normal ?_
           refine hx_then ?_
           refine ht_seq ?_
           refine ht_region ?_
           refine ho_ev rfl rfl rfl (ev_assign rfl rfl) ?_
           refine ho_nil ?_
           refine hx_then ?_
           refine ht_ret ?_
           (have ha : d.act (⟨mk, mp, mb, ml⟩ : Dk.MAct) = d.setLimit mp := (by simp [Dk.Disk.act, *]); have he : d.aerr (⟨mk, mp, mb, ml⟩ : Dk.MAct) = 0 := (by simp [Dk.Disk.aerr, *]); refine hx_ret1 (.inl rfl) rfl rfl () (by rw [he]) ?_; rw [ha]; exact Ent.cons (by (repeat constructor); done) (Ent.cons (by (repeat constructor); done) Ent.nil))
          )
         ·first | (exfalso; first | omega | (simp at g5; done) | contradiction) | skip
          all_goals (
           refine ho_ev rfl rfl rfl (ev_assign rfl rfl) ?_
           refine ho_nil ?_
           refine hx_then ?_
           refine ht_else rfl ?_
           refine ht_skip ?_
           refine hx_block_normal ?_
           refine hx_then ?_
           refine ht_seq ?_
           refine ht_region ?_
           refine ho_ev rfl rfl rfl (ev_assign rfl rfl) ?_
           refine ho_nil ?_
           refine hx_then ?_
           refine ht_ret ?_
           (have ha : d.act (⟨mk, mp, mb, ml⟩ : Dk.MAct) = d := (by simp [Dk.Disk.act, *]); have he : d.aerr (⟨mk, mp, mb, ml⟩ : Dk.MAct) = 0 := (by simp [Dk.Disk.aerr, *]); refine hx_ret1 (.inl rfl) rfl rfl () (by rw [he]) ?_; rw [ha]; exact Ent.cons (by (repeat constructor); done) (Ent.cons (by (repeat constructor); done) Ent.nil))
          )
        )
      )
    )
  )

section
open Dk
noncomputable def aw1 : Disk := (Disk.new 9).write 3 [97, 98, 99]
noncomputable def aw2 : Disk := aw1.sync
noncomputable def aw3 : Disk := aw2.write 3 [120, 121]
noncomputable def aw4 : Disk := aw3.write 4 [113]
noncomputable def aw5 : Disk := aw4.crash [(0, 1)]
theorem aw_card0 : card none_ = 0 := card_of (l := []) ⟨by simp, fun k => rfl⟩ rfl
theorem aw_e1 : (Disk.new 9).werr 3 [97, 98, 99] = 0 := werr_ok1 (by simp [Disk.new]) (by simp) (by simp [Disk.new, aw_card0])
theorem aw_1 : aw1 = ⟨9, 9, upd none_ 3 (some [97, 98, 99]), none_, [.wr 3 [97, 98, 99]]⟩ := by
  unfold aw1; rw [write_yes aw_e1]; simp [Disk.push, Disk.new, POp.run, torn_all, torn]
theorem aw_2 : aw2 = ⟨9, 9, upd none_ 3 (some [97, 98, 99]), upd none_ 3 (some [97, 98, 99]), []⟩ := by unfold aw2; rw [aw_1]; rfl
theorem aw_e3 : aw2.werr 3 [120, 121] = 0 := by rw [aw_2]; exact werr_ok2 (s := [97, 98, 99]) (by simp) (by simp) (by simp [upd])
theorem aw_3 : aw3 = ⟨9, 9, upd (upd none_ 3 (some [97, 98, 99])) 3 (some [120, 121]), upd none_ 3 (some [97, 98, 99]), [.wr 3 [120, 121]]⟩ := by
  unfold aw3; rw [write_yes aw_e3, aw_2]; simp [Disk.push, POp.run, torn_all, torn]
theorem aw_c3 : card aw3.view = 1 := by
  rw [aw_3]
  refine card_of (l := [(3, [120, 121])]) ⟨by simp, fun k => ?_⟩ rfl
  by_cases h : k = 3
  · subst h; rfl
  · simp [upd, none_, h, Ne.symm h]
theorem aw_e4 : aw3.werr 4 [113] = 0 := werr_ok1 (by rw [aw_3]; simp) (by simp) (by rw [aw_c3, aw_3]; simp)
theorem aw_4 : aw4 = ⟨9, 9, upd (upd (upd none_ 3 (some [97, 98, 99])) 3 (some [120, 121])) 4 (some [113]), upd none_ 3 (some [97, 98, 99]), [.wr 3 [120, 121], .wr 4 [113]]⟩ := by
  unfold aw4; rw [write_yes aw_e4, aw_3]; simp [Disk.push, POp.run, torn_all, torn]
theorem aw_c4 : card aw4.view = 2 := by
  rw [aw_4]
  refine card_of (l := [(3, [120, 121]), (4, [113])]) ⟨by simp, fun k => ?_⟩ rfl
  by_cases h : k = 3
  · subst h; rfl
  · by_cases h4 : k = 4
    · subst h4; rfl
    · simp [upd, none_, h, Ne.symm h, h4, Ne.symm h4]
theorem aw_p4 : aw4.pend.length = 2 := by rw [aw_4]; rfl
theorem aw_5 : aw5 = ⟨9, 9, upd (upd none_ 3 (some [97, 98, 99])) 3 (some [120, 98, 99]), upd (upd none_ 3 (some [97, 98, 99])) 3 (some [120, 98, 99]), []⟩ := by
  unfold aw5; rw [aw_4]; simp [Disk.crash, crashFrom, stays, POp.run, torn, upd_same]
theorem aw_r3 : aw5.view 3 = some [120, 98, 99] := by rw [aw_5]; rfl
theorem aw_r4 : aw5.view 4 = none := by rw [aw_5]; rfl
theorem aw_c5 : card aw5.view = 1 := by
  rw [aw_5]
  refine card_of (l := [(3, [120, 98, 99])]) ⟨by simp, fun k => ?_⟩ rfl
  by_cases h : k = 3
  · subst h; rfl
  · simp [upd, none_, h, Ne.symm h]
end

theorem law_awake   : Ctr Try.prog 6 #[] [] (fun _ : Unit => .bool true) (fun _ => []) := by
 refine fn_intro Try.func6 rfl rfl Try.ntmps6 (Nat.le_of_ble_eq_true rfl) (fun _ => by repeat (first | exact App.nil | apply App.cons)) (fun κ F => ?_)
 have e1 := aw_e1
 have e3 := aw_e3
 have e4 := aw_e4
 have c4 := aw_c4
 have c5 := aw_c5
 have p4 := aw_p4
 refine ht_seq ?_
 refine ht_region ?_
 refine ho_ev rfl rfl rfl (ev_assign rfl rfl) ?_
 refine ho_nil ?_
 refine hx_then ?_
 refine ht_seq ?_
 refine ht_region ?_
 refine ho_eff rfl rfl rfl (eff_call rfl rfl (.cons rfl .nil) rfl (disk_New 9 (by omega)) (by repeat (first | exact Picks.nil | (apply Picks.ro; focus ((repeat constructor); done)) | (apply Picks.cons; focus ((repeat constructor); done)))) (fun _ => by repeat (first | exact App.nil | apply App.cons))) (fun b0 => ?_)
 refine ho_ev rfl rfl rfl (ev_move rfl rfl) ?_
 refine ho_ev rfl rfl rfl (ev_extract rfl rfl rfl) ?_
 refine ho_ev rfl rfl rfl (ev_extract rfl rfl rfl) ?_
 refine ho_ev rfl rfl rfl (ev_assign rfl rfl) ?_
 refine ho_ev rfl rfl rfl (ev_assign rfl rfl) ?_
 refine ho_nil ?_
 refine hx_then ?_
 refine ht_seq ?_
 refine ht_seq ?_
 refine ht_region ?_
 refine ho_ev rfl rfl rfl (ev_move rfl rfl) ?_
 refine ho_ne rfl rfl rfl rfl rfl rfl (fun g1 => ?_) (fun g1 => ?_)
 ·first | (exfalso; first | omega | (simp at g1; done) | contradiction) | skip
  all_goals (
   refine ho_ev rfl rfl rfl (ev_move rfl rfl) ?_
   refine ho_pass rfl rfl rfl rfl ?_
   refine ho_pass rfl rfl rfl rfl ?_
   refine ho_ev rfl rfl rfl (ev_pick_t rfl rfl rfl) ?_
   refine ho_ev rfl rfl rfl (ev_move rfl rfl) ?_
   refine ho_pass rfl rfl rfl rfl ?_
   refine ho_pass rfl rfl rfl rfl ?_
   refine ho_pass rfl rfl rfl rfl ?_
   refine ho_pass rfl rfl rfl rfl ?_
   refine ho_pass rfl rfl rfl rfl ?_
   refine ho_ev rfl rfl rfl (ev_pick_t rfl rfl rfl) ?_
   refine ho_nil ?_
   refine hx_then ?_
   refine ht_then rfl ?_
   refine ht_seq ?_
   refine ht_region ?_
   refine ho_ev rfl rfl rfl (ev_assign rfl rfl) ?_
   refine ho_nil ?_
   refine hx_then ?_
   refine ht_ret ?_
   refine hx_through trivial ?_
   exact hx_ret1 (.inl rfl) rfl rfl () rfl (Ent.cons (by (repeat constructor); done) Ent.nil)
  )
 ·first | (exfalso; first | omega | (simp at g1; done) | contradiction) | skip
  all_goals (
   refine ho_ev rfl rfl rfl (ev_move rfl rfl) ?_
   refine ho_evg rfl rfl rfl rfl (ev_move rfl rfl) ?_
   refine ho_evg rfl rfl rfl rfl (ev_ptrNil rfl Try.underlying25 rfl rfl rfl) ?_
   refine ho_ev rfl rfl rfl (ev_pick_f rfl rfl rfl) ?_
   refine ho_ev rfl rfl rfl (ev_move rfl rfl) ?_
   refine ho_bool (t := 20) rfl (fun g2 => ?_) (fun g2 => ?_)
   ·first | (exfalso; first | omega | (simp at g2; done) | contradiction) | skip
    all_goals (
     refine ho_pass rfl rfl rfl rfl ?_
     refine ho_pass rfl rfl rfl rfl ?_
     refine ho_pass rfl rfl rfl rfl ?_
     refine ho_pass rfl rfl rfl rfl ?_
     refine ho_pass rfl rfl rfl rfl ?_
     refine ho_ev rfl rfl rfl (ev_pick_t rfl rfl rfl) ?_
     refine ho_nil ?_
     refine hx_then ?_
     refine ht_then rfl ?_
     refine ht_seq ?_
     refine ht_region ?_
     refine ho_ev rfl rfl rfl (ev_assign rfl rfl) ?_
     refine ho_nil ?_
     refine hx_then ?_
     refine ht_ret ?_
     refine hx_through trivial ?_
     exact hx_ret1 (.inl rfl) rfl rfl () rfl (Ent.cons (by (repeat constructor); done) Ent.nil)
    )
   ·first | (exfalso; first | omega | (simp at g2; done) | contradiction) | skip
    all_goals (
     refine ho_evg rfl rfl rfl rfl (ev_move rfl rfl) ?_
     refine ho_effg rfl rfl rfl rfl (eff_buildAll (α := UInt8) [97, 98, 99] rfl Try.underlying36 Try.ty5 (.cons rfl (.cons rfl (.cons rfl .nil))) (.cons rfl (.cons rfl (.cons rfl .nil))) rfl (Nat.le_of_ble_eq_true rfl)) (fun b22 => ?_)
     refine ho_effg rfl rfl rfl rfl (eff_convSl rfl Try.underlying36 Try.underlying5 rfl (by (with_reducible repeat constructor); done)) (fun _ => ?_)
     refine ho_effg rfl rfl rfl rfl (eff_call rfl rfl (.cons rfl (.cons rfl (.cons rfl .nil))) rfl (disk_Write b0 (Dk.Disk.new 9) 3 _ _ [97, 98, 99] (by simp [Dk.Disk.new]) (by simp)) (by repeat (first | exact Picks.nil | (apply Picks.ro; focus ((repeat constructor); done)) | (apply Picks.cons; focus ((repeat constructor); done)))) (fun _ => by repeat (first | exact App.nil | apply App.cons))) (fun _ => ?_)
     refine ho_neg rfl rfl rfl rfl rfl rfl rfl (fun g3 => ?_) (fun g3 => ?_)
     ·first | (exfalso; first | omega | (simp at g3; done) | contradiction) | skip
      all_goals (
       refine ho_ev rfl rfl rfl (ev_pick_f rfl rfl rfl) ?_
       refine ho_nil ?_
       refine hx_then ?_
       refine ht_then rfl ?_
       refine ht_seq ?_
       refine ht_region ?_
       refine ho_ev rfl rfl rfl (ev_assign rfl rfl) ?_
       refine ho_nil ?_
       refine hx_then ?_
       refine ht_ret ?_
       refine hx_through trivial ?_
       exact hx_ret1 (.inl rfl) rfl rfl () rfl (Ent.cons (by (repeat constructor); done) Ent.nil)
      )
     ·first | (exfalso; first | omega | (simp at g3; done) | contradiction) | skip
      all_goals (
       refine ho_ev rfl rfl rfl (ev_pick_f rfl rfl rfl) ?_
       refine ho_nil ?_
       refine hx_then ?_
       refine ht_else rfl ?_
       refine ht_skip ?_
       refine hx_then ?_
       refine ht_seq ?_
       refine ht_region ?_
       refine ho_ev rfl rfl rfl (ev_move rfl rfl) ?_
       refine ho_eff rfl rfl rfl (eff_call rfl rfl (.cons rfl .nil) rfl (disk_Sync b0 aw1) (by repeat (first | exact Picks.nil | (apply Picks.ro; focus ((repeat constructor); done)) | (apply Picks.cons; focus ((repeat constructor); done)))) (fun _ => by repeat (first | exact App.nil | apply App.cons))) (fun _ => ?_)
       have _ := ()
       refine ho_nil ?_
       refine hx_then ?_
       refine ht_seq ?_
       refine ht_region ?_
       refine ho_ev rfl rfl rfl (ev_move rfl rfl) ?_
       refine ho_eff rfl rfl rfl (eff_buildAll (α := UInt8) [120, 121] rfl Try.underlying36 Try.ty5 (.cons rfl (.cons rfl .nil)) (.cons rfl (.cons rfl .nil)) rfl (Nat.le_of_ble_eq_true rfl)) (fun b30 => ?_)
       refine ho_eff rfl rfl rfl (eff_convSl rfl Try.underlying36 Try.underlying5 rfl (by (with_reducible repeat constructor); done)) (fun _ => ?_)
       refine ho_eff rfl rfl rfl (eff_call rfl rfl (.cons rfl (.cons rfl (.cons rfl .nil))) rfl (disk_Write b0 aw2 3 _ _ [120, 121] (by rw [aw_2]; simp) (by simp)) (by repeat (first | exact Picks.nil | (apply Picks.ro; focus ((repeat constructor); done)) | (apply Picks.cons; focus ((repeat constructor); done)))) (fun _ => by repeat (first | exact App.nil | apply App.cons))) (fun _ => ?_)
       refine ho_ev rfl rfl rfl (ev_move rfl rfl) ?_
       refine ho_eff rfl rfl rfl (eff_buildAll (α := UInt8) [113] rfl Try.underlying36 Try.ty5 (.cons rfl .nil) (.cons rfl .nil) rfl (Nat.le_of_ble_eq_true rfl)) (fun b34 => ?_)
       refine ho_eff rfl rfl rfl (eff_convSl rfl Try.underlying36 Try.underlying5 rfl (by (with_reducible repeat constructor); done)) (fun _ => ?_)
       refine ho_eff rfl rfl rfl (eff_call rfl rfl (.cons rfl (.cons rfl (.cons rfl .nil))) rfl (disk_Write b0 aw3 4 _ _ [113] (by rw [aw_3]; simp) (by simp)) (by repeat (first | exact Picks.nil | (apply Picks.ro; focus ((repeat constructor); done)) | (apply Picks.cons; focus ((repeat constructor); done)))) (fun _ => by repeat (first | exact App.nil | apply App.cons))) (fun _ => ?_)
       refine ho_ev rfl rfl rfl (ev_assign rfl rfl) ?_
       refine ho_ev rfl rfl rfl (ev_assign rfl rfl) ?_
       refine ho_nil ?_
       refine hx_then ?_
       refine ht_seq ?_
       refine ht_region ?_
       refine ho_ev rfl rfl rfl (ev_move rfl rfl) ?_
       refine ho_eff rfl rfl rfl (eff_call rfl rfl (.cons rfl .nil) rfl (disk_Copy b0 aw4 (by rw [aw_p4]; omega)) (by repeat (first | exact Picks.nil | (apply Picks.ro; focus ((repeat constructor); done)) | (apply Picks.cons; focus ((repeat constructor); done)))) (fun _ => by repeat (first | exact App.nil | apply App.cons))) (fun q => ?_)
       refine ho_ev rfl rfl rfl (ev_assign rfl rfl) ?_
       refine ho_nil ?_
       refine hx_then ?_
       refine ht_seq ?_
       refine ht_region ?_
       refine ho_ev rfl rfl rfl (ev_move rfl rfl) ?_
       refine ho_ev rfl rfl rfl (ev_build1 (csl := [_, _]) rfl Try.st44 (.cons rfl (.cons rfl .nil)) (.cons rfl (.cons rfl .nil)) rfl rfl) ?_
       refine ho_eff rfl rfl rfl (eff_buildAll (α := (Int × Int)) [((0 : Int), (1 : Int))] rfl Try.underlying24 Try.ty44 (.cons rfl .nil) (.cons rfl .nil) rfl (Nat.le_of_ble_eq_true rfl)) (fun b41 => ?_)
       refine ho_freezeS (α := Int × Int) (by (with_reducible repeat constructor); done) ?_
       refine ho_eff rfl rfl rfl (eff_call rfl rfl (.cons rfl (.cons rfl .nil)) rfl (disk_Crash b0 aw4 _ _ [(0, 1)] (by simp) (by rw [aw_p4]; omega)) (by repeat (first | exact Picks.nil | (apply Picks.ro; focus ((repeat constructor); done)) | (apply Picks.cons; focus ((repeat constructor); done)))) (fun _ => by repeat (first | exact App.nil | apply App.cons))) (fun _ => ?_)
       refine ho_nil ?_
       refine hx_then ?_
       refine ht_seq ?_
       refine ht_region ?_
       refine ho_ev rfl rfl rfl (ev_move rfl rfl) ?_
       refine ho_eff rfl rfl rfl (eff_call rfl rfl (.cons rfl (.cons rfl .nil)) rfl (disk_Read b0 aw5 3 _ aw_r3) (by repeat (first | exact Picks.nil | (apply Picks.ro; focus ((repeat constructor); done)) | (apply Picks.cons; focus ((repeat constructor); done)))) (fun _ => by repeat (first | exact App.nil | apply App.cons))) (fun rd => ?_)
       refine ho_ev rfl rfl rfl (ev_move rfl rfl) ?_
       refine ho_ev rfl rfl rfl (ev_extract rfl rfl rfl) ?_
       refine ho_ev rfl rfl rfl (ev_extract rfl rfl rfl) ?_
       refine ho_ev rfl rfl rfl (ev_assign rfl rfl) ?_
       refine ho_ev rfl rfl rfl (ev_assign rfl rfl) ?_
       refine ho_nil ?_
       refine hx_then ?_
       refine ht_seq ?_
       refine ht_region ?_
       refine ho_ev rfl rfl rfl (ev_move rfl rfl) ?_
       refine ho_eff rfl rfl rfl (eff_call rfl rfl (.cons rfl (.cons rfl .nil)) rfl (disk_Read_no b0 aw5 4 aw_r4) (by repeat (first | exact Picks.nil | (apply Picks.ro; focus ((repeat constructor); done)) | (apply Picks.cons; focus ((repeat constructor); done)))) (fun _ => by repeat (first | exact App.nil | apply App.cons))) (fun _ => ?_)
       refine ho_ev rfl rfl rfl (ev_move rfl rfl) ?_
       refine ho_ev rfl rfl rfl (ev_extract rfl rfl rfl) ?_
       refine ho_ev rfl rfl rfl (ev_extract rfl rfl rfl) ?_
       refine ho_ev rfl rfl rfl (ev_assign rfl rfl) ?_
       refine ho_ev rfl rfl rfl (ev_assign rfl rfl) ?_
       refine ho_nil ?_
       refine hx_then ?_
       refine ht_seq ?_
       refine ht_region ?_
       refine ho_ev rfl rfl rfl (ev_move rfl rfl) ?_
       refine ho_eq rfl rfl rfl rfl rfl rfl (fun g4 => ?_) (fun g4 => ?_)
       ·first | (exfalso; first | omega | (simp at g4; done) | contradiction) | skip
        all_goals (
         refine ho_ev rfl rfl rfl (ev_move rfl rfl) ?_
         refine ho_evg rfl rfl rfl rfl (ev_move rfl rfl) ?_
         refine ho_eqg rfl rfl rfl rfl rfl rfl rfl (fun g5 => ?_) (fun g5 => ?_)
         ·first | (exfalso; first | omega | (simp at g5; done) | contradiction) | skip
          all_goals (
           refine ho_ev rfl rfl rfl (ev_pick_t rfl rfl rfl) ?_
           refine ho_ev rfl rfl rfl (ev_move rfl rfl) ?_
           refine ho_evg rfl rfl rfl rfl (ev_move rfl rfl) ?_
           refine ho_evg rfl rfl rfl rfl (ev_str rfl Try.underlying36 Try.underlying5 Try.underlying9 rfl (by first | exact reads_ro (by (with_reducible repeat constructor); done) | exact reads_own (by (with_reducible repeat constructor); done) | exact reads_nil _)) ?_
           refine ho_eqSg rfl rfl rfl rfl rfl rfl rfl (fun g6 => ?_) (fun g6 => ?_)
           ·first | (exfalso; first | omega | (simp at g6; done) | contradiction) | skip
            all_goals (
             refine ho_ev rfl rfl rfl (ev_pick_t rfl rfl rfl) ?_
             refine ho_ev rfl rfl rfl (ev_move rfl rfl) ?_
             refine ho_evg rfl rfl rfl rfl (ev_move rfl rfl) ?_
             refine ho_eqg rfl rfl rfl rfl rfl rfl rfl (fun g7 => ?_) (fun g7 => ?_)
             ·first | (exfalso; first | omega | (simp at g7; done) | contradiction) | skip
              all_goals (
               refine ho_ev rfl rfl rfl (ev_pick_t rfl rfl rfl) ?_
               refine ho_ev rfl rfl rfl (ev_move rfl rfl) ?_
               refine ho_evg rfl rfl rfl rfl (ev_move rfl rfl) ?_
               refine ho_eqg rfl rfl rfl rfl rfl rfl rfl (fun g8 => ?_) (fun g8 => ?_)
               ·first | (exfalso; first | omega | (simp at g8; done) | contradiction) | skip
                all_goals (
                 refine ho_ev rfl rfl rfl (ev_pick_t rfl rfl rfl) ?_
                 refine ho_ev rfl rfl rfl (ev_move rfl rfl) ?_
                 refine ho_evg rfl rfl rfl rfl (ev_move rfl rfl) ?_
                 refine ho_evg rfl rfl rfl rfl (ev_ptrNil rfl Try.underlying25 rfl rfl rfl) ?_
                 refine ho_ev rfl rfl rfl (ev_pick_t rfl rfl rfl) ?_
                 refine ho_ev rfl rfl rfl (ev_move rfl rfl) ?_
                 refine ho_bool (t := 76) rfl (fun g9 => ?_) (fun g9 => ?_)
                 ·first | (exfalso; first | omega | (simp at g9; done) | contradiction) | skip
                  all_goals (
                   refine ho_evg rfl rfl rfl rfl (ev_move rfl rfl) ?_
                   refine ho_effg rfl rfl rfl rfl (eff_call rfl rfl (.cons rfl .nil) rfl (disk_Used q aw4) (by repeat (first | exact Picks.nil | (apply Picks.ro; focus ((repeat constructor); done)) | (apply Picks.cons; focus ((repeat constructor); done)))) (fun _ => by repeat (first | exact App.nil | apply App.cons))) (fun _ => ?_)
                   refine ho_eqg rfl rfl rfl rfl rfl rfl rfl (fun g10 => ?_) (fun g10 => ?_)
                   ·first | (exfalso; first | omega | (simp at g10; done) | contradiction) | skip
                    all_goals (
                     refine ho_ev rfl rfl rfl (ev_pick_t rfl rfl rfl) ?_
                     refine ho_ev rfl rfl rfl (ev_move rfl rfl) ?_
                     refine ho_evg rfl rfl rfl rfl (ev_move rfl rfl) ?_
                     refine ho_effg rfl rfl rfl rfl (eff_call rfl rfl (.cons rfl .nil) rfl (disk_Pending q aw4) (by repeat (first | exact Picks.nil | (apply Picks.ro; focus ((repeat constructor); done)) | (apply Picks.cons; focus ((repeat constructor); done)))) (fun _ => by repeat (first | exact App.nil | apply App.cons))) (fun _ => ?_)
                     refine ho_eqg rfl rfl rfl rfl rfl rfl rfl (fun g11 => ?_) (fun g11 => ?_)
                     ·first | (exfalso; first | omega | (simp at g11; done) | contradiction) | skip
                      all_goals (
                       refine ho_ev rfl rfl rfl (ev_pick_t rfl rfl rfl) ?_
                       refine ho_ev rfl rfl rfl (ev_move rfl rfl) ?_
                       refine ho_evg rfl rfl rfl rfl (ev_move rfl rfl) ?_
                       refine ho_effg rfl rfl rfl rfl (eff_call rfl rfl (.cons rfl .nil) rfl (disk_Used b0 aw5) (by repeat (first | exact Picks.nil | (apply Picks.ro; focus ((repeat constructor); done)) | (apply Picks.cons; focus ((repeat constructor); done)))) (fun _ => by repeat (first | exact App.nil | apply App.cons))) (fun _ => ?_)
                       refine ho_eqg rfl rfl rfl rfl rfl rfl rfl (fun g12 => ?_) (fun g12 => ?_)
                       ·first | (exfalso; first | omega | (simp at g12; done) | contradiction) | skip
                        all_goals (
                         refine ho_ev rfl rfl rfl (ev_pick_t rfl rfl rfl) ?_
                         refine ho_ev rfl rfl rfl (ev_assign rfl rfl) ?_
                         refine ho_nil ?_
                         refine hx_then ?_
                         refine ht_ret ?_
                         exact hx_ret1 (.inl rfl) rfl rfl () rfl (Ent.cons (by (repeat constructor); done) Ent.nil)
                        )
                       ·first | (exfalso; first | omega | (simp at g12; done) | contradiction) | skip
                        all_goals (
                         refine ho_ev rfl rfl rfl (ev_pick_t rfl rfl rfl) ?_
                         refine ho_ev rfl rfl rfl (ev_assign rfl rfl) ?_
                         refine ho_nil ?_
                         refine hx_then ?_
                         refine ht_ret ?_
                         exact hx_ret1 (.inl rfl) rfl rfl () rfl (Ent.cons (by (repeat constructor); done) Ent.nil)
                        )
                      )
                     ·first | (exfalso; first | omega | (simp at g11; done) | contradiction) | skip
                      all_goals (
                       refine ho_ev rfl rfl rfl (ev_pick_t rfl rfl rfl) ?_
                       refine ho_ev rfl rfl rfl (ev_move rfl rfl) ?_
                       refine ho_pass rfl rfl rfl rfl ?_
                       refine ho_pass rfl rfl rfl rfl ?_
                       refine ho_pass rfl rfl rfl rfl ?_
                       refine ho_ev rfl rfl rfl (ev_pick_f rfl rfl rfl) ?_
                       refine ho_ev rfl rfl rfl (ev_assign rfl rfl) ?_
                       refine ho_nil ?_
                       refine hx_then ?_
                       refine ht_ret ?_
                       exact hx_ret1 (.inl rfl) rfl rfl () rfl (Ent.cons (by (repeat constructor); done) Ent.nil)
                      )
                    )
                   ·first | (exfalso; first | omega | (simp at g10; done) | contradiction) | skip
                    all_goals (
                     refine ho_ev rfl rfl rfl (ev_pick_t rfl rfl rfl) ?_
                     refine ho_ev rfl rfl rfl (ev_move rfl rfl) ?_
                     refine ho_pass rfl rfl rfl rfl ?_
                     refine ho_pass rfl rfl rfl rfl ?_
                     refine ho_pass rfl rfl rfl rfl ?_
                     refine ho_ev rfl rfl rfl (ev_pick_f rfl rfl rfl) ?_
                     refine ho_ev rfl rfl rfl (ev_move rfl rfl) ?_
                     refine ho_pass rfl rfl rfl rfl ?_
                     refine ho_pass rfl rfl rfl rfl ?_
                     refine ho_pass rfl rfl rfl rfl ?_
                     refine ho_ev rfl rfl rfl (ev_pick_f rfl rfl rfl) ?_
                     refine ho_ev rfl rfl rfl (ev_assign rfl rfl) ?_
                     refine ho_nil ?_
                     refine hx_then ?_
                     refine ht_ret ?_
                     exact hx_ret1 (.inl rfl) rfl rfl () rfl (Ent.cons (by (repeat constructor); done) Ent.nil)
                    )
                  )
                 ·first | (exfalso; first | omega | (simp at g9; done) | contradiction) | skip
                  all_goals (
                   refine ho_pass rfl rfl rfl rfl ?_
                   refine ho_pass rfl rfl rfl rfl ?_
                   refine ho_pass rfl rfl rfl rfl ?_
                   refine ho_ev rfl rfl rfl (ev_pick_f rfl rfl rfl) ?_
                   refine ho_ev rfl rfl rfl (ev_move rfl rfl) ?_
                   refine ho_pass rfl rfl rfl rfl ?_
                   refine ho_pass rfl rfl rfl rfl ?_
                   refine ho_pass rfl rfl rfl rfl ?_
                   refine ho_ev rfl rfl rfl (ev_pick_f rfl rfl rfl) ?_
                   refine ho_ev rfl rfl rfl (ev_move rfl rfl) ?_
                   refine ho_pass rfl rfl rfl rfl ?_
                   refine ho_pass rfl rfl rfl rfl ?_
                   refine ho_pass rfl rfl rfl rfl ?_
                   refine ho_ev rfl rfl rfl (ev_pick_f rfl rfl rfl) ?_
                   refine ho_ev rfl rfl rfl (ev_assign rfl rfl) ?_
                   refine ho_nil ?_
                   refine hx_then ?_
                   refine ht_ret ?_
                   exact hx_ret1 (.inl rfl) rfl rfl () rfl (Ent.cons (by (repeat constructor); done) Ent.nil)
                  )
                )
               ·first | (exfalso; first | omega | (simp at g8; done) | contradiction) | skip
                all_goals (
                 refine ho_ev rfl rfl rfl (ev_pick_t rfl rfl rfl) ?_
                 refine ho_ev rfl rfl rfl (ev_move rfl rfl) ?_
                 refine ho_pass rfl rfl rfl rfl ?_
                 refine ho_pass rfl rfl rfl rfl ?_
                 refine ho_ev rfl rfl rfl (ev_pick_f rfl rfl rfl) ?_
                 refine ho_ev rfl rfl rfl (ev_move rfl rfl) ?_
                 refine ho_pass rfl rfl rfl rfl ?_
                 refine ho_pass rfl rfl rfl rfl ?_
                 refine ho_pass rfl rfl rfl rfl ?_
                 refine ho_ev rfl rfl rfl (ev_pick_f rfl rfl rfl) ?_
                 refine ho_ev rfl rfl rfl (ev_move rfl rfl) ?_
                 refine ho_pass rfl rfl rfl rfl ?_
                 refine ho_pass rfl rfl rfl rfl ?_
                 refine ho_pass rfl rfl rfl rfl ?_
                 refine ho_ev rfl rfl rfl (ev_pick_f rfl rfl rfl) ?_
                 refine ho_ev rfl rfl rfl (ev_move rfl rfl) ?_
                 refine ho_pass rfl rfl rfl rfl ?_
                 refine ho_pass rfl rfl rfl rfl ?_
                 refine ho_pass rfl rfl rfl rfl ?_
                 refine ho_ev rfl rfl rfl (ev_pick_f rfl rfl rfl) ?_
                 refine ho_ev rfl rfl rfl (ev_assign rfl rfl) ?_
                 refine ho_nil ?_
                 refine hx_then ?_
                 refine ht_ret ?_
                 exact hx_ret1 (.inl rfl) rfl rfl () rfl (Ent.cons (by (repeat constructor); done) Ent.nil)
                )
              )
             ·first | (exfalso; first | omega | (simp at g7; done) | contradiction) | skip
              all_goals (
               refine ho_ev rfl rfl rfl (ev_pick_t rfl rfl rfl) ?_
               refine ho_ev rfl rfl rfl (ev_move rfl rfl) ?_
               refine ho_pass rfl rfl rfl rfl ?_
               refine ho_pass rfl rfl rfl rfl ?_
               refine ho_ev rfl rfl rfl (ev_pick_f rfl rfl rfl) ?_
               refine ho_ev rfl rfl rfl (ev_move rfl rfl) ?_
               refine ho_pass rfl rfl rfl rfl ?_
               refine ho_pass rfl rfl rfl rfl ?_
               refine ho_ev rfl rfl rfl (ev_pick_f rfl rfl rfl) ?_
               refine ho_ev rfl rfl rfl (ev_move rfl rfl) ?_
               refine ho_pass rfl rfl rfl rfl ?_
               refine ho_pass rfl rfl rfl rfl ?_
               refine ho_pass rfl rfl rfl rfl ?_
               refine ho_ev rfl rfl rfl (ev_pick_f rfl rfl rfl) ?_
               refine ho_ev rfl rfl rfl (ev_move rfl rfl) ?_
               refine ho_pass rfl rfl rfl rfl ?_
               refine ho_pass rfl rfl rfl rfl ?_
               refine ho_pass rfl rfl rfl rfl ?_
               refine ho_ev rfl rfl rfl (ev_pick_f rfl rfl rfl) ?_
               refine ho_ev rfl rfl rfl (ev_move rfl rfl) ?_
               refine ho_pass rfl rfl rfl rfl ?_
               refine ho_pass rfl rfl rfl rfl ?_
               refine ho_pass rfl rfl rfl rfl ?_
               refine ho_ev rfl rfl rfl (ev_pick_f rfl rfl rfl) ?_
               refine ho_ev rfl rfl rfl (ev_assign rfl rfl) ?_
               refine ho_nil ?_
               refine hx_then ?_
               refine ht_ret ?_
               exact hx_ret1 (.inl rfl) rfl rfl () rfl (Ent.cons (by (repeat constructor); done) Ent.nil)
              )
            )
           ·first | (exfalso; first | omega | (simp at g6; done) | contradiction) | skip
            all_goals (
             refine ho_ev rfl rfl rfl (ev_pick_t rfl rfl rfl) ?_
             refine ho_ev rfl rfl rfl (ev_move rfl rfl) ?_
             refine ho_pass rfl rfl rfl rfl ?_
             refine ho_pass rfl rfl rfl rfl ?_
             refine ho_ev rfl rfl rfl (ev_pick_f rfl rfl rfl) ?_
             refine ho_ev rfl rfl rfl (ev_move rfl rfl) ?_
             refine ho_pass rfl rfl rfl rfl ?_
             refine ho_pass rfl rfl rfl rfl ?_
             refine ho_ev rfl rfl rfl (ev_pick_f rfl rfl rfl) ?_
             refine ho_ev rfl rfl rfl (ev_move rfl rfl) ?_
             refine ho_pass rfl rfl rfl rfl ?_
             refine ho_pass rfl rfl rfl rfl ?_
             refine ho_ev rfl rfl rfl (ev_pick_f rfl rfl rfl) ?_
             refine ho_ev rfl rfl rfl (ev_move rfl rfl) ?_
             refine ho_pass rfl rfl rfl rfl ?_
             refine ho_pass rfl rfl rfl rfl ?_
             refine ho_pass rfl rfl rfl rfl ?_
             refine ho_ev rfl rfl rfl (ev_pick_f rfl rfl rfl) ?_
             refine ho_ev rfl rfl rfl (ev_move rfl rfl) ?_
             refine ho_pass rfl rfl rfl rfl ?_
             refine ho_pass rfl rfl rfl rfl ?_
             refine ho_pass rfl rfl rfl rfl ?_
             refine ho_ev rfl rfl rfl (ev_pick_f rfl rfl rfl) ?_
             refine ho_ev rfl rfl rfl (ev_move rfl rfl) ?_
             refine ho_pass rfl rfl rfl rfl ?_
             refine ho_pass rfl rfl rfl rfl ?_
             refine ho_pass rfl rfl rfl rfl ?_
             refine ho_ev rfl rfl rfl (ev_pick_f rfl rfl rfl) ?_
             refine ho_ev rfl rfl rfl (ev_assign rfl rfl) ?_
             refine ho_nil ?_
             refine hx_then ?_
             refine ht_ret ?_
             exact hx_ret1 (.inl rfl) rfl rfl () rfl (Ent.cons (by (repeat constructor); done) Ent.nil)
            )
          )
         ·first | (exfalso; first | omega | (simp at g5; done) | contradiction) | skip
          all_goals (
           refine ho_ev rfl rfl rfl (ev_pick_t rfl rfl rfl) ?_
           refine ho_ev rfl rfl rfl (ev_move rfl rfl) ?_
           refine ho_pass rfl rfl rfl rfl ?_
           refine ho_pass rfl rfl rfl rfl ?_
           refine ho_pass rfl rfl rfl rfl ?_
           refine ho_ev rfl rfl rfl (ev_pick_f rfl rfl rfl) ?_
           refine ho_ev rfl rfl rfl (ev_move rfl rfl) ?_
           refine ho_pass rfl rfl rfl rfl ?_
           refine ho_pass rfl rfl rfl rfl ?_
           refine ho_ev rfl rfl rfl (ev_pick_f rfl rfl rfl) ?_
           refine ho_ev rfl rfl rfl (ev_move rfl rfl) ?_
           refine ho_pass rfl rfl rfl rfl ?_
           refine ho_pass rfl rfl rfl rfl ?_
           refine ho_ev rfl rfl rfl (ev_pick_f rfl rfl rfl) ?_
           refine ho_ev rfl rfl rfl (ev_move rfl rfl) ?_
           refine ho_pass rfl rfl rfl rfl ?_
           refine ho_pass rfl rfl rfl rfl ?_
           refine ho_ev rfl rfl rfl (ev_pick_f rfl rfl rfl) ?_
           refine ho_ev rfl rfl rfl (ev_move rfl rfl) ?_
           refine ho_pass rfl rfl rfl rfl ?_
           refine ho_pass rfl rfl rfl rfl ?_
           refine ho_pass rfl rfl rfl rfl ?_
           refine ho_ev rfl rfl rfl (ev_pick_f rfl rfl rfl) ?_
           refine ho_ev rfl rfl rfl (ev_move rfl rfl) ?_
           refine ho_pass rfl rfl rfl rfl ?_
           refine ho_pass rfl rfl rfl rfl ?_
           refine ho_pass rfl rfl rfl rfl ?_
           refine ho_ev rfl rfl rfl (ev_pick_f rfl rfl rfl) ?_
           refine ho_ev rfl rfl rfl (ev_move rfl rfl) ?_
           refine ho_pass rfl rfl rfl rfl ?_
           refine ho_pass rfl rfl rfl rfl ?_
           refine ho_pass rfl rfl rfl rfl ?_
           refine ho_ev rfl rfl rfl (ev_pick_f rfl rfl rfl) ?_
           refine ho_ev rfl rfl rfl (ev_assign rfl rfl) ?_
           refine ho_nil ?_
           refine hx_then ?_
           refine ht_ret ?_
           exact hx_ret1 (.inl rfl) rfl rfl () rfl (Ent.cons (by (repeat constructor); done) Ent.nil)
          )
        )
       ·first | (exfalso; first | omega | (simp at g4; done) | contradiction) | skip
        all_goals (
         refine ho_ev rfl rfl rfl (ev_move rfl rfl) ?_
         refine ho_pass rfl rfl rfl rfl ?_
         refine ho_pass rfl rfl rfl rfl ?_
         refine ho_ev rfl rfl rfl (ev_pick_f rfl rfl rfl) ?_
         refine ho_ev rfl rfl rfl (ev_move rfl rfl) ?_
         refine ho_pass rfl rfl rfl rfl ?_
         refine ho_pass rfl rfl rfl rfl ?_
         refine ho_pass rfl rfl rfl rfl ?_
         refine ho_ev rfl rfl rfl (ev_pick_f rfl rfl rfl) ?_
         refine ho_ev rfl rfl rfl (ev_move rfl rfl) ?_
         refine ho_pass rfl rfl rfl rfl ?_
         refine ho_pass rfl rfl rfl rfl ?_
         refine ho_ev rfl rfl rfl (ev_pick_f rfl rfl rfl) ?_
         refine ho_ev rfl rfl rfl (ev_move rfl rfl) ?_
         refine ho_pass rfl rfl rfl rfl ?_
         refine ho_pass rfl rfl rfl rfl ?_
         refine ho_ev rfl rfl rfl (ev_pick_f rfl rfl rfl) ?_
         refine ho_ev rfl rfl rfl (ev_move rfl rfl) ?_
         refine ho_pass rfl rfl rfl rfl ?_
         refine ho_pass rfl rfl rfl rfl ?_
         refine ho_ev rfl rfl rfl (ev_pick_f rfl rfl rfl) ?_
         refine ho_ev rfl rfl rfl (ev_move rfl rfl) ?_
         refine ho_pass rfl rfl rfl rfl ?_
         refine ho_pass rfl rfl rfl rfl ?_
         refine ho_pass rfl rfl rfl rfl ?_
         refine ho_ev rfl rfl rfl (ev_pick_f rfl rfl rfl) ?_
         refine ho_ev rfl rfl rfl (ev_move rfl rfl) ?_
         refine ho_pass rfl rfl rfl rfl ?_
         refine ho_pass rfl rfl rfl rfl ?_
         refine ho_pass rfl rfl rfl rfl ?_
         refine ho_ev rfl rfl rfl (ev_pick_f rfl rfl rfl) ?_
         refine ho_ev rfl rfl rfl (ev_move rfl rfl) ?_
         refine ho_pass rfl rfl rfl rfl ?_
         refine ho_pass rfl rfl rfl rfl ?_
         refine ho_pass rfl rfl rfl rfl ?_
         refine ho_ev rfl rfl rfl (ev_pick_f rfl rfl rfl) ?_
         refine ho_ev rfl rfl rfl (ev_assign rfl rfl) ?_
         refine ho_nil ?_
         refine hx_then ?_
         refine ht_ret ?_
         exact hx_ret1 (.inl rfl) rfl rfl () rfl (Ent.cons (by (repeat constructor); done) Ent.nil)
        )
      )
    )
  )
end Go.Proofs.Ytlejcepbcfijiaa
