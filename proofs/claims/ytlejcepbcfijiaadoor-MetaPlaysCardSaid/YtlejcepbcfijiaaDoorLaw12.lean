/-
  LAW 12 (meta): the walks of its functions. Conditions: as each contract says.
-/
import Derived.Test.YtlejcepbcfijiaaDoorMeta
import Derived.Test.YtlejcepbcfijiaaDoorLaw06M
set_option maxRecDepth 100000
set_option linter.unusedVariables false
set_option linter.unusedSimpArgs false
namespace Go.Proofs.YtlejcepbcfijiaaDoor
open Go Go.SL


/-- an act in memory -/
structure ActV where
  kind : Int
  place : Int
  b : List UInt8
  la : Option Addr
  lm : Nat
  lc : Nat
instance : Enc ActV := ⟨4, fun x => [.int .i64 x.kind, .int .i64 x.place, vS x.b, .slice x.la x.lm x.lc], fun _ => rfl, fun x v h => by simp at h; rcases h with rfl | rfl | rfl | rfl <;> rfl, by decide⟩
abbrev ActV.val (x : ActV) : Value := .agg #[.int .i64 x.kind, .int .i64 x.place, vS x.b, .slice x.la x.lm x.lc]
structure ActOk (r : Part) (x : ActV) (m : Dk.MAct) : Prop where mk ::
  kind : m.kind = x.kind
  place : m.place = x.place
  b : m.b = x.b
  lm : x.lm = m.l.length
  lc : x.lm ≤ x.lc
  l : SliceIn r x.la m.l.length m.l
def actR (x : ActV) (m : Dk.MAct) : RoP := ⟨fun r => ActOk r x m, fun h k => ⟨h.kind, h.place, h.b, h.lm, h.lc, h.l.mono k⟩⟩
structure ActsOk (r : Part) (xs : List ActV) (ms : List Dk.MAct) : Prop where mk ::
  len : xs.length = ms.length
  at_ : ∀ (i : Nat) (x : ActV) (m : Dk.MAct), xs[i]? = some x → ms[i]? = some m → ActOk r x m
def actsR (xs : List ActV) (ms : List Dk.MAct) : RoP := ⟨fun r => ActsOk r xs ms, fun h k => ⟨h.len, fun i x m h1 h2 => let a := h.at_ i x m h1 h2; ⟨a.kind, a.place, a.b, a.lm, a.lc, a.l.mono k⟩⟩⟩
section
variable {P : Program} {κ : World} {n : Nat} {L M R R' : List Assn} {ρ : Env} {ops : Array Oper} {l : List Oper} {Q : Exit → Act → World → Prop}
theorem ht_act {c : Code} {x : ActV} {m : Dk.MAct} (k : Pick (ro (actR x m)) L R) (h : m.kind = x.kind → m.place = x.place → m.b = x.b → x.lm = m.l.length → x.lm ≤ x.lc → HT P κ n (ro (roS x.la m.l.length m.l) :: L) ρ c Q) : HT P κ n L ρ c Q := fun a w ha hw => by
  obtain ⟨p, r, h1, h2, h3, h4⟩ := hw.sep
  obtain ⟨p1, p2, k1, k2, k3, hA, hL⟩ := k.sep h4
  have hA : ActOk r x m := hA
  exact h hA.kind hA.place hA.b hA.lm hA.lc a w ha ⟨hw.os, hw.tape, hw.output, p, r, h1, h2, h3, Sep.addRo (φ := roS x.la m.l.length m.l) hA.l h4⟩
theorem ht_actAt {c : Code} {xs : List ActV} {ms : List Dk.MAct} {i : Nat} (hi : i < xs.length) (k : Pick (ro (actsR xs ms)) L R) (h : ∀ x m, xs[i]? = some x → ms[i]? = some m → HT P κ n (ro (actR x m) :: L) ρ c Q) : HT P κ n L ρ c Q := fun a w ha hw => by
  obtain ⟨p, r, h1, h2, h3, h4⟩ := hw.sep
  obtain ⟨p1, p2, k1, k2, k3, hA, hL⟩ := k.sep h4
  have hA : ActsOk r xs ms := hA
  have hi2 : i < ms.length := by rw [← hA.len]; exact hi
  have e1 := List.getElem?_eq_getElem hi
  have e2 := List.getElem?_eq_getElem hi2
  exact h _ _ e1 e2 a w ha ⟨hw.os, hw.tape, hw.output, p, r, h1, h2, h3, Sep.addRo (φ := actR _ _) (hA.at_ i _ _ e1 e2) h4⟩
theorem ht_actsLen {c : Code} {xs : List ActV} {ms : List Dk.MAct} (k : Pick (ro (actsR xs ms)) L R) (h : xs.length = ms.length → HT P κ n L ρ c Q) : HT P κ n L ρ c Q := fun a w ha hw => by
  have : ActsOk _ xs ms := hw.ro k
  exact h this.len a w ha hw
end


def few12 (m : Dk.MAct) : Dk.MAct := ⟨m.kind, m.place, m.b.take 600, m.l.take 20⟩
theorem few12_b (m : Dk.MAct) : (few12 m).b.length ≤ 600 := by simp [few12]; omega
theorem few12_l (m : Dk.MAct) : (few12 m).l.length ≤ 20 := by simp [few12]; omega
theorem aw12_0 : Mt.opened (Dk.Disk.new 9).view 0 = ⟨0, 1, []⟩ := Mt.opened_none rfl rfl
theorem aw12 : ∃ d1 d2 d3 : Dk.Disk, Mt.steps (Dk.Disk.new 9) 0 0 1 [97] 4 = ⟨d1, true, 0, 1, 0⟩ ∧ d1.pend.length = 0 ∧ Mt.steps d1 0 1 0 [98] 4 = ⟨d2, true, 0, 2, 1⟩ ∧ d2.pend.length = 0 ∧ Mt.steps d2 0 2 1 [99] 3 = ⟨d3, false, 0, 2, 1⟩ ∧ d3.pend.length ≤ 1 ∧
    Mt.opened (d3.crash []).view 0 = ⟨2, 1, [98]⟩ ∧ Mt.opened (d3.crash [(0, 500)]).view 0 = ⟨3, 0, [99]⟩ := by
  have f0 : Mt.Fine (Dk.Disk.new 9) 0 := Mt.fine_new (by decide) (by decide) (by decide)
  obtain ⟨d1, r1, f1, o1⟩ : ∃ d1, Mt.steps (Dk.Disk.new 9) 0 0 1 [97] 4 = ⟨d1, true, 0, 1, 0⟩ ∧ Mt.Fine d1 0 ∧ Mt.opened d1.view 0 = ⟨1, 0, [97]⟩ :=
    ⟨_, (Mt.fine_steps (body := [97]) f0 aw12_0 (by decide) (by decide)).2, (Mt.fine_write (body := [97]) f0 aw12_0 (by decide) (by decide)).1, (Mt.fine_write (body := [97]) f0 aw12_0 (by decide) (by decide)).2.1⟩
  obtain ⟨d2, r2, f2, o2⟩ : ∃ d2, Mt.steps d1 0 1 0 [98] 4 = ⟨d2, true, 0, 2, 1⟩ ∧ Mt.Fine d2 0 ∧ Mt.opened d2.view 0 = ⟨2, 1, [98]⟩ :=
    ⟨_, (Mt.fine_steps (body := [98]) f1 o1 (by decide) (by decide)).2, (Mt.fine_write (body := [98]) f1 o1 (by decide) (by decide)).1, (Mt.fine_write (body := [98]) f1 o1 (by decide) (by decide)).2.1⟩
  obtain ⟨d3, r3, c1, c2⟩ : ∃ d3, Mt.steps d2 0 2 1 [99] 3 = ⟨d3, false, 0, 2, 1⟩ ∧ Mt.opened (d3.crash []).view 0 = ⟨2, 1, [98]⟩ ∧ Mt.opened (d3.crash [(0, 500)]).view 0 = ⟨3, 0, [99]⟩ :=
    ⟨_, (Mt.fine_steps (body := [99]) f2 o2 (by decide) (by decide)).1, (Mt.fine_crash (body := [99]) f2 o2 (by decide) (by decide)).1, (Mt.fine_crash (body := [99]) f2 o2 (by decide) (by decide)).2⟩
  have h3 := Mt.steps_pend d2 0 2 1 [99] 3
  rw [r3, f2.pend] at h3
  exact ⟨d1, d2, d3, r1, by rw [f1.pend]; rfl, r2, by rw [f2.pend]; rfl, r3, h3, c1, c2⟩


theorem five {a b : Prop} {x : Bool} {e : Int} {n : Nat} (h : (x = false ∧ a) ∨ (e = 0 ∧ b)) : (x = false ∧ a ∧ n = 0) ∨ (x = false ∧ a ∧ ¬ n = 0) ∨ (x = false ∧ e = 0 ∧ b ∧ n = 0) ∨ (x = false ∧ e = 0 ∧ b ∧ ¬ n = 0) ∨ (x = true ∧ e = 0 ∧ b) := by
  by_cases hn : n = 0 <;> cases x <;> simp_all

theorem law_few12 (x : ActV) (m : Dk.MAct) : Ctr Tryd.prog 11 #[x.val] [ro (actR x m)] (fun y : ActV => y.val) (fun y => [ro (actR y (few12 m))]) := by
 refine fn_intro Tryd.func11 rfl rfl Tryd.ntmps11 (Nat.le_of_ble_eq_true rfl) (fun _ => by repeat (first | exact App.nil | apply App.cons)) (fun κ F => ?_)
 refine ht_act (by (with_reducible repeat constructor); done) (fun hk hp hb hlm hlc => ?_)
 obtain ⟨xk, xp, xb, xla, xlm, xlc⟩ := x
 obtain ⟨mk, mp, mb, ml⟩ := m
 dsimp only [ActV.val, envOf] at hk hp hb hlm hlc ⊢
 subst hk hp hb hlm
 refine ht_seq ?_
 refine ht_region ?_
 refine ho_eff rfl rfl rfl (eff_boxA rfl rfl) (fun b1 => ?_)
 refine ho_eff rfl rfl rfl (eff_alloc rfl Tryd.ty33 (by first | exact cells_agg _ | exact rfl)) (fun b2 => ?_)
 refine ho_nil ?_
 refine hx_then ?_
 refine ht_seq ?_
 refine ht_seq ?_
 refine ht_region ?_
 refine ho_ev rfl rfl rfl (by first | exact ev_fieldAddr0 rfl Tryd.fld33_2 rfl | exact ev_fieldAddr rfl Tryd.fld33_2 rfl) ?_
 refine ho_ev rfl rfl rfl (ev_load rfl Tryd.underlying9 rfl rfl (by first | exact cell_pt (by (with_reducible repeat constructor); done) rfl | exact cell_ro (by (with_reducible repeat constructor); done) rfl)) ?_
 refine ho_ev rfl rfl rfl (ev_lenS rfl Tryd.underlying9 rfl) ?_
 refine ho_gt rfl rfl rfl rfl rfl rfl (fun g1 => ?_) (fun g1 => ?_)
 ·skip
  refine ho_nil ?_
  refine hx_then ?_
  refine ht_then rfl ?_
  refine ht_region ?_
  refine ho_ev rfl rfl rfl (by first | exact ev_fieldAddr0 rfl Tryd.fld33_2 rfl | exact ev_fieldAddr rfl Tryd.fld33_2 rfl) ?_
  refine ho_ev rfl rfl rfl (ev_load rfl Tryd.underlying9 rfl rfl (by first | exact cell_pt (by (with_reducible repeat constructor); done) rfl | exact cell_ro (by (with_reducible repeat constructor); done) rfl)) ?_
  refine ho_ev rfl rfl rfl (ev_sliceS (j := 600) rfl Tryd.underlying9 rfl rfl ⟨_, rfl⟩ (by omega) (by omega)) ?_
  refine ho_ev rfl rfl rfl (by first | exact ev_fieldAddr0 rfl Tryd.fld33_2 rfl | exact ev_fieldAddr rfl Tryd.fld33_2 rfl) ?_
  refine ho_eff0 rfl rfl (eff_store1 rfl Tryd.ty9 rfl rfl (by (with_reducible repeat constructor); done) rfl rfl (lt_of_blt rfl) (by simp only [List.setIfInBounds_toArray, List.set_cons_zero, List.set_cons_succ]; rfl)) (fun _ => ?_)
  refine ho_nil ?_
  refine hx_then ?_
  refine ht_seq ?_
  refine ht_seq ?_
  refine ht_region ?_
  refine ho_ev rfl rfl rfl (by first | exact ev_fieldAddr0 rfl Tryd.fld33_3 rfl | exact ev_fieldAddr rfl Tryd.fld33_3 rfl) ?_
  refine ho_ev rfl rfl rfl (ev_load rfl Tryd.underlying31 rfl rfl (by first | exact cell_pt (by (with_reducible repeat constructor); done) rfl | exact cell_ro (by (with_reducible repeat constructor); done) rfl)) ?_
  refine ho_ev rfl rfl rfl (ev_lenSl rfl Tryd.underlying31 rfl) ?_
  refine ho_gt rfl rfl rfl rfl rfl rfl (fun g2 => ?_) (fun g2 => ?_)
  ·skip
   refine ho_nil ?_
   refine hx_then ?_
   refine ht_then rfl ?_
   refine ht_region ?_
   refine ho_ev rfl rfl rfl (by first | exact ev_fieldAddr0 rfl Tryd.fld33_3 rfl | exact ev_fieldAddr rfl Tryd.fld33_3 rfl) ?_
   refine ho_ev rfl rfl rfl (ev_load rfl Tryd.underlying31 rfl rfl (by first | exact cell_pt (by (with_reducible repeat constructor); done) rfl | exact cell_ro (by (with_reducible repeat constructor); done) rfl)) ?_
   refine ho_eff rfl rfl rfl (eff_slice (α := (Int × Int)) (j := 20) rfl Tryd.underlying31 Tryd.ty81 rfl (by (with_reducible repeat constructor); done) rfl ⟨_, rfl⟩ rfl (by decide) (by omega) (by omega) (by omega) (by omega)) (fun a17 => ?_)
   refine ho_ev rfl rfl rfl (by first | exact ev_fieldAddr0 rfl Tryd.fld33_3 rfl | exact ev_fieldAddr rfl Tryd.fld33_3 rfl) ?_
   refine ho_eff0 rfl rfl (eff_store1 rfl Tryd.ty31 rfl rfl (by (with_reducible repeat constructor); done) rfl rfl (lt_of_blt rfl) (by simp only [List.setIfInBounds_toArray, List.set_cons_zero, List.set_cons_succ]; rfl)) (fun _ => ?_)
   refine ho_nil ?_
   refine hx_then ?_
   refine ht_seq ?_
   refine ht_region ?_
   refine ho_ev rfl rfl rfl (ev_loadA rfl Tryd.underlying33 Tryd.ty33 rfl rfl (by first | exact cells_pt (by (with_reducible repeat constructor); done) (Nat.le_of_ble_eq_true rfl) (by simp only [List.extract_toArray, List.extract_eq_take_drop, Nat.zero_add, Nat.sub_zero, Nat.add_sub_cancel_left, List.drop_zero, List.take_succ_cons, List.take_zero, List.drop_succ_cons] <;> rfl) | exact cells_ro (by (with_reducible repeat constructor); done) (Nat.le_of_ble_eq_true rfl) (by simp only [List.extract_toArray, List.extract_eq_take_drop, Nat.zero_add, Nat.sub_zero, Nat.add_sub_cancel_left, List.drop_zero, List.take_succ_cons, List.take_zero, List.drop_succ_cons] <;> rfl))) ?_
   refine ho_eff0 rfl rfl (eff_storeA rfl Tryd.ty33 rfl rfl (by (with_reducible repeat constructor); done) rfl rfl rfl (by simp only [setRange, List.setIfInBounds_toArray, List.set_cons_zero, List.set_cons_succ, Nat.zero_add]; rfl)) (fun _ => ?_)
   refine ho_nil ?_
   refine hx_then ?_
   refine ht_ret ?_
   refine hx_ret1A (.inl rfl) rfl rfl Tryd.underlying33 Tryd.ty33 rfl (cells_pt (by (with_reducible repeat constructor); done) (Nat.le_of_ble_eq_true rfl) rfl) (⟨mk, mp, _, _, _, _⟩ : ActV) rfl ?_
   first
    | refine Ent.roWeak (φ := roS (α := Int × Int) _ ((ml.take 20).drop 0).length ((ml.take 20).drop 0)) (by (with_reducible repeat constructor); done) (fun r h => ⟨rfl, rfl, ?_, ?_, ?_, ?_⟩) (Ent.cons (by (repeat constructor); done) Ent.nil)
    | refine Ent.roWeak (φ := roS (α := Int × Int) _ ml.length ml) (by (with_reducible repeat constructor); done) (fun r h => ⟨rfl, rfl, ?_, ?_, ?_, ?_⟩) (Ent.cons (by (repeat constructor); done) Ent.nil)
   ·simp only [few12] <;> first | rfl | (rw [List.take_of_length_le (by omega)])
   ·simp only [few12] <;> first | rfl | (rw [List.take_of_length_le (by omega)])
   ·first | (simp; omega) | omega
   ·simp only [few12] <;> first | exact h | (rw [List.take_of_length_le (by omega)]; exact h)
  ·skip
   refine ho_nil ?_
   refine hx_then ?_
   refine ht_else rfl ?_
   refine ht_skip ?_
   refine hx_then ?_
   refine ht_seq ?_
   refine ht_region ?_
   refine ho_ev rfl rfl rfl (ev_loadA rfl Tryd.underlying33 Tryd.ty33 rfl rfl (by first | exact cells_pt (by (with_reducible repeat constructor); done) (Nat.le_of_ble_eq_true rfl) (by simp only [List.extract_toArray, List.extract_eq_take_drop, Nat.zero_add, Nat.sub_zero, Nat.add_sub_cancel_left, List.drop_zero, List.take_succ_cons, List.take_zero, List.drop_succ_cons] <;> rfl) | exact cells_ro (by (with_reducible repeat constructor); done) (Nat.le_of_ble_eq_true rfl) (by simp only [List.extract_toArray, List.extract_eq_take_drop, Nat.zero_add, Nat.sub_zero, Nat.add_sub_cancel_left, List.drop_zero, List.take_succ_cons, List.take_zero, List.drop_succ_cons] <;> rfl))) ?_
   refine ho_eff0 rfl rfl (eff_storeA rfl Tryd.ty33 rfl rfl (by (with_reducible repeat constructor); done) rfl rfl rfl (by simp only [setRange, List.setIfInBounds_toArray, List.set_cons_zero, List.set_cons_succ, Nat.zero_add]; rfl)) (fun _ => ?_)
   refine ho_nil ?_
   refine hx_then ?_
   refine ht_ret ?_
   refine hx_ret1A (.inl rfl) rfl rfl Tryd.underlying33 Tryd.ty33 rfl (cells_pt (by (with_reducible repeat constructor); done) (Nat.le_of_ble_eq_true rfl) rfl) (⟨mk, mp, _, _, _, _⟩ : ActV) rfl ?_
   first
    | refine Ent.roWeak (φ := roS (α := Int × Int) _ ((ml.take 20).drop 0).length ((ml.take 20).drop 0)) (by (with_reducible repeat constructor); done) (fun r h => ⟨rfl, rfl, ?_, ?_, ?_, ?_⟩) (Ent.cons (by (repeat constructor); done) Ent.nil)
    | refine Ent.roWeak (φ := roS (α := Int × Int) _ ml.length ml) (by (with_reducible repeat constructor); done) (fun r h => ⟨rfl, rfl, ?_, ?_, ?_, ?_⟩) (Ent.cons (by (repeat constructor); done) Ent.nil)
   ·simp only [few12] <;> first | rfl | (rw [List.take_of_length_le (by omega)])
   ·simp only [few12] <;> first | rfl | (rw [List.take_of_length_le (by omega)])
   ·first | (simp; omega) | omega
   ·simp only [few12] <;> first | exact h | (rw [List.take_of_length_le (by omega)]; exact h)
 ·skip
  refine ho_nil ?_
  refine hx_then ?_
  refine ht_else rfl ?_
  refine ht_skip ?_
  refine hx_then ?_
  refine ht_seq ?_
  refine ht_seq ?_
  refine ht_region ?_
  refine ho_ev rfl rfl rfl (by first | exact ev_fieldAddr0 rfl Tryd.fld33_3 rfl | exact ev_fieldAddr rfl Tryd.fld33_3 rfl) ?_
  refine ho_ev rfl rfl rfl (ev_load rfl Tryd.underlying31 rfl rfl (by first | exact cell_pt (by (with_reducible repeat constructor); done) rfl | exact cell_ro (by (with_reducible repeat constructor); done) rfl)) ?_
  refine ho_ev rfl rfl rfl (ev_lenSl rfl Tryd.underlying31 rfl) ?_
  refine ho_gt rfl rfl rfl rfl rfl rfl (fun g3 => ?_) (fun g3 => ?_)
  ·skip
   refine ho_nil ?_
   refine hx_then ?_
   refine ht_then rfl ?_
   refine ht_region ?_
   refine ho_ev rfl rfl rfl (by first | exact ev_fieldAddr0 rfl Tryd.fld33_3 rfl | exact ev_fieldAddr rfl Tryd.fld33_3 rfl) ?_
   refine ho_ev rfl rfl rfl (ev_load rfl Tryd.underlying31 rfl rfl (by first | exact cell_pt (by (with_reducible repeat constructor); done) rfl | exact cell_ro (by (with_reducible repeat constructor); done) rfl)) ?_
   refine ho_eff rfl rfl rfl (eff_slice (α := (Int × Int)) (j := 20) rfl Tryd.underlying31 Tryd.ty81 rfl (by (with_reducible repeat constructor); done) rfl ⟨_, rfl⟩ rfl (by decide) (by omega) (by omega) (by omega) (by omega)) (fun a17 => ?_)
   refine ho_ev rfl rfl rfl (by first | exact ev_fieldAddr0 rfl Tryd.fld33_3 rfl | exact ev_fieldAddr rfl Tryd.fld33_3 rfl) ?_
   refine ho_eff0 rfl rfl (eff_store1 rfl Tryd.ty31 rfl rfl (by (with_reducible repeat constructor); done) rfl rfl (lt_of_blt rfl) (by simp only [List.setIfInBounds_toArray, List.set_cons_zero, List.set_cons_succ]; rfl)) (fun _ => ?_)
   refine ho_nil ?_
   refine hx_then ?_
   refine ht_seq ?_
   refine ht_region ?_
   refine ho_ev rfl rfl rfl (ev_loadA rfl Tryd.underlying33 Tryd.ty33 rfl rfl (by first | exact cells_pt (by (with_reducible repeat constructor); done) (Nat.le_of_ble_eq_true rfl) (by simp only [List.extract_toArray, List.extract_eq_take_drop, Nat.zero_add, Nat.sub_zero, Nat.add_sub_cancel_left, List.drop_zero, List.take_succ_cons, List.take_zero, List.drop_succ_cons] <;> rfl) | exact cells_ro (by (with_reducible repeat constructor); done) (Nat.le_of_ble_eq_true rfl) (by simp only [List.extract_toArray, List.extract_eq_take_drop, Nat.zero_add, Nat.sub_zero, Nat.add_sub_cancel_left, List.drop_zero, List.take_succ_cons, List.take_zero, List.drop_succ_cons] <;> rfl))) ?_
   refine ho_eff0 rfl rfl (eff_storeA rfl Tryd.ty33 rfl rfl (by (with_reducible repeat constructor); done) rfl rfl rfl (by simp only [setRange, List.setIfInBounds_toArray, List.set_cons_zero, List.set_cons_succ, Nat.zero_add]; rfl)) (fun _ => ?_)
   refine ho_nil ?_
   refine hx_then ?_
   refine ht_ret ?_
   refine hx_ret1A (.inl rfl) rfl rfl Tryd.underlying33 Tryd.ty33 rfl (cells_pt (by (with_reducible repeat constructor); done) (Nat.le_of_ble_eq_true rfl) rfl) (⟨mk, mp, _, _, _, _⟩ : ActV) rfl ?_
   first
    | refine Ent.roWeak (φ := roS (α := Int × Int) _ ((ml.take 20).drop 0).length ((ml.take 20).drop 0)) (by (with_reducible repeat constructor); done) (fun r h => ⟨rfl, rfl, ?_, ?_, ?_, ?_⟩) (Ent.cons (by (repeat constructor); done) Ent.nil)
    | refine Ent.roWeak (φ := roS (α := Int × Int) _ ml.length ml) (by (with_reducible repeat constructor); done) (fun r h => ⟨rfl, rfl, ?_, ?_, ?_, ?_⟩) (Ent.cons (by (repeat constructor); done) Ent.nil)
   ·simp only [few12] <;> first | rfl | (rw [List.take_of_length_le (by omega)])
   ·simp only [few12] <;> first | rfl | (rw [List.take_of_length_le (by omega)])
   ·first | (simp; omega) | omega
   ·simp only [few12] <;> first | exact h | (rw [List.take_of_length_le (by omega)]; exact h)
  ·skip
   refine ho_nil ?_
   refine hx_then ?_
   refine ht_else rfl ?_
   refine ht_skip ?_
   refine hx_then ?_
   refine ht_seq ?_
   refine ht_region ?_
   refine ho_ev rfl rfl rfl (ev_loadA rfl Tryd.underlying33 Tryd.ty33 rfl rfl (by first | exact cells_pt (by (with_reducible repeat constructor); done) (Nat.le_of_ble_eq_true rfl) (by simp only [List.extract_toArray, List.extract_eq_take_drop, Nat.zero_add, Nat.sub_zero, Nat.add_sub_cancel_left, List.drop_zero, List.take_succ_cons, List.take_zero, List.drop_succ_cons] <;> rfl) | exact cells_ro (by (with_reducible repeat constructor); done) (Nat.le_of_ble_eq_true rfl) (by simp only [List.extract_toArray, List.extract_eq_take_drop, Nat.zero_add, Nat.sub_zero, Nat.add_sub_cancel_left, List.drop_zero, List.take_succ_cons, List.take_zero, List.drop_succ_cons] <;> rfl))) ?_
   refine ho_eff0 rfl rfl (eff_storeA rfl Tryd.ty33 rfl rfl (by (with_reducible repeat constructor); done) rfl rfl rfl (by simp only [setRange, List.setIfInBounds_toArray, List.set_cons_zero, List.set_cons_succ, Nat.zero_add]; rfl)) (fun _ => ?_)
   refine ho_nil ?_
   refine hx_then ?_
   refine ht_ret ?_
   refine hx_ret1A (.inl rfl) rfl rfl Tryd.underlying33 Tryd.ty33 rfl (cells_pt (by (with_reducible repeat constructor); done) (Nat.le_of_ble_eq_true rfl) rfl) (⟨mk, mp, _, _, _, _⟩ : ActV) rfl ?_
   first
    | refine Ent.roWeak (φ := roS (α := Int × Int) _ ((ml.take 20).drop 0).length ((ml.take 20).drop 0)) (by (with_reducible repeat constructor); done) (fun r h => ⟨rfl, rfl, ?_, ?_, ?_, ?_⟩) (Ent.cons (by (repeat constructor); done) Ent.nil)
    | refine Ent.roWeak (φ := roS (α := Int × Int) _ ml.length ml) (by (with_reducible repeat constructor); done) (fun r h => ⟨rfl, rfl, ?_, ?_, ?_, ?_⟩) (Ent.cons (by (repeat constructor); done) Ent.nil)
   ·simp only [few12] <;> first | rfl | (rw [List.take_of_length_le (by omega)])
   ·simp only [few12] <;> first | rfl | (rw [List.take_of_length_le (by omega)])
   ·first | (simp; omega) | omega
   ·simp only [few12] <;> first | exact h | (rw [List.take_of_length_le (by omega)]; exact h)
theorem meta_Write (mb p : Nat) (d : Dk.Disk) (k : Int) (number last : Nat) (body : List UInt8) (hk : 0 ≤ k ∧ k ≤ 65534) (hl : last = 0 ∨ last = 1) (hn : number + 1 < 18446744073709551616) (hp : d.pend.length < 900) : Ctr Tryd.prog 14 #[.pointer (some ⟨mb, 0, none⟩), vS body] [DiskAt p d, pt mb (.cells #[.pointer (some ⟨p, 0, none⟩), .int .i64 k, .int .u64 ((number : Nat) : Int), .int .i64 ((last : Nat) : Int)] 83 (0, 0)), ro bitsR] (fun _ : Unit => .int .i64 (Mt.steps d k number last body 4).err) (fun _ => [DiskAt p (Mt.steps d k number last body 4).d, pt mb (.cells #[.pointer (some ⟨p, 0, none⟩), .int .i64 k, .int .u64 (((Mt.steps d k number last body 4).number : Nat) : Int), .int .i64 (((Mt.steps d k number last body 4).last : Nat) : Int)] 83 (0, 0))]) := by
 refine fn_intro Tryd.func14 rfl rfl Tryd.ntmps14 (Nat.le_of_ble_eq_true rfl) (fun _ => by repeat (first | exact App.nil | apply App.cons)) (fun κ F => ?_)
 refine ht_seq ?_
 refine ht_region ?_
 refine ho_ev rfl rfl rfl (ev_assign rfl rfl) ?_
 refine ho_nil ?_
 refine hx_then ?_
 refine ht_seq ?_
 refine ht_region ?_
 refine ho_ev rfl rfl rfl (ev_move rfl rfl) ?_
 refine ho_ev rfl rfl rfl (ev_move rfl rfl) ?_
 refine ho_eff rfl rfl rfl (eff_call rfl rfl (.cons rfl (.cons rfl (.cons rfl .nil))) rfl (meta_Steps mb p d k number last body 4 hk hl hn hp) (by repeat (first | exact Picks.nil | (apply Picks.ro; focus ((with_reducible repeat constructor); done)) | (apply Picks.cons; focus ((with_reducible repeat constructor); done)))) (fun _ => by repeat (first | exact App.nil | apply App.cons))) (fun _ => ?_)
 refine ho_ev rfl rfl rfl (ev_move rfl rfl) ?_
 refine ho_ev rfl rfl rfl (ev_extract rfl rfl rfl) ?_
 refine ho_ev rfl rfl rfl (ev_extract rfl rfl rfl) ?_
 refine ho_ev rfl rfl rfl (ev_assign rfl rfl) ?_
 refine ho_ev rfl rfl rfl (ev_assign rfl rfl) ?_
 refine ho_nil ?_
 refine hx_then ?_
 refine ht_seq ?_
 refine ht_region ?_
 refine ho_ev rfl rfl rfl (ev_move rfl rfl) ?_
 refine ho_ev rfl rfl rfl (ev_assign rfl rfl) ?_
 refine ho_nil ?_
 refine hx_then ?_
 refine ht_ret ?_
 exact hx_ret1 (.inl rfl) rfl rfl () rfl (Ent.cons (by (repeat constructor); done) (Ent.cons (by (repeat constructor); done) (Ent.cons (by (repeat constructor); done) Ent.nil)))
theorem meta_Number (mb p : Nat) (k : Int) (number last : Nat) : Ctr Tryd.prog 15 #[.pointer (some ⟨mb, 0, none⟩)] [pt mb (.cells #[.pointer (some ⟨p, 0, none⟩), .int .i64 k, .int .u64 ((number : Nat) : Int), .int .i64 ((last : Nat) : Int)] 83 (0, 0))] (fun _ : Unit => .int .u64 ((number : Nat) : Int)) (fun _ => [pt mb (.cells #[.pointer (some ⟨p, 0, none⟩), .int .i64 k, .int .u64 ((number : Nat) : Int), .int .i64 ((last : Nat) : Int)] 83 (0, 0))]) := by
 refine fn_intro Tryd.func15 rfl rfl Tryd.ntmps15 (Nat.le_of_ble_eq_true rfl) (fun _ => by repeat (first | exact App.nil | apply App.cons)) (fun κ F => ?_)
 refine ht_seq ?_
 refine ht_region ?_
 refine ho_ev rfl rfl rfl (ev_assign rfl rfl) ?_
 refine ho_nil ?_
 refine hx_then ?_
 refine ht_seq ?_
 refine ht_region ?_
 refine ho_ev rfl rfl rfl (ev_move rfl rfl) ?_
 refine ho_ev rfl rfl rfl (ev_nilCheck rfl rfl) ?_
 refine ho_ev rfl rfl rfl (by first | exact ev_fieldAddr0 rfl Tryd.fld83_2 rfl | exact ev_fieldAddr rfl Tryd.fld83_2 rfl) ?_
 refine ho_ev rfl rfl rfl (ev_load rfl Tryd.underlying41 rfl rfl (by first | exact cell_pt (by (with_reducible repeat constructor); done) rfl | exact cell_ro (by (with_reducible repeat constructor); done) rfl)) ?_
 refine ho_ev rfl rfl rfl (ev_assign rfl rfl) ?_
 refine ho_nil ?_
 refine hx_then ?_
 refine ht_ret ?_
 exact hx_ret1 (.inl rfl) rfl rfl () rfl (Ent.cons (by (repeat constructor); done) (Ent.cons (by (repeat constructor); done) Ent.nil))
theorem law_awake12 : Ctr Tryd.prog 9 #[] [ro bitsR] (fun _ : Unit => .bool true) (fun _ => []) := by
 refine fn_intro Tryd.func9 rfl rfl Tryd.ntmps9 (Nat.le_of_ble_eq_true rfl) (fun _ => by repeat (first | exact App.nil | apply App.cons)) (fun κ F => ?_)
 obtain ⟨d1, d2, d3, hR1, hp1, hR2, hp2, hR3, hp3, hoA, hoB⟩ := aw12
 refine ht_seq ?_
 refine ht_region ?_
 refine ho_ev rfl rfl rfl (ev_assign rfl rfl) ?_
 refine ho_nil ?_
 refine hx_then ?_
 refine ht_seq ?_
 refine ht_region ?_
 refine ho_eff rfl rfl rfl (eff_call rfl rfl (.cons rfl .nil) rfl (disk_New 9 (by omega)) (by repeat (first | exact Picks.nil | (apply Picks.ro; focus ((repeat constructor); done)) | (apply Picks.cons; focus ((repeat constructor); done)))) (fun _ => by repeat (first | exact App.nil | apply App.cons))) (fun b0 => ?_)
 refine ho_ev rfl rfl rfl (ev_move rfl rfl) ?_
 refine ho_ev rfl rfl rfl (ev_extract rfl rfl rfl) ?_
 refine ho_ev rfl rfl rfl (ev_extract rfl rfl rfl) ?_
 refine ho_ev rfl rfl rfl (ev_assign rfl rfl) ?_
 refine ho_ev rfl rfl rfl (ev_assign rfl rfl) ?_
 refine ho_nil ?_
 refine hx_then ?_
 refine ht_seq ?_
 refine ht_seq ?_
 refine ht_region ?_
 refine ho_ev rfl rfl rfl (ev_move rfl rfl) ?_
 refine ho_ne rfl rfl rfl rfl rfl rfl (fun g1 => ?_) (fun g1 => ?_)
 ·omega
 ·skip
  refine ho_ev rfl rfl rfl (ev_move rfl rfl) ?_
  refine ho_evg rfl rfl rfl rfl (ev_move rfl rfl) ?_
  refine ho_evg rfl rfl rfl rfl (ev_ptrNil rfl Tryd.underlying23 rfl rfl rfl) ?_
  refine ho_ev rfl rfl rfl (ev_pick_f rfl rfl rfl) ?_
  refine ho_nil ?_
  refine hx_then ?_
  refine ht_bool (t := 24) rfl (fun g2 => ?_) (fun g2 => ?_)
  ·simp at g2
  ·skip
   refine ht_else rfl ?_
   refine ht_skip ?_
   refine hx_then ?_
   refine ht_seq ?_
   refine ht_region ?_
   refine ho_ev rfl rfl rfl (ev_move rfl rfl) ?_
   refine ho_eff rfl rfl rfl (eff_call rfl rfl (.cons rfl (.cons rfl .nil)) rfl (meta_Open b0 (Dk.Disk.new 9) 0 (by omega)) (by repeat (first | exact Picks.nil | (apply Picks.ro; focus ((repeat constructor); done)) | (apply Picks.cons; focus ((repeat constructor); done)))) (fun _ => by repeat (first | exact App.nil | apply App.cons))) (fun m0 => ?_)
   rw [aw12_0]
   dsimp only
   rw [if_pos rfl]
   refine ho_ev rfl rfl rfl (ev_move rfl rfl) ?_
   refine ho_ev rfl rfl rfl (ev_extract rfl rfl rfl) ?_
   refine ho_ev rfl rfl rfl (ev_extract rfl rfl rfl) ?_
   refine ho_ev rfl rfl rfl (ev_extract rfl rfl rfl) ?_
   refine ho_ev rfl rfl rfl (ev_assign rfl rfl) ?_
   refine ho_ev rfl rfl rfl (ev_assign rfl rfl) ?_
   refine ho_ev rfl rfl rfl (ev_assign rfl rfl) ?_
   refine ho_nil ?_
   refine hx_then ?_
   refine ht_seq ?_
   refine ht_seq ?_
   refine ht_region ?_
   refine ho_ev rfl rfl rfl (ev_move rfl rfl) ?_
   refine ho_ev rfl rfl rfl (ev_ptrNil rfl Tryd.underlying28 rfl rfl rfl) ?_
   refine ho_ev rfl rfl rfl (ev_move rfl rfl) ?_
   refine ho_bool (t := 33) rfl (fun g3 => ?_) (fun g3 => ?_)
   ·simp at g3
   ·skip
    refine ho_evg rfl rfl rfl rfl (ev_move rfl rfl) ?_
    refine ho_neg rfl rfl rfl rfl rfl rfl rfl (fun g4 => ?_) (fun g4 => ?_)
    ·omega
    ·skip
     refine ho_ev rfl rfl rfl (ev_pick_f rfl rfl rfl) ?_
     refine ho_ev rfl rfl rfl (ev_move rfl rfl) ?_
     refine ho_evg rfl rfl rfl rfl (ev_move rfl rfl) ?_
     refine ho_effg rfl rfl rfl rfl (eff_call rfl rfl (.cons rfl (.cons rfl .nil)) rfl (meta_Write m0 b0 (Dk.Disk.new 9) 0 0 1 [97] (by decide) (by decide) (by decide) (by decide)) (by repeat (first | exact Picks.nil | (apply Picks.ro; focus ((repeat constructor); done)) | (apply Picks.cons; focus ((repeat constructor); done)))) (fun _ => by repeat (first | exact App.nil | apply App.cons))) (fun _ => ?_)
     rw [hR1]
     dsimp only
     refine ho_neg rfl rfl rfl rfl rfl rfl rfl (fun g5 => ?_) (fun g5 => ?_)
     ·omega
     ·skip
      refine ho_ev rfl rfl rfl (ev_pick_f rfl rfl rfl) ?_
      refine ho_ev rfl rfl rfl (ev_move rfl rfl) ?_
      refine ho_evg rfl rfl rfl rfl (ev_move rfl rfl) ?_
      refine ho_effg rfl rfl rfl rfl (eff_call rfl rfl (.cons rfl (.cons rfl .nil)) rfl (meta_Write m0 b0 d1 0 1 0 [98] (by decide) (by decide) (by decide) (by omega)) (by repeat (first | exact Picks.nil | (apply Picks.ro; focus ((repeat constructor); done)) | (apply Picks.cons; focus ((repeat constructor); done)))) (fun _ => by repeat (first | exact App.nil | apply App.cons))) (fun _ => ?_)
      rw [hR2]
      dsimp only
      refine ho_neg rfl rfl rfl rfl rfl rfl rfl (fun g6 => ?_) (fun g6 => ?_)
      ·omega
      ·skip
       refine ho_ev rfl rfl rfl (ev_pick_f rfl rfl rfl) ?_
       refine ho_nil ?_
       refine hx_then ?_
       refine ht_else rfl ?_
       refine ht_skip ?_
       refine hx_then ?_
       refine ht_seq ?_
       refine ht_region ?_
       refine ho_ev rfl rfl rfl (ev_move rfl rfl) ?_
       refine ho_eff rfl rfl rfl (eff_call rfl rfl (.cons rfl (.cons rfl (.cons rfl .nil))) rfl (meta_Steps m0 b0 d2 0 2 1 [99] 3 (by decide) (by decide) (by decide) (by omega)) (by repeat (first | exact Picks.nil | (apply Picks.ro; focus ((repeat constructor); done)) | (apply Picks.cons; focus ((repeat constructor); done)))) (fun _ => by repeat (first | exact App.nil | apply App.cons))) (fun _ => ?_)
       rw [hR3]
       dsimp only
       refine ho_ev rfl rfl rfl (ev_move rfl rfl) ?_
       refine ho_ev rfl rfl rfl (ev_extract rfl rfl rfl) ?_
       refine ho_ev rfl rfl rfl (ev_extract rfl rfl rfl) ?_
       refine ho_ev rfl rfl rfl (ev_assign rfl rfl) ?_
       refine ho_ev rfl rfl rfl (ev_assign rfl rfl) ?_
       refine ho_nil ?_
       refine hx_then ?_
       refine ht_seq ?_
       refine ht_region ?_
       refine ho_ev rfl rfl rfl (ev_move rfl rfl) ?_
       refine ho_eff rfl rfl rfl (eff_call rfl rfl (.cons rfl .nil) rfl (disk_Copy b0 d3 (by omega)) (by repeat (first | exact Picks.nil | (apply Picks.ro; focus ((repeat constructor); done)) | (apply Picks.cons; focus ((repeat constructor); done)))) (fun _ => by repeat (first | exact App.nil | apply App.cons))) (fun cq => ?_)
       refine ho_ev rfl rfl rfl (ev_assign rfl rfl) ?_
       refine ho_nil ?_
       refine hx_then ?_
       refine ht_seq ?_
       refine ht_seq ?_
       refine ht_region ?_
       refine ho_ev rfl rfl rfl (ev_move rfl rfl) ?_
       refine ho_ev rfl rfl rfl (ev_ptrNil rfl Tryd.underlying23 rfl rfl rfl) ?_
       refine ho_ev rfl rfl rfl (ev_move rfl rfl) ?_
       refine ho_bool (t := 56) rfl (fun g7 => ?_) (fun g7 => ?_)
       ·simp at g7
       ·skip
        refine ho_evg rfl rfl rfl rfl (ev_move rfl rfl) ?_
        refine ho_ev rfl rfl rfl (ev_pick_f rfl rfl rfl) ?_
        refine ho_ev rfl rfl rfl (ev_move rfl rfl) ?_
        refine ho_bool (t := 59) rfl (fun g8 => ?_) (fun g8 => ?_)
        ·simp at g8
        ·skip
         refine ho_evg rfl rfl rfl rfl (ev_move rfl rfl) ?_
         refine ho_neg rfl rfl rfl rfl rfl rfl rfl (fun g9 => ?_) (fun g9 => ?_)
         ·omega
         ·skip
          refine ho_ev rfl rfl rfl (ev_pick_f rfl rfl rfl) ?_
          refine ho_nil ?_
          refine hx_then ?_
          refine ht_else rfl ?_
          refine ht_skip ?_
          refine hx_then ?_
          refine ht_seq ?_
          refine ht_region ?_
          refine ho_ev rfl rfl rfl (ev_move rfl rfl) ?_
          refine ho_ent (Ent.roTrue (ψ := roS (α := Int × Int) none 0 []) (fun r => SliceIn.empty _ _) (Ent.refl _)) ?_
          refine ho_eff rfl rfl rfl (eff_call rfl rfl (.cons rfl (.cons rfl .nil)) rfl (disk_Crash b0 d3 none 0 [] (by decide) (by omega)) (by repeat (first | exact Picks.nil | (apply Picks.ro; focus ((repeat constructor); done)) | (apply Picks.cons; focus ((repeat constructor); done)))) (fun _ => by repeat (first | exact App.nil | apply App.cons))) (fun _ => ?_)
          refine ho_nil ?_
          refine hx_then ?_
          refine ht_seq ?_
          refine ht_region ?_
          refine ho_ev rfl rfl rfl (ev_move rfl rfl) ?_
          refine ho_ev rfl rfl rfl (ev_build1 (csl := [_, _]) rfl Tryd.st81 (.cons rfl (.cons rfl .nil)) (.cons rfl (.cons rfl .nil)) rfl rfl) ?_
          refine ho_eff rfl rfl rfl (eff_buildAll (α := (Int × Int)) [((0 : Int), (500 : Int))] rfl Tryd.underlying31 Tryd.ty81 (.cons rfl .nil) (.cons rfl .nil) rfl (Nat.le_of_ble_eq_true rfl)) (fun b67 => ?_)
          refine ho_freezeS (α := Int × Int) (by (with_reducible repeat constructor); done) ?_
          refine ho_eff rfl rfl rfl (eff_call rfl rfl (.cons rfl (.cons rfl .nil)) rfl (disk_Crash cq d3 _ _ [(0, 500)] (by decide) (by omega)) (by repeat (first | exact Picks.nil | (apply Picks.ro; focus ((repeat constructor); done)) | (apply Picks.cons; focus ((repeat constructor); done)))) (fun _ => by repeat (first | exact App.nil | apply App.cons))) (fun _ => ?_)
          refine ho_nil ?_
          refine hx_then ?_
          refine ht_seq ?_
          refine ht_region ?_
          refine ho_ev rfl rfl rfl (ev_move rfl rfl) ?_
          refine ho_eff rfl rfl rfl (eff_call rfl rfl (.cons rfl (.cons rfl .nil)) rfl (meta_Open b0 (d3.crash []) 0 (by omega)) (by repeat (first | exact Picks.nil | (apply Picks.ro; focus ((repeat constructor); done)) | (apply Picks.cons; focus ((repeat constructor); done)))) (fun _ => by repeat (first | exact App.nil | apply App.cons))) (fun m1 => ?_)
          rw [hoA]
          dsimp only
          rw [if_neg (by decide)]
          refine ho_ev rfl rfl rfl (ev_move rfl rfl) ?_
          refine ho_ev rfl rfl rfl (ev_extract rfl rfl rfl) ?_
          refine ho_ev rfl rfl rfl (ev_extract rfl rfl rfl) ?_
          refine ho_ev rfl rfl rfl (ev_extract rfl rfl rfl) ?_
          refine ho_ev rfl rfl rfl (ev_assign rfl rfl) ?_
          refine ho_ev rfl rfl rfl (ev_assign rfl rfl) ?_
          refine ho_ev rfl rfl rfl (ev_assign rfl rfl) ?_
          refine ho_nil ?_
          refine hx_then ?_
          refine ht_seq ?_
          refine ht_region ?_
          refine ho_ev rfl rfl rfl (ev_move rfl rfl) ?_
          refine ho_eff rfl rfl rfl (eff_call rfl rfl (.cons rfl (.cons rfl .nil)) rfl (meta_Open cq (d3.crash [(0, 500)]) 0 (by omega)) (by repeat (first | exact Picks.nil | (apply Picks.ro; focus ((repeat constructor); done)) | (apply Picks.cons; focus ((repeat constructor); done)))) (fun _ => by repeat (first | exact App.nil | apply App.cons))) (fun m2 => ?_)
          rw [hoB]
          dsimp only
          rw [if_neg (by decide)]
          refine ho_ev rfl rfl rfl (ev_move rfl rfl) ?_
          refine ho_ev rfl rfl rfl (ev_extract rfl rfl rfl) ?_
          refine ho_ev rfl rfl rfl (ev_extract rfl rfl rfl) ?_
          refine ho_ev rfl rfl rfl (ev_extract rfl rfl rfl) ?_
          refine ho_ev rfl rfl rfl (ev_assign rfl rfl) ?_
          refine ho_ev rfl rfl rfl (ev_assign rfl rfl) ?_
          refine ho_ev rfl rfl rfl (ev_assign rfl rfl) ?_
          refine ho_nil ?_
          refine hx_then ?_
          refine ht_seq ?_
          refine ht_region ?_
          refine ho_ev rfl rfl rfl (ev_move rfl rfl) ?_
          refine ho_eqS rfl rfl rfl rfl rfl rfl (fun g10 => ?_) (fun g10 => ?_)
          ·skip
           refine ho_ev rfl rfl rfl (ev_move rfl rfl) ?_
           refine ho_evg rfl rfl rfl rfl (ev_move rfl rfl) ?_
           refine ho_eqg rfl rfl rfl rfl rfl rfl rfl (fun g11 => ?_) (fun g11 => ?_)
           ·skip
            refine ho_ev rfl rfl rfl (ev_pick_t rfl rfl rfl) ?_
            refine ho_ev rfl rfl rfl (ev_move rfl rfl) ?_
            refine ho_evg rfl rfl rfl rfl (ev_move rfl rfl) ?_
            refine ho_evg rfl rfl rfl rfl (ev_ptrNil rfl Tryd.underlying28 rfl rfl rfl) ?_
            refine ho_ev rfl rfl rfl (ev_pick_t rfl rfl rfl) ?_
            refine ho_ev rfl rfl rfl (ev_move rfl rfl) ?_
            refine ho_bool (t := 91) rfl (fun g12 => ?_) (fun g12 => ?_)
            ·skip
             refine ho_evg rfl rfl rfl rfl (ev_move rfl rfl) ?_
             refine ho_eqSg rfl rfl rfl rfl rfl rfl rfl (fun g13 => ?_) (fun g13 => ?_)
             ·skip
              refine ho_ev rfl rfl rfl (ev_pick_t rfl rfl rfl) ?_
              refine ho_ev rfl rfl rfl (ev_move rfl rfl) ?_
              refine ho_evg rfl rfl rfl rfl (ev_move rfl rfl) ?_
              refine ho_eqg rfl rfl rfl rfl rfl rfl rfl (fun g14 => ?_) (fun g14 => ?_)
              ·skip
               refine ho_ev rfl rfl rfl (ev_pick_t rfl rfl rfl) ?_
               refine ho_ev rfl rfl rfl (ev_move rfl rfl) ?_
               refine ho_evg rfl rfl rfl rfl (ev_move rfl rfl) ?_
               refine ho_effg rfl rfl rfl rfl (eff_call rfl rfl (.cons rfl .nil) rfl (meta_Number m2 cq 0 3 0) (by repeat (first | exact Picks.nil | (apply Picks.ro; focus ((repeat constructor); done)) | (apply Picks.cons; focus ((repeat constructor); done)))) (fun _ => by repeat (first | exact App.nil | apply App.cons))) (fun _ => ?_)
               refine ho_eqg rfl rfl rfl rfl rfl rfl rfl (fun g15 => ?_) (fun g15 => ?_)
               ·skip
                refine ho_ev rfl rfl rfl (ev_pick_t rfl rfl rfl) ?_
                refine ho_ev rfl rfl rfl (ev_assign rfl rfl) ?_
                refine ho_nil ?_
                refine hx_then ?_
                refine ht_ret ?_
                exact hx_ret1 (.inl rfl) rfl rfl () rfl (Ent.cons (by (repeat constructor); done) Ent.nil)
               ·omega
              ·omega
             ·simp at g13
            ·simp at g12
           ·omega
          ·simp at g10
end Go.Proofs.YtlejcepbcfijiaaDoor
