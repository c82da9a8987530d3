/-
  PACKAGE meta (layer 12): the walks. Conditions: as each contract says.
-/
import Derived.Test.YtlejcepbcfijiaaDoorDisk
import Derived.Test.YtlejcepbcfijiaaDoorWireC
import Derived.Test.YtlejcepbcfijiaaDoorMetaM
set_option maxRecDepth 100000
set_option linter.unusedVariables false
set_option linter.unusedSimpArgs false
namespace Go.Proofs.YtlejcepbcfijiaaDoor
open Go Go.SL


theorem next_u64 (n : Nat) : IntKind.u64.wrap (((n : Nat) : Int) + 1) = (((n + 1) % 18446744073709551616 : Nat) : Int) := by
  have h : IntKind.u64.wrap (((n : Nat) : Int) + 1) = (((n : Nat) : Int) + 1) % 18446744073709551616 := by simp [IntKind.wrap, IntKind.bits, IntKind.signed]
  rw [h]; exact (Int.natCast_emod (n + 1) 18446744073709551616).symm
section
variable {P : Program} {κ : World} {n : Nat} {L M R R' : List Assn} {ρ : Env} {ops : Array Oper} {l : List Oper} {Q : Exit → Act → World → Prop}
theorem ht_dkOk {p : Nat} {d : Dk.Disk} {c : Code} (k : Pick (DiskAt p d) L R) (h : DkOk d → HT P κ n L ρ c Q) : HT P κ n L ρ c Q := fun a w ha hw => by
  obtain ⟨x, hx⟩ := (hw.ent (Ent.pick k)).exists
  have h2 := hx.unstar
  have h3 : Sat κ (pu (DkOk d) :: _) w := h2.ent (Ent.pick (.there (.there (.there (.there (.there (.there (.there .here))))))))
  exact h h3.pure a w ha hw
end

theorem meta_tells_no (p : Nat) (d : Dk.Disk) (k : Int) (hv : d.view k = none) : Ctr Tryd.prog 31 #[.pointer (some ⟨p, 0, none⟩), .int .i64 k] [DiskAt p d] (fun _ : Unit => .tuple #[.agg #[.int .u64 (((Wire.getV []).1 : Nat) : Int), vS (Wire.getV []).2.1], .bool false]) (fun _ => [DiskAt p d]) := by
 refine fn_intro Tryd.func31 rfl rfl Tryd.ntmps31 (Nat.le_of_ble_eq_true rfl) (fun _ => by repeat (first | exact App.nil | apply App.cons)) (fun κ F => ?_)
 refine ht_seq ?_
 refine ht_region ?_
 refine ho_eff rfl rfl rfl (eff_alloc rfl Tryd.ty71 (by first | exact cells_agg _ | exact rfl)) (fun b4 => ?_)
 refine ho_ev rfl rfl rfl (ev_assign rfl rfl) ?_
 refine ho_nil ?_
 refine hx_then ?_
 refine ht_seq ?_
 refine ht_region ?_
 refine ho_ev rfl rfl rfl (ev_move rfl rfl) ?_
 refine ho_ev rfl rfl rfl (ev_move rfl rfl) ?_
 refine ho_eff rfl rfl rfl (eff_call rfl rfl (.cons rfl (.cons rfl .nil)) rfl (disk_Read_no p d k hv) (by repeat (first | exact Picks.nil | (apply Picks.ro; focus ((with_reducible repeat constructor); done)) | (apply Picks.cons; focus ((with_reducible repeat constructor); done)))) (fun _ => by repeat (first | exact App.nil | apply App.cons))) (fun _ => ?_)
 refine ho_ev rfl rfl rfl (ev_move rfl rfl) ?_
 refine ho_ev rfl rfl rfl (ev_extract rfl rfl rfl) ?_
 refine ho_ev rfl rfl rfl (ev_extract rfl rfl rfl) ?_
 refine ho_ev rfl rfl rfl (ev_assign rfl rfl) ?_
 refine ho_ev rfl rfl rfl (ev_assign rfl rfl) ?_
 refine ho_nil ?_
 refine hx_then ?_
 refine ht_seq ?_
 refine ht_region ?_
 refine ho_ev rfl rfl rfl (ev_move rfl rfl) ?_
 refine ho_ent (Ent.roTrue (ψ := roS (α := UInt8) none 0 []) (fun r => SliceIn.empty _ _) (Ent.refl _)) ?_
 refine ho_eff rfl rfl rfl (eff_call rfl rfl (.cons rfl .nil) rfl (rec_Get none 0 [] (Nat.le_refl _) (by decide)) (by repeat (first | exact Picks.nil | (apply Picks.ro; focus ((repeat constructor); done)) | (apply Picks.cons; focus ((repeat constructor); done)))) (fun _ => by repeat (first | exact App.nil | apply App.cons))) (fun _ => ?_)
 refine ho_ev rfl rfl rfl (ev_move rfl rfl) ?_
 refine ho_ev rfl rfl rfl (ev_extract rfl rfl rfl) ?_
 refine ho_ev rfl rfl rfl (ev_extract rfl rfl rfl) ?_
 refine ho_ev rfl rfl rfl (ev_extract rfl rfl rfl) ?_
 refine ho_eff rfl rfl rfl (eff_alloc rfl Tryd.ty71 (by first | exact cells_agg _ | exact rfl)) (fun b8 => ?_)
 refine ho_eff0 rfl rfl (eff_storeA rfl Tryd.ty71 rfl rfl (by (with_reducible repeat constructor); done) rfl rfl rfl (by simp only [setRange, List.setIfInBounds_toArray, List.set_cons_zero, List.set_cons_succ, Nat.zero_add]; rfl)) (fun _ => ?_)
 refine ho_ev rfl rfl rfl (ev_assign rfl rfl) ?_
 refine ho_ev rfl rfl rfl (ev_assign rfl rfl) ?_
 refine ho_nil ?_
 refine hx_then ?_
 refine ht_seq ?_
 refine ht_draw (.op 0 (.op 1 (.op 2 (.op 3 (.op 4 (.op 5 (.op 6 (.op 7 (.op 8 (.op 9 (.op 10 (.op 11 (.op 12 (.op 13 (.op 14 (.op 15 (.op 16 (.op 17 (.op 18 .done))))))))))))))))))) [17] Tryd.mixed rfl ?_
 refine hd_ev rfl rfl rfl rfl (EvG.of rfl (ev_loadA rfl Tryd.underlying71 Tryd.ty71 rfl rfl (by first | exact cells_pt (by (with_reducible repeat constructor); done) (Nat.le_of_ble_eq_true rfl) (by simp only [List.extract_toArray, List.extract_eq_take_drop, Nat.zero_add, Nat.sub_zero, Nat.add_sub_cancel_left, List.drop_zero, List.take_succ_cons, List.take_zero, List.drop_succ_cons] <;> rfl) | exact cells_ro (by (with_reducible repeat constructor); done) (Nat.le_of_ble_eq_true rfl) (by simp only [List.extract_toArray, List.extract_eq_take_drop, Nat.zero_add, Nat.sub_zero, Nat.add_sub_cancel_left, List.drop_zero, List.take_succ_cons, List.take_zero, List.drop_succ_cons] <;> rfl)))) ?_
 refine hd_ev rfl rfl rfl rfl (EvG.of rfl (ev_move rfl rfl)) ?_
 refine hd_eq rfl rfl rfl rfl rfl rfl rfl rfl (fun g1 => ?_) (fun g1 => ?_)
 ·omega
 ·skip
  refine hd_ev rfl rfl rfl rfl (EvG.of rfl (ev_move rfl rfl)) ?_
  refine hd_ev rfl rfl rfl rfl (EvG.pass rfl rfl) ?_
  refine hd_ev rfl rfl rfl rfl (EvG.of rfl (ev_pick_f rfl rfl rfl)) ?_
  refine hd_ev rfl rfl rfl rfl (EvG.of rfl (ev_move rfl rfl)) ?_
  refine hd_ev rfl rfl rfl rfl (EvG.pass rfl rfl) ?_
  refine hd_ev rfl rfl rfl rfl (EvG.pass rfl rfl) ?_
  refine hd_ev rfl rfl rfl rfl (EvG.pass rfl rfl) ?_
  refine hd_ev rfl rfl rfl rfl (EvG.pass rfl rfl) ?_
  refine hd_ev rfl rfl rfl rfl (EvG.of rfl (ev_pick_f rfl rfl rfl)) ?_
  refine hd_ev rfl rfl rfl rfl (EvG.of rfl (ev_move rfl rfl)) ?_
  refine hd_ev rfl rfl rfl rfl (EvG.pass rfl rfl) ?_
  refine hd_ev rfl rfl rfl rfl (EvG.pass rfl rfl) ?_
  refine hd_ev rfl rfl rfl rfl (EvG.pass rfl rfl) ?_
  refine hd_ev rfl rfl rfl rfl (EvG.of rfl (ev_pick_f rfl rfl rfl)) ?_
  refine hd_eff0 rfl rfl rfl rfl (eff_storeA rfl Tryd.ty71 rfl rfl (by (with_reducible repeat constructor); done) rfl rfl rfl (by simp only [setRange, List.setIfInBounds_toArray, List.set_cons_zero, List.set_cons_succ, Nat.zero_add]; rfl)) (fun _ => by (refine FL.ev rfl (EvG.of rfl (ev_pick_f rfl rfl rfl)) ?_); (refine FL.ev rfl (EvG.pass rfl rfl) ?_); (refine FL.ev rfl (EvG.pass rfl rfl) ?_); (refine FL.ev rfl (EvG.pass rfl rfl) ?_); (refine FL.skip rfl ?_); (refine FL.skip rfl ?_); (refine FL.skip rfl ?_); (refine FL.skip rfl ?_); (refine FL.skip rfl ?_); (refine FL.skip rfl ?_); (refine FL.skip rfl ?_); (refine FL.skip rfl ?_); (refine FL.skip rfl ?_); (refine FL.skip rfl ?_); (refine FL.skip rfl ?_); (refine FL.skip rfl ?_); (refine FL.skip rfl ?_); exact FL.nil) (fun _ => ?_)
  refine hd_ev rfl rfl rfl rfl (EvG.of rfl (ev_assign rfl rfl)) ?_
  refine hd_nil ?_
  refine hx_then ?_
  refine ht_ret ?_
  exact hx_ret2A (.inl rfl) rfl rfl rfl Tryd.underlying71 Tryd.ty71 rfl (cells_pt (by (with_reducible repeat constructor); done) (Nat.le_of_ble_eq_true rfl) rfl) () rfl (Ent.cons (by (repeat constructor); done) (Ent.cons (by (repeat constructor); done) Ent.nil))
theorem meta_tells_yes (p : Nat) (d : Dk.Disk) (k : Int) (s : List UInt8) (hv : d.view k = some s) : Ctr Tryd.prog 31 #[.pointer (some ⟨p, 0, none⟩), .int .i64 k] [DiskAt p d] (fun _ : Unit => .tuple #[.agg #[.int .u64 (((Wire.getV s).1 : Nat) : Int), vS (Wire.getV s).2.1], .bool (Mt.tell (some s)).isSome]) (fun _ => [DiskAt p d]) := by
 refine fn_intro Tryd.func31 rfl rfl Tryd.ntmps31 (Nat.le_of_ble_eq_true rfl) (fun _ => by repeat (first | exact App.nil | apply App.cons)) (fun κ F => ?_)
 refine ht_dkOk (by (with_reducible repeat constructor); done) (fun hok => ?_)
 have hs := hok.view k s hv
 refine ht_seq ?_
 refine ht_region ?_
 refine ho_eff rfl rfl rfl (eff_alloc rfl Tryd.ty71 (by first | exact cells_agg _ | exact rfl)) (fun b4 => ?_)
 refine ho_ev rfl rfl rfl (ev_assign rfl rfl) ?_
 refine ho_nil ?_
 refine hx_then ?_
 refine ht_seq ?_
 refine ht_region ?_
 refine ho_ev rfl rfl rfl (ev_move rfl rfl) ?_
 refine ho_ev rfl rfl rfl (ev_move rfl rfl) ?_
 refine ho_eff rfl rfl rfl (eff_call rfl rfl (.cons rfl (.cons rfl .nil)) rfl (disk_Read p d k s hv) (by repeat (first | exact Picks.nil | (apply Picks.ro; focus ((with_reducible repeat constructor); done)) | (apply Picks.cons; focus ((with_reducible repeat constructor); done)))) (fun _ => by repeat (first | exact App.nil | apply App.cons))) (fun y => ?_)
 refine ho_pick (A := pu (s.length ≤ y.2)) (by (repeat constructor); done) (ho_pure fun hyc => ?_)
 refine ho_ev rfl rfl rfl (ev_move rfl rfl) ?_
 refine ho_ev rfl rfl rfl (ev_extract rfl rfl rfl) ?_
 refine ho_ev rfl rfl rfl (ev_extract rfl rfl rfl) ?_
 refine ho_ev rfl rfl rfl (ev_assign rfl rfl) ?_
 refine ho_ev rfl rfl rfl (ev_assign rfl rfl) ?_
 refine ho_nil ?_
 refine hx_then ?_
 refine ht_seq ?_
 refine ht_region ?_
 refine ho_ev rfl rfl rfl (ev_move rfl rfl) ?_
 refine ho_eff rfl rfl rfl (eff_call rfl rfl (.cons rfl .nil) rfl (rec_Get y.1 y.2 s hyc (by omega)) (by repeat (first | exact Picks.nil | (apply Picks.ro; focus ((with_reducible repeat constructor); done)) | (apply Picks.cons; focus ((with_reducible repeat constructor); done)))) (fun _ => by repeat (first | exact App.nil | apply App.cons))) (fun _ => ?_)
 refine ho_ev rfl rfl rfl (ev_move rfl rfl) ?_
 refine ho_ev rfl rfl rfl (ev_extract rfl rfl rfl) ?_
 refine ho_ev rfl rfl rfl (ev_extract rfl rfl rfl) ?_
 refine ho_ev rfl rfl rfl (ev_extract rfl rfl rfl) ?_
 refine ho_eff rfl rfl rfl (eff_alloc rfl Tryd.ty71 (by first | exact cells_agg _ | exact rfl)) (fun b8 => ?_)
 refine ho_eff0 rfl rfl (eff_storeA rfl Tryd.ty71 rfl rfl (by (with_reducible repeat constructor); done) rfl rfl rfl (by simp only [setRange, List.setIfInBounds_toArray, List.set_cons_zero, List.set_cons_succ, Nat.zero_add]; rfl)) (fun _ => ?_)
 refine ho_ev rfl rfl rfl (ev_assign rfl rfl) ?_
 refine ho_ev rfl rfl rfl (ev_assign rfl rfl) ?_
 refine ho_nil ?_
 refine hx_then ?_
 refine ht_seq ?_
 rcases hok2 : (Wire.getV s).2.2.2 with _ | _
 ·skip
  refine ht_draw (.op 0 (.op 1 (.op 2 (.op 3 (.op 4 (.op 5 (.op 6 (.op 7 (.op 8 (.op 9 (.op 10 (.op 11 (.op 12 (.op 13 (.op 14 (.op 15 (.op 16 (.op 17 (.op 18 .done))))))))))))))))))) [17] Tryd.mixed rfl ?_
  refine hd_ev rfl rfl rfl rfl (EvG.of rfl (ev_loadA rfl Tryd.underlying71 Tryd.ty71 rfl rfl (by first | exact cells_pt (by (with_reducible repeat constructor); done) (Nat.le_of_ble_eq_true rfl) (by simp only [List.extract_toArray, List.extract_eq_take_drop, Nat.zero_add, Nat.sub_zero, Nat.add_sub_cancel_left, List.drop_zero, List.take_succ_cons, List.take_zero, List.drop_succ_cons] <;> rfl) | exact cells_ro (by (with_reducible repeat constructor); done) (Nat.le_of_ble_eq_true rfl) (by simp only [List.extract_toArray, List.extract_eq_take_drop, Nat.zero_add, Nat.sub_zero, Nat.add_sub_cancel_left, List.drop_zero, List.take_succ_cons, List.take_zero, List.drop_succ_cons] <;> rfl)))) ?_
  refine hd_ev rfl rfl rfl rfl (EvG.of rfl (ev_move rfl rfl)) ?_
  refine hd_eq rfl rfl rfl rfl rfl rfl rfl rfl (fun g1 => ?_) (fun g1 => ?_)
  ·skip
   refine hd_ev rfl rfl rfl rfl (EvG.of rfl (ev_move rfl rfl)) ?_
   refine hd_ev rfl rfl rfl rfl (EvG.ofg rfl rfl (ev_move rfl rfl)) ?_
   refine hd_ev rfl rfl rfl rfl (EvG.of rfl (ev_pick_t rfl rfl rfl)) ?_
   refine hd_ev rfl rfl rfl rfl (EvG.of rfl (ev_move rfl rfl)) ?_
   refine hd_ev rfl rfl rfl rfl (EvG.pass rfl rfl) ?_
   refine hd_ev rfl rfl rfl rfl (EvG.pass rfl rfl) ?_
   refine hd_ev rfl rfl rfl rfl (EvG.pass rfl rfl) ?_
   refine hd_ev rfl rfl rfl rfl (EvG.pass rfl rfl) ?_
   refine hd_ev rfl rfl rfl rfl (EvG.of rfl (ev_pick_f rfl rfl rfl)) ?_
   refine hd_ev rfl rfl rfl rfl (EvG.of rfl (ev_move rfl rfl)) ?_
   refine hd_ev rfl rfl rfl rfl (EvG.pass rfl rfl) ?_
   refine hd_ev rfl rfl rfl rfl (EvG.pass rfl rfl) ?_
   refine hd_ev rfl rfl rfl rfl (EvG.pass rfl rfl) ?_
   refine hd_ev rfl rfl rfl rfl (EvG.of rfl (ev_pick_f rfl rfl rfl)) ?_
   refine hd_eff0 rfl rfl rfl rfl (eff_storeA rfl Tryd.ty71 rfl rfl (by (with_reducible repeat constructor); done) rfl rfl rfl (by simp only [setRange, List.setIfInBounds_toArray, List.set_cons_zero, List.set_cons_succ, Nat.zero_add]; rfl)) (fun _ => by (refine FL.ev rfl (EvG.of rfl (ev_pick_f rfl rfl rfl)) ?_); (refine FL.ev rfl (EvG.pass rfl rfl) ?_); (refine FL.ev rfl (EvG.pass rfl rfl) ?_); (refine FL.ev rfl (EvG.pass rfl rfl) ?_); (refine FL.skip rfl ?_); (refine FL.skip rfl ?_); (refine FL.skip rfl ?_); (refine FL.skip rfl ?_); (refine FL.skip rfl ?_); (refine FL.skip rfl ?_); (refine FL.skip rfl ?_); (refine FL.skip rfl ?_); (refine FL.skip rfl ?_); (refine FL.skip rfl ?_); (refine FL.skip rfl ?_); (refine FL.skip rfl ?_); (refine FL.skip rfl ?_); exact FL.nil) (fun _ => ?_)
   refine hd_ev rfl rfl rfl rfl (EvG.of rfl (ev_assign rfl rfl)) ?_
   refine hd_nil ?_
   refine hx_then ?_
   refine ht_ret ?_
   have ht : (Mt.tell (some s)).isSome = false := by
    unfold Mt.tell; simp only []
    first | (rw [if_pos ⟨hok2, by omega, by omega⟩]; rfl) | (rw [if_neg (by rintro ⟨h1, h2, h3⟩; first | omega | (rw [hok2] at h1; cases h1))]; rfl)
   rw [ht]
   exact hx_ret2A (.inl rfl) rfl rfl rfl Tryd.underlying71 Tryd.ty71 rfl (cells_pt (by (with_reducible repeat constructor); done) (Nat.le_of_ble_eq_true rfl) rfl) () rfl (Ent.cons (by (repeat constructor); done) (Ent.cons (by (repeat constructor); done) Ent.nil))
  ·omega
 ·skip
  refine ht_draw (.op 0 (.op 1 (.op 2 (.op 3 (.op 4 (.op 5 (.op 6 (.op 7 (.op 8 (.op 9 (.op 10 (.op 11 (.op 12 (.op 13 (.op 14 (.op 15 (.op 16 (.op 17 (.op 18 .done))))))))))))))))))) [17] Tryd.mixed rfl ?_
  refine hd_ev rfl rfl rfl rfl (EvG.of rfl (ev_loadA rfl Tryd.underlying71 Tryd.ty71 rfl rfl (by first | exact cells_pt (by (with_reducible repeat constructor); done) (Nat.le_of_ble_eq_true rfl) (by simp only [List.extract_toArray, List.extract_eq_take_drop, Nat.zero_add, Nat.sub_zero, Nat.add_sub_cancel_left, List.drop_zero, List.take_succ_cons, List.take_zero, List.drop_succ_cons] <;> rfl) | exact cells_ro (by (with_reducible repeat constructor); done) (Nat.le_of_ble_eq_true rfl) (by simp only [List.extract_toArray, List.extract_eq_take_drop, Nat.zero_add, Nat.sub_zero, Nat.add_sub_cancel_left, List.drop_zero, List.take_succ_cons, List.take_zero, List.drop_succ_cons] <;> rfl)))) ?_
  refine hd_ev rfl rfl rfl rfl (EvG.of rfl (ev_move rfl rfl)) ?_
  refine hd_eq rfl rfl rfl rfl rfl rfl rfl rfl (fun g2 => ?_) (fun g2 => ?_)
  ·skip
   refine hd_ev rfl rfl rfl rfl (EvG.of rfl (ev_move rfl rfl)) ?_
   refine hd_ev rfl rfl rfl rfl (EvG.ofg rfl rfl (ev_move rfl rfl)) ?_
   refine hd_ev rfl rfl rfl rfl (EvG.of rfl (ev_pick_t rfl rfl rfl)) ?_
   refine hd_ev rfl rfl rfl rfl (EvG.of rfl (ev_move rfl rfl)) ?_
   refine hd_ev rfl rfl rfl rfl (EvG.ofg rfl rfl (ev_move rfl rfl)) ?_
   refine hd_ev rfl rfl rfl rfl (EvG.ofg rfl rfl (ev_move rfl rfl)) ?_
   refine hd_ev rfl rfl rfl rfl (EvG.ofg rfl rfl (ev_lenSl rfl Tryd.underlying86 rfl)) ?_
   refine hd_eqg rfl rfl rfl rfl rfl rfl rfl rfl rfl (fun g3 => ?_) (fun g3 => ?_)
   ·skip
    refine hd_ev rfl rfl rfl rfl (EvG.of rfl (ev_pick_t rfl rfl rfl)) ?_
    refine hd_ev rfl rfl rfl rfl (EvG.of rfl (ev_move rfl rfl)) ?_
    refine hd_ev rfl rfl rfl rfl (EvG.ofg rfl rfl (by first | exact ev_fieldAddr0 rfl Tryd.fld71_0 rfl | exact ev_fieldAddr rfl Tryd.fld71_0 rfl)) ?_
    refine hd_ev rfl rfl rfl rfl (EvG.ofg rfl rfl (ev_load rfl Tryd.underlying41 rfl rfl (by first | exact cell_pt (by (with_reducible repeat constructor); done) rfl | exact cell_ro (by (with_reducible repeat constructor); done) rfl))) ?_
    refine hd_gtg rfl rfl rfl rfl rfl rfl rfl rfl rfl (fun g4 => ?_) (fun g4 => ?_)
    ·skip
     refine hd_ev rfl rfl rfl rfl (EvG.of rfl (ev_pick_t rfl rfl rfl)) ?_
     refine hd_eff0 rfl rfl rfl rfl (eff_storeA rfl Tryd.ty71 rfl rfl (by (with_reducible repeat constructor); done) rfl rfl rfl (by simp only [setRange, List.setIfInBounds_toArray, List.set_cons_zero, List.set_cons_succ, Nat.zero_add]; rfl)) (fun _ => by (refine FL.ev rfl (EvG.of rfl (ev_pick_t rfl rfl rfl)) ?_); (refine FL.ev rfl (EvG.ofg rfl rfl (ev_cmp rfl rfl rfl (by simp [cmpI]; omega))) ?_); (refine FL.ev rfl (EvG.ofg rfl rfl (ev_load rfl Tryd.underlying41 rfl rfl (by first | exact cell_pt (by (with_reducible repeat constructor); done) rfl | exact cell_ro (by (with_reducible repeat constructor); done) rfl))) ?_); (refine FL.ev rfl (EvG.ofg rfl rfl (by first | exact ev_fieldAddr0 rfl Tryd.fld71_0 rfl | exact ev_fieldAddr rfl Tryd.fld71_0 rfl)) ?_); (refine FL.skip rfl ?_); (refine FL.skip rfl ?_); (refine FL.skip rfl ?_); (refine FL.skip rfl ?_); (refine FL.skip rfl ?_); (refine FL.skip rfl ?_); (refine FL.skip rfl ?_); (refine FL.skip rfl ?_); (refine FL.skip rfl ?_); (refine FL.skip rfl ?_); (refine FL.skip rfl ?_); (refine FL.skip rfl ?_); (refine FL.skip rfl ?_); exact FL.nil) (fun _ => ?_)
     refine hd_ev rfl rfl rfl rfl (EvG.of rfl (ev_assign rfl rfl)) ?_
     refine hd_nil ?_
     refine hx_then ?_
     refine ht_ret ?_
     have ht : (Mt.tell (some s)).isSome = true := by
      unfold Mt.tell; simp only []
      first | (rw [if_pos ⟨hok2, by omega, by omega⟩]; rfl) | (rw [if_neg (by rintro ⟨h1, h2, h3⟩; first | omega | (rw [hok2] at h1; cases h1))]; rfl)
     rw [ht]
     exact hx_ret2A (.inl rfl) rfl rfl rfl Tryd.underlying71 Tryd.ty71 rfl (cells_pt (by (with_reducible repeat constructor); done) (Nat.le_of_ble_eq_true rfl) rfl) () rfl (Ent.cons (by (repeat constructor); done) (Ent.cons (by (repeat constructor); done) Ent.nil))
    ·skip
     refine hd_ev rfl rfl rfl rfl (EvG.of rfl (ev_pick_t rfl rfl rfl)) ?_
     refine hd_eff0 rfl rfl rfl rfl (eff_storeA rfl Tryd.ty71 rfl rfl (by (with_reducible repeat constructor); done) rfl rfl rfl (by simp only [setRange, List.setIfInBounds_toArray, List.set_cons_zero, List.set_cons_succ, Nat.zero_add]; rfl)) (fun _ => by (refine FL.ev rfl (EvG.of rfl (ev_pick_t rfl rfl rfl)) ?_); (refine FL.ev rfl (EvG.ofg rfl rfl (ev_cmp rfl rfl rfl (by simp [cmpI]; omega))) ?_); (refine FL.ev rfl (EvG.ofg rfl rfl (ev_load rfl Tryd.underlying41 rfl rfl (by first | exact cell_pt (by (with_reducible repeat constructor); done) rfl | exact cell_ro (by (with_reducible repeat constructor); done) rfl))) ?_); (refine FL.ev rfl (EvG.ofg rfl rfl (by first | exact ev_fieldAddr0 rfl Tryd.fld71_0 rfl | exact ev_fieldAddr rfl Tryd.fld71_0 rfl)) ?_); (refine FL.skip rfl ?_); (refine FL.skip rfl ?_); (refine FL.skip rfl ?_); (refine FL.skip rfl ?_); (refine FL.skip rfl ?_); (refine FL.skip rfl ?_); (refine FL.skip rfl ?_); (refine FL.skip rfl ?_); (refine FL.skip rfl ?_); (refine FL.skip rfl ?_); (refine FL.skip rfl ?_); (refine FL.skip rfl ?_); (refine FL.skip rfl ?_); exact FL.nil) (fun _ => ?_)
     refine hd_ev rfl rfl rfl rfl (EvG.of rfl (ev_assign rfl rfl)) ?_
     refine hd_nil ?_
     refine hx_then ?_
     refine ht_ret ?_
     have ht : (Mt.tell (some s)).isSome = false := by
      unfold Mt.tell; simp only []
      first | (rw [if_pos ⟨hok2, by omega, by omega⟩]; rfl) | (rw [if_neg (by rintro ⟨h1, h2, h3⟩; first | omega | (rw [hok2] at h1; cases h1))]; rfl)
     rw [ht]
     exact hx_ret2A (.inl rfl) rfl rfl rfl Tryd.underlying71 Tryd.ty71 rfl (cells_pt (by (with_reducible repeat constructor); done) (Nat.le_of_ble_eq_true rfl) rfl) () rfl (Ent.cons (by (repeat constructor); done) (Ent.cons (by (repeat constructor); done) Ent.nil))
   ·skip
    refine hd_ev rfl rfl rfl rfl (EvG.of rfl (ev_pick_t rfl rfl rfl)) ?_
    refine hd_ev rfl rfl rfl rfl (EvG.of rfl (ev_move rfl rfl)) ?_
    refine hd_ev rfl rfl rfl rfl (EvG.pass rfl rfl) ?_
    refine hd_ev rfl rfl rfl rfl (EvG.pass rfl rfl) ?_
    refine hd_ev rfl rfl rfl rfl (EvG.pass rfl rfl) ?_
    refine hd_ev rfl rfl rfl rfl (EvG.of rfl (ev_pick_f rfl rfl rfl)) ?_
    refine hd_eff0 rfl rfl rfl rfl (eff_storeA rfl Tryd.ty71 rfl rfl (by (with_reducible repeat constructor); done) rfl rfl rfl (by simp only [setRange, List.setIfInBounds_toArray, List.set_cons_zero, List.set_cons_succ, Nat.zero_add]; rfl)) (fun _ => by (refine FL.ev rfl (EvG.of rfl (ev_pick_f rfl rfl rfl)) ?_); (refine FL.ev rfl (EvG.pass rfl rfl) ?_); (refine FL.ev rfl (EvG.pass rfl rfl) ?_); (refine FL.ev rfl (EvG.pass rfl rfl) ?_); (refine FL.skip rfl ?_); (refine FL.skip rfl ?_); (refine FL.skip rfl ?_); (refine FL.skip rfl ?_); (refine FL.skip rfl ?_); (refine FL.skip rfl ?_); (refine FL.skip rfl ?_); (refine FL.skip rfl ?_); (refine FL.skip rfl ?_); (refine FL.skip rfl ?_); (refine FL.skip rfl ?_); (refine FL.skip rfl ?_); (refine FL.skip rfl ?_); exact FL.nil) (fun _ => ?_)
    refine hd_ev rfl rfl rfl rfl (EvG.of rfl (ev_assign rfl rfl)) ?_
    refine hd_nil ?_
    refine hx_then ?_
    refine ht_ret ?_
    have ht : (Mt.tell (some s)).isSome = false := by
     unfold Mt.tell; simp only []
     first | (rw [if_pos ⟨hok2, by omega, by omega⟩]; rfl) | (rw [if_neg (by rintro ⟨h1, h2, h3⟩; first | omega | (rw [hok2] at h1; cases h1))]; rfl)
    rw [ht]
    exact hx_ret2A (.inl rfl) rfl rfl rfl Tryd.underlying71 Tryd.ty71 rfl (cells_pt (by (with_reducible repeat constructor); done) (Nat.le_of_ble_eq_true rfl) rfl) () rfl (Ent.cons (by (repeat constructor); done) (Ent.cons (by (repeat constructor); done) Ent.nil))
  ·omega
theorem meta_tells (p : Nat) (d : Dk.Disk) (k : Int) : Ctr Tryd.prog 31 #[.pointer (some ⟨p, 0, none⟩), .int .i64 k] [DiskAt p d] (fun _ : Unit => .tuple #[.agg #[.int .u64 (((Wire.getV ((d.view k).getD [])).1 : Nat) : Int), vS (Wire.getV ((d.view k).getD [])).2.1], .bool (Mt.tell (d.view k)).isSome]) (fun _ => [DiskAt p d]) := by
  rcases hv : d.view k with _ | s
  · exact meta_tells_no p d k hv
  · exact meta_tells_yes p d k s hv
theorem meta_Open_no (p : Nat) (d : Dk.Disk) (k : Int) (h : k < 0 ∨ 65534 < k) : Ctr Tryd.prog 10 #[.pointer (some ⟨p, 0, none⟩), .int .i64 k] [DiskAt p d] (fun _ : Unit => .tuple #[.pointer none, vS [], .int .i64 122]) (fun _ => [DiskAt p d]) := by
 refine fn_intro Tryd.func10 rfl rfl Tryd.ntmps10 (Nat.le_of_ble_eq_true rfl) (fun _ => by repeat (first | exact App.nil | apply App.cons)) (fun κ F => ?_)
 refine ht_seq ?_
 refine ht_region ?_
 refine ho_ev rfl rfl rfl (ev_assign rfl rfl) ?_
 refine ho_ev rfl rfl rfl (ev_assign rfl rfl) ?_
 refine ho_ev rfl rfl rfl (ev_assign rfl rfl) ?_
 refine ho_nil ?_
 refine hx_then ?_
 refine ht_seq ?_
 refine ht_seq ?_
 refine ht_region ?_
 refine ho_ev rfl rfl rfl (ev_move rfl rfl) ?_
 refine ho_lt rfl rfl rfl rfl rfl rfl (fun g1 => ?_) (fun g1 => ?_)
 ·skip
  refine ho_ev rfl rfl rfl (ev_move rfl rfl) ?_
  refine ho_pass rfl rfl rfl rfl ?_
  refine ho_pass rfl rfl rfl rfl ?_
  refine ho_ev rfl rfl rfl (ev_pick_t rfl rfl rfl) ?_
  refine ho_nil ?_
  refine hx_then ?_
  refine ht_then rfl ?_
  refine ht_seq ?_
  refine ht_region ?_
  refine ho_ev rfl rfl rfl (ev_assign rfl rfl) ?_
  refine ho_ev rfl rfl rfl (ev_assign rfl rfl) ?_
  refine ho_ev rfl rfl rfl (ev_assign rfl rfl) ?_
  refine ho_nil ?_
  refine hx_then ?_
  refine ht_ret ?_
  refine hx_through trivial ?_
  exact hx_ret3 (.inl rfl) rfl rfl rfl rfl () rfl (Ent.cons (by (repeat constructor); done) (Ent.cons (by (repeat constructor); done) Ent.nil))
 ·skip
  refine ho_ev rfl rfl rfl (ev_move rfl rfl) ?_
  refine ho_evg rfl rfl rfl rfl (ev_move rfl rfl) ?_
  refine ho_gtg rfl rfl rfl rfl rfl rfl rfl (fun g2 => ?_) (fun g2 => ?_)
  ·skip
   refine ho_ev rfl rfl rfl (ev_pick_f rfl rfl rfl) ?_
   refine ho_nil ?_
   refine hx_then ?_
   refine ht_then rfl ?_
   refine ht_seq ?_
   refine ht_region ?_
   refine ho_ev rfl rfl rfl (ev_assign rfl rfl) ?_
   refine ho_ev rfl rfl rfl (ev_assign rfl rfl) ?_
   refine ho_ev rfl rfl rfl (ev_assign rfl rfl) ?_
   refine ho_nil ?_
   refine hx_then ?_
   refine ht_ret ?_
   refine hx_through trivial ?_
   exact hx_ret3 (.inl rfl) rfl rfl rfl rfl () rfl (Ent.cons (by (repeat constructor); done) (Ent.cons (by (repeat constructor); done) Ent.nil))
  ·omega
theorem meta_Open (p : Nat) (d : Dk.Disk) (k : Int) (h : 0 ≤ k ∧ k ≤ 65534) : Ctr Tryd.prog 10 #[.pointer (some ⟨p, 0, none⟩), .int .i64 k] [DiskAt p d] (fun q : Nat => .tuple #[.pointer (some ⟨q, 0, none⟩), vS (Mt.opened d.view k).body, .int .i64 (if (Mt.opened d.view k).number = 0 then 121 else 0)]) (fun q => [DiskAt p d, pt q (.cells #[.pointer (some ⟨p, 0, none⟩), .int .i64 k, .int .u64 (((Mt.opened d.view k).number : Nat) : Int), .int .i64 (((Mt.opened d.view k).last : Nat) : Int)] 83 (0, 0))]) := by
 refine fn_intro Tryd.func10 rfl rfl Tryd.ntmps10 (Nat.le_of_ble_eq_true rfl) (fun _ => by repeat (first | exact App.nil | apply App.cons)) (fun κ F => ?_)
 refine ht_seq ?_
 refine ht_region ?_
 refine ho_ev rfl rfl rfl (ev_assign rfl rfl) ?_
 refine ho_ev rfl rfl rfl (ev_assign rfl rfl) ?_
 refine ho_ev rfl rfl rfl (ev_assign rfl rfl) ?_
 refine ho_nil ?_
 refine hx_then ?_
 refine ht_seq ?_
 refine ht_seq ?_
 refine ht_region ?_
 refine ho_ev rfl rfl rfl (ev_move rfl rfl) ?_
 refine ho_lt rfl rfl rfl rfl rfl rfl (fun g1 => ?_) (fun g1 => ?_)
 ·omega
 ·skip
  refine ho_ev rfl rfl rfl (ev_move rfl rfl) ?_
  refine ho_evg rfl rfl rfl rfl (ev_move rfl rfl) ?_
  refine ho_gtg rfl rfl rfl rfl rfl rfl rfl (fun g2 => ?_) (fun g2 => ?_)
  ·omega
  ·skip
   refine ho_ev rfl rfl rfl (ev_pick_f rfl rfl rfl) ?_
   refine ho_nil ?_
   refine hx_then ?_
   refine ht_else rfl ?_
   refine ht_skip ?_
   refine hx_then ?_
   refine ht_seq ?_
   refine ht_region ?_
   refine ho_ev rfl rfl rfl (ev_move rfl rfl) ?_
   refine ho_ev rfl rfl rfl (ev_move rfl rfl) ?_
   refine ho_ev rfl rfl rfl (ev_build1 (csl := [_, _, .int .u64 0, _]) rfl Tryd.st83 (.cons rfl (.cons rfl (.cons rfl .nil))) (.cons rfl (.cons rfl (.cons rfl .nil))) rfl rfl) ?_
   refine ho_eff rfl rfl rfl (eff_boxA rfl rfl) (fun b21 => ?_)
   refine ho_ev rfl rfl rfl (ev_assign rfl rfl) ?_
   refine ho_nil ?_
   refine hx_then ?_
   refine ht_seq ?_
   refine ht_region ?_
   refine ho_ev rfl rfl rfl (ev_assign rfl rfl) ?_
   refine ho_nil ?_
   refine hx_then ?_
   refine ht_seq ?_
   refine ht_seq ?_
   refine ht_region ?_
   refine ho_ev rfl rfl rfl (ev_move rfl rfl) ?_
   refine ho_nil ?_
   refine hx_then ?_
   refine ht_block ?_
   refine ht_loop (fun q : Nat × Mt.St => ([DiskAt p d, pt b21 (.cells #[.pointer (some ⟨p, 0, none⟩), .int .i64 k, .int .u64 ((q.2.number : Nat) : Int), .int .i64 ((q.2.last : Nat) : Int)] 83 (0, 0)), pu (q.2 = Mt.picked d.view k q.1 ∧ q.1 ≤ 2), F], [(22, .int .i64 q.1), (7, .pointer (some ⟨b21, 0, none⟩)), (8, vS q.2.body), (0, .pointer (some ⟨p, 0, none⟩)), (1, .int .i64 k)])) (fun q : Nat × Mt.St => 2 - q.1) (0, ⟨0, 1, []⟩) ?_ (by repeat (first | exact EnvSub.nil _ | (refine EnvSub.cons rfl ?_))) (fun q => ?_)
   ·(first | dsimp only | skip)
    exact Ent.cons (by (repeat constructor); done) (Ent.cons (by (repeat constructor); done) (Ent.pu ⟨rfl, by omega⟩ (Ent.cons (by (repeat constructor); done) Ent.nil)))
   obtain ⟨q, s⟩ := q
   dsimp only
   refine ht_pick (A := pu (s = Mt.picked d.view k q ∧ q ≤ 2)) (by (repeat constructor); done) (ht_pure fun hq => ?_)
   obtain ⟨hs, hq2⟩ := hq
   refine ht_seq ?_
   refine ht_region ?_
   refine ho_lt rfl rfl rfl rfl rfl rfl (fun g3 => ?_) (fun g3 => ?_)
   ·skip
    refine ho_nil ?_
    refine hx_then ?_
    refine ht_seq ?_
    refine ht_then rfl ?_
    refine ht_skip ?_
    refine hx_then ?_
    refine ht_seq ?_
    refine ht_block ?_
    refine ht_seq ?_
    refine ht_region ?_
    refine ho_ev rfl rfl rfl (ev_move rfl rfl) ?_
    refine ho_ev rfl rfl rfl (ev_assign rfl rfl) ?_
    refine ho_nil ?_
    refine hx_then ?_
    refine ht_seq ?_
    refine ht_region ?_
    refine ho_ev rfl rfl rfl (ev_move rfl rfl) ?_
    refine ho_ev rfl rfl rfl (ev_move rfl rfl) ?_
    refine ho_ev rfl rfl rfl (ev_move rfl rfl) ?_
    refine ho_ev rfl rfl rfl (ev_add rfl rfl rfl (by first | exact in_i64 (by omega) | rfl)) ?_
    refine ho_eff rfl rfl rfl (eff_call rfl rfl (.cons rfl (.cons rfl .nil)) rfl (meta_tells p d (k + q)) (by repeat (first | exact Picks.nil | (apply Picks.ro; focus ((with_reducible repeat constructor); done)) | (apply Picks.cons; focus ((with_reducible repeat constructor); done)))) (fun _ => by repeat (first | exact App.nil | apply App.cons))) (fun _ => ?_)
    refine ho_ev rfl rfl rfl (ev_move rfl rfl) ?_
    refine ho_ev rfl rfl rfl (ev_extract rfl rfl rfl) ?_
    refine ho_ev rfl rfl rfl (ev_extract rfl rfl rfl) ?_
    refine ho_eff rfl rfl rfl (eff_alloc rfl Tryd.ty71 (by first | exact cells_agg _ | exact rfl)) (fun b10 => ?_)
    refine ho_eff0 rfl rfl (eff_storeA rfl Tryd.ty71 rfl rfl (by (with_reducible repeat constructor); done) rfl rfl rfl (by simp only [setRange, List.setIfInBounds_toArray, List.set_cons_zero, List.set_cons_succ, Nat.zero_add]; rfl)) (fun _ => ?_)
    refine ho_ev rfl rfl rfl (ev_assign rfl rfl) ?_
    refine ho_nil ?_
    refine hx_then ?_
    refine ht_seq ?_
    rcases ht : Mt.tell (d.view (k + (q : Int))) with _ | ⟨sn, sb⟩
    ·skip
     refine ht_draw (.op 0 (.op 1 (.op 2 (.op 3 (.op 4 (.op 5 (.op 6 (.op 7 (.op 8 (.op 9 .done)))))))))) [] Tryd.mixed rfl ?_
     refine hd_ev rfl rfl rfl rfl (EvG.of rfl (ev_move rfl rfl)) ?_
     refine hd_ev rfl rfl rfl rfl (EvG.of rfl (ev_move rfl rfl)) ?_
     refine hd_ev rfl rfl rfl rfl (EvG.pass rfl rfl) ?_
     refine hd_ev rfl rfl rfl rfl (EvG.pass rfl rfl) ?_
     refine hd_ev rfl rfl rfl rfl (EvG.pass rfl rfl) ?_
     refine hd_ev rfl rfl rfl rfl (EvG.pass rfl rfl) ?_
     refine hd_ev rfl rfl rfl rfl (EvG.pass rfl rfl) ?_
     refine hd_ev rfl rfl rfl rfl (EvG.pass rfl rfl) ?_
     refine hd_ev rfl rfl rfl rfl (EvG.pass rfl rfl) ?_
     refine hd_ev rfl rfl rfl rfl (EvG.of rfl (ev_pick_f rfl rfl rfl)) ?_
     refine hd_nil ?_
     refine hx_then ?_
     refine ht_else rfl ?_
     refine ht_skip ?_
     refine hx_block_normal ?_
     refine hx_then ?_
     refine ht_region ?_
     refine ho_ev rfl rfl rfl (ev_add rfl rfl rfl (by first | exact in_i64 (by omega) | rfl)) ?_
     refine ho_ev rfl rfl rfl (ev_move rfl rfl) ?_
     refine ho_nil ?_
     refine hx_again (I := (fun q : Nat × Mt.St => ([DiskAt p d, pt b21 (.cells #[.pointer (some ⟨p, 0, none⟩), .int .i64 k, .int .u64 ((q.2.number : Nat) : Int), .int .i64 ((q.2.last : Nat) : Int)] 83 (0, 0)), pu (q.2 = Mt.picked d.view k q.1 ∧ q.1 ≤ 2), F], [(22, .int .i64 q.1), (7, .pointer (some ⟨b21, 0, none⟩)), (8, vS q.2.body), (0, .pointer (some ⟨p, 0, none⟩)), (1, .int .i64 k)]))) (μ := (fun q : Nat × Mt.St => 2 - q.1)) (i := (q, s)) (q + 1, s) ?_ ?_ ?_
     ·(first | dsimp only | skip); omega
     ·repeat (first | exact EnvSub.nil _ | (refine EnvSub.cons rfl ?_))
     ·(first | dsimp only | skip)
      exact Ent.cons (by (repeat constructor); done) (Ent.cons (by (repeat constructor); done) (Ent.pu ⟨by rw [Mt.picked_succ, ← hs, ht]; rfl, by omega⟩ (Ent.cons (by (repeat constructor); done) Ent.nil)))
    ·skip
     obtain ⟨e1, e2⟩ := Mt.tell_some ht
     rw [e1, e2]
     refine ht_draw (.op 0 (.op 1 (.op 2 (.op 3 (.op 4 (.op 5 (.op 6 (.op 7 (.op 8 (.op 9 .done)))))))))) [] Tryd.mixed rfl ?_
     refine hd_ev rfl rfl rfl rfl (EvG.of rfl (ev_move rfl rfl)) ?_
     refine hd_ev rfl rfl rfl rfl (EvG.of rfl (ev_move rfl rfl)) ?_
     refine hd_ev rfl rfl rfl rfl (EvG.ofg rfl rfl (by first | exact ev_fieldAddr0 rfl Tryd.fld71_0 rfl | exact ev_fieldAddr rfl Tryd.fld71_0 rfl)) ?_
     refine hd_ev rfl rfl rfl rfl (EvG.ofg rfl rfl (ev_load rfl Tryd.underlying41 rfl rfl (by first | exact cell_pt (by (with_reducible repeat constructor); done) rfl | exact cell_ro (by (with_reducible repeat constructor); done) rfl))) ?_
     refine hd_ev rfl rfl rfl rfl (EvG.ofg rfl rfl (ev_move rfl rfl)) ?_
     refine hd_ev rfl rfl rfl rfl (EvG.ofg rfl rfl (ev_nilCheck rfl rfl)) ?_
     refine hd_ev rfl rfl rfl rfl (EvG.ofg rfl rfl (by first | exact ev_fieldAddr0 rfl Tryd.fld83_2 rfl | exact ev_fieldAddr rfl Tryd.fld83_2 rfl)) ?_
     refine hd_ev rfl rfl rfl rfl (EvG.ofg rfl rfl (ev_load rfl Tryd.underlying41 rfl rfl (by first | exact cell_pt (by (with_reducible repeat constructor); done) rfl | exact cell_ro (by (with_reducible repeat constructor); done) rfl))) ?_
     refine hd_gtg rfl rfl rfl rfl rfl rfl rfl rfl rfl (fun g4 => ?_) (fun g4 => ?_)
     ·skip
      refine hd_ev rfl rfl rfl rfl (EvG.of rfl (ev_pick_t rfl rfl rfl)) ?_
      refine hd_nil ?_
      refine hx_then ?_
      refine ht_then rfl ?_
      refine ht_draw (.op 0 (.op 1 (.op 2 (.op 3 (.op 4 (.op 5 (.op 6 (.op 7 (.op 8 (.op 9 (.op 10 (.op 11 (.op 12 (.op 13 .done)))))))))))))) [9, 12] Tryd.mixed rfl ?_
      refine hd_ev rfl rfl rfl rfl (EvG.of rfl (ev_move rfl rfl)) ?_
      refine hd_ev rfl rfl rfl rfl (EvG.of rfl (ev_move rfl rfl)) ?_
      refine hd_ev rfl rfl rfl rfl (EvG.of rfl (by first | exact ev_fieldAddr0 rfl Tryd.fld71_0 rfl | exact ev_fieldAddr rfl Tryd.fld71_0 rfl)) ?_
      refine hd_ev rfl rfl rfl rfl (EvG.of rfl (ev_load rfl Tryd.underlying41 rfl rfl (by first | exact cell_pt (by (with_reducible repeat constructor); done) rfl | exact cell_ro (by (with_reducible repeat constructor); done) rfl))) ?_
      refine hd_ev rfl rfl rfl rfl (EvG.of rfl (ev_move rfl rfl)) ?_
      refine hd_ev rfl rfl rfl rfl (EvG.of rfl (by first | exact ev_fieldAddr0 rfl Tryd.fld71_1 rfl | exact ev_fieldAddr rfl Tryd.fld71_1 rfl)) ?_
      refine hd_ev rfl rfl rfl rfl (EvG.of rfl (ev_load rfl Tryd.underlying9 rfl rfl (by first | exact cell_pt (by (with_reducible repeat constructor); done) rfl | exact cell_ro (by (with_reducible repeat constructor); done) rfl))) ?_
      refine hd_ev rfl rfl rfl rfl (EvG.of rfl (ev_nilCheck rfl rfl)) ?_
      refine hd_ev rfl rfl rfl rfl (EvG.of rfl (by first | exact ev_fieldAddr0 rfl Tryd.fld83_2 rfl | exact ev_fieldAddr rfl Tryd.fld83_2 rfl)) ?_
      refine hd_eff0 rfl rfl rfl rfl (eff_store1 rfl Tryd.ty41 rfl rfl (by (with_reducible repeat constructor); done) rfl rfl (lt_of_blt rfl) (by simp only [List.setIfInBounds_toArray, List.set_cons_zero, List.set_cons_succ]; rfl)) (fun _ => by (refine FL.skip rfl ?_); (refine FL.skip rfl ?_); (refine FL.ev rfl (EvG.of rfl (ev_load rfl Tryd.underlying9 rfl rfl (by first | exact cell_pt (by (with_reducible repeat constructor); done) rfl | exact cell_ro (by (with_reducible repeat constructor); done) rfl))) ?_); (refine FL.ev rfl (EvG.of rfl (by first | exact ev_fieldAddr0 rfl Tryd.fld71_1 rfl | exact ev_fieldAddr rfl Tryd.fld71_1 rfl)) ?_); (refine FL.ev rfl (EvG.of rfl (ev_move rfl rfl)) ?_); (refine FL.skip rfl ?_); (refine FL.skip rfl ?_); (refine FL.ev rfl (EvG.of rfl (ev_move rfl rfl)) ?_); (refine FL.skip rfl ?_); exact FL.nil) (fun _ => ?_)
      refine hd_ev rfl rfl rfl rfl (EvG.of rfl (ev_nilCheck rfl rfl)) ?_
      refine hd_ev rfl rfl rfl rfl (EvG.of rfl (by first | exact ev_fieldAddr0 rfl Tryd.fld83_3 rfl | exact ev_fieldAddr rfl Tryd.fld83_3 rfl)) ?_
      refine hd_eff0 rfl rfl rfl rfl (eff_store1 rfl Tryd.ty3 rfl rfl (by (with_reducible repeat constructor); done) rfl rfl (lt_of_blt rfl) (by simp only [List.setIfInBounds_toArray, List.set_cons_zero, List.set_cons_succ]; rfl)) (fun _ => by (refine FL.skip rfl ?_); (refine FL.skip rfl ?_); (refine FL.skip rfl ?_); (refine FL.skip rfl ?_); (refine FL.ev rfl (EvG.of rfl (ev_load rfl Tryd.underlying9 rfl rfl (by first | exact cell_pt (by (with_reducible repeat constructor); done) rfl | exact cell_ro (by (with_reducible repeat constructor); done) rfl))) ?_); (refine FL.ev rfl (EvG.of rfl (by first | exact ev_fieldAddr0 rfl Tryd.fld71_1 rfl | exact ev_fieldAddr rfl Tryd.fld71_1 rfl)) ?_); (refine FL.skip rfl ?_); (refine FL.skip rfl ?_); (refine FL.skip rfl ?_); (refine FL.skip rfl ?_); (refine FL.skip rfl ?_); exact FL.nil) (fun _ => ?_)
      refine hd_ev rfl rfl rfl rfl (EvG.of rfl (ev_assign rfl rfl)) ?_
      refine hd_nil ?_
      refine hx_block_normal ?_
      refine hx_then ?_
      refine ht_region ?_
      refine ho_ev rfl rfl rfl (ev_add rfl rfl rfl (by first | exact in_i64 (by omega) | rfl)) ?_
      refine ho_ev rfl rfl rfl (ev_move rfl rfl) ?_
      refine ho_nil ?_
      refine hx_again (I := (fun q : Nat × Mt.St => ([DiskAt p d, pt b21 (.cells #[.pointer (some ⟨p, 0, none⟩), .int .i64 k, .int .u64 ((q.2.number : Nat) : Int), .int .i64 ((q.2.last : Nat) : Int)] 83 (0, 0)), pu (q.2 = Mt.picked d.view k q.1 ∧ q.1 ≤ 2), F], [(22, .int .i64 q.1), (7, .pointer (some ⟨b21, 0, none⟩)), (8, vS q.2.body), (0, .pointer (some ⟨p, 0, none⟩)), (1, .int .i64 k)]))) (μ := (fun q : Nat × Mt.St => 2 - q.1)) (i := (q, s)) (q + 1, ⟨sn, q, sb⟩) ?_ ?_ ?_
      ·(first | dsimp only | skip); omega
      ·repeat (first | exact EnvSub.nil _ | (refine EnvSub.cons rfl ?_))
      ·(first | dsimp only | skip)
       exact Ent.cons (by (repeat constructor); done) (Ent.cons (by (repeat constructor); done) (Ent.pu ⟨by rw [Mt.picked_succ, ← hs, ht]; exact (Mt.pick_yes (by omega)).symm, by omega⟩ (Ent.cons (by (repeat constructor); done) Ent.nil)))
     ·skip
      refine hd_ev rfl rfl rfl rfl (EvG.of rfl (ev_pick_t rfl rfl rfl)) ?_
      refine hd_nil ?_
      refine hx_then ?_
      refine ht_else rfl ?_
      refine ht_skip ?_
      refine hx_block_normal ?_
      refine hx_then ?_
      refine ht_region ?_
      refine ho_ev rfl rfl rfl (ev_add rfl rfl rfl (by first | exact in_i64 (by omega) | rfl)) ?_
      refine ho_ev rfl rfl rfl (ev_move rfl rfl) ?_
      refine ho_nil ?_
      refine hx_again (I := (fun q : Nat × Mt.St => ([DiskAt p d, pt b21 (.cells #[.pointer (some ⟨p, 0, none⟩), .int .i64 k, .int .u64 ((q.2.number : Nat) : Int), .int .i64 ((q.2.last : Nat) : Int)] 83 (0, 0)), pu (q.2 = Mt.picked d.view k q.1 ∧ q.1 ≤ 2), F], [(22, .int .i64 q.1), (7, .pointer (some ⟨b21, 0, none⟩)), (8, vS q.2.body), (0, .pointer (some ⟨p, 0, none⟩)), (1, .int .i64 k)]))) (μ := (fun q : Nat × Mt.St => 2 - q.1)) (i := (q, s)) (q + 1, s) ?_ ?_ ?_
      ·(first | dsimp only | skip); omega
      ·repeat (first | exact EnvSub.nil _ | (refine EnvSub.cons rfl ?_))
      ·(first | dsimp only | skip)
       exact Ent.cons (by (repeat constructor); done) (Ent.cons (by (repeat constructor); done) (Ent.pu ⟨by rw [Mt.picked_succ, ← hs, ht]; exact (Mt.pick_no (by omega)).symm, by omega⟩ (Ent.cons (by (repeat constructor); done) Ent.nil)))
   ·skip
    refine ho_nil ?_
    refine hx_then ?_
    refine ht_seq ?_
    refine ht_else rfl ?_
    refine ht_exit ?_
    refine hx_through trivial ?_
    refine hx_through trivial ?_
    refine hx_block_here ?_
    refine hx_then ?_
    refine ht_seq ?_
    refine ht_seq ?_
    obtain rfl : q = 2 := by omega
    rw [Mt.picked_two] at hs
    subst hs
    refine ht_region ?_
    refine ho_ev rfl rfl rfl (ev_move rfl rfl) ?_
    refine ho_ev rfl rfl rfl (ev_nilCheck rfl rfl) ?_
    refine ho_ev rfl rfl rfl (by first | exact ev_fieldAddr0 rfl Tryd.fld83_2 rfl | exact ev_fieldAddr rfl Tryd.fld83_2 rfl) ?_
    refine ho_ev rfl rfl rfl (ev_load rfl Tryd.underlying41 rfl rfl (by first | exact cell_pt (by (with_reducible repeat constructor); done) rfl | exact cell_ro (by (with_reducible repeat constructor); done) rfl)) ?_
    refine ho_eq rfl rfl rfl rfl rfl rfl (fun g5 => ?_) (fun g5 => ?_)
    ·skip
     refine ho_nil ?_
     refine hx_then ?_
     refine ht_then rfl ?_
     refine ht_seq ?_
     refine ht_region ?_
     refine ho_ev rfl rfl rfl (ev_move rfl rfl) ?_
     refine ho_ev rfl rfl rfl (ev_assign rfl rfl) ?_
     refine ho_ev rfl rfl rfl (ev_assign rfl rfl) ?_
     refine ho_ev rfl rfl rfl (ev_assign rfl rfl) ?_
     refine ho_nil ?_
     refine hx_then ?_
     refine ht_ret ?_
     refine hx_through trivial ?_
     have hb := Mt.opened_nil (f := d.view) (k := k) (by omega)
     refine hx_ret3 (.inl rfl) rfl rfl rfl rfl b21 (by rw [hb, if_pos (by omega)]; rfl) ?_
     exact Ent.cons (by (repeat constructor); done) (Ent.cons (by (repeat constructor); done) (Ent.cons (by (repeat constructor); done) Ent.nil))
    ·skip
     refine ho_nil ?_
     refine hx_then ?_
     refine ht_else rfl ?_
     refine ht_skip ?_
     refine hx_then ?_
     refine ht_seq ?_
     refine ht_region ?_
     refine ho_ev rfl rfl rfl (ev_move rfl rfl) ?_
     refine ho_ev rfl rfl rfl (ev_move rfl rfl) ?_
     refine ho_ev rfl rfl rfl (ev_assign rfl rfl) ?_
     refine ho_ev rfl rfl rfl (ev_assign rfl rfl) ?_
     refine ho_ev rfl rfl rfl (ev_assign rfl rfl) ?_
     refine ho_nil ?_
     refine hx_then ?_
     refine ht_ret ?_
     refine hx_ret3 (.inl rfl) rfl rfl rfl rfl b21 (by rw [if_neg (by omega)]) ?_
     exact Ent.cons (by (repeat constructor); done) (Ent.cons (by (repeat constructor); done) (Ent.cons (by (repeat constructor); done) Ent.nil))
theorem meta_S1 (b3 b8 b9 mb p : Nat) (d : Dk.Disk) (k o : Int) (number last : Nat) (a : Option Addr) (c : Nat) (b : List UInt8) (hp : d.pend.length < 1000) (hk : 0 ≤ k ∧ k ≤ 65534) (ho : 0 ≤ o ∧ o ≤ 1) (hc : b.length ≤ c) (hb4 : b.length < 4294967296) : Ctr Tryd.prog 33 #[.pointer (some ⟨b3, 0, none⟩)] [pt b3 (.cells #[.pointer (some ⟨mb, 0, none⟩)] 28 (0, 0)), pt mb (.cells #[.pointer (some ⟨p, 0, none⟩), .int .i64 k, .int .u64 ((number : Nat) : Int), .int .i64 ((last : Nat) : Int)] 83 (0, 0)), DiskAt p d] (fun _ : Unit => .int .i64 (0)) (fun _ => [pt b3 (.cells #[.pointer (some ⟨mb, 0, none⟩)] 28 (0, 0)), pt mb (.cells #[.pointer (some ⟨p, 0, none⟩), .int .i64 k, .int .u64 ((number : Nat) : Int), .int .i64 ((last : Nat) : Int)] 83 (0, 0)), DiskAt p (d.sync)]) := by
 refine fn_intro Tryd.func33 rfl rfl Tryd.ntmps33 (Nat.le_of_ble_eq_true rfl) (fun _ => by repeat (first | exact App.nil | apply App.cons)) (fun κ F => ?_)
 refine ht_seq ?_
 refine ht_region ?_
 refine ho_ev rfl rfl rfl (ev_assign rfl rfl) ?_
 refine ho_nil ?_
 refine hx_then ?_
 refine ht_seq ?_
 refine ht_region ?_
 refine ho_ev rfl rfl rfl (ev_load rfl Tryd.underlying28 rfl rfl (by first | exact cell_pt (by (with_reducible repeat constructor); done) rfl | exact cell_ro (by (with_reducible repeat constructor); done) rfl)) ?_
 refine ho_ev rfl rfl rfl (ev_nilCheck rfl rfl) ?_
 refine ho_ev rfl rfl rfl (by first | exact ev_fieldAddr0 rfl Tryd.fld83_0 rfl | exact ev_fieldAddr rfl Tryd.fld83_0 rfl) ?_
 refine ho_ev rfl rfl rfl (ev_load rfl Tryd.underlying23 rfl rfl (by first | exact cell_pt (by (with_reducible repeat constructor); done) rfl | exact cell_ro (by (with_reducible repeat constructor); done) rfl)) ?_
 refine ho_eff rfl rfl rfl (eff_call rfl rfl (.cons rfl .nil) rfl (disk_Sync p d) (by repeat (first | exact Picks.nil | (apply Picks.ro; focus ((with_reducible repeat constructor); done)) | (apply Picks.cons; focus ((with_reducible repeat constructor); done)))) (fun _ => by repeat (first | exact App.nil | apply App.cons))) (fun _ => ?_)
 refine ho_nil ?_
 refine hx_then ?_
 refine ht_seq ?_
 refine ht_region ?_
 refine ho_ev rfl rfl rfl (ev_assign rfl rfl) ?_
 refine ho_nil ?_
 refine hx_then ?_
 refine ht_ret ?_
 exact hx_ret1 (.inl rfl) rfl rfl () rfl (Ent.cons (by (repeat constructor); done) (Ent.cons (by (repeat constructor); done) (Ent.cons (by (repeat constructor); done) (Ent.cons (by (repeat constructor); done) Ent.nil))))
theorem meta_S2 (b3 b8 b9 mb p : Nat) (d : Dk.Disk) (k o : Int) (number last : Nat) (a : Option Addr) (c : Nat) (b : List UInt8) (hp : d.pend.length < 1000) (hk : 0 ≤ k ∧ k ≤ 65534) (ho : 0 ≤ o ∧ o ≤ 1) (hc : b.length ≤ c) (hb4 : b.length < 4294967296) : Ctr Tryd.prog 35 #[.pointer (some ⟨b3, 0, none⟩), .pointer (some ⟨b8, 0, none⟩)] [pt b3 (.cells #[.pointer (some ⟨mb, 0, none⟩)] 28 (0, 0)), pt mb (.cells #[.pointer (some ⟨p, 0, none⟩), .int .i64 k, .int .u64 ((number : Nat) : Int), .int .i64 ((last : Nat) : Int)] 83 (0, 0)), pt b8 (.cells #[.int .i64 o] 3 (0, 0)), DiskAt p d] (fun _ : Unit => .int .i64 (0)) (fun _ => [pt b3 (.cells #[.pointer (some ⟨mb, 0, none⟩)] 28 (0, 0)), pt mb (.cells #[.pointer (some ⟨p, 0, none⟩), .int .i64 k, .int .u64 ((number : Nat) : Int), .int .i64 ((last : Nat) : Int)] 83 (0, 0)), pt b8 (.cells #[.int .i64 o] 3 (0, 0)), DiskAt p (d.free (k + o))]) := by
 refine fn_intro Tryd.func35 rfl rfl Tryd.ntmps35 (Nat.le_of_ble_eq_true rfl) (fun _ => by repeat (first | exact App.nil | apply App.cons)) (fun κ F => ?_)
 refine ht_seq ?_
 refine ht_region ?_
 refine ho_ev rfl rfl rfl (ev_assign rfl rfl) ?_
 refine ho_nil ?_
 refine hx_then ?_
 refine ht_seq ?_
 refine ht_draw (.op 0 (.op 1 (.op 2 (.op 3 (.op 4 (.op 5 (.op 6 (.op 7 (.op 8 (.op 9 (.op 10 .done))))))))))) [10] Tryd.mixed rfl ?_
 refine hd_ev rfl rfl rfl rfl (EvG.of rfl (ev_load rfl Tryd.underlying28 rfl rfl (by first | exact cell_pt (by (with_reducible repeat constructor); done) rfl | exact cell_ro (by (with_reducible repeat constructor); done) rfl))) ?_
 refine hd_ev rfl rfl rfl rfl (EvG.of rfl (ev_nilCheck rfl rfl)) ?_
 refine hd_ev rfl rfl rfl rfl (EvG.of rfl (by first | exact ev_fieldAddr0 rfl Tryd.fld83_0 rfl | exact ev_fieldAddr rfl Tryd.fld83_0 rfl)) ?_
 refine hd_ev rfl rfl rfl rfl (EvG.of rfl (ev_load rfl Tryd.underlying23 rfl rfl (by first | exact cell_pt (by (with_reducible repeat constructor); done) rfl | exact cell_ro (by (with_reducible repeat constructor); done) rfl))) ?_
 refine hd_ev rfl rfl rfl rfl (EvG.of rfl (ev_load rfl Tryd.underlying28 rfl rfl (by first | exact cell_pt (by (with_reducible repeat constructor); done) rfl | exact cell_ro (by (with_reducible repeat constructor); done) rfl))) ?_
 refine hd_ev rfl rfl rfl rfl (EvG.of rfl (ev_nilCheck rfl rfl)) ?_
 refine hd_ev rfl rfl rfl rfl (EvG.of rfl (by first | exact ev_fieldAddr0 rfl Tryd.fld83_1 rfl | exact ev_fieldAddr rfl Tryd.fld83_1 rfl)) ?_
 refine hd_ev rfl rfl rfl rfl (EvG.of rfl (ev_load rfl Tryd.underlying3 rfl rfl (by first | exact cell_pt (by (with_reducible repeat constructor); done) rfl | exact cell_ro (by (with_reducible repeat constructor); done) rfl))) ?_
 refine hd_ev rfl rfl rfl rfl (EvG.of rfl (ev_load rfl Tryd.underlying3 rfl rfl (by first | exact cell_pt (by (with_reducible repeat constructor); done) rfl | exact cell_ro (by (with_reducible repeat constructor); done) rfl))) ?_
 refine hd_ev rfl rfl rfl rfl (EvG.of rfl (ev_add rfl rfl rfl (by first | exact in_i64 (by omega) | rfl))) ?_
 refine hd_eff rfl rfl rfl rfl rfl (eff_call rfl rfl (.cons rfl (.cons rfl .nil)) rfl (disk_Free p d (k + o) (by omega)) (by repeat (first | exact Picks.nil | (apply Picks.ro; focus ((with_reducible repeat constructor); done)) | (apply Picks.cons; focus ((with_reducible repeat constructor); done)))) (fun _ => by repeat (first | exact App.nil | apply App.cons))) (fun _ => by (refine FL.skip rfl ?_); (refine FL.skip rfl ?_); (refine FL.skip rfl ?_); (refine FL.skip rfl ?_); (refine FL.skip rfl ?_); (refine FL.skip rfl ?_); (refine FL.skip rfl ?_); (refine FL.skip rfl ?_); (refine FL.skip rfl ?_); (refine FL.skip rfl ?_); exact FL.nil) (fun _ => ?_)
 refine hd_nil ?_
 refine hx_then ?_
 refine ht_seq ?_
 refine ht_region ?_
 refine ho_ev rfl rfl rfl (ev_assign rfl rfl) ?_
 refine ho_nil ?_
 refine hx_then ?_
 refine ht_ret ?_
 exact hx_ret1 (.inl rfl) rfl rfl () rfl (Ent.cons (by (repeat constructor); done) (Ent.cons (by (repeat constructor); done) (Ent.cons (by (repeat constructor); done) (Ent.cons (by (repeat constructor); done) (Ent.cons (by (repeat constructor); done) Ent.nil)))))
theorem meta_S3 (b3 b8 b9 mb p : Nat) (d : Dk.Disk) (k o : Int) (number last : Nat) (a : Option Addr) (c : Nat) (b : List UInt8) (hp : d.pend.length < 1000) (hk : 0 ≤ k ∧ k ≤ 65534) (ho : 0 ≤ o ∧ o ≤ 1) (hc : b.length ≤ c) (hb4 : b.length < 4294967296) : Ctr Tryd.prog 37 #[.pointer (some ⟨b3, 0, none⟩), .pointer (some ⟨b8, 0, none⟩), .pointer (some ⟨b9, 0, none⟩)] [pt b3 (.cells #[.pointer (some ⟨mb, 0, none⟩)] 28 (0, 0)), pt mb (.cells #[.pointer (some ⟨p, 0, none⟩), .int .i64 k, .int .u64 ((number : Nat) : Int), .int .i64 ((last : Nat) : Int)] 83 (0, 0)), pt b8 (.cells #[.int .i64 o] 3 (0, 0)), pt b9 (.cells #[.slice a b.length c] 86 (0, 0)), ro (roS a b.length b), DiskAt p d] (fun _ : Unit => .int .i64 (d.werr (k + o) b)) (fun _ => [pt b3 (.cells #[.pointer (some ⟨mb, 0, none⟩)] 28 (0, 0)), pt mb (.cells #[.pointer (some ⟨p, 0, none⟩), .int .i64 k, .int .u64 ((number : Nat) : Int), .int .i64 ((last : Nat) : Int)] 83 (0, 0)), pt b8 (.cells #[.int .i64 o] 3 (0, 0)), pt b9 (.cells #[.slice a b.length c] 86 (0, 0)), DiskAt p (d.write (k + o) b)]) := by
 refine fn_intro Tryd.func37 rfl rfl Tryd.ntmps37 (Nat.le_of_ble_eq_true rfl) (fun _ => by repeat (first | exact App.nil | apply App.cons)) (fun κ F => ?_)
 refine ht_seq ?_
 refine ht_region ?_
 refine ho_ev rfl rfl rfl (ev_assign rfl rfl) ?_
 refine ho_nil ?_
 refine hx_then ?_
 refine ht_seq ?_
 refine ht_draw (.op 0 (.op 1 (.op 2 (.op 3 (.op 4 (.op 5 (.op 6 (.op 7 (.op 8 (.op 9 (.op 10 (.op 11 (.op 12 .done))))))))))))) [11] Tryd.mixed rfl ?_
 refine hd_ev rfl rfl rfl rfl (EvG.of rfl (ev_load rfl Tryd.underlying28 rfl rfl (by first | exact cell_pt (by (with_reducible repeat constructor); done) rfl | exact cell_ro (by (with_reducible repeat constructor); done) rfl))) ?_
 refine hd_ev rfl rfl rfl rfl (EvG.of rfl (ev_nilCheck rfl rfl)) ?_
 refine hd_ev rfl rfl rfl rfl (EvG.of rfl (by first | exact ev_fieldAddr0 rfl Tryd.fld83_0 rfl | exact ev_fieldAddr rfl Tryd.fld83_0 rfl)) ?_
 refine hd_ev rfl rfl rfl rfl (EvG.of rfl (ev_load rfl Tryd.underlying23 rfl rfl (by first | exact cell_pt (by (with_reducible repeat constructor); done) rfl | exact cell_ro (by (with_reducible repeat constructor); done) rfl))) ?_
 refine hd_ev rfl rfl rfl rfl (EvG.of rfl (ev_load rfl Tryd.underlying28 rfl rfl (by first | exact cell_pt (by (with_reducible repeat constructor); done) rfl | exact cell_ro (by (with_reducible repeat constructor); done) rfl))) ?_
 refine hd_ev rfl rfl rfl rfl (EvG.of rfl (ev_nilCheck rfl rfl)) ?_
 refine hd_ev rfl rfl rfl rfl (EvG.of rfl (by first | exact ev_fieldAddr0 rfl Tryd.fld83_1 rfl | exact ev_fieldAddr rfl Tryd.fld83_1 rfl)) ?_
 refine hd_ev rfl rfl rfl rfl (EvG.of rfl (ev_load rfl Tryd.underlying3 rfl rfl (by first | exact cell_pt (by (with_reducible repeat constructor); done) rfl | exact cell_ro (by (with_reducible repeat constructor); done) rfl))) ?_
 refine hd_ev rfl rfl rfl rfl (EvG.of rfl (ev_load rfl Tryd.underlying3 rfl rfl (by first | exact cell_pt (by (with_reducible repeat constructor); done) rfl | exact cell_ro (by (with_reducible repeat constructor); done) rfl))) ?_
 refine hd_ev rfl rfl rfl rfl (EvG.of rfl (ev_add rfl rfl rfl (by first | exact in_i64 (by omega) | rfl))) ?_
 refine hd_ev rfl rfl rfl rfl (EvG.of rfl (ev_load rfl Tryd.underlying86 rfl rfl (by first | exact cell_pt (by (with_reducible repeat constructor); done) rfl | exact cell_ro (by (with_reducible repeat constructor); done) rfl))) ?_
 refine hd_eff rfl rfl rfl rfl rfl (eff_call rfl rfl (.cons rfl (.cons rfl (.cons rfl .nil))) rfl (disk_Write p d (k + o) a c b (by omega) hb4) (by repeat (first | exact Picks.nil | (apply Picks.ro; focus ((with_reducible repeat constructor); done)) | (apply Picks.cons; focus ((with_reducible repeat constructor); done)))) (fun _ => by repeat (first | exact App.nil | apply App.cons))) (fun _ => by (refine FL.skip rfl ?_); (refine FL.skip rfl ?_); (refine FL.skip rfl ?_); (refine FL.skip rfl ?_); (refine FL.skip rfl ?_); (refine FL.skip rfl ?_); (refine FL.skip rfl ?_); (refine FL.skip rfl ?_); (refine FL.skip rfl ?_); (refine FL.skip rfl ?_); (refine FL.skip rfl ?_); exact FL.nil) (fun _ => ?_)
 refine hd_ev rfl rfl rfl rfl (EvG.of rfl (ev_assign rfl rfl)) ?_
 refine hd_nil ?_
 refine hx_then ?_
 refine ht_ret ?_
 exact hx_ret1 (.inl rfl) rfl rfl () rfl (Ent.cons (by (repeat constructor); done) (Ent.cons (by (repeat constructor); done) (Ent.cons (by (repeat constructor); done) (Ent.cons (by (repeat constructor); done) (Ent.cons (by (repeat constructor); done) (Ent.cons (by (repeat constructor); done) Ent.nil))))))
theorem meta_StepsW (mb p : Nat) (d : Dk.Disk) (k : Int) (number last : Nat) (body : List UInt8) (n : Int) (hk : 0 ≤ k ∧ k ≤ 65534) (hl : last = 0 ∨ last = 1) (hp : d.pend.length < 900) : Ctr Tryd.prog 12 #[.pointer (some ⟨mb, 0, none⟩), vS body, .int .i64 n] [DiskAt p d, pt mb (.cells #[.pointer (some ⟨p, 0, none⟩), .int .i64 k, .int .u64 ((number : Nat) : Int), .int .i64 ((last : Nat) : Int)] 83 (0, 0)), ro bitsR] (fun _ : Unit => .tuple #[.bool (Mt.stepsW d k number last body n).fin, .int .i64 (Mt.stepsW d k number last body n).err]) (fun _ => [DiskAt p (Mt.stepsW d k number last body n).d, pt mb (.cells #[.pointer (some ⟨p, 0, none⟩), .int .i64 k, .int .u64 (((Mt.stepsW d k number last body n).number : Nat) : Int), .int .i64 (((Mt.stepsW d k number last body n).last : Nat) : Int)] 83 (0, 0))]) := by
 refine fn_intro Tryd.func12 rfl rfl Tryd.ntmps12 (Nat.le_of_ble_eq_true rfl) (fun _ => by repeat (first | exact App.nil | apply App.cons)) (fun κ F => ?_)
 refine ht_seq ?_
 refine ht_region ?_
 refine ho_eff rfl rfl rfl (eff_box1 rfl rfl rfl) (fun b3 => ?_)
 refine ho_ev rfl rfl rfl (ev_assign rfl rfl) ?_
 refine ho_ev rfl rfl rfl (ev_assign rfl rfl) ?_
 refine ho_nil ?_
 refine hx_then ?_
 refine ht_seq ?_
 refine ht_seq ?_
 refine ht_region ?_
 refine ho_ev rfl rfl rfl (ev_move rfl rfl) ?_
 refine ho_ev rfl rfl rfl (ev_lenS rfl Tryd.underlying9 rfl) ?_
 refine ho_gt rfl rfl rfl rfl rfl rfl (fun g1 => ?_) (fun g1 => ?_)
 ·skip
  refine ho_nil ?_
  refine hx_then ?_
  refine ht_then rfl ?_
  refine ht_seq ?_
  refine ht_region ?_
  refine ho_ev rfl rfl rfl (ev_assign rfl rfl) ?_
  refine ho_ev rfl rfl rfl (ev_assign rfl rfl) ?_
  refine ho_nil ?_
  refine hx_then ?_
  refine ht_ret ?_
  refine hx_through trivial ?_
  have hR : (Mt.stepsW d k number last body n) = ⟨d, false, 120, number, last⟩ := by unfold Mt.stepsW; rw [if_pos (by omega)]
  rw [hR]
  refine hx_ret2 (.inl rfl) rfl rfl rfl () rfl ?_
  exact Ent.cons (by (repeat constructor); done) (Ent.cons (by (repeat constructor); done) (Ent.cons (by (repeat constructor); done) Ent.nil))
 ·skip
  refine ho_nil ?_
  refine hx_then ?_
  refine ht_else rfl ?_
  refine ht_skip ?_
  refine hx_then ?_
  refine ht_seq ?_
  refine ht_region ?_
  refine ho_ev rfl rfl rfl (ev_load rfl Tryd.underlying28 rfl rfl (by first | exact cell_pt (by (with_reducible repeat constructor); done) rfl | exact cell_ro (by (with_reducible repeat constructor); done) rfl)) ?_
  refine ho_ev rfl rfl rfl (ev_nilCheck rfl rfl) ?_
  refine ho_ev rfl rfl rfl (by first | exact ev_fieldAddr0 rfl Tryd.fld83_3 rfl | exact ev_fieldAddr rfl Tryd.fld83_3 rfl) ?_
  refine ho_ev rfl rfl rfl (ev_load rfl Tryd.underlying3 rfl rfl (by first | exact cell_pt (by (with_reducible repeat constructor); done) rfl | exact cell_ro (by (with_reducible repeat constructor); done) rfl)) ?_
  refine ho_ev rfl rfl rfl (ev_sub rfl rfl rfl (by first | exact in_i64 (by omega) | rfl)) ?_
  refine ho_eff rfl rfl rfl (eff_alloc rfl Tryd.ty3 (by first | exact cells_agg _ | exact rfl)) (fun b8 => ?_)
  refine ho_eff0 rfl rfl (eff_store1 rfl Tryd.ty3 rfl rfl (by (with_reducible repeat constructor); done) rfl rfl (lt_of_blt rfl) (by simp only [List.setIfInBounds_toArray, List.set_cons_zero, List.set_cons_succ]; rfl)) (fun _ => ?_)
  refine ho_nil ?_
  refine hx_then ?_
  refine ht_seq ?_
  refine ht_region ?_
  refine ho_ev rfl rfl rfl (ev_load rfl Tryd.underlying28 rfl rfl (by first | exact cell_pt (by (with_reducible repeat constructor); done) rfl | exact cell_ro (by (with_reducible repeat constructor); done) rfl)) ?_
  refine ho_ev rfl rfl rfl (ev_nilCheck rfl rfl) ?_
  refine ho_ev rfl rfl rfl (by first | exact ev_fieldAddr0 rfl Tryd.fld83_2 rfl | exact ev_fieldAddr rfl Tryd.fld83_2 rfl) ?_
  refine ho_ev rfl rfl rfl (ev_load rfl Tryd.underlying41 rfl rfl (by first | exact cell_pt (by (with_reducible repeat constructor); done) rfl | exact cell_ro (by (with_reducible repeat constructor); done) rfl)) ?_
  refine ho_ev rfl rfl rfl (ev_add (r := ((((number + 1) % 18446744073709551616) : Nat) : Int)) rfl rfl rfl (by exact next_u64 number)) ?_
  refine ho_ev rfl rfl rfl (ev_move rfl rfl) ?_
  refine ho_ev rfl rfl rfl (ev_build1 (csl := [_, _]) rfl Tryd.st71 (.cons rfl (.cons rfl .nil)) (.cons rfl (.cons rfl .nil)) rfl rfl) ?_
  refine ho_eff rfl rfl rfl (eff_call rfl rfl (.cons rfl .nil) rfl (rec_Put ((number + 1) % 18446744073709551616) body (Nat.mod_lt _ (by decide)) (by omega)) (by repeat (first | exact Picks.nil | (apply Picks.ro; focus ((with_reducible repeat constructor); done)) | (apply Picks.cons; focus ((with_reducible repeat constructor); done)))) (fun _ => by repeat (first | exact App.nil | apply App.cons))) (fun y => ?_)
  refine ho_cap (xs := (Wire.put ((number + 1) % 18446744073709551616) body)) (by (with_reducible repeat constructor); done) (fun hyl hyc => ?_)
  refine ho_freezeS (xs := (Wire.put ((number + 1) % 18446744073709551616) body)) (by (with_reducible repeat constructor); done) ?_
  have hpl := Wire.put_len ((number + 1) % 18446744073709551616) body (Nat.mod_lt _ (by decide)) (by omega)
  refine ho_ev rfl rfl rfl (ev_move rfl rfl) ?_
  refine ho_ev rfl rfl rfl (ev_extract rfl rfl rfl) ?_
  refine ho_ev rfl rfl rfl (ev_extract rfl rfl rfl) ?_
  refine ho_eff rfl rfl rfl (eff_alloc rfl Tryd.ty86 (by first | exact cells_agg _ | exact rfl)) (fun b9 => ?_)
  refine ho_eff0 rfl rfl (eff_store1 rfl Tryd.ty86 rfl rfl (by (with_reducible repeat constructor); done) rfl rfl (lt_of_blt rfl) (by simp only [List.setIfInBounds_toArray, List.set_cons_zero, List.set_cons_succ]; rfl)) (fun _ => ?_)
  refine ho_ev rfl rfl rfl (ev_assign rfl rfl) ?_
  refine ho_nil ?_
  refine hx_then ?_
  refine ht_seq ?_
  refine ht_region ?_
  refine ho_ev rfl rfl rfl (ev_makeFunc rfl .nil (.cons rfl .nil)) ?_
  refine ho_ev rfl rfl rfl (ev_assign rfl rfl) ?_
  refine ho_nil ?_
  refine hx_then ?_
  refine ht_seq ?_
  refine ht_region ?_
  refine ho_ev rfl rfl rfl (ev_makeFunc rfl .nil (.cons rfl (.cons rfl .nil))) ?_
  refine ho_ev rfl rfl rfl (ev_move rfl rfl) ?_
  refine ho_ev rfl rfl rfl (ev_makeFunc rfl .nil (.cons rfl (.cons rfl (.cons rfl .nil)))) ?_
  refine ho_ev rfl rfl rfl (ev_move rfl rfl) ?_
  refine ho_ev rfl rfl rfl (ev_build1 (csl := [_, _, _, _]) rfl Tryd.st92 (.cons rfl (.cons rfl (.cons rfl (.cons rfl .nil)))) (.cons rfl (.cons rfl (.cons rfl (.cons rfl .nil)))) rfl rfl) ?_
  refine ho_eff rfl rfl rfl (eff_alloc rfl Tryd.ty92 (by first | exact cells_agg _ | exact rfl)) (fun b12 => ?_)
  refine ho_eff0 rfl rfl (eff_storeA rfl Tryd.ty92 rfl rfl (by (with_reducible repeat constructor); done) rfl rfl rfl (by simp only [setRange, List.setIfInBounds_toArray, List.set_cons_zero, List.set_cons_succ, Nat.zero_add]; rfl)) (fun _ => ?_)
  refine ho_nil ?_
  refine hx_then ?_
  refine ht_seq ?_
  refine ht_seq ?_
  refine ht_region ?_
  refine ho_ev rfl rfl rfl (ev_move rfl rfl) ?_
  refine ho_nil ?_
  refine hx_then ?_
  refine ht_block ?_
  refine ht_loop (fun q : Nat => ([DiskAt p (Mt.sd d (k + (1 - (last : Int))) (Wire.put ((number + 1) % 18446744073709551616) body) q), pt mb (.cells #[.pointer (some ⟨p, 0, none⟩), .int .i64 k, .int .u64 ((number : Nat) : Int), .int .i64 ((last : Nat) : Int)] 83 (0, 0)), pt b3 (.cells #[.pointer (some ⟨mb, 0, none⟩)] 28 (0, 0)), pt b8 (.cells #[.int .i64 (1 - (last : Int))] 3 (0, 0)), pt b9 (.cells #[.slice y.1 (Wire.put ((number + 1) % 18446744073709551616) body).length y.2] 86 (0, 0)), ro (roS y.1 (Wire.put ((number + 1) % 18446744073709551616) body).length (Wire.put ((number + 1) % 18446744073709551616) body)), pt b12 (.cells #[.func (.func 35) #[] #[.pointer (some ⟨b3, 0, none⟩), .pointer (some ⟨b8, 0, none⟩)], .func (.func 33) #[] #[.pointer (some ⟨b3, 0, none⟩)], .func (.func 37) #[] #[.pointer (some ⟨b3, 0, none⟩), .pointer (some ⟨b8, 0, none⟩), .pointer (some ⟨b9, 0, none⟩)], .func (.func 33) #[] #[.pointer (some ⟨b3, 0, none⟩)]] 92 (0, 0)), pu (q ≤ 4 ∧ ((0 < q) → (q : Int) ≤ n) ∧ (3 ≤ q → (Mt.sd d (k + (1 - (last : Int))) [] 2).werr (k + (1 - (last : Int))) (Wire.put ((number + 1) % 18446744073709551616) body) = 0)), F], [(40, .int .i64 q), (2, .int .i64 n), (3, .pointer (some ⟨b3, 0, none⟩)), (8, .pointer (some ⟨b8, 0, none⟩)), (12, .pointer (some ⟨b12, 0, none⟩))])) (fun q : Nat => 4 - q) 0 ?_ (by repeat (first | exact EnvSub.nil _ | (refine EnvSub.cons rfl ?_))) (fun q => ?_)
  ·(first | dsimp only | skip)
   exact Ent.cons (by (repeat constructor); done) (Ent.cons (by (repeat constructor); done) (Ent.cons (by (repeat constructor); done) (Ent.cons (by (repeat constructor); done) (Ent.cons (by (repeat constructor); done) (Ent.roD (by (with_reducible repeat constructor); done) (Ent.cons (by (repeat constructor); done) (Ent.pu ⟨by omega, by omega, by omega⟩ (Ent.cons (by (repeat constructor); done) Ent.nil))))))))
  obtain q := q
  dsimp only
  refine ht_pick (A := pu (q ≤ 4 ∧ ((0 < q) → (q : Int) ≤ n) ∧ (3 ≤ q → (Mt.sd d (k + (1 - (last : Int))) [] 2).werr (k + (1 - (last : Int))) (Wire.put ((number + 1) % 18446744073709551616) body) = 0))) (by (repeat constructor); done) (ht_pure fun hq => ?_)
  obtain ⟨hq4, hqn, hqw⟩ := hq
  refine ht_seq ?_
  refine ht_region ?_
  refine ho_lt rfl rfl rfl rfl rfl rfl (fun g2 => ?_) (fun g2 => ?_)
  ·skip
   refine ho_nil ?_
   refine hx_then ?_
   refine ht_seq ?_
   refine ht_then rfl ?_
   refine ht_skip ?_
   refine hx_then ?_
   refine ht_seq ?_
   refine ht_block ?_
   refine ht_seq ?_
   rcases (show q = 0 ∨ q = 1 ∨ q = 2 ∨ q = 3 by omega) with rfl | rfl | rfl | rfl
   ·skip
    refine ht_region ?_
    refine ho_ev rfl rfl rfl (ev_move rfl rfl) ?_
    refine ho_ev rfl rfl rfl (ev_assign rfl rfl) ?_
    refine ho_nil ?_
    refine hx_then ?_
    refine ht_seq ?_
    refine ht_seq ?_
    refine ht_region ?_
    refine ho_ev rfl rfl rfl (ev_move rfl rfl) ?_
    refine ho_ev rfl rfl rfl (ev_move rfl rfl) ?_
    refine ho_ge rfl rfl rfl rfl rfl rfl (fun g3 => ?_) (fun g3 => ?_)
    ·skip
     refine ho_nil ?_
     refine hx_then ?_
     refine ht_then rfl ?_
     refine ht_seq ?_
     refine ht_region ?_
     refine ho_ev rfl rfl rfl (ev_assign rfl rfl) ?_
     refine ho_ev rfl rfl rfl (ev_assign rfl rfl) ?_
     refine ho_nil ?_
     refine hx_then ?_
     refine ht_ret ?_
     refine hx_through trivial ?_
     refine hx_block_ret ?_
     refine hx_through trivial ?_
     refine hx_through trivial ?_
     refine hx_block_ret ?_
     refine hx_through trivial ?_
     have hR : (Mt.stepsW d k number last body n) = ⟨d, false, 0, number, last⟩ := by unfold Mt.stepsW; rw [if_neg (by omega), if_pos (by omega)]
     rw [hR]
     refine hx_ret2 (.inl rfl) rfl rfl rfl () rfl ?_
     exact Ent.cons (by (repeat constructor); done) (Ent.cons (by (repeat constructor); done) (Ent.cons (by (repeat constructor); done) Ent.nil))
    ·skip
     refine ho_nil ?_
     refine hx_then ?_
     refine ht_else rfl ?_
     refine ht_skip ?_
     refine hx_then ?_
     refine ht_seq ?_
     refine ht_region ?_
     refine ho_ev rfl rfl rfl (ev_move rfl rfl) ?_
     refine ho_ev rfl rfl rfl (ev_indexAddrA rfl Tryd.underlying92 Tryd.ty89 rfl rfl (by omega) (by omega)) ?_
     refine ho_ev rfl rfl rfl (ev_load rfl Tryd.underlying89 rfl rfl (by first | exact cell_pt (by (with_reducible repeat constructor); done) rfl | exact cell_ro (by (with_reducible repeat constructor); done) rfl)) ?_
     refine ho_eff rfl rfl rfl (eff_call rfl rfl .nil rfl (meta_S2 b3 b8 b9 mb p d k (1 - (last : Int)) number last y.1 y.2 (Wire.put ((number + 1) % 18446744073709551616) body) (by omega) hk (by omega) hyc (by omega)) (by repeat (first | exact Picks.nil | (apply Picks.ro; focus ((repeat constructor); done)) | (apply Picks.cons; focus ((repeat constructor); done)))) (fun _ => by repeat (first | exact App.nil | apply App.cons))) (fun _ => ?_)
     refine ho_ev rfl rfl rfl (ev_assign rfl rfl) ?_
     refine ho_nil ?_
     refine hx_then ?_
     refine ht_seq ?_
     refine ht_region ?_
     refine ho_ev rfl rfl rfl (ev_move rfl rfl) ?_
     refine ho_ne rfl rfl rfl rfl rfl rfl (fun g4 => ?_) (fun g4 => ?_)
     ·omega
     ·skip
      refine ho_nil ?_
      refine hx_then ?_
      refine ht_else rfl ?_
      refine ht_skip ?_
      refine hx_block_normal ?_
      refine hx_then ?_
      refine ht_region ?_
      refine ho_ev rfl rfl rfl (ev_add rfl rfl rfl (by first | exact in_i64 (by omega) | rfl)) ?_
      refine ho_ev rfl rfl rfl (ev_move rfl rfl) ?_
      refine ho_nil ?_
      refine hx_again (I := (fun q : Nat => ([DiskAt p (Mt.sd d (k + (1 - (last : Int))) (Wire.put ((number + 1) % 18446744073709551616) body) q), pt mb (.cells #[.pointer (some ⟨p, 0, none⟩), .int .i64 k, .int .u64 ((number : Nat) : Int), .int .i64 ((last : Nat) : Int)] 83 (0, 0)), pt b3 (.cells #[.pointer (some ⟨mb, 0, none⟩)] 28 (0, 0)), pt b8 (.cells #[.int .i64 (1 - (last : Int))] 3 (0, 0)), pt b9 (.cells #[.slice y.1 (Wire.put ((number + 1) % 18446744073709551616) body).length y.2] 86 (0, 0)), ro (roS y.1 (Wire.put ((number + 1) % 18446744073709551616) body).length (Wire.put ((number + 1) % 18446744073709551616) body)), pt b12 (.cells #[.func (.func 35) #[] #[.pointer (some ⟨b3, 0, none⟩), .pointer (some ⟨b8, 0, none⟩)], .func (.func 33) #[] #[.pointer (some ⟨b3, 0, none⟩)], .func (.func 37) #[] #[.pointer (some ⟨b3, 0, none⟩), .pointer (some ⟨b8, 0, none⟩), .pointer (some ⟨b9, 0, none⟩)], .func (.func 33) #[] #[.pointer (some ⟨b3, 0, none⟩)]] 92 (0, 0)), pu (q ≤ 4 ∧ ((0 < q) → (q : Int) ≤ n) ∧ (3 ≤ q → (Mt.sd d (k + (1 - (last : Int))) [] 2).werr (k + (1 - (last : Int))) (Wire.put ((number + 1) % 18446744073709551616) body) = 0)), F], [(40, .int .i64 q), (2, .int .i64 n), (3, .pointer (some ⟨b3, 0, none⟩)), (8, .pointer (some ⟨b8, 0, none⟩)), (12, .pointer (some ⟨b12, 0, none⟩))]))) (μ := (fun q : Nat => 4 - q)) (i := 0) 1 ?_ ?_ ?_
      ·(first | dsimp only | skip); omega
      ·repeat (first | exact EnvSub.nil _ | (refine EnvSub.cons rfl ?_))
      ·(first | dsimp only | skip)
       exact Ent.cons (by (repeat constructor); done) (Ent.cons (by (repeat constructor); done) (Ent.cons (by (repeat constructor); done) (Ent.cons (by (repeat constructor); done) (Ent.cons (by (repeat constructor); done) (Ent.roD (by (with_reducible repeat constructor); done) (Ent.cons (by (repeat constructor); done) (Ent.pu ⟨by omega, by omega, by omega⟩ (Ent.cons (by (repeat constructor); done) Ent.nil))))))))
   ·skip
    refine ht_region ?_
    refine ho_ev rfl rfl rfl (ev_move rfl rfl) ?_
    refine ho_ev rfl rfl rfl (ev_assign rfl rfl) ?_
    refine ho_nil ?_
    refine hx_then ?_
    refine ht_seq ?_
    refine ht_seq ?_
    refine ht_region ?_
    refine ho_ev rfl rfl rfl (ev_move rfl rfl) ?_
    refine ho_ev rfl rfl rfl (ev_move rfl rfl) ?_
    refine ho_ge rfl rfl rfl rfl rfl rfl (fun g5 => ?_) (fun g5 => ?_)
    ·skip
     refine ho_nil ?_
     refine hx_then ?_
     refine ht_then rfl ?_
     refine ht_seq ?_
     refine ht_region ?_
     refine ho_ev rfl rfl rfl (ev_assign rfl rfl) ?_
     refine ho_ev rfl rfl rfl (ev_assign rfl rfl) ?_
     refine ho_nil ?_
     refine hx_then ?_
     refine ht_ret ?_
     refine hx_through trivial ?_
     refine hx_block_ret ?_
     refine hx_through trivial ?_
     refine hx_through trivial ?_
     refine hx_block_ret ?_
     refine hx_through trivial ?_
     have hR : (Mt.stepsW d k number last body n) = ⟨Mt.sd d (k + (1 - (last : Int))) [] 1, false, 0, number, last⟩ := by unfold Mt.stepsW; rw [if_neg (by omega), if_neg (by omega), if_pos (by omega)]
     rw [hR]
     refine hx_ret2 (.inl rfl) rfl rfl rfl () rfl ?_
     exact Ent.cons (by (repeat constructor); done) (Ent.cons (by (repeat constructor); done) (Ent.cons (by (repeat constructor); done) Ent.nil))
    ·skip
     refine ho_nil ?_
     refine hx_then ?_
     refine ht_else rfl ?_
     refine ht_skip ?_
     refine hx_then ?_
     refine ht_seq ?_
     refine ht_region ?_
     refine ho_ev rfl rfl rfl (ev_move rfl rfl) ?_
     refine ho_ev rfl rfl rfl (ev_indexAddrA rfl Tryd.underlying92 Tryd.ty89 rfl rfl (by omega) (by omega)) ?_
     refine ho_ev rfl rfl rfl (ev_load rfl Tryd.underlying89 rfl rfl (by first | exact cell_pt (by (with_reducible repeat constructor); done) rfl | exact cell_ro (by (with_reducible repeat constructor); done) rfl)) ?_
     refine ho_eff rfl rfl rfl (eff_call rfl rfl .nil rfl (meta_S1 b3 b8 b9 mb p (d.free (k + (1 - (last : Int)))) k (1 - (last : Int)) number last y.1 y.2 (Wire.put ((number + 1) % 18446744073709551616) body) (by have := Mt.free_pend d (k + (1 - (last : Int))); omega) hk (by omega) hyc (by omega)) (by repeat (first | exact Picks.nil | (apply Picks.ro; focus ((repeat constructor); done)) | (apply Picks.cons; focus ((repeat constructor); done)))) (fun _ => by repeat (first | exact App.nil | apply App.cons))) (fun _ => ?_)
     refine ho_ev rfl rfl rfl (ev_assign rfl rfl) ?_
     refine ho_nil ?_
     refine hx_then ?_
     refine ht_seq ?_
     refine ht_region ?_
     refine ho_ev rfl rfl rfl (ev_move rfl rfl) ?_
     refine ho_ne rfl rfl rfl rfl rfl rfl (fun g6 => ?_) (fun g6 => ?_)
     ·omega
     ·skip
      refine ho_nil ?_
      refine hx_then ?_
      refine ht_else rfl ?_
      refine ht_skip ?_
      refine hx_block_normal ?_
      refine hx_then ?_
      refine ht_region ?_
      refine ho_ev rfl rfl rfl (ev_add rfl rfl rfl (by first | exact in_i64 (by omega) | rfl)) ?_
      refine ho_ev rfl rfl rfl (ev_move rfl rfl) ?_
      refine ho_nil ?_
      refine hx_again (I := (fun q : Nat => ([DiskAt p (Mt.sd d (k + (1 - (last : Int))) (Wire.put ((number + 1) % 18446744073709551616) body) q), pt mb (.cells #[.pointer (some ⟨p, 0, none⟩), .int .i64 k, .int .u64 ((number : Nat) : Int), .int .i64 ((last : Nat) : Int)] 83 (0, 0)), pt b3 (.cells #[.pointer (some ⟨mb, 0, none⟩)] 28 (0, 0)), pt b8 (.cells #[.int .i64 (1 - (last : Int))] 3 (0, 0)), pt b9 (.cells #[.slice y.1 (Wire.put ((number + 1) % 18446744073709551616) body).length y.2] 86 (0, 0)), ro (roS y.1 (Wire.put ((number + 1) % 18446744073709551616) body).length (Wire.put ((number + 1) % 18446744073709551616) body)), pt b12 (.cells #[.func (.func 35) #[] #[.pointer (some ⟨b3, 0, none⟩), .pointer (some ⟨b8, 0, none⟩)], .func (.func 33) #[] #[.pointer (some ⟨b3, 0, none⟩)], .func (.func 37) #[] #[.pointer (some ⟨b3, 0, none⟩), .pointer (some ⟨b8, 0, none⟩), .pointer (some ⟨b9, 0, none⟩)], .func (.func 33) #[] #[.pointer (some ⟨b3, 0, none⟩)]] 92 (0, 0)), pu (q ≤ 4 ∧ ((0 < q) → (q : Int) ≤ n) ∧ (3 ≤ q → (Mt.sd d (k + (1 - (last : Int))) [] 2).werr (k + (1 - (last : Int))) (Wire.put ((number + 1) % 18446744073709551616) body) = 0)), F], [(40, .int .i64 q), (2, .int .i64 n), (3, .pointer (some ⟨b3, 0, none⟩)), (8, .pointer (some ⟨b8, 0, none⟩)), (12, .pointer (some ⟨b12, 0, none⟩))]))) (μ := (fun q : Nat => 4 - q)) (i := 1) 2 ?_ ?_ ?_
      ·(first | dsimp only | skip); omega
      ·repeat (first | exact EnvSub.nil _ | (refine EnvSub.cons rfl ?_))
      ·(first | dsimp only | skip)
       exact Ent.cons (by (repeat constructor); done) (Ent.cons (by (repeat constructor); done) (Ent.cons (by (repeat constructor); done) (Ent.cons (by (repeat constructor); done) (Ent.cons (by (repeat constructor); done) (Ent.roD (by (with_reducible repeat constructor); done) (Ent.cons (by (repeat constructor); done) (Ent.pu ⟨by omega, by omega, by omega⟩ (Ent.cons (by (repeat constructor); done) Ent.nil))))))))
   ·skip
    refine ht_region ?_
    refine ho_ev rfl rfl rfl (ev_move rfl rfl) ?_
    refine ho_ev rfl rfl rfl (ev_assign rfl rfl) ?_
    refine ho_nil ?_
    refine hx_then ?_
    refine ht_seq ?_
    refine ht_seq ?_
    refine ht_region ?_
    refine ho_ev rfl rfl rfl (ev_move rfl rfl) ?_
    refine ho_ev rfl rfl rfl (ev_move rfl rfl) ?_
    refine ho_ge rfl rfl rfl rfl rfl rfl (fun g7 => ?_) (fun g7 => ?_)
    ·skip
     refine ho_nil ?_
     refine hx_then ?_
     refine ht_then rfl ?_
     refine ht_seq ?_
     refine ht_region ?_
     refine ho_ev rfl rfl rfl (ev_assign rfl rfl) ?_
     refine ho_ev rfl rfl rfl (ev_assign rfl rfl) ?_
     refine ho_nil ?_
     refine hx_then ?_
     refine ht_ret ?_
     refine hx_through trivial ?_
     refine hx_block_ret ?_
     refine hx_through trivial ?_
     refine hx_through trivial ?_
     refine hx_block_ret ?_
     refine hx_through trivial ?_
     have hR : (Mt.stepsW d k number last body n) = ⟨Mt.sd d (k + (1 - (last : Int))) [] 2, false, 0, number, last⟩ := by unfold Mt.stepsW; rw [if_neg (by omega), if_neg (by omega), if_neg (by omega), if_pos (by omega)]
     rw [hR]
     refine hx_ret2 (.inl rfl) rfl rfl rfl () rfl ?_
     exact Ent.cons (by (repeat constructor); done) (Ent.cons (by (repeat constructor); done) (Ent.cons (by (repeat constructor); done) Ent.nil))
    ·skip
     refine ho_nil ?_
     refine hx_then ?_
     refine ht_else rfl ?_
     refine ht_skip ?_
     refine hx_then ?_
     refine ht_seq ?_
     refine ht_region ?_
     refine ho_ev rfl rfl rfl (ev_move rfl rfl) ?_
     refine ho_ev rfl rfl rfl (ev_indexAddrA rfl Tryd.underlying92 Tryd.ty89 rfl rfl (by omega) (by omega)) ?_
     refine ho_ev rfl rfl rfl (ev_load rfl Tryd.underlying89 rfl rfl (by first | exact cell_pt (by (with_reducible repeat constructor); done) rfl | exact cell_ro (by (with_reducible repeat constructor); done) rfl)) ?_
     refine ho_eff rfl rfl rfl (eff_call rfl rfl .nil rfl (meta_S3 b3 b8 b9 mb p (d.free (k + (1 - (last : Int)))).sync k (1 - (last : Int)) number last y.1 y.2 (Wire.put ((number + 1) % 18446744073709551616) body) (by show 0 < 1000; omega) hk (by omega) hyc (by omega)) (by repeat (first | exact Picks.nil | (apply Picks.ro; focus ((repeat constructor); done)) | (apply Picks.cons; focus ((repeat constructor); done)))) (fun _ => by repeat (first | exact App.nil | apply App.cons))) (fun _ => ?_)
     refine ho_ev rfl rfl rfl (ev_assign rfl rfl) ?_
     refine ho_nil ?_
     refine hx_then ?_
     refine ht_seq ?_
     refine ht_region ?_
     refine ho_ev rfl rfl rfl (ev_move rfl rfl) ?_
     refine ho_ne rfl rfl rfl rfl rfl rfl (fun g8 => ?_) (fun g8 => ?_)
     ·skip
      refine ho_nil ?_
      refine hx_then ?_
      refine ht_then rfl ?_
      refine ht_seq ?_
      refine ht_region ?_
      refine ho_ev rfl rfl rfl (ev_move rfl rfl) ?_
      refine ho_ev rfl rfl rfl (ev_assign rfl rfl) ?_
      refine ho_ev rfl rfl rfl (ev_assign rfl rfl) ?_
      refine ho_nil ?_
      refine hx_then ?_
      refine ht_ret ?_
      refine hx_block_ret ?_
      refine hx_through trivial ?_
      refine hx_through trivial ?_
      refine hx_block_ret ?_
      refine hx_through trivial ?_
      have hw2 : ¬ (d.free (k + (1 - (last : Int)))).sync.werr (k + (1 - (last : Int))) (Wire.put ((number + 1) % 18446744073709551616) body) = 0 := by omega
      have hw1 : (Mt.sd d (k + (1 - (last : Int))) [] 2).werr (k + (1 - (last : Int))) (Wire.put ((number + 1) % 18446744073709551616) body) ≠ 0 := hw2
      have hR : (Mt.stepsW d k number last body n) = ⟨Mt.sd d (k + (1 - (last : Int))) [] 2, false, (Mt.sd d (k + (1 - (last : Int))) [] 2).werr (k + (1 - (last : Int))) (Wire.put ((number + 1) % 18446744073709551616) body), number, last⟩ := by unfold Mt.stepsW; rw [if_neg (by omega), if_neg (by omega), if_neg (by omega), if_neg (by omega), if_pos hw1]
      rw [hR]
      have hwr : (d.free (k + (1 - (last : Int)))).sync.write (k + (1 - (last : Int))) (Wire.put ((number + 1) % 18446744073709551616) body) = Mt.sd d (k + (1 - (last : Int))) [] 2 := by unfold Dk.Disk.write; rw [if_neg hw2]; rfl
      rw [hwr]
      refine hx_ret2 (.inl rfl) rfl rfl rfl () rfl ?_
      exact Ent.cons (by (repeat constructor); done) (Ent.cons (by (repeat constructor); done) (Ent.cons (by (repeat constructor); done) Ent.nil))
     ·skip
      refine ho_nil ?_
      refine hx_then ?_
      refine ht_else rfl ?_
      refine ht_skip ?_
      refine hx_block_normal ?_
      refine hx_then ?_
      refine ht_region ?_
      refine ho_ev rfl rfl rfl (ev_add rfl rfl rfl (by first | exact in_i64 (by omega) | rfl)) ?_
      refine ho_ev rfl rfl rfl (ev_move rfl rfl) ?_
      refine ho_nil ?_
      have hw00 : (d.free (k + (1 - (last : Int)))).sync.werr (k + (1 - (last : Int))) (Wire.put ((number + 1) % 18446744073709551616) body) = 0 := by omega
      have hw0 : (Mt.sd d (k + (1 - (last : Int))) [] 2).werr (k + (1 - (last : Int))) (Wire.put ((number + 1) % 18446744073709551616) body) = 0 := hw00
      refine hx_again (I := (fun q : Nat => ([DiskAt p (Mt.sd d (k + (1 - (last : Int))) (Wire.put ((number + 1) % 18446744073709551616) body) q), pt mb (.cells #[.pointer (some ⟨p, 0, none⟩), .int .i64 k, .int .u64 ((number : Nat) : Int), .int .i64 ((last : Nat) : Int)] 83 (0, 0)), pt b3 (.cells #[.pointer (some ⟨mb, 0, none⟩)] 28 (0, 0)), pt b8 (.cells #[.int .i64 (1 - (last : Int))] 3 (0, 0)), pt b9 (.cells #[.slice y.1 (Wire.put ((number + 1) % 18446744073709551616) body).length y.2] 86 (0, 0)), ro (roS y.1 (Wire.put ((number + 1) % 18446744073709551616) body).length (Wire.put ((number + 1) % 18446744073709551616) body)), pt b12 (.cells #[.func (.func 35) #[] #[.pointer (some ⟨b3, 0, none⟩), .pointer (some ⟨b8, 0, none⟩)], .func (.func 33) #[] #[.pointer (some ⟨b3, 0, none⟩)], .func (.func 37) #[] #[.pointer (some ⟨b3, 0, none⟩), .pointer (some ⟨b8, 0, none⟩), .pointer (some ⟨b9, 0, none⟩)], .func (.func 33) #[] #[.pointer (some ⟨b3, 0, none⟩)]] 92 (0, 0)), pu (q ≤ 4 ∧ ((0 < q) → (q : Int) ≤ n) ∧ (3 ≤ q → (Mt.sd d (k + (1 - (last : Int))) [] 2).werr (k + (1 - (last : Int))) (Wire.put ((number + 1) % 18446744073709551616) body) = 0)), F], [(40, .int .i64 q), (2, .int .i64 n), (3, .pointer (some ⟨b3, 0, none⟩)), (8, .pointer (some ⟨b8, 0, none⟩)), (12, .pointer (some ⟨b12, 0, none⟩))]))) (μ := (fun q : Nat => 4 - q)) (i := 2) 3 ?_ ?_ ?_
      ·(first | dsimp only | skip); omega
      ·repeat (first | exact EnvSub.nil _ | (refine EnvSub.cons rfl ?_))
      ·(first | dsimp only | skip)
       exact Ent.cons (by (repeat constructor); done) (Ent.cons (by (repeat constructor); done) (Ent.cons (by (repeat constructor); done) (Ent.cons (by (repeat constructor); done) (Ent.cons (by (repeat constructor); done) (Ent.roD (by (with_reducible repeat constructor); done) (Ent.cons (by (repeat constructor); done) (Ent.pu ⟨by omega, by omega, fun _ => hw0⟩ (Ent.cons (by (repeat constructor); done) Ent.nil))))))))
   ·skip
    refine ht_region ?_
    refine ho_ev rfl rfl rfl (ev_move rfl rfl) ?_
    refine ho_ev rfl rfl rfl (ev_assign rfl rfl) ?_
    refine ho_nil ?_
    refine hx_then ?_
    refine ht_seq ?_
    refine ht_seq ?_
    refine ht_region ?_
    refine ho_ev rfl rfl rfl (ev_move rfl rfl) ?_
    refine ho_ev rfl rfl rfl (ev_move rfl rfl) ?_
    refine ho_ge rfl rfl rfl rfl rfl rfl (fun g9 => ?_) (fun g9 => ?_)
    ·skip
     refine ho_nil ?_
     refine hx_then ?_
     refine ht_then rfl ?_
     refine ht_seq ?_
     refine ht_region ?_
     refine ho_ev rfl rfl rfl (ev_assign rfl rfl) ?_
     refine ho_ev rfl rfl rfl (ev_assign rfl rfl) ?_
     refine ho_nil ?_
     refine hx_then ?_
     refine ht_ret ?_
     refine hx_through trivial ?_
     refine hx_block_ret ?_
     refine hx_through trivial ?_
     refine hx_through trivial ?_
     refine hx_block_ret ?_
     refine hx_through trivial ?_
     have hR : (Mt.stepsW d k number last body n) = ⟨Mt.sd d (k + (1 - (last : Int))) (Wire.put ((number + 1) % 18446744073709551616) body) 3, false, 0, number, last⟩ := by unfold Mt.stepsW; rw [if_neg (by omega), if_neg (by omega), if_neg (by omega), if_neg (by omega), if_neg (by rw [hqw (by omega)]; exact fun h => h rfl), if_pos (by omega)]
     rw [hR]
     refine hx_ret2 (.inl rfl) rfl rfl rfl () rfl ?_
     exact Ent.cons (by (repeat constructor); done) (Ent.cons (by (repeat constructor); done) (Ent.cons (by (repeat constructor); done) Ent.nil))
    ·skip
     refine ho_nil ?_
     refine hx_then ?_
     refine ht_else rfl ?_
     refine ht_skip ?_
     refine hx_then ?_
     refine ht_seq ?_
     refine ht_region ?_
     refine ho_ev rfl rfl rfl (ev_move rfl rfl) ?_
     refine ho_ev rfl rfl rfl (ev_indexAddrA rfl Tryd.underlying92 Tryd.ty89 rfl rfl (by omega) (by omega)) ?_
     refine ho_ev rfl rfl rfl (ev_load rfl Tryd.underlying89 rfl rfl (by first | exact cell_pt (by (with_reducible repeat constructor); done) rfl | exact cell_ro (by (with_reducible repeat constructor); done) rfl)) ?_
     refine ho_eff rfl rfl rfl (eff_call rfl rfl .nil rfl (meta_S1 b3 b8 b9 mb p ((d.free (k + (1 - (last : Int)))).sync.write (k + (1 - (last : Int))) (Wire.put ((number + 1) % 18446744073709551616) body)) k (1 - (last : Int)) number last y.1 y.2 (Wire.put ((number + 1) % 18446744073709551616) body) (by have := Mt.write_pend (d.free (k + (1 - (last : Int)))).sync (k + (1 - (last : Int))) (Wire.put ((number + 1) % 18446744073709551616) body); have e : (d.free (k + (1 - (last : Int)))).sync.pend.length = 0 := rfl; omega) hk (by omega) hyc (by omega)) (by repeat (first | exact Picks.nil | (apply Picks.ro; focus ((repeat constructor); done)) | (apply Picks.cons; focus ((repeat constructor); done)))) (fun _ => by repeat (first | exact App.nil | apply App.cons))) (fun _ => ?_)
     refine ho_ev rfl rfl rfl (ev_assign rfl rfl) ?_
     refine ho_nil ?_
     refine hx_then ?_
     refine ht_seq ?_
     refine ht_region ?_
     refine ho_ev rfl rfl rfl (ev_move rfl rfl) ?_
     refine ho_ne rfl rfl rfl rfl rfl rfl (fun g10 => ?_) (fun g10 => ?_)
     ·omega
     ·skip
      refine ho_nil ?_
      refine hx_then ?_
      refine ht_else rfl ?_
      refine ht_skip ?_
      refine hx_block_normal ?_
      refine hx_then ?_
      refine ht_region ?_
      refine ho_ev rfl rfl rfl (ev_add rfl rfl rfl (by first | exact in_i64 (by omega) | rfl)) ?_
      refine ho_ev rfl rfl rfl (ev_move rfl rfl) ?_
      refine ho_nil ?_
      refine hx_again (I := (fun q : Nat => ([DiskAt p (Mt.sd d (k + (1 - (last : Int))) (Wire.put ((number + 1) % 18446744073709551616) body) q), pt mb (.cells #[.pointer (some ⟨p, 0, none⟩), .int .i64 k, .int .u64 ((number : Nat) : Int), .int .i64 ((last : Nat) : Int)] 83 (0, 0)), pt b3 (.cells #[.pointer (some ⟨mb, 0, none⟩)] 28 (0, 0)), pt b8 (.cells #[.int .i64 (1 - (last : Int))] 3 (0, 0)), pt b9 (.cells #[.slice y.1 (Wire.put ((number + 1) % 18446744073709551616) body).length y.2] 86 (0, 0)), ro (roS y.1 (Wire.put ((number + 1) % 18446744073709551616) body).length (Wire.put ((number + 1) % 18446744073709551616) body)), pt b12 (.cells #[.func (.func 35) #[] #[.pointer (some ⟨b3, 0, none⟩), .pointer (some ⟨b8, 0, none⟩)], .func (.func 33) #[] #[.pointer (some ⟨b3, 0, none⟩)], .func (.func 37) #[] #[.pointer (some ⟨b3, 0, none⟩), .pointer (some ⟨b8, 0, none⟩), .pointer (some ⟨b9, 0, none⟩)], .func (.func 33) #[] #[.pointer (some ⟨b3, 0, none⟩)]] 92 (0, 0)), pu (q ≤ 4 ∧ ((0 < q) → (q : Int) ≤ n) ∧ (3 ≤ q → (Mt.sd d (k + (1 - (last : Int))) [] 2).werr (k + (1 - (last : Int))) (Wire.put ((number + 1) % 18446744073709551616) body) = 0)), F], [(40, .int .i64 q), (2, .int .i64 n), (3, .pointer (some ⟨b3, 0, none⟩)), (8, .pointer (some ⟨b8, 0, none⟩)), (12, .pointer (some ⟨b12, 0, none⟩))]))) (μ := (fun q : Nat => 4 - q)) (i := 3) 4 ?_ ?_ ?_
      ·(first | dsimp only | skip); omega
      ·repeat (first | exact EnvSub.nil _ | (refine EnvSub.cons rfl ?_))
      ·(first | dsimp only | skip)
       exact Ent.cons (by (repeat constructor); done) (Ent.cons (by (repeat constructor); done) (Ent.cons (by (repeat constructor); done) (Ent.cons (by (repeat constructor); done) (Ent.cons (by (repeat constructor); done) (Ent.roD (by (with_reducible repeat constructor); done) (Ent.cons (by (repeat constructor); done) (Ent.pu ⟨by omega, by omega, fun _ => hqw (by omega)⟩ (Ent.cons (by (repeat constructor); done) Ent.nil))))))))
  ·skip
   refine ho_nil ?_
   refine hx_then ?_
   refine ht_seq ?_
   refine ht_else rfl ?_
   refine ht_exit ?_
   refine hx_through trivial ?_
   refine hx_through trivial ?_
   refine hx_block_here ?_
   refine hx_then ?_
   refine ht_seq ?_
   obtain rfl : q = 4 := by omega
   refine ht_draw (.op 0 (.op 1 (.op 2 (.op 3 (.op 4 (.op 5 (.op 6 (.op 7 (.op 8 (.op 9 (.op 10 (.op 11 (.op 12 (.op 13 .done)))))))))))))) [10, 13] Tryd.mixed rfl ?_
   refine hd_ev rfl rfl rfl rfl (EvG.of rfl (ev_load rfl Tryd.underlying28 rfl rfl (by first | exact cell_pt (by (with_reducible repeat constructor); done) rfl | exact cell_ro (by (with_reducible repeat constructor); done) rfl))) ?_
   refine hd_ev rfl rfl rfl rfl (EvG.of rfl (ev_load rfl Tryd.underlying28 rfl rfl (by first | exact cell_pt (by (with_reducible repeat constructor); done) rfl | exact cell_ro (by (with_reducible repeat constructor); done) rfl))) ?_
   refine hd_ev rfl rfl rfl rfl (EvG.of rfl (ev_load rfl Tryd.underlying28 rfl rfl (by first | exact cell_pt (by (with_reducible repeat constructor); done) rfl | exact cell_ro (by (with_reducible repeat constructor); done) rfl))) ?_
   refine hd_ev rfl rfl rfl rfl (EvG.of rfl (ev_nilCheck rfl rfl)) ?_
   refine hd_ev rfl rfl rfl rfl (EvG.of rfl (by first | exact ev_fieldAddr0 rfl Tryd.fld83_2 rfl | exact ev_fieldAddr rfl Tryd.fld83_2 rfl)) ?_
   refine hd_ev rfl rfl rfl rfl (EvG.of rfl (ev_load rfl Tryd.underlying41 rfl rfl (by first | exact cell_pt (by (with_reducible repeat constructor); done) rfl | exact cell_ro (by (with_reducible repeat constructor); done) rfl))) ?_
   refine hd_ev rfl rfl rfl rfl (EvG.of rfl (ev_add (r := ((((number + 1) % 18446744073709551616) : Nat) : Int)) rfl rfl rfl (by exact next_u64 number))) ?_
   refine hd_ev rfl rfl rfl rfl (EvG.of rfl (ev_load rfl Tryd.underlying3 rfl rfl (by first | exact cell_pt (by (with_reducible repeat constructor); done) rfl | exact cell_ro (by (with_reducible repeat constructor); done) rfl))) ?_
   refine hd_ev rfl rfl rfl rfl (EvG.of rfl (ev_nilCheck rfl rfl)) ?_
   refine hd_ev rfl rfl rfl rfl (EvG.of rfl (by first | exact ev_fieldAddr0 rfl Tryd.fld83_2 rfl | exact ev_fieldAddr rfl Tryd.fld83_2 rfl)) ?_
   refine hd_eff0 rfl rfl rfl rfl (eff_store1 rfl Tryd.ty41 rfl rfl (by (with_reducible repeat constructor); done) rfl rfl (lt_of_blt rfl) (by simp only [List.setIfInBounds_toArray, List.set_cons_zero, List.set_cons_succ]; rfl)) (fun _ => by (refine FL.skip rfl ?_); (refine FL.skip rfl ?_); (refine FL.ev rfl (EvG.of rfl (ev_load rfl Tryd.underlying3 rfl rfl (by first | exact cell_pt (by (with_reducible repeat constructor); done) rfl | exact cell_ro (by (with_reducible repeat constructor); done) rfl))) ?_); (refine FL.skip rfl ?_); (refine FL.skip rfl ?_); (refine FL.skip rfl ?_); (refine FL.skip rfl ?_); (refine FL.skip rfl ?_); (refine FL.ev rfl (EvG.of rfl (ev_load rfl Tryd.underlying28 rfl rfl (by first | exact cell_pt (by (with_reducible repeat constructor); done) rfl | exact cell_ro (by (with_reducible repeat constructor); done) rfl))) ?_); (refine FL.skip rfl ?_); exact FL.nil) (fun _ => ?_)
   refine hd_ev rfl rfl rfl rfl (EvG.of rfl (ev_nilCheck rfl rfl)) ?_
   refine hd_ev rfl rfl rfl rfl (EvG.of rfl (by first | exact ev_fieldAddr0 rfl Tryd.fld83_3 rfl | exact ev_fieldAddr rfl Tryd.fld83_3 rfl)) ?_
   refine hd_eff0 rfl rfl rfl rfl (eff_store1 rfl Tryd.ty3 rfl rfl (by (with_reducible repeat constructor); done) rfl rfl (lt_of_blt rfl) (by simp only [List.setIfInBounds_toArray, List.set_cons_zero, List.set_cons_succ]; rfl)) (fun _ => by (refine FL.skip rfl ?_); (refine FL.skip rfl ?_); (refine FL.skip rfl ?_); (refine FL.skip rfl ?_); (refine FL.skip rfl ?_); (refine FL.skip rfl ?_); (refine FL.skip rfl ?_); (refine FL.skip rfl ?_); (refine FL.skip rfl ?_); (refine FL.skip rfl ?_); (refine FL.skip rfl ?_); (refine FL.skip rfl ?_); exact FL.nil) (fun _ => ?_)
   refine hd_nil ?_
   refine hx_then ?_
   refine ht_seq ?_
   refine ht_region ?_
   refine ho_ev rfl rfl rfl (ev_assign rfl rfl) ?_
   refine ho_ev rfl rfl rfl (ev_assign rfl rfl) ?_
   refine ho_nil ?_
   refine hx_then ?_
   refine ht_ret ?_
   have hR : (Mt.stepsW d k number last body n) = ⟨Mt.sd d (k + (1 - (last : Int))) (Wire.put ((number + 1) % 18446744073709551616) body) 4, true, 0, ((number + 1) % 18446744073709551616), 1 - last⟩ := by unfold Mt.stepsW; rw [if_neg (by omega), if_neg (by omega), if_neg (by omega), if_neg (by omega), if_neg (by rw [hqw (by omega)]; exact fun h => h rfl), if_neg (by omega)]
   rw [hR]
   dsimp only
   rw [show ((1 - last : Nat) : Int) = 1 - (last : Int) by omega]
   refine hx_ret2 (.inl rfl) rfl rfl rfl () rfl ?_
   exact Ent.cons (by (repeat constructor); done) (Ent.cons (by (repeat constructor); done) (Ent.cons (by (repeat constructor); done) Ent.nil))
theorem meta_Steps (mb p : Nat) (d : Dk.Disk) (k : Int) (number last : Nat) (body : List UInt8) (n : Int) (hk : 0 ≤ k ∧ k ≤ 65534) (hl : last = 0 ∨ last = 1) (hn : number + 1 < 18446744073709551616) (hp : d.pend.length < 900) : Ctr Tryd.prog 12 #[.pointer (some ⟨mb, 0, none⟩), vS body, .int .i64 n] [DiskAt p d, pt mb (.cells #[.pointer (some ⟨p, 0, none⟩), .int .i64 k, .int .u64 ((number : Nat) : Int), .int .i64 ((last : Nat) : Int)] 83 (0, 0)), ro bitsR] (fun _ : Unit => .tuple #[.bool (Mt.steps d k number last body n).fin, .int .i64 (Mt.steps d k number last body n).err]) (fun _ => [DiskAt p (Mt.steps d k number last body n).d, pt mb (.cells #[.pointer (some ⟨p, 0, none⟩), .int .i64 k, .int .u64 (((Mt.steps d k number last body n).number : Nat) : Int), .int .i64 (((Mt.steps d k number last body n).last : Nat) : Int)] 83 (0, 0))]) := by
  have h := meta_StepsW mb p d k number last body n hk hl hp
  rw [Mt.stepsW_eq hn] at h
  exact h
end Go.Proofs.YtlejcepbcfijiaaDoor
