/-
  THE DOCUMENT'S META PAGE (12): the walks. Conditions: as each contract says.
-/
import Derived.Test.YtlejcepbcfijiaaDoorRefd
import Derived.Test.YtlejcepbcfijiaaDoorMeta
set_option maxRecDepth 100000
set_option linter.unusedVariables false
set_option linter.unusedSimpArgs false
namespace Go.Proofs.YtlejcepbcfijiaaDoor
open Go Go.SL


theorem rl_neg {s : Mt.St} (h : Rf.rlast s < 0) : s.number = 0 := by
  unfold Rf.rlast at h
  split at h
  · assumption
  · omega
theorem rl_pos {s : Mt.St} (h : 0 ≤ Rf.rlast s) : ¬ s.number = 0 := by
  unfold Rf.rlast at h
  split at h
  · omega
  · assumption

theorem rf_Open (r : Rf.RDisk) (x : RX) (k : Int) (hk : 0 ≤ k ∧ k ≤ 65534) (h1 : r.view.length ≤ 1000000) (hb : ∀ y ∈ r.view, y.2.length ≤ 1048576) : Ctr Tryd.prog 19 #[rdV r x, .int .i64 k] [ro (rdR r x)] (fun _ : Unit => .tuple #[.agg #[.int .i64 k, .int .i64 (Rf.rlast (Mt.opened (fun i => Rf.rfind r.view i) k)), .int .u64 (((Mt.opened (fun i => Rf.rfind r.view i) k).number : Nat) : Int)], vS (Mt.opened (fun i => Rf.rfind r.view i) k).body, .int .i64 (if (Mt.opened (fun i => Rf.rfind r.view i) k).number = 0 then 121 else 0)]) (fun _ => []) := by
 refine fn_intro Tryd.func19 rfl rfl Tryd.ntmps19 (Nat.le_of_ble_eq_true rfl) (fun _ => by repeat (first | exact App.nil | apply App.cons)) (fun κ F => ?_)
 refine ht_rd3 (by (with_reducible repeat constructor); done) ?_
 refine ht_seq ?_
 refine ht_region ?_
 refine ho_eff rfl rfl rfl (eff_boxA rfl rfl) (fun b2 => ?_)
 refine ho_eff rfl rfl rfl (eff_alloc rfl Tryd.ty53 (by first | exact cells_agg _ | exact rfl)) (fun b4 => ?_)
 refine ho_ev rfl rfl rfl (ev_assign rfl rfl) ?_
 refine ho_ev rfl rfl rfl (ev_assign rfl rfl) ?_
 refine ho_nil ?_
 refine hx_then ?_
 refine ht_seq ?_
 refine ht_seq ?_
 refine ht_region ?_
 refine ho_ev rfl rfl rfl (ev_move rfl rfl) ?_
 refine ho_lt rfl rfl rfl rfl rfl rfl (fun g1 => ?_) (fun g1 => ?_)
 ·omega
 ·skip
  refine ho_ev rfl rfl rfl (ev_move rfl rfl) ?_
  refine ho_evg rfl rfl rfl rfl (ev_move rfl rfl) ?_
  refine ho_gtg rfl rfl rfl rfl rfl rfl rfl (fun g2 => ?_) (fun g2 => ?_)
  ·omega
  ·skip
   refine ho_ev rfl rfl rfl (ev_pick_f rfl rfl rfl) ?_
   refine ho_nil ?_
   refine hx_then ?_
   refine ht_else rfl ?_
   refine ht_skip ?_
   refine hx_then ?_
   refine ht_seq ?_
   refine ht_region ?_
   refine ho_ev rfl rfl rfl (ev_move rfl rfl) ?_
   refine ho_ev rfl rfl rfl (ev_build1 (csl := [_, _, .int .u64 0]) rfl Tryd.st53 (.cons rfl (.cons rfl .nil)) (.cons rfl (.cons rfl .nil)) rfl rfl) ?_
   refine ho_eff rfl rfl rfl (eff_alloc rfl Tryd.ty53 (by first | exact cells_agg _ | exact rfl)) (fun b7 => ?_)
   refine ho_eff0 rfl rfl (eff_storeA rfl Tryd.ty53 rfl rfl (by (with_reducible repeat constructor); done) rfl rfl rfl (by simp only [setRange, List.setIfInBounds_toArray, List.set_cons_zero, List.set_cons_succ, Nat.zero_add]; rfl)) (fun _ => ?_)
   refine ho_ev rfl rfl rfl (ev_assign rfl rfl) ?_
   refine ho_nil ?_
   refine hx_then ?_
   refine ht_seq ?_
   refine ht_seq ?_
   refine ht_region ?_
   refine ho_ev rfl rfl rfl (ev_assign rfl rfl) ?_
   refine ho_nil ?_
   refine hx_then ?_
   refine ht_block ?_
   refine ht_loop (fun q : Nat × Mt.St => ([pt b2 (.cells #[.int .i64 r.size, .int .i64 r.limit, .slice x.va r.view.length x.vc, .slice x.ga r.ground.length x.gc, .slice x.la r.L.length x.lc] 49 (0, 0)), pt b4 (.cells #[.int .i64 0, .int .i64 0, .int .u64 0] 53 (0, 0)), pt b7 (.cells #[.int .i64 k, .int .i64 (Rf.rlast q.2), .int .u64 ((q.2.number : Nat) : Int)] 53 (0, 0)), ro (roS x.va r.view.length r.view), pu (q.2 = Mt.picked (fun i => Rf.rfind r.view i) k q.1 ∧ q.1 ≤ 2), F], [(1, .int .i64 k), (2, .pointer (some ⟨b2, 0, none⟩)), (4, .pointer (some ⟨b4, 0, none⟩)), (7, .pointer (some ⟨b7, 0, none⟩)), (8, vS q.2.body), (9, .int .i64 q.1)])) (fun q : Nat × Mt.St => 2 - q.1) (0, ⟨0, 1, []⟩) ?_ (by repeat (first | exact EnvSub.nil _ | (refine EnvSub.cons rfl ?_))) (fun q => ?_)
   ·(first | dsimp only | skip)
    exact Ent.cons (by (repeat constructor); done) (Ent.cons (by (repeat constructor); done) (Ent.cons (by (repeat constructor); done) (Ent.roD (by (with_reducible repeat constructor); done) (Ent.pu ⟨rfl, by omega⟩ (Ent.cons (by (repeat constructor); done) Ent.nil)))))
   obtain ⟨q, s⟩ := q
   dsimp only
   refine ht_pick (A := pu (s = Mt.picked (fun i => Rf.rfind r.view i) k q ∧ q ≤ 2)) (by (repeat constructor); done) (ht_pure fun hq => ?_)
   obtain ⟨hs, hq2⟩ := hq
   refine ht_seq ?_
   refine ht_seq ?_
   refine ht_region ?_
   refine ho_ev rfl rfl rfl (ev_move rfl rfl) ?_
   refine ho_lt rfl rfl rfl rfl rfl rfl (fun g3 => ?_) (fun g3 => ?_)
   ·skip
    refine ho_nil ?_
    refine hx_then ?_
    refine ht_then rfl ?_
    refine ht_skip ?_
    refine hx_then ?_
    refine ht_seq ?_
    refine ht_block ?_
    refine ht_seq ?_
    refine ht_region ?_
    refine ho_ev rfl rfl rfl (by first | exact ev_fieldAddr0 rfl Tryd.fld49_2 rfl | exact ev_fieldAddr rfl Tryd.fld49_2 rfl) ?_
    refine ho_ev rfl rfl rfl (ev_load rfl Tryd.underlying46 rfl rfl (by first | exact cell_pt (by (with_reducible repeat constructor); done) rfl | exact cell_ro (by (with_reducible repeat constructor); done) rfl)) ?_
    refine ho_ev rfl rfl rfl (ev_move rfl rfl) ?_
    refine ho_ev rfl rfl rfl (ev_move rfl rfl) ?_
    refine ho_ev rfl rfl rfl (ev_add rfl rfl rfl (by first | exact in_i64 (by omega) | rfl)) ?_
    refine ho_eff rfl rfl rfl (eff_call rfl rfl (.cons rfl (.cons rfl .nil)) rfl (rf_Find x.va x.vc r.view (k + q) h1) (by repeat (first | exact Picks.nil | (apply Picks.ro; focus ((with_reducible repeat constructor); done)) | (apply Picks.cons; focus ((with_reducible repeat constructor); done)))) (fun _ => by repeat (first | exact App.nil | apply App.cons))) (fun _ => ?_)
    refine ho_ev rfl rfl rfl (ev_move rfl rfl) ?_
    refine ho_ev rfl rfl rfl (ev_extract rfl rfl rfl) ?_
    refine ho_ev rfl rfl rfl (ev_extract rfl rfl rfl) ?_
    refine ho_ev rfl rfl rfl (ev_assign rfl rfl) ?_
    refine ho_ev rfl rfl rfl (ev_assign rfl rfl) ?_
    refine ho_nil ?_
    refine hx_then ?_
    refine ht_seq ?_
    refine ht_region ?_
    refine ho_ev rfl rfl rfl (ev_move rfl rfl) ?_
    refine ho_eff rfl rfl rfl (eff_call rfl rfl (.cons rfl .nil) rfl (ref_RGet ((Rf.rfind r.view (k + (q : Int))).getD []) (Rf.rfind_short hb)) (by repeat (first | exact Picks.nil | (apply Picks.ro; focus ((with_reducible repeat constructor); done)) | (apply Picks.cons; focus ((with_reducible repeat constructor); done)))) (fun _ => by repeat (first | exact App.nil | apply App.cons))) (fun _ => ?_)
    refine ho_ev rfl rfl rfl (ev_move rfl rfl) ?_
    refine ho_ev rfl rfl rfl (ev_extract rfl rfl rfl) ?_
    refine ho_ev rfl rfl rfl (ev_extract rfl rfl rfl) ?_
    refine ho_ev rfl rfl rfl (ev_extract rfl rfl rfl) ?_
    refine ho_eff rfl rfl rfl (eff_alloc rfl Tryd.ty71 (by first | exact cells_agg _ | exact rfl)) (fun b12 => ?_)
    refine ho_eff0 rfl rfl (eff_storeA rfl Tryd.ty71 rfl rfl (by (with_reducible repeat constructor); done) rfl rfl rfl (by simp only [setRange, List.setIfInBounds_toArray, List.set_cons_zero, List.set_cons_succ, Nat.zero_add]; rfl)) (fun _ => ?_)
    refine ho_ev rfl rfl rfl (ev_assign rfl rfl) ?_
    refine ho_ev rfl rfl rfl (ev_assign rfl rfl) ?_
    refine ho_nil ?_
    refine hx_then ?_
    refine ht_seq ?_
    rcases hf : Rf.rfind r.view (k + (q : Int)) with _ | b
    ·skip
     refine ht_region ?_
     refine ho_ev rfl rfl rfl (ev_move rfl rfl) ?_
     refine ho_ev rfl rfl rfl (ev_move rfl rfl) ?_
     refine ho_pass rfl rfl rfl rfl ?_
     refine ho_ev rfl rfl rfl (ev_pick_f rfl rfl rfl) ?_
     refine ho_ev rfl rfl rfl (ev_move rfl rfl) ?_
     refine ho_pass rfl rfl rfl rfl ?_
     refine ho_pass rfl rfl rfl rfl ?_
     refine ho_pass rfl rfl rfl rfl ?_
     refine ho_pass rfl rfl rfl rfl ?_
     refine ho_ev rfl rfl rfl (ev_pick_f rfl rfl rfl) ?_
     refine ho_ev rfl rfl rfl (ev_move rfl rfl) ?_
     refine ho_pass rfl rfl rfl rfl ?_
     refine ho_pass rfl rfl rfl rfl ?_
     refine ho_pass rfl rfl rfl rfl ?_
     refine ho_pass rfl rfl rfl rfl ?_
     refine ho_pass rfl rfl rfl rfl ?_
     refine ho_ev rfl rfl rfl (ev_pick_f rfl rfl rfl) ?_
     refine ho_nil ?_
     refine hx_then ?_
     refine ht_else rfl ?_
     refine ht_skip ?_
     refine hx_block_normal ?_
     refine hx_then ?_
     refine ht_region ?_
     refine ho_ev rfl rfl rfl (ev_move rfl rfl) ?_
     refine ho_ev rfl rfl rfl (ev_add rfl rfl rfl (by first | exact in_i64 (by omega) | rfl)) ?_
     refine ho_ev rfl rfl rfl (ev_assign rfl rfl) ?_
     refine ho_nil ?_
     refine hx_again (I := (fun q : Nat × Mt.St => ([pt b2 (.cells #[.int .i64 r.size, .int .i64 r.limit, .slice x.va r.view.length x.vc, .slice x.ga r.ground.length x.gc, .slice x.la r.L.length x.lc] 49 (0, 0)), pt b4 (.cells #[.int .i64 0, .int .i64 0, .int .u64 0] 53 (0, 0)), pt b7 (.cells #[.int .i64 k, .int .i64 (Rf.rlast q.2), .int .u64 ((q.2.number : Nat) : Int)] 53 (0, 0)), ro (roS x.va r.view.length r.view), pu (q.2 = Mt.picked (fun i => Rf.rfind r.view i) k q.1 ∧ q.1 ≤ 2), F], [(1, .int .i64 k), (2, .pointer (some ⟨b2, 0, none⟩)), (4, .pointer (some ⟨b4, 0, none⟩)), (7, .pointer (some ⟨b7, 0, none⟩)), (8, vS q.2.body), (9, .int .i64 q.1)]))) (μ := (fun q : Nat × Mt.St => 2 - q.1)) (i := (q, s)) (q + 1, s) ?_ ?_ ?_
     ·(first | dsimp only | skip); omega
     ·repeat (first | exact EnvSub.nil _ | (refine EnvSub.cons rfl ?_))
     ·(first | dsimp only | skip)
      exact Ent.cons (by (repeat constructor); done) (Ent.cons (by (repeat constructor); done) (Ent.cons (by (repeat constructor); done) (Ent.roD (by (with_reducible repeat constructor); done) (Ent.pu ⟨by rw [Mt.picked_succ, ← hs]; exact (Rf.pick_same (fun b' h => by rw [hf] at h; cases h)).symm, by omega⟩ (Ent.cons (by (repeat constructor); done) Ent.nil)))))
    ·skip
     dsimp only [Option.getD_some]
     refine ht_region ?_
     refine ho_ev rfl rfl rfl (ev_move rfl rfl) ?_
     refine ho_ev rfl rfl rfl (ev_move rfl rfl) ?_
     refine ho_evg rfl rfl rfl rfl (ev_move rfl rfl) ?_
     refine ho_ev rfl rfl rfl (ev_pick_t rfl rfl rfl) ?_
     refine ho_ev rfl rfl rfl (ev_move rfl rfl) ?_
     refine ho_bool (t := 47) rfl (fun hok2 => ?_) (fun hok2 => ?_)
     ·skip
      refine ho_evg rfl rfl rfl rfl (ev_move rfl rfl) ?_
      refine ho_evg rfl rfl rfl rfl (ev_move rfl rfl) ?_
      refine ho_evg rfl rfl rfl rfl (ev_lenS rfl Tryd.underlying9 rfl) ?_
      refine ho_eqg rfl rfl rfl rfl rfl rfl rfl (fun g4 => ?_) (fun g4 => ?_)
      ·skip
       refine ho_ev rfl rfl rfl (ev_pick_t rfl rfl rfl) ?_
       refine ho_ev rfl rfl rfl (ev_move rfl rfl) ?_
       refine ho_evg rfl rfl rfl rfl (by first | exact ev_fieldAddr0 rfl Tryd.fld71_0 rfl | exact ev_fieldAddr rfl Tryd.fld71_0 rfl) ?_
       refine ho_evg rfl rfl rfl rfl (ev_load rfl Tryd.underlying41 rfl rfl (by first | exact cell_pt (by (with_reducible repeat constructor); done) rfl | exact cell_ro (by (with_reducible repeat constructor); done) rfl)) ?_
       refine ho_evg rfl rfl rfl rfl (by first | exact ev_fieldAddr0 rfl Tryd.fld53_2 rfl | exact ev_fieldAddr rfl Tryd.fld53_2 rfl) ?_
       refine ho_evg rfl rfl rfl rfl (ev_load rfl Tryd.underlying41 rfl rfl (by first | exact cell_pt (by (with_reducible repeat constructor); done) rfl | exact cell_ro (by (with_reducible repeat constructor); done) rfl)) ?_
       refine ho_gtg rfl rfl rfl rfl rfl rfl rfl (fun g5 => ?_) (fun g5 => ?_)
       ·skip
        refine ho_ev rfl rfl rfl (ev_pick_t rfl rfl rfl) ?_
        refine ho_nil ?_
        refine hx_then ?_
        refine ht_then rfl ?_
        refine ht_draw (.op 0 (.op 1 (.op 2 (.op 3 (.op 4 (.op 5 (.op 6 (.op 7 (.op 8 (.op 9 .done)))))))))) [6, 8] Tryd.mixed rfl ?_
        refine hd_ev rfl rfl rfl rfl (EvG.of rfl (by first | exact ev_fieldAddr0 rfl Tryd.fld71_0 rfl | exact ev_fieldAddr rfl Tryd.fld71_0 rfl)) ?_
        refine hd_ev rfl rfl rfl rfl (EvG.of rfl (ev_load rfl Tryd.underlying41 rfl rfl (by first | exact cell_pt (by (with_reducible repeat constructor); done) rfl | exact cell_ro (by (with_reducible repeat constructor); done) rfl))) ?_
        refine hd_ev rfl rfl rfl rfl (EvG.of rfl (ev_move rfl rfl)) ?_
        refine hd_ev rfl rfl rfl rfl (EvG.of rfl (by first | exact ev_fieldAddr0 rfl Tryd.fld71_1 rfl | exact ev_fieldAddr rfl Tryd.fld71_1 rfl)) ?_
        refine hd_ev rfl rfl rfl rfl (EvG.of rfl (ev_load rfl Tryd.underlying9 rfl rfl (by first | exact cell_pt (by (with_reducible repeat constructor); done) rfl | exact cell_ro (by (with_reducible repeat constructor); done) rfl))) ?_
        refine hd_ev rfl rfl rfl rfl (EvG.of rfl (by first | exact ev_fieldAddr0 rfl Tryd.fld53_2 rfl | exact ev_fieldAddr rfl Tryd.fld53_2 rfl)) ?_
        refine hd_eff0 rfl rfl rfl rfl (eff_store1 rfl Tryd.ty41 rfl rfl (by (with_reducible repeat constructor); done) rfl rfl (lt_of_blt rfl) (by simp only [List.setIfInBounds_toArray, List.set_cons_zero, List.set_cons_succ]; rfl)) (fun _ => by (refine FL.skip rfl ?_); (refine FL.ev rfl (EvG.of rfl (ev_load rfl Tryd.underlying9 rfl rfl (by first | exact cell_pt (by (with_reducible repeat constructor); done) rfl | exact cell_ro (by (with_reducible repeat constructor); done) rfl))) ?_); (refine FL.ev rfl (EvG.of rfl (by first | exact ev_fieldAddr0 rfl Tryd.fld71_1 rfl | exact ev_fieldAddr rfl Tryd.fld71_1 rfl)) ?_); (refine FL.ev rfl (EvG.of rfl (ev_move rfl rfl)) ?_); (refine FL.skip rfl ?_); (refine FL.skip rfl ?_); exact FL.nil) (fun _ => ?_)
        refine hd_ev rfl rfl rfl rfl (EvG.of rfl (by first | exact ev_fieldAddr0 rfl Tryd.fld53_1 rfl | exact ev_fieldAddr rfl Tryd.fld53_1 rfl)) ?_
        refine hd_eff0 rfl rfl rfl rfl (eff_store1 rfl Tryd.ty3 rfl rfl (by (with_reducible repeat constructor); done) rfl rfl (lt_of_blt rfl) (by simp only [List.setIfInBounds_toArray, List.set_cons_zero, List.set_cons_succ]; rfl)) (fun _ => by (refine FL.skip rfl ?_); (refine FL.skip rfl ?_); (refine FL.ev rfl (EvG.of rfl (ev_load rfl Tryd.underlying9 rfl rfl (by first | exact cell_pt (by (with_reducible repeat constructor); done) rfl | exact cell_ro (by (with_reducible repeat constructor); done) rfl))) ?_); (refine FL.ev rfl (EvG.of rfl (by first | exact ev_fieldAddr0 rfl Tryd.fld71_1 rfl | exact ev_fieldAddr rfl Tryd.fld71_1 rfl)) ?_); (refine FL.skip rfl ?_); (refine FL.skip rfl ?_); (refine FL.skip rfl ?_); exact FL.nil) (fun _ => ?_)
        refine hd_ev rfl rfl rfl rfl (EvG.of rfl (ev_assign rfl rfl)) ?_
        refine hd_nil ?_
        refine hx_block_normal ?_
        refine hx_then ?_
        refine ht_region ?_
        refine ho_ev rfl rfl rfl (ev_move rfl rfl) ?_
        refine ho_ev rfl rfl rfl (ev_add rfl rfl rfl (by first | exact in_i64 (by omega) | rfl)) ?_
        refine ho_ev rfl rfl rfl (ev_assign rfl rfl) ?_
        refine ho_nil ?_
        skip
        have hnl : Rf.rlast (⟨(Wire.getV b).1, q, (Wire.getV b).2.1⟩ : Mt.St) = (q : Int) := by unfold Rf.rlast; rw [if_neg (by show ¬ (Wire.getV b).1 = 0; omega)]
        skip
        refine hx_again (I := (fun q : Nat × Mt.St => ([pt b2 (.cells #[.int .i64 r.size, .int .i64 r.limit, .slice x.va r.view.length x.vc, .slice x.ga r.ground.length x.gc, .slice x.la r.L.length x.lc] 49 (0, 0)), pt b4 (.cells #[.int .i64 0, .int .i64 0, .int .u64 0] 53 (0, 0)), pt b7 (.cells #[.int .i64 k, .int .i64 (Rf.rlast q.2), .int .u64 ((q.2.number : Nat) : Int)] 53 (0, 0)), ro (roS x.va r.view.length r.view), pu (q.2 = Mt.picked (fun i => Rf.rfind r.view i) k q.1 ∧ q.1 ≤ 2), F], [(1, .int .i64 k), (2, .pointer (some ⟨b2, 0, none⟩)), (4, .pointer (some ⟨b4, 0, none⟩)), (7, .pointer (some ⟨b7, 0, none⟩)), (8, vS q.2.body), (9, .int .i64 q.1)]))) (μ := (fun q : Nat × Mt.St => 2 - q.1)) (i := (q, s)) (q + 1, ⟨(Wire.getV b).1, q, (Wire.getV b).2.1⟩) ?_ ?_ ?_
        ·(first | dsimp only | skip); omega
        ·repeat (first | exact EnvSub.nil _ | (refine EnvSub.cons rfl ?_))
        ·(first | dsimp only | skip)
         rw [hnl]
         exact Ent.cons (by (repeat constructor); done) (Ent.cons (by (repeat constructor); done) (Ent.cons (by (repeat constructor); done) (Ent.roD (by (with_reducible repeat constructor); done) (Ent.pu ⟨by rw [Mt.picked_succ, ← hs]; show _ = s.pick q (Mt.tell (Rf.rfind r.view (k + (q : Int)))); rw [hf]; exact (Rf.pick_new hok2 (by omega) (by omega)).symm, by omega⟩ (Ent.cons (by (repeat constructor); done) Ent.nil)))))
       ·skip
        refine ho_ev rfl rfl rfl (ev_pick_t rfl rfl rfl) ?_
        refine ho_nil ?_
        refine hx_then ?_
        refine ht_else rfl ?_
        refine ht_skip ?_
        refine hx_block_normal ?_
        refine hx_then ?_
        refine ht_region ?_
        refine ho_ev rfl rfl rfl (ev_move rfl rfl) ?_
        refine ho_ev rfl rfl rfl (ev_add rfl rfl rfl (by first | exact in_i64 (by omega) | rfl)) ?_
        refine ho_ev rfl rfl rfl (ev_assign rfl rfl) ?_
        refine ho_nil ?_
        refine hx_again (I := (fun q : Nat × Mt.St => ([pt b2 (.cells #[.int .i64 r.size, .int .i64 r.limit, .slice x.va r.view.length x.vc, .slice x.ga r.ground.length x.gc, .slice x.la r.L.length x.lc] 49 (0, 0)), pt b4 (.cells #[.int .i64 0, .int .i64 0, .int .u64 0] 53 (0, 0)), pt b7 (.cells #[.int .i64 k, .int .i64 (Rf.rlast q.2), .int .u64 ((q.2.number : Nat) : Int)] 53 (0, 0)), ro (roS x.va r.view.length r.view), pu (q.2 = Mt.picked (fun i => Rf.rfind r.view i) k q.1 ∧ q.1 ≤ 2), F], [(1, .int .i64 k), (2, .pointer (some ⟨b2, 0, none⟩)), (4, .pointer (some ⟨b4, 0, none⟩)), (7, .pointer (some ⟨b7, 0, none⟩)), (8, vS q.2.body), (9, .int .i64 q.1)]))) (μ := (fun q : Nat × Mt.St => 2 - q.1)) (i := (q, s)) (q + 1, s) ?_ ?_ ?_
        ·(first | dsimp only | skip); omega
        ·repeat (first | exact EnvSub.nil _ | (refine EnvSub.cons rfl ?_))
        ·(first | dsimp only | skip)
         exact Ent.cons (by (repeat constructor); done) (Ent.cons (by (repeat constructor); done) (Ent.cons (by (repeat constructor); done) (Ent.roD (by (with_reducible repeat constructor); done) (Ent.pu ⟨by rw [Mt.picked_succ, ← hs]; exact (Rf.pick_same (fun b' h => by rw [hf] at h; cases h; rintro ⟨h1, h2, h3⟩; first | omega | (rw [hok2] at h1; cases h1))).symm, by omega⟩ (Ent.cons (by (repeat constructor); done) Ent.nil)))))
      ·skip
       refine ho_ev rfl rfl rfl (ev_pick_t rfl rfl rfl) ?_
       refine ho_ev rfl rfl rfl (ev_move rfl rfl) ?_
       refine ho_pass rfl rfl rfl rfl ?_
       refine ho_pass rfl rfl rfl rfl ?_
       refine ho_pass rfl rfl rfl rfl ?_
       refine ho_pass rfl rfl rfl rfl ?_
       refine ho_pass rfl rfl rfl rfl ?_
       refine ho_ev rfl rfl rfl (ev_pick_f rfl rfl rfl) ?_
       refine ho_nil ?_
       refine hx_then ?_
       refine ht_else rfl ?_
       refine ht_skip ?_
       refine hx_block_normal ?_
       refine hx_then ?_
       refine ht_region ?_
       refine ho_ev rfl rfl rfl (ev_move rfl rfl) ?_
       refine ho_ev rfl rfl rfl (ev_add rfl rfl rfl (by first | exact in_i64 (by omega) | rfl)) ?_
       refine ho_ev rfl rfl rfl (ev_assign rfl rfl) ?_
       refine ho_nil ?_
       refine hx_again (I := (fun q : Nat × Mt.St => ([pt b2 (.cells #[.int .i64 r.size, .int .i64 r.limit, .slice x.va r.view.length x.vc, .slice x.ga r.ground.length x.gc, .slice x.la r.L.length x.lc] 49 (0, 0)), pt b4 (.cells #[.int .i64 0, .int .i64 0, .int .u64 0] 53 (0, 0)), pt b7 (.cells #[.int .i64 k, .int .i64 (Rf.rlast q.2), .int .u64 ((q.2.number : Nat) : Int)] 53 (0, 0)), ro (roS x.va r.view.length r.view), pu (q.2 = Mt.picked (fun i => Rf.rfind r.view i) k q.1 ∧ q.1 ≤ 2), F], [(1, .int .i64 k), (2, .pointer (some ⟨b2, 0, none⟩)), (4, .pointer (some ⟨b4, 0, none⟩)), (7, .pointer (some ⟨b7, 0, none⟩)), (8, vS q.2.body), (9, .int .i64 q.1)]))) (μ := (fun q : Nat × Mt.St => 2 - q.1)) (i := (q, s)) (q + 1, s) ?_ ?_ ?_
       ·(first | dsimp only | skip); omega
       ·repeat (first | exact EnvSub.nil _ | (refine EnvSub.cons rfl ?_))
       ·(first | dsimp only | skip)
        exact Ent.cons (by (repeat constructor); done) (Ent.cons (by (repeat constructor); done) (Ent.cons (by (repeat constructor); done) (Ent.roD (by (with_reducible repeat constructor); done) (Ent.pu ⟨by rw [Mt.picked_succ, ← hs]; exact (Rf.pick_same (fun b' h => by rw [hf] at h; cases h; rintro ⟨h1, h2, h3⟩; first | omega | (rw [hok2] at h1; cases h1))).symm, by omega⟩ (Ent.cons (by (repeat constructor); done) Ent.nil)))))
     ·skip
      refine ho_pass rfl rfl rfl rfl ?_
      refine ho_pass rfl rfl rfl rfl ?_
      refine ho_pass rfl rfl rfl rfl ?_
      refine ho_pass rfl rfl rfl rfl ?_
      refine ho_ev rfl rfl rfl (ev_pick_f rfl rfl rfl) ?_
      refine ho_ev rfl rfl rfl (ev_move rfl rfl) ?_
      refine ho_pass rfl rfl rfl rfl ?_
      refine ho_pass rfl rfl rfl rfl ?_
      refine ho_pass rfl rfl rfl rfl ?_
      refine ho_pass rfl rfl rfl rfl ?_
      refine ho_pass rfl rfl rfl rfl ?_
      refine ho_ev rfl rfl rfl (ev_pick_f rfl rfl rfl) ?_
      refine ho_nil ?_
      refine hx_then ?_
      refine ht_else rfl ?_
      refine ht_skip ?_
      refine hx_block_normal ?_
      refine hx_then ?_
      refine ht_region ?_
      refine ho_ev rfl rfl rfl (ev_move rfl rfl) ?_
      refine ho_ev rfl rfl rfl (ev_add rfl rfl rfl (by first | exact in_i64 (by omega) | rfl)) ?_
      refine ho_ev rfl rfl rfl (ev_assign rfl rfl) ?_
      refine ho_nil ?_
      refine hx_again (I := (fun q : Nat × Mt.St => ([pt b2 (.cells #[.int .i64 r.size, .int .i64 r.limit, .slice x.va r.view.length x.vc, .slice x.ga r.ground.length x.gc, .slice x.la r.L.length x.lc] 49 (0, 0)), pt b4 (.cells #[.int .i64 0, .int .i64 0, .int .u64 0] 53 (0, 0)), pt b7 (.cells #[.int .i64 k, .int .i64 (Rf.rlast q.2), .int .u64 ((q.2.number : Nat) : Int)] 53 (0, 0)), ro (roS x.va r.view.length r.view), pu (q.2 = Mt.picked (fun i => Rf.rfind r.view i) k q.1 ∧ q.1 ≤ 2), F], [(1, .int .i64 k), (2, .pointer (some ⟨b2, 0, none⟩)), (4, .pointer (some ⟨b4, 0, none⟩)), (7, .pointer (some ⟨b7, 0, none⟩)), (8, vS q.2.body), (9, .int .i64 q.1)]))) (μ := (fun q : Nat × Mt.St => 2 - q.1)) (i := (q, s)) (q + 1, s) ?_ ?_ ?_
      ·(first | dsimp only | skip); omega
      ·repeat (first | exact EnvSub.nil _ | (refine EnvSub.cons rfl ?_))
      ·(first | dsimp only | skip)
       exact Ent.cons (by (repeat constructor); done) (Ent.cons (by (repeat constructor); done) (Ent.cons (by (repeat constructor); done) (Ent.roD (by (with_reducible repeat constructor); done) (Ent.pu ⟨by rw [Mt.picked_succ, ← hs]; exact (Rf.pick_same (fun b' h => by rw [hf] at h; cases h; rintro ⟨h1, h2, h3⟩; first | omega | (rw [hok2] at h1; cases h1))).symm, by omega⟩ (Ent.cons (by (repeat constructor); done) Ent.nil)))))
   ·skip
    refine ho_nil ?_
    refine hx_then ?_
    refine ht_else rfl ?_
    refine ht_exit ?_
    refine hx_through trivial ?_
    refine hx_through trivial ?_
    refine hx_block_here ?_
    refine hx_then ?_
    refine ht_seq ?_
    refine ht_seq ?_
    obtain rfl : q = 2 := by omega
    refine ht_region ?_
    refine ho_ev rfl rfl rfl (by first | exact ev_fieldAddr0 rfl Tryd.fld53_1 rfl | exact ev_fieldAddr rfl Tryd.fld53_1 rfl) ?_
    refine ho_ev rfl rfl rfl (ev_load rfl Tryd.underlying3 rfl rfl (by first | exact cell_pt (by (with_reducible repeat constructor); done) rfl | exact cell_ro (by (with_reducible repeat constructor); done) rfl)) ?_
    refine ho_lt rfl rfl rfl rfl rfl rfl (fun g6 => ?_) (fun g6 => ?_)
    ·skip
     refine ho_nil ?_
     refine hx_then ?_
     refine ht_then rfl ?_
     refine ht_seq ?_
     refine ht_region ?_
     refine ho_ev rfl rfl rfl (ev_loadA rfl Tryd.underlying53 Tryd.ty53 rfl rfl (by first | exact cells_pt (by (with_reducible repeat constructor); done) (Nat.le_of_ble_eq_true rfl) (by simp only [List.extract_toArray, List.extract_eq_take_drop, Nat.zero_add, Nat.sub_zero, Nat.add_sub_cancel_left, List.drop_zero, List.take_succ_cons, List.take_zero, List.drop_succ_cons] <;> rfl) | exact cells_ro (by (with_reducible repeat constructor); done) (Nat.le_of_ble_eq_true rfl) (by simp only [List.extract_toArray, List.extract_eq_take_drop, Nat.zero_add, Nat.sub_zero, Nat.add_sub_cancel_left, List.drop_zero, List.take_succ_cons, List.take_zero, List.drop_succ_cons] <;> rfl))) ?_
     refine ho_eff0 rfl rfl (eff_storeA rfl Tryd.ty53 rfl rfl (by (with_reducible repeat constructor); done) rfl rfl rfl (by simp only [setRange, List.setIfInBounds_toArray, List.set_cons_zero, List.set_cons_succ, Nat.zero_add]; rfl)) (fun _ => ?_)
     refine ho_ev rfl rfl rfl (ev_assign rfl rfl) ?_
     refine ho_ev rfl rfl rfl (ev_assign rfl rfl) ?_
     refine ho_nil ?_
     refine hx_then ?_
     refine ht_ret ?_
     refine hx_through trivial ?_
     have hop : Mt.opened (fun i => Rf.rfind r.view i) k = s := by rw [← Mt.picked_two]; exact hs.symm
     rw [hop]
     have hz : s.number = 0 := rl_neg (by omega)
     have hb : s.body = [] := by rw [← hop]; exact Mt.opened_nil (by rw [hop]; exact hz)
     rw [hb, if_pos hz]
     exact hx_ret3A (.inl rfl) rfl rfl rfl rfl Tryd.underlying53 Tryd.ty53 rfl (cells_pt (by (with_reducible repeat constructor); done) (Nat.le_of_ble_eq_true rfl) rfl) () rfl (Ent.cons (by (repeat constructor); done) Ent.nil)
    ·skip
     refine ho_nil ?_
     refine hx_then ?_
     refine ht_else rfl ?_
     refine ht_skip ?_
     refine hx_then ?_
     refine ht_seq ?_
     refine ht_region ?_
     refine ho_ev rfl rfl rfl (ev_loadA rfl Tryd.underlying53 Tryd.ty53 rfl rfl (by first | exact cells_pt (by (with_reducible repeat constructor); done) (Nat.le_of_ble_eq_true rfl) (by simp only [List.extract_toArray, List.extract_eq_take_drop, Nat.zero_add, Nat.sub_zero, Nat.add_sub_cancel_left, List.drop_zero, List.take_succ_cons, List.take_zero, List.drop_succ_cons] <;> rfl) | exact cells_ro (by (with_reducible repeat constructor); done) (Nat.le_of_ble_eq_true rfl) (by simp only [List.extract_toArray, List.extract_eq_take_drop, Nat.zero_add, Nat.sub_zero, Nat.add_sub_cancel_left, List.drop_zero, List.take_succ_cons, List.take_zero, List.drop_succ_cons] <;> rfl))) ?_
     refine ho_ev rfl rfl rfl (ev_move rfl rfl) ?_
     refine ho_eff0 rfl rfl (eff_storeA rfl Tryd.ty53 rfl rfl (by (with_reducible repeat constructor); done) rfl rfl rfl (by simp only [setRange, List.setIfInBounds_toArray, List.set_cons_zero, List.set_cons_succ, Nat.zero_add]; rfl)) (fun _ => ?_)
     refine ho_ev rfl rfl rfl (ev_assign rfl rfl) ?_
     refine ho_ev rfl rfl rfl (ev_assign rfl rfl) ?_
     refine ho_nil ?_
     refine hx_then ?_
     refine ht_ret ?_
     have hop : Mt.opened (fun i => Rf.rfind r.view i) k = s := by rw [← Mt.picked_two]; exact hs.symm
     rw [hop]
     have hz : ¬ s.number = 0 := rl_pos (by omega)
     rw [if_neg hz]
     exact hx_ret3A (.inl rfl) rfl rfl rfl rfl Tryd.underlying53 Tryd.ty53 rfl (cells_pt (by (with_reducible repeat constructor); done) (Nat.le_of_ble_eq_true rfl) rfl) () rfl (Ent.cons (by (repeat constructor); done) Ent.nil)
theorem rf_Open_no (r : Rf.RDisk) (x : RX) (k : Int) (h : k < 0 ∨ 65534 < k) : Ctr Tryd.prog 19 #[rdV r x, .int .i64 k] [] (fun _ : Unit => .tuple #[.agg #[.int .i64 0, .int .i64 0, .int .u64 ((0 : Nat) : Int)], vS [], .int .i64 122]) (fun _ => []) := by
 refine fn_intro Tryd.func19 rfl rfl Tryd.ntmps19 (Nat.le_of_ble_eq_true rfl) (fun _ => by repeat (first | exact App.nil | apply App.cons)) (fun κ F => ?_)
 refine ht_seq ?_
 refine ht_region ?_
 refine ho_eff rfl rfl rfl (eff_boxA rfl rfl) (fun b2 => ?_)
 refine ho_eff rfl rfl rfl (eff_alloc rfl Tryd.ty53 (by first | exact cells_agg _ | exact rfl)) (fun b4 => ?_)
 refine ho_ev rfl rfl rfl (ev_assign rfl rfl) ?_
 refine ho_ev rfl rfl rfl (ev_assign rfl rfl) ?_
 refine ho_nil ?_
 refine hx_then ?_
 refine ht_seq ?_
 refine ht_seq ?_
 refine ht_region ?_
 refine ho_ev rfl rfl rfl (ev_move rfl rfl) ?_
 refine ho_lt rfl rfl rfl rfl rfl rfl (fun g1 => ?_) (fun g1 => ?_)
 ·skip
  refine ho_ev rfl rfl rfl (ev_move rfl rfl) ?_
  refine ho_pass rfl rfl rfl rfl ?_
  refine ho_pass rfl rfl rfl rfl ?_
  refine ho_ev rfl rfl rfl (ev_pick_t rfl rfl rfl) ?_
  refine ho_nil ?_
  refine hx_then ?_
  refine ht_then rfl ?_
  refine ht_seq ?_
  refine ht_region ?_
  refine ho_ev rfl rfl rfl (ev_build1 (csl := [.int .i64 0, .int .i64 0, .int .u64 0]) rfl Tryd.st53 .nil .nil rfl rfl) ?_
  refine ho_eff0 rfl rfl (eff_storeA rfl Tryd.ty53 rfl rfl (by (with_reducible repeat constructor); done) rfl rfl rfl (by simp only [setRange, List.setIfInBounds_toArray, List.set_cons_zero, List.set_cons_succ, Nat.zero_add]; rfl)) (fun _ => ?_)
  refine ho_ev rfl rfl rfl (ev_assign rfl rfl) ?_
  refine ho_ev rfl rfl rfl (ev_assign rfl rfl) ?_
  refine ho_nil ?_
  refine hx_then ?_
  refine ht_ret ?_
  refine hx_through trivial ?_
  exact hx_ret3A (.inl rfl) rfl rfl rfl rfl Tryd.underlying53 Tryd.ty53 rfl (cells_pt (by (with_reducible repeat constructor); done) (Nat.le_of_ble_eq_true rfl) rfl) () rfl (Ent.cons (by (repeat constructor); done) Ent.nil)
 ·skip
  refine ho_ev rfl rfl rfl (ev_move rfl rfl) ?_
  refine ho_evg rfl rfl rfl rfl (ev_move rfl rfl) ?_
  refine ho_gtg rfl rfl rfl rfl rfl rfl rfl (fun g2 => ?_) (fun g2 => ?_)
  ·skip
   refine ho_ev rfl rfl rfl (ev_pick_f rfl rfl rfl) ?_
   refine ho_nil ?_
   refine hx_then ?_
   refine ht_then rfl ?_
   refine ht_seq ?_
   refine ht_region ?_
   refine ho_ev rfl rfl rfl (ev_build1 (csl := [.int .i64 0, .int .i64 0, .int .u64 0]) rfl Tryd.st53 .nil .nil rfl rfl) ?_
   refine ho_eff0 rfl rfl (eff_storeA rfl Tryd.ty53 rfl rfl (by (with_reducible repeat constructor); done) rfl rfl rfl (by simp only [setRange, List.setIfInBounds_toArray, List.set_cons_zero, List.set_cons_succ, Nat.zero_add]; rfl)) (fun _ => ?_)
   refine ho_ev rfl rfl rfl (ev_assign rfl rfl) ?_
   refine ho_ev rfl rfl rfl (ev_assign rfl rfl) ?_
   refine ho_nil ?_
   refine hx_then ?_
   refine ht_ret ?_
   refine hx_through trivial ?_
   exact hx_ret3A (.inl rfl) rfl rfl rfl rfl Tryd.underlying53 Tryd.ty53 rfl (cells_pt (by (with_reducible repeat constructor); done) (Nat.le_of_ble_eq_true rfl) rfl) () rfl (Ent.cons (by (repeat constructor); done) Ent.nil)
  ·omega
theorem rf_Steps (r : Rf.RDisk) (x : RX) (k : Int) (number : Nat) (last : Int) (body : List UInt8) (n : Int) (hk : 0 ≤ k ∧ k ≤ 65534) (hbl : body.length ≤ 4096) (h1 : r.view.length ≤ 900000) (h2 : r.L.length ≤ 900000) (hold : ((Rf.rfind r.view (k + Rf.rother last)).getD []).length ≤ 1099511627776) (hold2 : ((Rf.rfind (r.free (k + Rf.rother last)).view (k + Rf.rother last)).getD []).length ≤ 1099511627776) : Ctr Tryd.prog 21 #[rdV r x, .agg #[.int .i64 k, .int .i64 last, .int .u64 ((number : Nat) : Int)], vS body, .int .i64 n] [ro (rdR r x)] (fun y : RX => .tuple #[rdV (Rf.rsteps r k number last body n).r y, .agg #[.int .i64 k, .int .i64 (Rf.rsteps r k number last body n).last, .int .u64 (((Rf.rsteps r k number last body n).number : Nat) : Int)], .bool (Rf.rsteps r k number last body n).fin, .int .i64 (Rf.rsteps r k number last body n).err]) (fun y => [ro (rdR (Rf.rsteps r k number last body n).r y)]) := by
 refine fn_intro Tryd.func21 rfl rfl Tryd.ntmps21 (Nat.le_of_ble_eq_true rfl) (fun _ => by repeat (first | exact App.nil | apply App.cons)) (fun κ F => ?_)
 have hro : Rf.rother last = if last = 0 then 1 else 0 := rfl
 have hro2 : 0 ≤ Rf.rother last ∧ Rf.rother last ≤ 1 := by rw [hro]; split <;> omega
 skip
 have hfv := Rf.free_view_len r (k + Rf.rother last)
 refine ht_seq ?_
 refine ht_region ?_
 refine ho_eff rfl rfl rfl (eff_boxA rfl rfl) (fun b4 => ?_)
 refine ho_eff rfl rfl rfl (eff_boxA rfl rfl) (fun b5 => ?_)
 refine ho_eff rfl rfl rfl (eff_alloc rfl Tryd.ty49 (by first | exact cells_agg _ | exact rfl)) (fun b8 => ?_)
 refine ho_eff rfl rfl rfl (eff_alloc rfl Tryd.ty53 (by first | exact cells_agg _ | exact rfl)) (fun b9 => ?_)
 refine ho_ev rfl rfl rfl (ev_assign rfl rfl) ?_
 refine ho_ev rfl rfl rfl (ev_assign rfl rfl) ?_
 refine ho_nil ?_
 refine hx_then ?_
 refine ht_seq ?_
 refine ht_seq ?_
 refine ht_region ?_
 refine ho_ev rfl rfl rfl (ev_move rfl rfl) ?_
 refine ho_ev rfl rfl rfl (ev_lenS rfl Tryd.underlying9 rfl) ?_
 refine ho_gt rfl rfl rfl rfl rfl rfl (fun g1 => ?_) (fun g1 => ?_)
 ·skip
  refine ho_nil ?_
  refine hx_then ?_
  refine ht_then rfl ?_
  refine ht_seq ?_
  refine ht_draw (.op 0 (.op 1 (.op 2 (.op 3 (.op 4 (.op 5 .done)))))) [2, 3] Tryd.mixed rfl ?_
  refine hd_ev rfl rfl rfl rfl (EvG.of rfl (ev_loadA rfl Tryd.underlying49 Tryd.ty49 rfl rfl (by first | exact cells_pt (by (with_reducible repeat constructor); done) (Nat.le_of_ble_eq_true rfl) (by simp only [List.extract_toArray, List.extract_eq_take_drop, Nat.zero_add, Nat.sub_zero, Nat.add_sub_cancel_left, List.drop_zero, List.take_succ_cons, List.take_zero, List.drop_succ_cons] <;> rfl) | exact cells_ro (by (with_reducible repeat constructor); done) (Nat.le_of_ble_eq_true rfl) (by simp only [List.extract_toArray, List.extract_eq_take_drop, Nat.zero_add, Nat.sub_zero, Nat.add_sub_cancel_left, List.drop_zero, List.take_succ_cons, List.take_zero, List.drop_succ_cons] <;> rfl)))) ?_
  refine hd_ev rfl rfl rfl rfl (EvG.of rfl (ev_loadA rfl Tryd.underlying53 Tryd.ty53 rfl rfl (by first | exact cells_pt (by (with_reducible repeat constructor); done) (Nat.le_of_ble_eq_true rfl) (by simp only [List.extract_toArray, List.extract_eq_take_drop, Nat.zero_add, Nat.sub_zero, Nat.add_sub_cancel_left, List.drop_zero, List.take_succ_cons, List.take_zero, List.drop_succ_cons] <;> rfl) | exact cells_ro (by (with_reducible repeat constructor); done) (Nat.le_of_ble_eq_true rfl) (by simp only [List.extract_toArray, List.extract_eq_take_drop, Nat.zero_add, Nat.sub_zero, Nat.add_sub_cancel_left, List.drop_zero, List.take_succ_cons, List.take_zero, List.drop_succ_cons] <;> rfl)))) ?_
  refine hd_eff0 rfl rfl rfl rfl (eff_storeA rfl Tryd.ty49 rfl rfl (by (with_reducible repeat constructor); done) rfl rfl rfl (by simp only [setRange, List.setIfInBounds_toArray, List.set_cons_zero, List.set_cons_succ, Nat.zero_add]; rfl)) (fun _ => by (refine FL.ev rfl (EvG.of rfl (ev_loadA rfl Tryd.underlying53 Tryd.ty53 rfl rfl (by first | exact cells_pt (by (with_reducible repeat constructor); done) (Nat.le_of_ble_eq_true rfl) (by simp only [List.extract_toArray, List.extract_eq_take_drop, Nat.zero_add, Nat.sub_zero, Nat.add_sub_cancel_left, List.drop_zero, List.take_succ_cons, List.take_zero, List.drop_succ_cons] <;> rfl) | exact cells_ro (by (with_reducible repeat constructor); done) (Nat.le_of_ble_eq_true rfl) (by simp only [List.extract_toArray, List.extract_eq_take_drop, Nat.zero_add, Nat.sub_zero, Nat.add_sub_cancel_left, List.drop_zero, List.take_succ_cons, List.take_zero, List.drop_succ_cons] <;> rfl)))) ?_); (refine FL.skip rfl ?_); exact FL.nil) (fun _ => ?_)
  refine hd_eff0 rfl rfl rfl rfl (eff_storeA rfl Tryd.ty53 rfl rfl (by (with_reducible repeat constructor); done) rfl rfl rfl (by simp only [setRange, List.setIfInBounds_toArray, List.set_cons_zero, List.set_cons_succ, Nat.zero_add]; rfl)) (fun _ => by (refine FL.skip rfl ?_); (refine FL.skip rfl ?_); exact FL.nil) (fun _ => ?_)
  refine hd_ev rfl rfl rfl rfl (EvG.of rfl (ev_assign rfl rfl)) ?_
  refine hd_ev rfl rfl rfl rfl (EvG.of rfl (ev_assign rfl rfl)) ?_
  refine hd_nil ?_
  refine hx_then ?_
  refine ht_ret ?_
  refine hx_through trivial ?_
  have hR : (Rf.rsteps r k number last body n) = ⟨r, false, 120, number, last⟩ := by unfold Rf.rsteps; rw [if_pos (by omega)]
  rw [hR]
  exact hx_ret4A (.inl rfl) rfl rfl rfl rfl rfl Tryd.underlying49 Tryd.ty49 rfl (cells_pt (by (with_reducible repeat constructor); done) (Nat.le_of_ble_eq_true rfl) rfl) Tryd.underlying53 Tryd.ty53 rfl (cells_pt (by (with_reducible repeat constructor); done) (Nat.le_of_ble_eq_true rfl) rfl) x rfl (Ent.roD (by (with_reducible repeat constructor); done) (Ent.cons (by (repeat constructor); done) Ent.nil))
 ·skip
  refine ho_nil ?_
  refine hx_then ?_
  refine ht_else rfl ?_
  refine ht_skip ?_
  refine hx_then ?_
  refine ht_seq ?_
  refine ht_region ?_
  refine ho_ev rfl rfl rfl (ev_assign rfl rfl) ?_
  refine ho_nil ?_
  refine hx_then ?_
  refine ht_seq ?_
  refine ht_seq ?_
  refine ht_region ?_
  refine ho_ev rfl rfl rfl (by first | exact ev_fieldAddr0 rfl Tryd.fld53_1 rfl | exact ev_fieldAddr rfl Tryd.fld53_1 rfl) ?_
  refine ho_ev rfl rfl rfl (ev_load rfl Tryd.underlying3 rfl rfl (by first | exact cell_pt (by (with_reducible repeat constructor); done) rfl | exact cell_ro (by (with_reducible repeat constructor); done) rfl)) ?_
  refine ho_eq rfl rfl rfl rfl rfl rfl (fun g2 => ?_) (fun g2 => ?_)
  ·skip
   refine ho_nil ?_
   refine hx_then ?_
   refine ht_then rfl ?_
   refine ht_region ?_
   refine ho_ev rfl rfl rfl (ev_assign rfl rfl) ?_
   refine ho_nil ?_
   refine hx_then ?_
   refine ht_seq ?_
   refine ht_seq ?_
   rcases (show n < 1 ∨ n = 1 ∨ n = 2 ∨ n = 3 ∨ 4 ≤ n by omega) with hn | hn | hn | hn | hn
   ·skip
    refine ht_region ?_
    refine ho_ev rfl rfl rfl (ev_move rfl rfl) ?_
    refine ho_ge rfl rfl rfl rfl rfl rfl (fun g3 => ?_) (fun g3 => ?_)
    ·omega
    ·skip
     refine ho_nil ?_
     refine hx_then ?_
     refine ht_else rfl ?_
     refine ht_skip ?_
     refine hx_then ?_
     refine ht_seq ?_
     refine ht_seq ?_
     refine ht_region ?_
     refine ho_ev rfl rfl rfl (ev_move rfl rfl) ?_
     refine ho_ge rfl rfl rfl rfl rfl rfl (fun g4 => ?_) (fun g4 => ?_)
     ·omega
     ·skip
      refine ho_nil ?_
      refine hx_then ?_
      refine ht_else rfl ?_
      refine ht_skip ?_
      refine hx_then ?_
      refine ht_seq ?_
      refine ht_seq ?_
      refine ht_region ?_
      refine ho_ev rfl rfl rfl (ev_move rfl rfl) ?_
      refine ho_ge rfl rfl rfl rfl rfl rfl (fun g5 => ?_) (fun g5 => ?_)
      ·omega
      ·skip
       refine ho_nil ?_
       refine hx_then ?_
       refine ht_else rfl ?_
       refine ht_skip ?_
       refine hx_then ?_
       refine ht_seq ?_
       refine ht_seq ?_
       refine ht_region ?_
       refine ho_ev rfl rfl rfl (ev_move rfl rfl) ?_
       refine ho_ge rfl rfl rfl rfl rfl rfl (fun g6 => ?_) (fun g6 => ?_)
       ·omega
       ·skip
        refine ho_nil ?_
        refine hx_then ?_
        refine ht_else rfl ?_
        refine ht_skip ?_
        refine hx_then ?_
        refine ht_seq ?_
        refine ht_draw (.op 0 (.op 1 (.op 2 (.op 3 (.op 4 (.op 5 .done)))))) [2, 3] Tryd.mixed rfl ?_
        refine hd_ev rfl rfl rfl rfl (EvG.of rfl (ev_loadA rfl Tryd.underlying49 Tryd.ty49 rfl rfl (by first | exact cells_pt (by (with_reducible repeat constructor); done) (Nat.le_of_ble_eq_true rfl) (by simp only [List.extract_toArray, List.extract_eq_take_drop, Nat.zero_add, Nat.sub_zero, Nat.add_sub_cancel_left, List.drop_zero, List.take_succ_cons, List.take_zero, List.drop_succ_cons] <;> rfl) | exact cells_ro (by (with_reducible repeat constructor); done) (Nat.le_of_ble_eq_true rfl) (by simp only [List.extract_toArray, List.extract_eq_take_drop, Nat.zero_add, Nat.sub_zero, Nat.add_sub_cancel_left, List.drop_zero, List.take_succ_cons, List.take_zero, List.drop_succ_cons] <;> rfl)))) ?_
        refine hd_ev rfl rfl rfl rfl (EvG.of rfl (ev_loadA rfl Tryd.underlying53 Tryd.ty53 rfl rfl (by first | exact cells_pt (by (with_reducible repeat constructor); done) (Nat.le_of_ble_eq_true rfl) (by simp only [List.extract_toArray, List.extract_eq_take_drop, Nat.zero_add, Nat.sub_zero, Nat.add_sub_cancel_left, List.drop_zero, List.take_succ_cons, List.take_zero, List.drop_succ_cons] <;> rfl) | exact cells_ro (by (with_reducible repeat constructor); done) (Nat.le_of_ble_eq_true rfl) (by simp only [List.extract_toArray, List.extract_eq_take_drop, Nat.zero_add, Nat.sub_zero, Nat.add_sub_cancel_left, List.drop_zero, List.take_succ_cons, List.take_zero, List.drop_succ_cons] <;> rfl)))) ?_
        refine hd_eff0 rfl rfl rfl rfl (eff_storeA rfl Tryd.ty49 rfl rfl (by (with_reducible repeat constructor); done) rfl rfl rfl (by simp only [setRange, List.setIfInBounds_toArray, List.set_cons_zero, List.set_cons_succ, Nat.zero_add]; rfl)) (fun _ => by (refine FL.ev rfl (EvG.of rfl (ev_loadA rfl Tryd.underlying53 Tryd.ty53 rfl rfl (by first | exact cells_pt (by (with_reducible repeat constructor); done) (Nat.le_of_ble_eq_true rfl) (by simp only [List.extract_toArray, List.extract_eq_take_drop, Nat.zero_add, Nat.sub_zero, Nat.add_sub_cancel_left, List.drop_zero, List.take_succ_cons, List.take_zero, List.drop_succ_cons] <;> rfl) | exact cells_ro (by (with_reducible repeat constructor); done) (Nat.le_of_ble_eq_true rfl) (by simp only [List.extract_toArray, List.extract_eq_take_drop, Nat.zero_add, Nat.sub_zero, Nat.add_sub_cancel_left, List.drop_zero, List.take_succ_cons, List.take_zero, List.drop_succ_cons] <;> rfl)))) ?_); (refine FL.skip rfl ?_); exact FL.nil) (fun _ => ?_)
        refine hd_eff0 rfl rfl rfl rfl (eff_storeA rfl Tryd.ty53 rfl rfl (by (with_reducible repeat constructor); done) rfl rfl rfl (by simp only [setRange, List.setIfInBounds_toArray, List.set_cons_zero, List.set_cons_succ, Nat.zero_add]; rfl)) (fun _ => by (refine FL.skip rfl ?_); (refine FL.skip rfl ?_); exact FL.nil) (fun _ => ?_)
        refine hd_ev rfl rfl rfl rfl (EvG.of rfl (ev_assign rfl rfl)) ?_
        refine hd_ev rfl rfl rfl rfl (EvG.of rfl (ev_assign rfl rfl)) ?_
        refine hd_nil ?_
        refine hx_then ?_
        refine ht_ret ?_
        have hR : (Rf.rsteps r k number last body n) = ⟨r, false, 0, number, last⟩ := by unfold Rf.rsteps; rw [if_neg (by omega), if_pos (by omega)]
        rw [hR]
        exact hx_ret4A (.inl rfl) rfl rfl rfl rfl rfl Tryd.underlying49 Tryd.ty49 rfl (cells_pt (by (with_reducible repeat constructor); done) (Nat.le_of_ble_eq_true rfl) rfl) Tryd.underlying53 Tryd.ty53 rfl (cells_pt (by (with_reducible repeat constructor); done) (Nat.le_of_ble_eq_true rfl) rfl) x rfl (Ent.roD (by (with_reducible repeat constructor); done) (Ent.cons (by (repeat constructor); done) Ent.nil))
   ·skip
    refine ht_region ?_
    refine ho_ev rfl rfl rfl (ev_move rfl rfl) ?_
    refine ho_ge rfl rfl rfl rfl rfl rfl (fun g7 => ?_) (fun g7 => ?_)
    ·skip
     refine ho_nil ?_
     refine hx_then ?_
     refine ht_then rfl ?_
     refine ht_region ?_
     refine ho_ev rfl rfl rfl (ev_loadA rfl Tryd.underlying49 Tryd.ty49 rfl rfl (by first | exact cells_pt (by (with_reducible repeat constructor); done) (Nat.le_of_ble_eq_true rfl) (by simp only [List.extract_toArray, List.extract_eq_take_drop, Nat.zero_add, Nat.sub_zero, Nat.add_sub_cancel_left, List.drop_zero, List.take_succ_cons, List.take_zero, List.drop_succ_cons] <;> rfl) | exact cells_ro (by (with_reducible repeat constructor); done) (Nat.le_of_ble_eq_true rfl) (by simp only [List.extract_toArray, List.extract_eq_take_drop, Nat.zero_add, Nat.sub_zero, Nat.add_sub_cancel_left, List.drop_zero, List.take_succ_cons, List.take_zero, List.drop_succ_cons] <;> rfl))) ?_
     refine ho_ev rfl rfl rfl (by first | exact ev_fieldAddr0 rfl Tryd.fld53_0 rfl | exact ev_fieldAddr rfl Tryd.fld53_0 rfl) ?_
     refine ho_ev rfl rfl rfl (ev_load rfl Tryd.underlying3 rfl rfl (by first | exact cell_pt (by (with_reducible repeat constructor); done) rfl | exact cell_ro (by (with_reducible repeat constructor); done) rfl)) ?_
     refine ho_ev rfl rfl rfl (ev_move rfl rfl) ?_
     refine ho_ev rfl rfl rfl (ev_add (r := (k + Rf.rother last)) rfl rfl rfl (by first | (rw [hro, if_pos (by omega)]; exact in_i64 (by omega)) | (rw [hro, if_neg (by omega)]; exact in_i64 (by omega)))) ?_
     refine ho_eff rfl rfl rfl (eff_call rfl rfl (.cons rfl (.cons rfl .nil)) rfl (rf_Free r x (k + Rf.rother last) (by omega) (by omega) hold) (by repeat (first | exact Picks.nil | (apply Picks.ro; focus ((repeat constructor); done)) | (apply Picks.cons; focus ((repeat constructor); done)))) (fun _ => by repeat (first | exact App.nil | apply App.cons))) (fun y1 => ?_)
     refine ho_ev rfl rfl rfl (ev_move rfl rfl) ?_
     refine ho_ev rfl rfl rfl (ev_extract rfl rfl rfl) ?_
     refine ho_ev rfl rfl rfl (ev_extract rfl rfl rfl) ?_
     refine ho_eff0 rfl rfl (eff_storeA rfl Tryd.ty49 rfl rfl (by (with_reducible repeat constructor); done) rfl rfl rfl (by simp only [setRange, List.setIfInBounds_toArray, List.set_cons_zero, List.set_cons_succ, Nat.zero_add]; rfl)) (fun _ => ?_)
     refine ho_nil ?_
     refine hx_then ?_
     refine ht_seq ?_
     refine ht_seq ?_
     refine ht_region ?_
     refine ho_ev rfl rfl rfl (ev_move rfl rfl) ?_
     refine ho_ge rfl rfl rfl rfl rfl rfl (fun g8 => ?_) (fun g8 => ?_)
     ·omega
     ·skip
      refine ho_nil ?_
      refine hx_then ?_
      refine ht_else rfl ?_
      refine ht_skip ?_
      refine hx_then ?_
      refine ht_seq ?_
      refine ht_seq ?_
      refine ht_region ?_
      refine ho_ev rfl rfl rfl (ev_move rfl rfl) ?_
      refine ho_ge rfl rfl rfl rfl rfl rfl (fun g9 => ?_) (fun g9 => ?_)
      ·omega
      ·skip
       refine ho_nil ?_
       refine hx_then ?_
       refine ht_else rfl ?_
       refine ht_skip ?_
       refine hx_then ?_
       refine ht_seq ?_
       refine ht_seq ?_
       refine ht_region ?_
       refine ho_ev rfl rfl rfl (ev_move rfl rfl) ?_
       refine ho_ge rfl rfl rfl rfl rfl rfl (fun g10 => ?_) (fun g10 => ?_)
       ·omega
       ·skip
        refine ho_nil ?_
        refine hx_then ?_
        refine ht_else rfl ?_
        refine ht_skip ?_
        refine hx_then ?_
        refine ht_seq ?_
        refine ht_draw (.op 0 (.op 1 (.op 2 (.op 3 (.op 4 (.op 5 .done)))))) [2, 3] Tryd.mixed rfl ?_
        refine hd_ev rfl rfl rfl rfl (EvG.of rfl (ev_loadA rfl Tryd.underlying49 Tryd.ty49 rfl rfl (by first | exact cells_pt (by (with_reducible repeat constructor); done) (Nat.le_of_ble_eq_true rfl) (by simp only [List.extract_toArray, List.extract_eq_take_drop, Nat.zero_add, Nat.sub_zero, Nat.add_sub_cancel_left, List.drop_zero, List.take_succ_cons, List.take_zero, List.drop_succ_cons] <;> rfl) | exact cells_ro (by (with_reducible repeat constructor); done) (Nat.le_of_ble_eq_true rfl) (by simp only [List.extract_toArray, List.extract_eq_take_drop, Nat.zero_add, Nat.sub_zero, Nat.add_sub_cancel_left, List.drop_zero, List.take_succ_cons, List.take_zero, List.drop_succ_cons] <;> rfl)))) ?_
        refine hd_ev rfl rfl rfl rfl (EvG.of rfl (ev_loadA rfl Tryd.underlying53 Tryd.ty53 rfl rfl (by first | exact cells_pt (by (with_reducible repeat constructor); done) (Nat.le_of_ble_eq_true rfl) (by simp only [List.extract_toArray, List.extract_eq_take_drop, Nat.zero_add, Nat.sub_zero, Nat.add_sub_cancel_left, List.drop_zero, List.take_succ_cons, List.take_zero, List.drop_succ_cons] <;> rfl) | exact cells_ro (by (with_reducible repeat constructor); done) (Nat.le_of_ble_eq_true rfl) (by simp only [List.extract_toArray, List.extract_eq_take_drop, Nat.zero_add, Nat.sub_zero, Nat.add_sub_cancel_left, List.drop_zero, List.take_succ_cons, List.take_zero, List.drop_succ_cons] <;> rfl)))) ?_
        refine hd_eff0 rfl rfl rfl rfl (eff_storeA rfl Tryd.ty49 rfl rfl (by (with_reducible repeat constructor); done) rfl rfl rfl (by simp only [setRange, List.setIfInBounds_toArray, List.set_cons_zero, List.set_cons_succ, Nat.zero_add]; rfl)) (fun _ => by (refine FL.ev rfl (EvG.of rfl (ev_loadA rfl Tryd.underlying53 Tryd.ty53 rfl rfl (by first | exact cells_pt (by (with_reducible repeat constructor); done) (Nat.le_of_ble_eq_true rfl) (by simp only [List.extract_toArray, List.extract_eq_take_drop, Nat.zero_add, Nat.sub_zero, Nat.add_sub_cancel_left, List.drop_zero, List.take_succ_cons, List.take_zero, List.drop_succ_cons] <;> rfl) | exact cells_ro (by (with_reducible repeat constructor); done) (Nat.le_of_ble_eq_true rfl) (by simp only [List.extract_toArray, List.extract_eq_take_drop, Nat.zero_add, Nat.sub_zero, Nat.add_sub_cancel_left, List.drop_zero, List.take_succ_cons, List.take_zero, List.drop_succ_cons] <;> rfl)))) ?_); (refine FL.skip rfl ?_); exact FL.nil) (fun _ => ?_)
        refine hd_eff0 rfl rfl rfl rfl (eff_storeA rfl Tryd.ty53 rfl rfl (by (with_reducible repeat constructor); done) rfl rfl rfl (by simp only [setRange, List.setIfInBounds_toArray, List.set_cons_zero, List.set_cons_succ, Nat.zero_add]; rfl)) (fun _ => by (refine FL.skip rfl ?_); (refine FL.skip rfl ?_); exact FL.nil) (fun _ => ?_)
        refine hd_ev rfl rfl rfl rfl (EvG.of rfl (ev_assign rfl rfl)) ?_
        refine hd_ev rfl rfl rfl rfl (EvG.of rfl (ev_assign rfl rfl)) ?_
        refine hd_nil ?_
        refine hx_then ?_
        refine ht_ret ?_
        have hR : (Rf.rsteps r k number last body n) = ⟨r.free (k + Rf.rother last), false, 0, number, last⟩ := by unfold Rf.rsteps; rw [if_neg (by omega), if_neg (by omega), if_pos (by omega)]
        rw [hR]
        exact hx_ret4A (.inl rfl) rfl rfl rfl rfl rfl Tryd.underlying49 Tryd.ty49 rfl (cells_pt (by (with_reducible repeat constructor); done) (Nat.le_of_ble_eq_true rfl) rfl) Tryd.underlying53 Tryd.ty53 rfl (cells_pt (by (with_reducible repeat constructor); done) (Nat.le_of_ble_eq_true rfl) rfl) y1 rfl (Ent.roD (by (with_reducible repeat constructor); done) (Ent.cons (by (repeat constructor); done) Ent.nil))
    ·omega
   ·skip
    refine ht_region ?_
    refine ho_ev rfl rfl rfl (ev_move rfl rfl) ?_
    refine ho_ge rfl rfl rfl rfl rfl rfl (fun g11 => ?_) (fun g11 => ?_)
    ·skip
     refine ho_nil ?_
     refine hx_then ?_
     refine ht_then rfl ?_
     refine ht_region ?_
     refine ho_ev rfl rfl rfl (ev_loadA rfl Tryd.underlying49 Tryd.ty49 rfl rfl (by first | exact cells_pt (by (with_reducible repeat constructor); done) (Nat.le_of_ble_eq_true rfl) (by simp only [List.extract_toArray, List.extract_eq_take_drop, Nat.zero_add, Nat.sub_zero, Nat.add_sub_cancel_left, List.drop_zero, List.take_succ_cons, List.take_zero, List.drop_succ_cons] <;> rfl) | exact cells_ro (by (with_reducible repeat constructor); done) (Nat.le_of_ble_eq_true rfl) (by simp only [List.extract_toArray, List.extract_eq_take_drop, Nat.zero_add, Nat.sub_zero, Nat.add_sub_cancel_left, List.drop_zero, List.take_succ_cons, List.take_zero, List.drop_succ_cons] <;> rfl))) ?_
     refine ho_ev rfl rfl rfl (by first | exact ev_fieldAddr0 rfl Tryd.fld53_0 rfl | exact ev_fieldAddr rfl Tryd.fld53_0 rfl) ?_
     refine ho_ev rfl rfl rfl (ev_load rfl Tryd.underlying3 rfl rfl (by first | exact cell_pt (by (with_reducible repeat constructor); done) rfl | exact cell_ro (by (with_reducible repeat constructor); done) rfl)) ?_
     refine ho_ev rfl rfl rfl (ev_move rfl rfl) ?_
     refine ho_ev rfl rfl rfl (ev_add (r := (k + Rf.rother last)) rfl rfl rfl (by first | (rw [hro, if_pos (by omega)]; exact in_i64 (by omega)) | (rw [hro, if_neg (by omega)]; exact in_i64 (by omega)))) ?_
     refine ho_eff rfl rfl rfl (eff_call rfl rfl (.cons rfl (.cons rfl .nil)) rfl (rf_Free r x (k + Rf.rother last) (by omega) (by omega) hold) (by repeat (first | exact Picks.nil | (apply Picks.ro; focus ((repeat constructor); done)) | (apply Picks.cons; focus ((repeat constructor); done)))) (fun _ => by repeat (first | exact App.nil | apply App.cons))) (fun y1 => ?_)
     refine ho_ev rfl rfl rfl (ev_move rfl rfl) ?_
     refine ho_ev rfl rfl rfl (ev_extract rfl rfl rfl) ?_
     refine ho_ev rfl rfl rfl (ev_extract rfl rfl rfl) ?_
     refine ho_eff0 rfl rfl (eff_storeA rfl Tryd.ty49 rfl rfl (by (with_reducible repeat constructor); done) rfl rfl rfl (by simp only [setRange, List.setIfInBounds_toArray, List.set_cons_zero, List.set_cons_succ, Nat.zero_add]; rfl)) (fun _ => ?_)
     refine ho_nil ?_
     refine hx_then ?_
     refine ht_seq ?_
     refine ht_seq ?_
     refine ht_region ?_
     refine ho_ev rfl rfl rfl (ev_move rfl rfl) ?_
     refine ho_ge rfl rfl rfl rfl rfl rfl (fun g12 => ?_) (fun g12 => ?_)
     ·skip
      refine ho_nil ?_
      refine hx_then ?_
      refine ht_then rfl ?_
      refine ht_region ?_
      refine ho_ev rfl rfl rfl (ev_loadA rfl Tryd.underlying49 Tryd.ty49 rfl rfl (by first | exact cells_pt (by (with_reducible repeat constructor); done) (Nat.le_of_ble_eq_true rfl) (by simp only [List.extract_toArray, List.extract_eq_take_drop, Nat.zero_add, Nat.sub_zero, Nat.add_sub_cancel_left, List.drop_zero, List.take_succ_cons, List.take_zero, List.drop_succ_cons] <;> rfl) | exact cells_ro (by (with_reducible repeat constructor); done) (Nat.le_of_ble_eq_true rfl) (by simp only [List.extract_toArray, List.extract_eq_take_drop, Nat.zero_add, Nat.sub_zero, Nat.add_sub_cancel_left, List.drop_zero, List.take_succ_cons, List.take_zero, List.drop_succ_cons] <;> rfl))) ?_
      refine ho_eff rfl rfl rfl (eff_call rfl rfl (.cons rfl .nil) rfl (rf_Sync (r.free (k + Rf.rother last)) y1) (by repeat (first | exact Picks.nil | (apply Picks.ro; focus ((repeat constructor); done)) | (apply Picks.cons; focus ((repeat constructor); done)))) (fun _ => by repeat (first | exact App.nil | apply App.cons))) (fun _ => ?_)
      refine ho_eff0 rfl rfl (eff_storeA rfl Tryd.ty49 rfl rfl (by (with_reducible repeat constructor); done) rfl rfl rfl (by simp only [setRange, List.setIfInBounds_toArray, List.set_cons_zero, List.set_cons_succ, Nat.zero_add]; rfl)) (fun _ => ?_)
      refine ho_nil ?_
      refine hx_then ?_
      refine ht_seq ?_
      refine ht_seq ?_
      refine ht_region ?_
      refine ho_ev rfl rfl rfl (ev_move rfl rfl) ?_
      refine ho_ge rfl rfl rfl rfl rfl rfl (fun g13 => ?_) (fun g13 => ?_)
      ·omega
      ·skip
       refine ho_nil ?_
       refine hx_then ?_
       refine ht_else rfl ?_
       refine ht_skip ?_
       refine hx_then ?_
       refine ht_seq ?_
       refine ht_seq ?_
       refine ht_region ?_
       refine ho_ev rfl rfl rfl (ev_move rfl rfl) ?_
       refine ho_ge rfl rfl rfl rfl rfl rfl (fun g14 => ?_) (fun g14 => ?_)
       ·omega
       ·skip
        refine ho_nil ?_
        refine hx_then ?_
        refine ht_else rfl ?_
        refine ht_skip ?_
        refine hx_then ?_
        refine ht_seq ?_
        refine ht_draw (.op 0 (.op 1 (.op 2 (.op 3 (.op 4 (.op 5 .done)))))) [2, 3] Tryd.mixed rfl ?_
        refine hd_ev rfl rfl rfl rfl (EvG.of rfl (ev_loadA rfl Tryd.underlying49 Tryd.ty49 rfl rfl (by first | exact cells_pt (by (with_reducible repeat constructor); done) (Nat.le_of_ble_eq_true rfl) (by simp only [List.extract_toArray, List.extract_eq_take_drop, Nat.zero_add, Nat.sub_zero, Nat.add_sub_cancel_left, List.drop_zero, List.take_succ_cons, List.take_zero, List.drop_succ_cons] <;> rfl) | exact cells_ro (by (with_reducible repeat constructor); done) (Nat.le_of_ble_eq_true rfl) (by simp only [List.extract_toArray, List.extract_eq_take_drop, Nat.zero_add, Nat.sub_zero, Nat.add_sub_cancel_left, List.drop_zero, List.take_succ_cons, List.take_zero, List.drop_succ_cons] <;> rfl)))) ?_
        refine hd_ev rfl rfl rfl rfl (EvG.of rfl (ev_loadA rfl Tryd.underlying53 Tryd.ty53 rfl rfl (by first | exact cells_pt (by (with_reducible repeat constructor); done) (Nat.le_of_ble_eq_true rfl) (by simp only [List.extract_toArray, List.extract_eq_take_drop, Nat.zero_add, Nat.sub_zero, Nat.add_sub_cancel_left, List.drop_zero, List.take_succ_cons, List.take_zero, List.drop_succ_cons] <;> rfl) | exact cells_ro (by (with_reducible repeat constructor); done) (Nat.le_of_ble_eq_true rfl) (by simp only [List.extract_toArray, List.extract_eq_take_drop, Nat.zero_add, Nat.sub_zero, Nat.add_sub_cancel_left, List.drop_zero, List.take_succ_cons, List.take_zero, List.drop_succ_cons] <;> rfl)))) ?_
        refine hd_eff0 rfl rfl rfl rfl (eff_storeA rfl Tryd.ty49 rfl rfl (by (with_reducible repeat constructor); done) rfl rfl rfl (by simp only [setRange, List.setIfInBounds_toArray, List.set_cons_zero, List.set_cons_succ, Nat.zero_add]; rfl)) (fun _ => by (refine FL.ev rfl (EvG.of rfl (ev_loadA rfl Tryd.underlying53 Tryd.ty53 rfl rfl (by first | exact cells_pt (by (with_reducible repeat constructor); done) (Nat.le_of_ble_eq_true rfl) (by simp only [List.extract_toArray, List.extract_eq_take_drop, Nat.zero_add, Nat.sub_zero, Nat.add_sub_cancel_left, List.drop_zero, List.take_succ_cons, List.take_zero, List.drop_succ_cons] <;> rfl) | exact cells_ro (by (with_reducible repeat constructor); done) (Nat.le_of_ble_eq_true rfl) (by simp only [List.extract_toArray, List.extract_eq_take_drop, Nat.zero_add, Nat.sub_zero, Nat.add_sub_cancel_left, List.drop_zero, List.take_succ_cons, List.take_zero, List.drop_succ_cons] <;> rfl)))) ?_); (refine FL.skip rfl ?_); exact FL.nil) (fun _ => ?_)
        refine hd_eff0 rfl rfl rfl rfl (eff_storeA rfl Tryd.ty53 rfl rfl (by (with_reducible repeat constructor); done) rfl rfl rfl (by simp only [setRange, List.setIfInBounds_toArray, List.set_cons_zero, List.set_cons_succ, Nat.zero_add]; rfl)) (fun _ => by (refine FL.skip rfl ?_); (refine FL.skip rfl ?_); exact FL.nil) (fun _ => ?_)
        refine hd_ev rfl rfl rfl rfl (EvG.of rfl (ev_assign rfl rfl)) ?_
        refine hd_ev rfl rfl rfl rfl (EvG.of rfl (ev_assign rfl rfl)) ?_
        refine hd_nil ?_
        refine hx_then ?_
        refine ht_ret ?_
        have hR : (Rf.rsteps r k number last body n) = ⟨(r.free (k + Rf.rother last)).sync, false, 0, number, last⟩ := by unfold Rf.rsteps; rw [if_neg (by omega), if_neg (by omega), if_neg (by omega), if_pos (by omega)]
        rw [hR]
        exact hx_ret4A (.inl rfl) rfl rfl rfl rfl rfl Tryd.underlying49 Tryd.ty49 rfl (cells_pt (by (with_reducible repeat constructor); done) (Nat.le_of_ble_eq_true rfl) rfl) Tryd.underlying53 Tryd.ty53 rfl (cells_pt (by (with_reducible repeat constructor); done) (Nat.le_of_ble_eq_true rfl) rfl) ⟨y1.va, y1.vc, y1.va, y1.vc, none, 0⟩ rfl (Ent.roD (by (with_reducible repeat constructor); done) (Ent.cons (by (repeat constructor); done) Ent.nil))
     ·omega
    ·omega
   ·skip
    refine ht_region ?_
    refine ho_ev rfl rfl rfl (ev_move rfl rfl) ?_
    refine ho_ge rfl rfl rfl rfl rfl rfl (fun g15 => ?_) (fun g15 => ?_)
    ·skip
     refine ho_nil ?_
     refine hx_then ?_
     refine ht_then rfl ?_
     refine ht_region ?_
     refine ho_ev rfl rfl rfl (ev_loadA rfl Tryd.underlying49 Tryd.ty49 rfl rfl (by first | exact cells_pt (by (with_reducible repeat constructor); done) (Nat.le_of_ble_eq_true rfl) (by simp only [List.extract_toArray, List.extract_eq_take_drop, Nat.zero_add, Nat.sub_zero, Nat.add_sub_cancel_left, List.drop_zero, List.take_succ_cons, List.take_zero, List.drop_succ_cons] <;> rfl) | exact cells_ro (by (with_reducible repeat constructor); done) (Nat.le_of_ble_eq_true rfl) (by simp only [List.extract_toArray, List.extract_eq_take_drop, Nat.zero_add, Nat.sub_zero, Nat.add_sub_cancel_left, List.drop_zero, List.take_succ_cons, List.take_zero, List.drop_succ_cons] <;> rfl))) ?_
     refine ho_ev rfl rfl rfl (by first | exact ev_fieldAddr0 rfl Tryd.fld53_0 rfl | exact ev_fieldAddr rfl Tryd.fld53_0 rfl) ?_
     refine ho_ev rfl rfl rfl (ev_load rfl Tryd.underlying3 rfl rfl (by first | exact cell_pt (by (with_reducible repeat constructor); done) rfl | exact cell_ro (by (with_reducible repeat constructor); done) rfl)) ?_
     refine ho_ev rfl rfl rfl (ev_move rfl rfl) ?_
     refine ho_ev rfl rfl rfl (ev_add (r := (k + Rf.rother last)) rfl rfl rfl (by first | (rw [hro, if_pos (by omega)]; exact in_i64 (by omega)) | (rw [hro, if_neg (by omega)]; exact in_i64 (by omega)))) ?_
     refine ho_eff rfl rfl rfl (eff_call rfl rfl (.cons rfl (.cons rfl .nil)) rfl (rf_Free r x (k + Rf.rother last) (by omega) (by omega) hold) (by repeat (first | exact Picks.nil | (apply Picks.ro; focus ((repeat constructor); done)) | (apply Picks.cons; focus ((repeat constructor); done)))) (fun _ => by repeat (first | exact App.nil | apply App.cons))) (fun y1 => ?_)
     refine ho_ev rfl rfl rfl (ev_move rfl rfl) ?_
     refine ho_ev rfl rfl rfl (ev_extract rfl rfl rfl) ?_
     refine ho_ev rfl rfl rfl (ev_extract rfl rfl rfl) ?_
     refine ho_eff0 rfl rfl (eff_storeA rfl Tryd.ty49 rfl rfl (by (with_reducible repeat constructor); done) rfl rfl rfl (by simp only [setRange, List.setIfInBounds_toArray, List.set_cons_zero, List.set_cons_succ, Nat.zero_add]; rfl)) (fun _ => ?_)
     refine ho_nil ?_
     refine hx_then ?_
     refine ht_seq ?_
     refine ht_seq ?_
     refine ht_region ?_
     refine ho_ev rfl rfl rfl (ev_move rfl rfl) ?_
     refine ho_ge rfl rfl rfl rfl rfl rfl (fun g16 => ?_) (fun g16 => ?_)
     ·skip
      refine ho_nil ?_
      refine hx_then ?_
      refine ht_then rfl ?_
      refine ht_region ?_
      refine ho_ev rfl rfl rfl (ev_loadA rfl Tryd.underlying49 Tryd.ty49 rfl rfl (by first | exact cells_pt (by (with_reducible repeat constructor); done) (Nat.le_of_ble_eq_true rfl) (by simp only [List.extract_toArray, List.extract_eq_take_drop, Nat.zero_add, Nat.sub_zero, Nat.add_sub_cancel_left, List.drop_zero, List.take_succ_cons, List.take_zero, List.drop_succ_cons] <;> rfl) | exact cells_ro (by (with_reducible repeat constructor); done) (Nat.le_of_ble_eq_true rfl) (by simp only [List.extract_toArray, List.extract_eq_take_drop, Nat.zero_add, Nat.sub_zero, Nat.add_sub_cancel_left, List.drop_zero, List.take_succ_cons, List.take_zero, List.drop_succ_cons] <;> rfl))) ?_
      refine ho_eff rfl rfl rfl (eff_call rfl rfl (.cons rfl .nil) rfl (rf_Sync (r.free (k + Rf.rother last)) y1) (by repeat (first | exact Picks.nil | (apply Picks.ro; focus ((repeat constructor); done)) | (apply Picks.cons; focus ((repeat constructor); done)))) (fun _ => by repeat (first | exact App.nil | apply App.cons))) (fun _ => ?_)
      refine ho_eff0 rfl rfl (eff_storeA rfl Tryd.ty49 rfl rfl (by (with_reducible repeat constructor); done) rfl rfl rfl (by simp only [setRange, List.setIfInBounds_toArray, List.set_cons_zero, List.set_cons_succ, Nat.zero_add]; rfl)) (fun _ => ?_)
      refine ho_nil ?_
      refine hx_then ?_
      refine ht_seq ?_
      refine ht_seq ?_
      refine ht_region ?_
      refine ho_ev rfl rfl rfl (ev_move rfl rfl) ?_
      refine ho_ge rfl rfl rfl rfl rfl rfl (fun g17 => ?_) (fun g17 => ?_)
      ·skip
       refine ho_nil ?_
       refine hx_then ?_
       refine ht_then rfl ?_
       refine ht_seq ?_
       refine ht_region ?_
       refine ho_ev rfl rfl rfl (by first | exact ev_fieldAddr0 rfl Tryd.fld53_2 rfl | exact ev_fieldAddr rfl Tryd.fld53_2 rfl) ?_
       refine ho_ev rfl rfl rfl (ev_load rfl Tryd.underlying41 rfl rfl (by first | exact cell_pt (by (with_reducible repeat constructor); done) rfl | exact cell_ro (by (with_reducible repeat constructor); done) rfl)) ?_
       refine ho_ev rfl rfl rfl (ev_add (r := ((((number + 1) % 18446744073709551616) : Nat) : Int)) rfl rfl rfl (by exact next_u64 number)) ?_
       refine ho_ev rfl rfl rfl (ev_move rfl rfl) ?_
       refine ho_ev rfl rfl rfl (ev_build1 (csl := [_, _]) rfl Tryd.st71 (.cons rfl (.cons rfl .nil)) (.cons rfl (.cons rfl .nil)) rfl rfl) ?_
       refine ho_eff rfl rfl rfl (eff_call rfl rfl (.cons rfl .nil) rfl (ref_RPut ((number + 1) % 18446744073709551616) body (Nat.mod_lt _ (by decide)) (by omega)) (by repeat (first | exact Picks.nil | (apply Picks.ro; focus ((with_reducible repeat constructor); done)) | (apply Picks.cons; focus ((with_reducible repeat constructor); done)))) (fun _ => by repeat (first | exact App.nil | apply App.cons))) (fun _ => ?_)
       refine ho_ev rfl rfl rfl (ev_move rfl rfl) ?_
       refine ho_ev rfl rfl rfl (ev_extract rfl rfl rfl) ?_
       refine ho_ev rfl rfl rfl (ev_extract rfl rfl rfl) ?_
       refine ho_ev rfl rfl rfl (ev_assign rfl rfl) ?_
       refine ho_ev rfl rfl rfl (ev_assign rfl rfl) ?_
       refine ho_nil ?_
       refine hx_then ?_
       refine ht_seq ?_
       refine ht_region ?_
       refine ho_ev rfl rfl rfl (ev_loadA rfl Tryd.underlying49 Tryd.ty49 rfl rfl (by first | exact cells_pt (by (with_reducible repeat constructor); done) (Nat.le_of_ble_eq_true rfl) (by simp only [List.extract_toArray, List.extract_eq_take_drop, Nat.zero_add, Nat.sub_zero, Nat.add_sub_cancel_left, List.drop_zero, List.take_succ_cons, List.take_zero, List.drop_succ_cons] <;> rfl) | exact cells_ro (by (with_reducible repeat constructor); done) (Nat.le_of_ble_eq_true rfl) (by simp only [List.extract_toArray, List.extract_eq_take_drop, Nat.zero_add, Nat.sub_zero, Nat.add_sub_cancel_left, List.drop_zero, List.take_succ_cons, List.take_zero, List.drop_succ_cons] <;> rfl))) ?_
       refine ho_ev rfl rfl rfl (by first | exact ev_fieldAddr0 rfl Tryd.fld53_0 rfl | exact ev_fieldAddr rfl Tryd.fld53_0 rfl) ?_
       refine ho_ev rfl rfl rfl (ev_load rfl Tryd.underlying3 rfl rfl (by first | exact cell_pt (by (with_reducible repeat constructor); done) rfl | exact cell_ro (by (with_reducible repeat constructor); done) rfl)) ?_
       refine ho_ev rfl rfl rfl (ev_move rfl rfl) ?_
       refine ho_ev rfl rfl rfl (ev_add (r := (k + Rf.rother last)) rfl rfl rfl (by first | (rw [hro, if_pos (by omega)]; exact in_i64 (by omega)) | (rw [hro, if_neg (by omega)]; exact in_i64 (by omega)))) ?_
       refine ho_ev rfl rfl rfl (ev_move rfl rfl) ?_
       refine ho_eff rfl rfl rfl (eff_call rfl rfl (.cons rfl (.cons rfl (.cons rfl .nil))) rfl (rf_Write (r.free (k + Rf.rother last)).sync ⟨y1.va, y1.vc, y1.va, y1.vc, none, 0⟩ (k + Rf.rother last) (Wire.put ((number + 1) % 18446744073709551616) body) (by show (r.free (k + Rf.rother last)).view.length ≤ _; omega) (by show 0 ≤ _; omega) hold2) (by repeat (first | exact Picks.nil | (apply Picks.ro; focus ((repeat constructor); done)) | (apply Picks.cons; focus ((repeat constructor); done)))) (fun _ => by repeat (first | exact App.nil | apply App.cons))) (fun y3 => ?_)
       refine ho_ev rfl rfl rfl (ev_move rfl rfl) ?_
       refine ho_ev rfl rfl rfl (ev_extract rfl rfl rfl) ?_
       refine ho_ev rfl rfl rfl (ev_extract rfl rfl rfl) ?_
       refine ho_eff rfl rfl rfl (eff_alloc rfl Tryd.ty49 (by first | exact cells_agg _ | exact rfl)) (fun b15 => ?_)
       refine ho_eff0 rfl rfl (eff_storeA rfl Tryd.ty49 rfl rfl (by (with_reducible repeat constructor); done) rfl rfl rfl (by simp only [setRange, List.setIfInBounds_toArray, List.set_cons_zero, List.set_cons_succ, Nat.zero_add]; rfl)) (fun _ => ?_)
       refine ho_ev rfl rfl rfl (ev_assign rfl rfl) ?_
       refine ho_nil ?_
       refine hx_then ?_
       refine ht_seq ?_
       refine ht_seq ?_
       refine ht_region ?_
       refine ho_ev rfl rfl rfl (ev_move rfl rfl) ?_
       refine ho_ne rfl rfl rfl rfl rfl rfl (fun g18 => ?_) (fun g18 => ?_)
       ·skip
        refine ho_nil ?_
        refine hx_then ?_
        refine ht_then rfl ?_
        refine ht_seq ?_
        refine ht_draw (.op 0 (.op 1 (.op 2 (.op 3 (.op 4 (.op 5 (.op 6 .done))))))) [3, 4] Tryd.mixed rfl ?_
        refine hd_ev rfl rfl rfl rfl (EvG.of rfl (ev_loadA rfl Tryd.underlying49 Tryd.ty49 rfl rfl (by first | exact cells_pt (by (with_reducible repeat constructor); done) (Nat.le_of_ble_eq_true rfl) (by simp only [List.extract_toArray, List.extract_eq_take_drop, Nat.zero_add, Nat.sub_zero, Nat.add_sub_cancel_left, List.drop_zero, List.take_succ_cons, List.take_zero, List.drop_succ_cons] <;> rfl) | exact cells_ro (by (with_reducible repeat constructor); done) (Nat.le_of_ble_eq_true rfl) (by simp only [List.extract_toArray, List.extract_eq_take_drop, Nat.zero_add, Nat.sub_zero, Nat.add_sub_cancel_left, List.drop_zero, List.take_succ_cons, List.take_zero, List.drop_succ_cons] <;> rfl)))) ?_
        refine hd_ev rfl rfl rfl rfl (EvG.of rfl (ev_loadA rfl Tryd.underlying53 Tryd.ty53 rfl rfl (by first | exact cells_pt (by (with_reducible repeat constructor); done) (Nat.le_of_ble_eq_true rfl) (by simp only [List.extract_toArray, List.extract_eq_take_drop, Nat.zero_add, Nat.sub_zero, Nat.add_sub_cancel_left, List.drop_zero, List.take_succ_cons, List.take_zero, List.drop_succ_cons] <;> rfl) | exact cells_ro (by (with_reducible repeat constructor); done) (Nat.le_of_ble_eq_true rfl) (by simp only [List.extract_toArray, List.extract_eq_take_drop, Nat.zero_add, Nat.sub_zero, Nat.add_sub_cancel_left, List.drop_zero, List.take_succ_cons, List.take_zero, List.drop_succ_cons] <;> rfl)))) ?_
        refine hd_ev rfl rfl rfl rfl (EvG.of rfl (ev_move rfl rfl)) ?_
        refine hd_eff0 rfl rfl rfl rfl (eff_storeA rfl Tryd.ty49 rfl rfl (by (with_reducible repeat constructor); done) rfl rfl rfl (by simp only [setRange, List.setIfInBounds_toArray, List.set_cons_zero, List.set_cons_succ, Nat.zero_add]; rfl)) (fun _ => by (refine FL.ev rfl (EvG.of rfl (ev_move rfl rfl)) ?_); (refine FL.ev rfl (EvG.of rfl (ev_loadA rfl Tryd.underlying53 Tryd.ty53 rfl rfl (by first | exact cells_pt (by (with_reducible repeat constructor); done) (Nat.le_of_ble_eq_true rfl) (by simp only [List.extract_toArray, List.extract_eq_take_drop, Nat.zero_add, Nat.sub_zero, Nat.add_sub_cancel_left, List.drop_zero, List.take_succ_cons, List.take_zero, List.drop_succ_cons] <;> rfl) | exact cells_ro (by (with_reducible repeat constructor); done) (Nat.le_of_ble_eq_true rfl) (by simp only [List.extract_toArray, List.extract_eq_take_drop, Nat.zero_add, Nat.sub_zero, Nat.add_sub_cancel_left, List.drop_zero, List.take_succ_cons, List.take_zero, List.drop_succ_cons] <;> rfl)))) ?_); (refine FL.skip rfl ?_); exact FL.nil) (fun _ => ?_)
        refine hd_eff0 rfl rfl rfl rfl (eff_storeA rfl Tryd.ty53 rfl rfl (by (with_reducible repeat constructor); done) rfl rfl rfl (by simp only [setRange, List.setIfInBounds_toArray, List.set_cons_zero, List.set_cons_succ, Nat.zero_add]; rfl)) (fun _ => by (refine FL.ev rfl (EvG.of rfl (ev_move rfl rfl)) ?_); (refine FL.skip rfl ?_); (refine FL.skip rfl ?_); exact FL.nil) (fun _ => ?_)
        refine hd_ev rfl rfl rfl rfl (EvG.of rfl (ev_assign rfl rfl)) ?_
        refine hd_ev rfl rfl rfl rfl (EvG.of rfl (ev_assign rfl rfl)) ?_
        refine hd_nil ?_
        refine hx_then ?_
        refine ht_ret ?_
        refine hx_through trivial ?_
        refine hx_through trivial ?_
        have hw : (r.free (k + Rf.rother last)).sync.werr (k + Rf.rother last) (Wire.put ((number + 1) % 18446744073709551616) body) ≠ 0 := by omega
        have hww : (r.free (k + Rf.rother last)).sync.write (k + Rf.rother last) (Wire.put ((number + 1) % 18446744073709551616) body) = (r.free (k + Rf.rother last)).sync := by unfold Rf.RDisk.write; rw [if_neg hw]
        have hR : (Rf.rsteps r k number last body n) = ⟨(r.free (k + Rf.rother last)).sync, false, (r.free (k + Rf.rother last)).sync.werr (k + Rf.rother last) (Wire.put ((number + 1) % 18446744073709551616) body), number, last⟩ := by unfold Rf.rsteps; rw [if_neg (by omega), if_neg (by omega), if_neg (by omega), if_neg (by omega), if_pos hw]
        rw [hR]
        rw [hww]
        exact hx_ret4A (.inl rfl) rfl rfl rfl rfl rfl Tryd.underlying49 Tryd.ty49 rfl (cells_pt (by (with_reducible repeat constructor); done) (Nat.le_of_ble_eq_true rfl) rfl) Tryd.underlying53 Tryd.ty53 rfl (cells_pt (by (with_reducible repeat constructor); done) (Nat.le_of_ble_eq_true rfl) rfl) y3 rfl (Ent.roD (by (with_reducible repeat constructor); done) (Ent.cons (by (repeat constructor); done) Ent.nil))
       ·skip
        refine ho_nil ?_
        refine hx_then ?_
        refine ht_else rfl ?_
        refine ht_skip ?_
        refine hx_then ?_
        refine ht_region ?_
        refine ho_ev rfl rfl rfl (ev_loadA rfl Tryd.underlying49 Tryd.ty49 rfl rfl (by first | exact cells_pt (by (with_reducible repeat constructor); done) (Nat.le_of_ble_eq_true rfl) (by simp only [List.extract_toArray, List.extract_eq_take_drop, Nat.zero_add, Nat.sub_zero, Nat.add_sub_cancel_left, List.drop_zero, List.take_succ_cons, List.take_zero, List.drop_succ_cons] <;> rfl) | exact cells_ro (by (with_reducible repeat constructor); done) (Nat.le_of_ble_eq_true rfl) (by simp only [List.extract_toArray, List.extract_eq_take_drop, Nat.zero_add, Nat.sub_zero, Nat.add_sub_cancel_left, List.drop_zero, List.take_succ_cons, List.take_zero, List.drop_succ_cons] <;> rfl))) ?_
        refine ho_eff0 rfl rfl (eff_storeA rfl Tryd.ty49 rfl rfl (by (with_reducible repeat constructor); done) rfl rfl rfl (by simp only [setRange, List.setIfInBounds_toArray, List.set_cons_zero, List.set_cons_succ, Nat.zero_add]; rfl)) (fun _ => ?_)
        refine ho_nil ?_
        refine hx_then ?_
        refine ht_seq ?_
        refine ht_seq ?_
        refine ht_region ?_
        refine ho_ev rfl rfl rfl (ev_move rfl rfl) ?_
        refine ho_ge rfl rfl rfl rfl rfl rfl (fun g19 => ?_) (fun g19 => ?_)
        ·omega
        ·skip
         refine ho_nil ?_
         refine hx_then ?_
         refine ht_else rfl ?_
         refine ht_skip ?_
         refine hx_then ?_
         refine ht_seq ?_
         refine ht_draw (.op 0 (.op 1 (.op 2 (.op 3 (.op 4 (.op 5 .done)))))) [2, 3] Tryd.mixed rfl ?_
         refine hd_ev rfl rfl rfl rfl (EvG.of rfl (ev_loadA rfl Tryd.underlying49 Tryd.ty49 rfl rfl (by first | exact cells_pt (by (with_reducible repeat constructor); done) (Nat.le_of_ble_eq_true rfl) (by simp only [List.extract_toArray, List.extract_eq_take_drop, Nat.zero_add, Nat.sub_zero, Nat.add_sub_cancel_left, List.drop_zero, List.take_succ_cons, List.take_zero, List.drop_succ_cons] <;> rfl) | exact cells_ro (by (with_reducible repeat constructor); done) (Nat.le_of_ble_eq_true rfl) (by simp only [List.extract_toArray, List.extract_eq_take_drop, Nat.zero_add, Nat.sub_zero, Nat.add_sub_cancel_left, List.drop_zero, List.take_succ_cons, List.take_zero, List.drop_succ_cons] <;> rfl)))) ?_
         refine hd_ev rfl rfl rfl rfl (EvG.of rfl (ev_loadA rfl Tryd.underlying53 Tryd.ty53 rfl rfl (by first | exact cells_pt (by (with_reducible repeat constructor); done) (Nat.le_of_ble_eq_true rfl) (by simp only [List.extract_toArray, List.extract_eq_take_drop, Nat.zero_add, Nat.sub_zero, Nat.add_sub_cancel_left, List.drop_zero, List.take_succ_cons, List.take_zero, List.drop_succ_cons] <;> rfl) | exact cells_ro (by (with_reducible repeat constructor); done) (Nat.le_of_ble_eq_true rfl) (by simp only [List.extract_toArray, List.extract_eq_take_drop, Nat.zero_add, Nat.sub_zero, Nat.add_sub_cancel_left, List.drop_zero, List.take_succ_cons, List.take_zero, List.drop_succ_cons] <;> rfl)))) ?_
         refine hd_eff0 rfl rfl rfl rfl (eff_storeA rfl Tryd.ty49 rfl rfl (by (with_reducible repeat constructor); done) rfl rfl rfl (by simp only [setRange, List.setIfInBounds_toArray, List.set_cons_zero, List.set_cons_succ, Nat.zero_add]; rfl)) (fun _ => by (refine FL.ev rfl (EvG.of rfl (ev_loadA rfl Tryd.underlying53 Tryd.ty53 rfl rfl (by first | exact cells_pt (by (with_reducible repeat constructor); done) (Nat.le_of_ble_eq_true rfl) (by simp only [List.extract_toArray, List.extract_eq_take_drop, Nat.zero_add, Nat.sub_zero, Nat.add_sub_cancel_left, List.drop_zero, List.take_succ_cons, List.take_zero, List.drop_succ_cons] <;> rfl) | exact cells_ro (by (with_reducible repeat constructor); done) (Nat.le_of_ble_eq_true rfl) (by simp only [List.extract_toArray, List.extract_eq_take_drop, Nat.zero_add, Nat.sub_zero, Nat.add_sub_cancel_left, List.drop_zero, List.take_succ_cons, List.take_zero, List.drop_succ_cons] <;> rfl)))) ?_); (refine FL.skip rfl ?_); exact FL.nil) (fun _ => ?_)
         refine hd_eff0 rfl rfl rfl rfl (eff_storeA rfl Tryd.ty53 rfl rfl (by (with_reducible repeat constructor); done) rfl rfl rfl (by simp only [setRange, List.setIfInBounds_toArray, List.set_cons_zero, List.set_cons_succ, Nat.zero_add]; rfl)) (fun _ => by (refine FL.skip rfl ?_); (refine FL.skip rfl ?_); exact FL.nil) (fun _ => ?_)
         refine hd_ev rfl rfl rfl rfl (EvG.of rfl (ev_assign rfl rfl)) ?_
         refine hd_ev rfl rfl rfl rfl (EvG.of rfl (ev_assign rfl rfl)) ?_
         refine hd_nil ?_
         refine hx_then ?_
         refine ht_ret ?_
         have hw : (r.free (k + Rf.rother last)).sync.werr (k + Rf.rother last) (Wire.put ((number + 1) % 18446744073709551616) body) = 0 := by omega
         have hR : (Rf.rsteps r k number last body n) = ⟨(r.free (k + Rf.rother last)).sync.write (k + Rf.rother last) (Wire.put ((number + 1) % 18446744073709551616) body), false, 0, number, last⟩ := by unfold Rf.rsteps; rw [if_neg (by omega), if_neg (by omega), if_neg (by omega), if_neg (by omega), if_neg (by rw [hw]; exact fun h => h rfl), if_pos (by omega)]
         rw [hR]
         exact hx_ret4A (.inl rfl) rfl rfl rfl rfl rfl Tryd.underlying49 Tryd.ty49 rfl (cells_pt (by (with_reducible repeat constructor); done) (Nat.le_of_ble_eq_true rfl) rfl) Tryd.underlying53 Tryd.ty53 rfl (cells_pt (by (with_reducible repeat constructor); done) (Nat.le_of_ble_eq_true rfl) rfl) y3 rfl (Ent.roD (by (with_reducible repeat constructor); done) (Ent.cons (by (repeat constructor); done) Ent.nil))
      ·omega
     ·omega
    ·omega
   ·skip
    refine ht_region ?_
    refine ho_ev rfl rfl rfl (ev_move rfl rfl) ?_
    refine ho_ge rfl rfl rfl rfl rfl rfl (fun g20 => ?_) (fun g20 => ?_)
    ·skip
     refine ho_nil ?_
     refine hx_then ?_
     refine ht_then rfl ?_
     refine ht_region ?_
     refine ho_ev rfl rfl rfl (ev_loadA rfl Tryd.underlying49 Tryd.ty49 rfl rfl (by first | exact cells_pt (by (with_reducible repeat constructor); done) (Nat.le_of_ble_eq_true rfl) (by simp only [List.extract_toArray, List.extract_eq_take_drop, Nat.zero_add, Nat.sub_zero, Nat.add_sub_cancel_left, List.drop_zero, List.take_succ_cons, List.take_zero, List.drop_succ_cons] <;> rfl) | exact cells_ro (by (with_reducible repeat constructor); done) (Nat.le_of_ble_eq_true rfl) (by simp only [List.extract_toArray, List.extract_eq_take_drop, Nat.zero_add, Nat.sub_zero, Nat.add_sub_cancel_left, List.drop_zero, List.take_succ_cons, List.take_zero, List.drop_succ_cons] <;> rfl))) ?_
     refine ho_ev rfl rfl rfl (by first | exact ev_fieldAddr0 rfl Tryd.fld53_0 rfl | exact ev_fieldAddr rfl Tryd.fld53_0 rfl) ?_
     refine ho_ev rfl rfl rfl (ev_load rfl Tryd.underlying3 rfl rfl (by first | exact cell_pt (by (with_reducible repeat constructor); done) rfl | exact cell_ro (by (with_reducible repeat constructor); done) rfl)) ?_
     refine ho_ev rfl rfl rfl (ev_move rfl rfl) ?_
     refine ho_ev rfl rfl rfl (ev_add (r := (k + Rf.rother last)) rfl rfl rfl (by first | (rw [hro, if_pos (by omega)]; exact in_i64 (by omega)) | (rw [hro, if_neg (by omega)]; exact in_i64 (by omega)))) ?_
     refine ho_eff rfl rfl rfl (eff_call rfl rfl (.cons rfl (.cons rfl .nil)) rfl (rf_Free r x (k + Rf.rother last) (by omega) (by omega) hold) (by repeat (first | exact Picks.nil | (apply Picks.ro; focus ((repeat constructor); done)) | (apply Picks.cons; focus ((repeat constructor); done)))) (fun _ => by repeat (first | exact App.nil | apply App.cons))) (fun y1 => ?_)
     refine ho_ev rfl rfl rfl (ev_move rfl rfl) ?_
     refine ho_ev rfl rfl rfl (ev_extract rfl rfl rfl) ?_
     refine ho_ev rfl rfl rfl (ev_extract rfl rfl rfl) ?_
     refine ho_eff0 rfl rfl (eff_storeA rfl Tryd.ty49 rfl rfl (by (with_reducible repeat constructor); done) rfl rfl rfl (by simp only [setRange, List.setIfInBounds_toArray, List.set_cons_zero, List.set_cons_succ, Nat.zero_add]; rfl)) (fun _ => ?_)
     refine ho_nil ?_
     refine hx_then ?_
     refine ht_seq ?_
     refine ht_seq ?_
     refine ht_region ?_
     refine ho_ev rfl rfl rfl (ev_move rfl rfl) ?_
     refine ho_ge rfl rfl rfl rfl rfl rfl (fun g21 => ?_) (fun g21 => ?_)
     ·skip
      refine ho_nil ?_
      refine hx_then ?_
      refine ht_then rfl ?_
      refine ht_region ?_
      refine ho_ev rfl rfl rfl (ev_loadA rfl Tryd.underlying49 Tryd.ty49 rfl rfl (by first | exact cells_pt (by (with_reducible repeat constructor); done) (Nat.le_of_ble_eq_true rfl) (by simp only [List.extract_toArray, List.extract_eq_take_drop, Nat.zero_add, Nat.sub_zero, Nat.add_sub_cancel_left, List.drop_zero, List.take_succ_cons, List.take_zero, List.drop_succ_cons] <;> rfl) | exact cells_ro (by (with_reducible repeat constructor); done) (Nat.le_of_ble_eq_true rfl) (by simp only [List.extract_toArray, List.extract_eq_take_drop, Nat.zero_add, Nat.sub_zero, Nat.add_sub_cancel_left, List.drop_zero, List.take_succ_cons, List.take_zero, List.drop_succ_cons] <;> rfl))) ?_
      refine ho_eff rfl rfl rfl (eff_call rfl rfl (.cons rfl .nil) rfl (rf_Sync (r.free (k + Rf.rother last)) y1) (by repeat (first | exact Picks.nil | (apply Picks.ro; focus ((repeat constructor); done)) | (apply Picks.cons; focus ((repeat constructor); done)))) (fun _ => by repeat (first | exact App.nil | apply App.cons))) (fun _ => ?_)
      refine ho_eff0 rfl rfl (eff_storeA rfl Tryd.ty49 rfl rfl (by (with_reducible repeat constructor); done) rfl rfl rfl (by simp only [setRange, List.setIfInBounds_toArray, List.set_cons_zero, List.set_cons_succ, Nat.zero_add]; rfl)) (fun _ => ?_)
      refine ho_nil ?_
      refine hx_then ?_
      refine ht_seq ?_
      refine ht_seq ?_
      refine ht_region ?_
      refine ho_ev rfl rfl rfl (ev_move rfl rfl) ?_
      refine ho_ge rfl rfl rfl rfl rfl rfl (fun g22 => ?_) (fun g22 => ?_)
      ·skip
       refine ho_nil ?_
       refine hx_then ?_
       refine ht_then rfl ?_
       refine ht_seq ?_
       refine ht_region ?_
       refine ho_ev rfl rfl rfl (by first | exact ev_fieldAddr0 rfl Tryd.fld53_2 rfl | exact ev_fieldAddr rfl Tryd.fld53_2 rfl) ?_
       refine ho_ev rfl rfl rfl (ev_load rfl Tryd.underlying41 rfl rfl (by first | exact cell_pt (by (with_reducible repeat constructor); done) rfl | exact cell_ro (by (with_reducible repeat constructor); done) rfl)) ?_
       refine ho_ev rfl rfl rfl (ev_add (r := ((((number + 1) % 18446744073709551616) : Nat) : Int)) rfl rfl rfl (by exact next_u64 number)) ?_
       refine ho_ev rfl rfl rfl (ev_move rfl rfl) ?_
       refine ho_ev rfl rfl rfl (ev_build1 (csl := [_, _]) rfl Tryd.st71 (.cons rfl (.cons rfl .nil)) (.cons rfl (.cons rfl .nil)) rfl rfl) ?_
       refine ho_eff rfl rfl rfl (eff_call rfl rfl (.cons rfl .nil) rfl (ref_RPut ((number + 1) % 18446744073709551616) body (Nat.mod_lt _ (by decide)) (by omega)) (by repeat (first | exact Picks.nil | (apply Picks.ro; focus ((with_reducible repeat constructor); done)) | (apply Picks.cons; focus ((with_reducible repeat constructor); done)))) (fun _ => by repeat (first | exact App.nil | apply App.cons))) (fun _ => ?_)
       refine ho_ev rfl rfl rfl (ev_move rfl rfl) ?_
       refine ho_ev rfl rfl rfl (ev_extract rfl rfl rfl) ?_
       refine ho_ev rfl rfl rfl (ev_extract rfl rfl rfl) ?_
       refine ho_ev rfl rfl rfl (ev_assign rfl rfl) ?_
       refine ho_ev rfl rfl rfl (ev_assign rfl rfl) ?_
       refine ho_nil ?_
       refine hx_then ?_
       refine ht_seq ?_
       refine ht_region ?_
       refine ho_ev rfl rfl rfl (ev_loadA rfl Tryd.underlying49 Tryd.ty49 rfl rfl (by first | exact cells_pt (by (with_reducible repeat constructor); done) (Nat.le_of_ble_eq_true rfl) (by simp only [List.extract_toArray, List.extract_eq_take_drop, Nat.zero_add, Nat.sub_zero, Nat.add_sub_cancel_left, List.drop_zero, List.take_succ_cons, List.take_zero, List.drop_succ_cons] <;> rfl) | exact cells_ro (by (with_reducible repeat constructor); done) (Nat.le_of_ble_eq_true rfl) (by simp only [List.extract_toArray, List.extract_eq_take_drop, Nat.zero_add, Nat.sub_zero, Nat.add_sub_cancel_left, List.drop_zero, List.take_succ_cons, List.take_zero, List.drop_succ_cons] <;> rfl))) ?_
       refine ho_ev rfl rfl rfl (by first | exact ev_fieldAddr0 rfl Tryd.fld53_0 rfl | exact ev_fieldAddr rfl Tryd.fld53_0 rfl) ?_
       refine ho_ev rfl rfl rfl (ev_load rfl Tryd.underlying3 rfl rfl (by first | exact cell_pt (by (with_reducible repeat constructor); done) rfl | exact cell_ro (by (with_reducible repeat constructor); done) rfl)) ?_
       refine ho_ev rfl rfl rfl (ev_move rfl rfl) ?_
       refine ho_ev rfl rfl rfl (ev_add (r := (k + Rf.rother last)) rfl rfl rfl (by first | (rw [hro, if_pos (by omega)]; exact in_i64 (by omega)) | (rw [hro, if_neg (by omega)]; exact in_i64 (by omega)))) ?_
       refine ho_ev rfl rfl rfl (ev_move rfl rfl) ?_
       refine ho_eff rfl rfl rfl (eff_call rfl rfl (.cons rfl (.cons rfl (.cons rfl .nil))) rfl (rf_Write (r.free (k + Rf.rother last)).sync ⟨y1.va, y1.vc, y1.va, y1.vc, none, 0⟩ (k + Rf.rother last) (Wire.put ((number + 1) % 18446744073709551616) body) (by show (r.free (k + Rf.rother last)).view.length ≤ _; omega) (by show 0 ≤ _; omega) hold2) (by repeat (first | exact Picks.nil | (apply Picks.ro; focus ((repeat constructor); done)) | (apply Picks.cons; focus ((repeat constructor); done)))) (fun _ => by repeat (first | exact App.nil | apply App.cons))) (fun y3 => ?_)
       refine ho_ev rfl rfl rfl (ev_move rfl rfl) ?_
       refine ho_ev rfl rfl rfl (ev_extract rfl rfl rfl) ?_
       refine ho_ev rfl rfl rfl (ev_extract rfl rfl rfl) ?_
       refine ho_eff rfl rfl rfl (eff_alloc rfl Tryd.ty49 (by first | exact cells_agg _ | exact rfl)) (fun b15 => ?_)
       refine ho_eff0 rfl rfl (eff_storeA rfl Tryd.ty49 rfl rfl (by (with_reducible repeat constructor); done) rfl rfl rfl (by simp only [setRange, List.setIfInBounds_toArray, List.set_cons_zero, List.set_cons_succ, Nat.zero_add]; rfl)) (fun _ => ?_)
       refine ho_ev rfl rfl rfl (ev_assign rfl rfl) ?_
       refine ho_nil ?_
       refine hx_then ?_
       refine ht_seq ?_
       refine ht_seq ?_
       refine ht_region ?_
       refine ho_ev rfl rfl rfl (ev_move rfl rfl) ?_
       refine ho_ne rfl rfl rfl rfl rfl rfl (fun g23 => ?_) (fun g23 => ?_)
       ·skip
        refine ho_nil ?_
        refine hx_then ?_
        refine ht_then rfl ?_
        refine ht_seq ?_
        refine ht_draw (.op 0 (.op 1 (.op 2 (.op 3 (.op 4 (.op 5 (.op 6 .done))))))) [3, 4] Tryd.mixed rfl ?_
        refine hd_ev rfl rfl rfl rfl (EvG.of rfl (ev_loadA rfl Tryd.underlying49 Tryd.ty49 rfl rfl (by first | exact cells_pt (by (with_reducible repeat constructor); done) (Nat.le_of_ble_eq_true rfl) (by simp only [List.extract_toArray, List.extract_eq_take_drop, Nat.zero_add, Nat.sub_zero, Nat.add_sub_cancel_left, List.drop_zero, List.take_succ_cons, List.take_zero, List.drop_succ_cons] <;> rfl) | exact cells_ro (by (with_reducible repeat constructor); done) (Nat.le_of_ble_eq_true rfl) (by simp only [List.extract_toArray, List.extract_eq_take_drop, Nat.zero_add, Nat.sub_zero, Nat.add_sub_cancel_left, List.drop_zero, List.take_succ_cons, List.take_zero, List.drop_succ_cons] <;> rfl)))) ?_
        refine hd_ev rfl rfl rfl rfl (EvG.of rfl (ev_loadA rfl Tryd.underlying53 Tryd.ty53 rfl rfl (by first | exact cells_pt (by (with_reducible repeat constructor); done) (Nat.le_of_ble_eq_true rfl) (by simp only [List.extract_toArray, List.extract_eq_take_drop, Nat.zero_add, Nat.sub_zero, Nat.add_sub_cancel_left, List.drop_zero, List.take_succ_cons, List.take_zero, List.drop_succ_cons] <;> rfl) | exact cells_ro (by (with_reducible repeat constructor); done) (Nat.le_of_ble_eq_true rfl) (by simp only [List.extract_toArray, List.extract_eq_take_drop, Nat.zero_add, Nat.sub_zero, Nat.add_sub_cancel_left, List.drop_zero, List.take_succ_cons, List.take_zero, List.drop_succ_cons] <;> rfl)))) ?_
        refine hd_ev rfl rfl rfl rfl (EvG.of rfl (ev_move rfl rfl)) ?_
        refine hd_eff0 rfl rfl rfl rfl (eff_storeA rfl Tryd.ty49 rfl rfl (by (with_reducible repeat constructor); done) rfl rfl rfl (by simp only [setRange, List.setIfInBounds_toArray, List.set_cons_zero, List.set_cons_succ, Nat.zero_add]; rfl)) (fun _ => by (refine FL.ev rfl (EvG.of rfl (ev_move rfl rfl)) ?_); (refine FL.ev rfl (EvG.of rfl (ev_loadA rfl Tryd.underlying53 Tryd.ty53 rfl rfl (by first | exact cells_pt (by (with_reducible repeat constructor); done) (Nat.le_of_ble_eq_true rfl) (by simp only [List.extract_toArray, List.extract_eq_take_drop, Nat.zero_add, Nat.sub_zero, Nat.add_sub_cancel_left, List.drop_zero, List.take_succ_cons, List.take_zero, List.drop_succ_cons] <;> rfl) | exact cells_ro (by (with_reducible repeat constructor); done) (Nat.le_of_ble_eq_true rfl) (by simp only [List.extract_toArray, List.extract_eq_take_drop, Nat.zero_add, Nat.sub_zero, Nat.add_sub_cancel_left, List.drop_zero, List.take_succ_cons, List.take_zero, List.drop_succ_cons] <;> rfl)))) ?_); (refine FL.skip rfl ?_); exact FL.nil) (fun _ => ?_)
        refine hd_eff0 rfl rfl rfl rfl (eff_storeA rfl Tryd.ty53 rfl rfl (by (with_reducible repeat constructor); done) rfl rfl rfl (by simp only [setRange, List.setIfInBounds_toArray, List.set_cons_zero, List.set_cons_succ, Nat.zero_add]; rfl)) (fun _ => by (refine FL.ev rfl (EvG.of rfl (ev_move rfl rfl)) ?_); (refine FL.skip rfl ?_); (refine FL.skip rfl ?_); exact FL.nil) (fun _ => ?_)
        refine hd_ev rfl rfl rfl rfl (EvG.of rfl (ev_assign rfl rfl)) ?_
        refine hd_ev rfl rfl rfl rfl (EvG.of rfl (ev_assign rfl rfl)) ?_
        refine hd_nil ?_
        refine hx_then ?_
        refine ht_ret ?_
        refine hx_through trivial ?_
        refine hx_through trivial ?_
        have hw : (r.free (k + Rf.rother last)).sync.werr (k + Rf.rother last) (Wire.put ((number + 1) % 18446744073709551616) body) ≠ 0 := by omega
        have hww : (r.free (k + Rf.rother last)).sync.write (k + Rf.rother last) (Wire.put ((number + 1) % 18446744073709551616) body) = (r.free (k + Rf.rother last)).sync := by unfold Rf.RDisk.write; rw [if_neg hw]
        have hR : (Rf.rsteps r k number last body n) = ⟨(r.free (k + Rf.rother last)).sync, false, (r.free (k + Rf.rother last)).sync.werr (k + Rf.rother last) (Wire.put ((number + 1) % 18446744073709551616) body), number, last⟩ := by unfold Rf.rsteps; rw [if_neg (by omega), if_neg (by omega), if_neg (by omega), if_neg (by omega), if_pos hw]
        rw [hR]
        rw [hww]
        exact hx_ret4A (.inl rfl) rfl rfl rfl rfl rfl Tryd.underlying49 Tryd.ty49 rfl (cells_pt (by (with_reducible repeat constructor); done) (Nat.le_of_ble_eq_true rfl) rfl) Tryd.underlying53 Tryd.ty53 rfl (cells_pt (by (with_reducible repeat constructor); done) (Nat.le_of_ble_eq_true rfl) rfl) y3 rfl (Ent.roD (by (with_reducible repeat constructor); done) (Ent.cons (by (repeat constructor); done) Ent.nil))
       ·skip
        refine ho_nil ?_
        refine hx_then ?_
        refine ht_else rfl ?_
        refine ht_skip ?_
        refine hx_then ?_
        refine ht_region ?_
        refine ho_ev rfl rfl rfl (ev_loadA rfl Tryd.underlying49 Tryd.ty49 rfl rfl (by first | exact cells_pt (by (with_reducible repeat constructor); done) (Nat.le_of_ble_eq_true rfl) (by simp only [List.extract_toArray, List.extract_eq_take_drop, Nat.zero_add, Nat.sub_zero, Nat.add_sub_cancel_left, List.drop_zero, List.take_succ_cons, List.take_zero, List.drop_succ_cons] <;> rfl) | exact cells_ro (by (with_reducible repeat constructor); done) (Nat.le_of_ble_eq_true rfl) (by simp only [List.extract_toArray, List.extract_eq_take_drop, Nat.zero_add, Nat.sub_zero, Nat.add_sub_cancel_left, List.drop_zero, List.take_succ_cons, List.take_zero, List.drop_succ_cons] <;> rfl))) ?_
        refine ho_eff0 rfl rfl (eff_storeA rfl Tryd.ty49 rfl rfl (by (with_reducible repeat constructor); done) rfl rfl rfl (by simp only [setRange, List.setIfInBounds_toArray, List.set_cons_zero, List.set_cons_succ, Nat.zero_add]; rfl)) (fun _ => ?_)
        refine ho_nil ?_
        refine hx_then ?_
        refine ht_seq ?_
        refine ht_seq ?_
        refine ht_region ?_
        refine ho_ev rfl rfl rfl (ev_move rfl rfl) ?_
        refine ho_ge rfl rfl rfl rfl rfl rfl (fun g24 => ?_) (fun g24 => ?_)
        ·skip
         refine ho_nil ?_
         refine hx_then ?_
         refine ht_then rfl ?_
         refine ht_seq ?_
         refine ht_draw (.op 0 (.op 2 (.op 3 (.op 4 (.op 5 (.op 6 (.op 7 (.op 8 (.op 1 (.op 9 (.op 10 (.op 11 (.op 12 .done))))))))))))) [1, 9, 10] Tryd.mixed rfl ?_
         refine hd_ev rfl rfl rfl rfl (EvG.of rfl (ev_loadA rfl Tryd.underlying49 Tryd.ty49 rfl rfl (by first | exact cells_pt (by (with_reducible repeat constructor); done) (Nat.le_of_ble_eq_true rfl) (by simp only [List.extract_toArray, List.extract_eq_take_drop, Nat.zero_add, Nat.sub_zero, Nat.add_sub_cancel_left, List.drop_zero, List.take_succ_cons, List.take_zero, List.drop_succ_cons] <;> rfl) | exact cells_ro (by (with_reducible repeat constructor); done) (Nat.le_of_ble_eq_true rfl) (by simp only [List.extract_toArray, List.extract_eq_take_drop, Nat.zero_add, Nat.sub_zero, Nat.add_sub_cancel_left, List.drop_zero, List.take_succ_cons, List.take_zero, List.drop_succ_cons] <;> rfl)))) ?_
         refine hd_ev rfl rfl rfl rfl (EvG.of rfl (by first | exact ev_fieldAddr0 rfl Tryd.fld53_0 rfl | exact ev_fieldAddr rfl Tryd.fld53_0 rfl)) ?_
         refine hd_ev rfl rfl rfl rfl (EvG.of rfl (ev_load rfl Tryd.underlying3 rfl rfl (by first | exact cell_pt (by (with_reducible repeat constructor); done) rfl | exact cell_ro (by (with_reducible repeat constructor); done) rfl))) ?_
         refine hd_ev rfl rfl rfl rfl (EvG.of rfl (ev_move rfl rfl)) ?_
         refine hd_ev rfl rfl rfl rfl (EvG.of rfl (by first | exact ev_fieldAddr0 rfl Tryd.fld53_2 rfl | exact ev_fieldAddr rfl Tryd.fld53_2 rfl)) ?_
         refine hd_ev rfl rfl rfl rfl (EvG.of rfl (ev_load rfl Tryd.underlying41 rfl rfl (by first | exact cell_pt (by (with_reducible repeat constructor); done) rfl | exact cell_ro (by (with_reducible repeat constructor); done) rfl))) ?_
         refine hd_ev rfl rfl rfl rfl (EvG.of rfl (ev_add (r := ((((number + 1) % 18446744073709551616) : Nat) : Int)) rfl rfl rfl (by exact next_u64 number))) ?_
         refine hd_ev rfl rfl rfl rfl (EvG.of rfl (ev_build1 (csl := [_, _, _]) rfl Tryd.st53 (.cons rfl (.cons rfl (.cons rfl .nil))) (.cons rfl (.cons rfl (.cons rfl .nil))) rfl rfl)) ?_
         refine hd_eff rfl rfl rfl rfl rfl (eff_call rfl rfl (.cons rfl .nil) rfl (rf_Sync ((r.free (k + Rf.rother last)).sync.write (k + Rf.rother last) (Wire.put ((number + 1) % 18446744073709551616) body)) y3) (by repeat (first | exact Picks.nil | (apply Picks.ro; focus ((repeat constructor); done)) | (apply Picks.cons; focus ((repeat constructor); done)))) (fun _ => by repeat (first | exact App.nil | apply App.cons))) (fun _ => by (refine FL.ev rfl (EvG.of rfl (ev_build1 (csl := [_, _, _]) rfl Tryd.st53 (.cons rfl (.cons rfl (.cons rfl .nil))) (.cons rfl (.cons rfl (.cons rfl .nil))) rfl rfl)) ?_); (refine FL.ev rfl (EvG.of rfl (ev_add (r := ((((number + 1) % 18446744073709551616) : Nat) : Int)) rfl rfl rfl (by exact next_u64 number))) ?_); (refine FL.ev rfl (EvG.of rfl (ev_load rfl Tryd.underlying41 rfl rfl (by first | exact cell_pt (by (with_reducible repeat constructor); done) rfl | exact cell_ro (by (with_reducible repeat constructor); done) rfl))) ?_); (refine FL.ev rfl (EvG.of rfl (by first | exact ev_fieldAddr0 rfl Tryd.fld53_2 rfl | exact ev_fieldAddr rfl Tryd.fld53_2 rfl)) ?_); (refine FL.ev rfl (EvG.of rfl (ev_move rfl rfl)) ?_); (refine FL.ev rfl (EvG.of rfl (ev_load rfl Tryd.underlying3 rfl rfl (by first | exact cell_pt (by (with_reducible repeat constructor); done) rfl | exact cell_ro (by (with_reducible repeat constructor); done) rfl))) ?_); (refine FL.ev rfl (EvG.of rfl (by first | exact ev_fieldAddr0 rfl Tryd.fld53_0 rfl | exact ev_fieldAddr rfl Tryd.fld53_0 rfl)) ?_); (refine FL.skip rfl ?_); exact FL.nil) (fun _ => ?_)
         refine hd_eff0 rfl rfl rfl rfl (eff_storeA rfl Tryd.ty49 rfl rfl (by (with_reducible repeat constructor); done) rfl rfl rfl (by simp only [setRange, List.setIfInBounds_toArray, List.set_cons_zero, List.set_cons_succ, Nat.zero_add]; rfl)) (fun _ => by (refine FL.ev rfl (EvG.of rfl (ev_build1 (csl := [_, _, _]) rfl Tryd.st53 (.cons rfl (.cons rfl (.cons rfl .nil))) (.cons rfl (.cons rfl (.cons rfl .nil))) rfl rfl)) ?_); (refine FL.ev rfl (EvG.of rfl (ev_add (r := ((((number + 1) % 18446744073709551616) : Nat) : Int)) rfl rfl rfl (by exact next_u64 number))) ?_); (refine FL.ev rfl (EvG.of rfl (ev_load rfl Tryd.underlying41 rfl rfl (by first | exact cell_pt (by (with_reducible repeat constructor); done) rfl | exact cell_ro (by (with_reducible repeat constructor); done) rfl))) ?_); (refine FL.ev rfl (EvG.of rfl (by first | exact ev_fieldAddr0 rfl Tryd.fld53_2 rfl | exact ev_fieldAddr rfl Tryd.fld53_2 rfl)) ?_); (refine FL.ev rfl (EvG.of rfl (ev_move rfl rfl)) ?_); (refine FL.ev rfl (EvG.of rfl (ev_load rfl Tryd.underlying3 rfl rfl (by first | exact cell_pt (by (with_reducible repeat constructor); done) rfl | exact cell_ro (by (with_reducible repeat constructor); done) rfl))) ?_); (refine FL.ev rfl (EvG.of rfl (by first | exact ev_fieldAddr0 rfl Tryd.fld53_0 rfl | exact ev_fieldAddr rfl Tryd.fld53_0 rfl)) ?_); (refine FL.skip rfl ?_); exact FL.nil) (fun _ => ?_)
         refine hd_eff0 rfl rfl rfl rfl (eff_storeA rfl Tryd.ty53 rfl rfl (by (with_reducible repeat constructor); done) rfl rfl rfl (by simp only [setRange, List.setIfInBounds_toArray, List.set_cons_zero, List.set_cons_succ, Nat.zero_add]; rfl)) (fun _ => by (refine FL.skip rfl ?_); (refine FL.skip rfl ?_); (refine FL.skip rfl ?_); (refine FL.skip rfl ?_); (refine FL.skip rfl ?_); (refine FL.skip rfl ?_); (refine FL.skip rfl ?_); (refine FL.skip rfl ?_); exact FL.nil) (fun _ => ?_)
         refine hd_ev rfl rfl rfl rfl (EvG.of rfl (ev_assign rfl rfl)) ?_
         refine hd_ev rfl rfl rfl rfl (EvG.of rfl (ev_assign rfl rfl)) ?_
         refine hd_nil ?_
         refine hx_then ?_
         refine ht_ret ?_
         refine hx_through trivial ?_
         have hw : (r.free (k + Rf.rother last)).sync.werr (k + Rf.rother last) (Wire.put ((number + 1) % 18446744073709551616) body) = 0 := by omega
         have hR : (Rf.rsteps r k number last body n) = ⟨((r.free (k + Rf.rother last)).sync.write (k + Rf.rother last) (Wire.put ((number + 1) % 18446744073709551616) body)).sync, true, 0, ((number + 1) % 18446744073709551616), Rf.rother last⟩ := by unfold Rf.rsteps; rw [if_neg (by omega), if_neg (by omega), if_neg (by omega), if_neg (by omega), if_neg (by rw [hw]; exact fun h => h rfl), if_neg (by omega)]
         rw [hR]
         exact hx_ret4A (.inl rfl) rfl rfl rfl rfl rfl Tryd.underlying49 Tryd.ty49 rfl (cells_pt (by (with_reducible repeat constructor); done) (Nat.le_of_ble_eq_true rfl) rfl) Tryd.underlying53 Tryd.ty53 rfl (cells_pt (by (with_reducible repeat constructor); done) (Nat.le_of_ble_eq_true rfl) rfl) ⟨y3.va, y3.vc, y3.va, y3.vc, none, 0⟩ (by rw [show Rf.rother last = 1 from hro.trans (if_pos (by omega))]; rfl) (Ent.roD (by (with_reducible repeat constructor); done) (Ent.cons (by (repeat constructor); done) Ent.nil))
        ·omega
      ·omega
     ·omega
    ·omega
  ·skip
   refine ho_nil ?_
   refine hx_then ?_
   refine ht_else rfl ?_
   refine ht_skip ?_
   refine hx_then ?_
   refine ht_seq ?_
   refine ht_seq ?_
   rcases (show n < 1 ∨ n = 1 ∨ n = 2 ∨ n = 3 ∨ 4 ≤ n by omega) with hn | hn | hn | hn | hn
   ·skip
    refine ht_region ?_
    refine ho_ev rfl rfl rfl (ev_move rfl rfl) ?_
    refine ho_ge rfl rfl rfl rfl rfl rfl (fun g25 => ?_) (fun g25 => ?_)
    ·omega
    ·skip
     refine ho_nil ?_
     refine hx_then ?_
     refine ht_else rfl ?_
     refine ht_skip ?_
     refine hx_then ?_
     refine ht_seq ?_
     refine ht_seq ?_
     refine ht_region ?_
     refine ho_ev rfl rfl rfl (ev_move rfl rfl) ?_
     refine ho_ge rfl rfl rfl rfl rfl rfl (fun g26 => ?_) (fun g26 => ?_)
     ·omega
     ·skip
      refine ho_nil ?_
      refine hx_then ?_
      refine ht_else rfl ?_
      refine ht_skip ?_
      refine hx_then ?_
      refine ht_seq ?_
      refine ht_seq ?_
      refine ht_region ?_
      refine ho_ev rfl rfl rfl (ev_move rfl rfl) ?_
      refine ho_ge rfl rfl rfl rfl rfl rfl (fun g27 => ?_) (fun g27 => ?_)
      ·omega
      ·skip
       refine ho_nil ?_
       refine hx_then ?_
       refine ht_else rfl ?_
       refine ht_skip ?_
       refine hx_then ?_
       refine ht_seq ?_
       refine ht_seq ?_
       refine ht_region ?_
       refine ho_ev rfl rfl rfl (ev_move rfl rfl) ?_
       refine ho_ge rfl rfl rfl rfl rfl rfl (fun g28 => ?_) (fun g28 => ?_)
       ·omega
       ·skip
        refine ho_nil ?_
        refine hx_then ?_
        refine ht_else rfl ?_
        refine ht_skip ?_
        refine hx_then ?_
        refine ht_seq ?_
        refine ht_draw (.op 0 (.op 1 (.op 2 (.op 3 (.op 4 (.op 5 .done)))))) [2, 3] Tryd.mixed rfl ?_
        refine hd_ev rfl rfl rfl rfl (EvG.of rfl (ev_loadA rfl Tryd.underlying49 Tryd.ty49 rfl rfl (by first | exact cells_pt (by (with_reducible repeat constructor); done) (Nat.le_of_ble_eq_true rfl) (by simp only [List.extract_toArray, List.extract_eq_take_drop, Nat.zero_add, Nat.sub_zero, Nat.add_sub_cancel_left, List.drop_zero, List.take_succ_cons, List.take_zero, List.drop_succ_cons] <;> rfl) | exact cells_ro (by (with_reducible repeat constructor); done) (Nat.le_of_ble_eq_true rfl) (by simp only [List.extract_toArray, List.extract_eq_take_drop, Nat.zero_add, Nat.sub_zero, Nat.add_sub_cancel_left, List.drop_zero, List.take_succ_cons, List.take_zero, List.drop_succ_cons] <;> rfl)))) ?_
        refine hd_ev rfl rfl rfl rfl (EvG.of rfl (ev_loadA rfl Tryd.underlying53 Tryd.ty53 rfl rfl (by first | exact cells_pt (by (with_reducible repeat constructor); done) (Nat.le_of_ble_eq_true rfl) (by simp only [List.extract_toArray, List.extract_eq_take_drop, Nat.zero_add, Nat.sub_zero, Nat.add_sub_cancel_left, List.drop_zero, List.take_succ_cons, List.take_zero, List.drop_succ_cons] <;> rfl) | exact cells_ro (by (with_reducible repeat constructor); done) (Nat.le_of_ble_eq_true rfl) (by simp only [List.extract_toArray, List.extract_eq_take_drop, Nat.zero_add, Nat.sub_zero, Nat.add_sub_cancel_left, List.drop_zero, List.take_succ_cons, List.take_zero, List.drop_succ_cons] <;> rfl)))) ?_
        refine hd_eff0 rfl rfl rfl rfl (eff_storeA rfl Tryd.ty49 rfl rfl (by (with_reducible repeat constructor); done) rfl rfl rfl (by simp only [setRange, List.setIfInBounds_toArray, List.set_cons_zero, List.set_cons_succ, Nat.zero_add]; rfl)) (fun _ => by (refine FL.ev rfl (EvG.of rfl (ev_loadA rfl Tryd.underlying53 Tryd.ty53 rfl rfl (by first | exact cells_pt (by (with_reducible repeat constructor); done) (Nat.le_of_ble_eq_true rfl) (by simp only [List.extract_toArray, List.extract_eq_take_drop, Nat.zero_add, Nat.sub_zero, Nat.add_sub_cancel_left, List.drop_zero, List.take_succ_cons, List.take_zero, List.drop_succ_cons] <;> rfl) | exact cells_ro (by (with_reducible repeat constructor); done) (Nat.le_of_ble_eq_true rfl) (by simp only [List.extract_toArray, List.extract_eq_take_drop, Nat.zero_add, Nat.sub_zero, Nat.add_sub_cancel_left, List.drop_zero, List.take_succ_cons, List.take_zero, List.drop_succ_cons] <;> rfl)))) ?_); (refine FL.skip rfl ?_); exact FL.nil) (fun _ => ?_)
        refine hd_eff0 rfl rfl rfl rfl (eff_storeA rfl Tryd.ty53 rfl rfl (by (with_reducible repeat constructor); done) rfl rfl rfl (by simp only [setRange, List.setIfInBounds_toArray, List.set_cons_zero, List.set_cons_succ, Nat.zero_add]; rfl)) (fun _ => by (refine FL.skip rfl ?_); (refine FL.skip rfl ?_); exact FL.nil) (fun _ => ?_)
        refine hd_ev rfl rfl rfl rfl (EvG.of rfl (ev_assign rfl rfl)) ?_
        refine hd_ev rfl rfl rfl rfl (EvG.of rfl (ev_assign rfl rfl)) ?_
        refine hd_nil ?_
        refine hx_then ?_
        refine ht_ret ?_
        have hR : (Rf.rsteps r k number last body n) = ⟨r, false, 0, number, last⟩ := by unfold Rf.rsteps; rw [if_neg (by omega), if_pos (by omega)]
        rw [hR]
        exact hx_ret4A (.inl rfl) rfl rfl rfl rfl rfl Tryd.underlying49 Tryd.ty49 rfl (cells_pt (by (with_reducible repeat constructor); done) (Nat.le_of_ble_eq_true rfl) rfl) Tryd.underlying53 Tryd.ty53 rfl (cells_pt (by (with_reducible repeat constructor); done) (Nat.le_of_ble_eq_true rfl) rfl) x rfl (Ent.roD (by (with_reducible repeat constructor); done) (Ent.cons (by (repeat constructor); done) Ent.nil))
   ·skip
    refine ht_region ?_
    refine ho_ev rfl rfl rfl (ev_move rfl rfl) ?_
    refine ho_ge rfl rfl rfl rfl rfl rfl (fun g29 => ?_) (fun g29 => ?_)
    ·skip
     refine ho_nil ?_
     refine hx_then ?_
     refine ht_then rfl ?_
     refine ht_region ?_
     refine ho_ev rfl rfl rfl (ev_loadA rfl Tryd.underlying49 Tryd.ty49 rfl rfl (by first | exact cells_pt (by (with_reducible repeat constructor); done) (Nat.le_of_ble_eq_true rfl) (by simp only [List.extract_toArray, List.extract_eq_take_drop, Nat.zero_add, Nat.sub_zero, Nat.add_sub_cancel_left, List.drop_zero, List.take_succ_cons, List.take_zero, List.drop_succ_cons] <;> rfl) | exact cells_ro (by (with_reducible repeat constructor); done) (Nat.le_of_ble_eq_true rfl) (by simp only [List.extract_toArray, List.extract_eq_take_drop, Nat.zero_add, Nat.sub_zero, Nat.add_sub_cancel_left, List.drop_zero, List.take_succ_cons, List.take_zero, List.drop_succ_cons] <;> rfl))) ?_
     refine ho_ev rfl rfl rfl (by first | exact ev_fieldAddr0 rfl Tryd.fld53_0 rfl | exact ev_fieldAddr rfl Tryd.fld53_0 rfl) ?_
     refine ho_ev rfl rfl rfl (ev_load rfl Tryd.underlying3 rfl rfl (by first | exact cell_pt (by (with_reducible repeat constructor); done) rfl | exact cell_ro (by (with_reducible repeat constructor); done) rfl)) ?_
     refine ho_ev rfl rfl rfl (ev_move rfl rfl) ?_
     refine ho_ev rfl rfl rfl (ev_add (r := (k + Rf.rother last)) rfl rfl rfl (by first | (rw [hro, if_pos (by omega)]; exact in_i64 (by omega)) | (rw [hro, if_neg (by omega)]; exact in_i64 (by omega)))) ?_
     refine ho_eff rfl rfl rfl (eff_call rfl rfl (.cons rfl (.cons rfl .nil)) rfl (rf_Free r x (k + Rf.rother last) (by omega) (by omega) hold) (by repeat (first | exact Picks.nil | (apply Picks.ro; focus ((repeat constructor); done)) | (apply Picks.cons; focus ((repeat constructor); done)))) (fun _ => by repeat (first | exact App.nil | apply App.cons))) (fun y1 => ?_)
     refine ho_ev rfl rfl rfl (ev_move rfl rfl) ?_
     refine ho_ev rfl rfl rfl (ev_extract rfl rfl rfl) ?_
     refine ho_ev rfl rfl rfl (ev_extract rfl rfl rfl) ?_
     refine ho_eff0 rfl rfl (eff_storeA rfl Tryd.ty49 rfl rfl (by (with_reducible repeat constructor); done) rfl rfl rfl (by simp only [setRange, List.setIfInBounds_toArray, List.set_cons_zero, List.set_cons_succ, Nat.zero_add]; rfl)) (fun _ => ?_)
     refine ho_nil ?_
     refine hx_then ?_
     refine ht_seq ?_
     refine ht_seq ?_
     refine ht_region ?_
     refine ho_ev rfl rfl rfl (ev_move rfl rfl) ?_
     refine ho_ge rfl rfl rfl rfl rfl rfl (fun g30 => ?_) (fun g30 => ?_)
     ·omega
     ·skip
      refine ho_nil ?_
      refine hx_then ?_
      refine ht_else rfl ?_
      refine ht_skip ?_
      refine hx_then ?_
      refine ht_seq ?_
      refine ht_seq ?_
      refine ht_region ?_
      refine ho_ev rfl rfl rfl (ev_move rfl rfl) ?_
      refine ho_ge rfl rfl rfl rfl rfl rfl (fun g31 => ?_) (fun g31 => ?_)
      ·omega
      ·skip
       refine ho_nil ?_
       refine hx_then ?_
       refine ht_else rfl ?_
       refine ht_skip ?_
       refine hx_then ?_
       refine ht_seq ?_
       refine ht_seq ?_
       refine ht_region ?_
       refine ho_ev rfl rfl rfl (ev_move rfl rfl) ?_
       refine ho_ge rfl rfl rfl rfl rfl rfl (fun g32 => ?_) (fun g32 => ?_)
       ·omega
       ·skip
        refine ho_nil ?_
        refine hx_then ?_
        refine ht_else rfl ?_
        refine ht_skip ?_
        refine hx_then ?_
        refine ht_seq ?_
        refine ht_draw (.op 0 (.op 1 (.op 2 (.op 3 (.op 4 (.op 5 .done)))))) [2, 3] Tryd.mixed rfl ?_
        refine hd_ev rfl rfl rfl rfl (EvG.of rfl (ev_loadA rfl Tryd.underlying49 Tryd.ty49 rfl rfl (by first | exact cells_pt (by (with_reducible repeat constructor); done) (Nat.le_of_ble_eq_true rfl) (by simp only [List.extract_toArray, List.extract_eq_take_drop, Nat.zero_add, Nat.sub_zero, Nat.add_sub_cancel_left, List.drop_zero, List.take_succ_cons, List.take_zero, List.drop_succ_cons] <;> rfl) | exact cells_ro (by (with_reducible repeat constructor); done) (Nat.le_of_ble_eq_true rfl) (by simp only [List.extract_toArray, List.extract_eq_take_drop, Nat.zero_add, Nat.sub_zero, Nat.add_sub_cancel_left, List.drop_zero, List.take_succ_cons, List.take_zero, List.drop_succ_cons] <;> rfl)))) ?_
        refine hd_ev rfl rfl rfl rfl (EvG.of rfl (ev_loadA rfl Tryd.underlying53 Tryd.ty53 rfl rfl (by first | exact cells_pt (by (with_reducible repeat constructor); done) (Nat.le_of_ble_eq_true rfl) (by simp only [List.extract_toArray, List.extract_eq_take_drop, Nat.zero_add, Nat.sub_zero, Nat.add_sub_cancel_left, List.drop_zero, List.take_succ_cons, List.take_zero, List.drop_succ_cons] <;> rfl) | exact cells_ro (by (with_reducible repeat constructor); done) (Nat.le_of_ble_eq_true rfl) (by simp only [List.extract_toArray, List.extract_eq_take_drop, Nat.zero_add, Nat.sub_zero, Nat.add_sub_cancel_left, List.drop_zero, List.take_succ_cons, List.take_zero, List.drop_succ_cons] <;> rfl)))) ?_
        refine hd_eff0 rfl rfl rfl rfl (eff_storeA rfl Tryd.ty49 rfl rfl (by (with_reducible repeat constructor); done) rfl rfl rfl (by simp only [setRange, List.setIfInBounds_toArray, List.set_cons_zero, List.set_cons_succ, Nat.zero_add]; rfl)) (fun _ => by (refine FL.ev rfl (EvG.of rfl (ev_loadA rfl Tryd.underlying53 Tryd.ty53 rfl rfl (by first | exact cells_pt (by (with_reducible repeat constructor); done) (Nat.le_of_ble_eq_true rfl) (by simp only [List.extract_toArray, List.extract_eq_take_drop, Nat.zero_add, Nat.sub_zero, Nat.add_sub_cancel_left, List.drop_zero, List.take_succ_cons, List.take_zero, List.drop_succ_cons] <;> rfl) | exact cells_ro (by (with_reducible repeat constructor); done) (Nat.le_of_ble_eq_true rfl) (by simp only [List.extract_toArray, List.extract_eq_take_drop, Nat.zero_add, Nat.sub_zero, Nat.add_sub_cancel_left, List.drop_zero, List.take_succ_cons, List.take_zero, List.drop_succ_cons] <;> rfl)))) ?_); (refine FL.skip rfl ?_); exact FL.nil) (fun _ => ?_)
        refine hd_eff0 rfl rfl rfl rfl (eff_storeA rfl Tryd.ty53 rfl rfl (by (with_reducible repeat constructor); done) rfl rfl rfl (by simp only [setRange, List.setIfInBounds_toArray, List.set_cons_zero, List.set_cons_succ, Nat.zero_add]; rfl)) (fun _ => by (refine FL.skip rfl ?_); (refine FL.skip rfl ?_); exact FL.nil) (fun _ => ?_)
        refine hd_ev rfl rfl rfl rfl (EvG.of rfl (ev_assign rfl rfl)) ?_
        refine hd_ev rfl rfl rfl rfl (EvG.of rfl (ev_assign rfl rfl)) ?_
        refine hd_nil ?_
        refine hx_then ?_
        refine ht_ret ?_
        have hR : (Rf.rsteps r k number last body n) = ⟨r.free (k + Rf.rother last), false, 0, number, last⟩ := by unfold Rf.rsteps; rw [if_neg (by omega), if_neg (by omega), if_pos (by omega)]
        rw [hR]
        exact hx_ret4A (.inl rfl) rfl rfl rfl rfl rfl Tryd.underlying49 Tryd.ty49 rfl (cells_pt (by (with_reducible repeat constructor); done) (Nat.le_of_ble_eq_true rfl) rfl) Tryd.underlying53 Tryd.ty53 rfl (cells_pt (by (with_reducible repeat constructor); done) (Nat.le_of_ble_eq_true rfl) rfl) y1 rfl (Ent.roD (by (with_reducible repeat constructor); done) (Ent.cons (by (repeat constructor); done) Ent.nil))
    ·omega
   ·skip
    refine ht_region ?_
    refine ho_ev rfl rfl rfl (ev_move rfl rfl) ?_
    refine ho_ge rfl rfl rfl rfl rfl rfl (fun g33 => ?_) (fun g33 => ?_)
    ·skip
     refine ho_nil ?_
     refine hx_then ?_
     refine ht_then rfl ?_
     refine ht_region ?_
     refine ho_ev rfl rfl rfl (ev_loadA rfl Tryd.underlying49 Tryd.ty49 rfl rfl (by first | exact cells_pt (by (with_reducible repeat constructor); done) (Nat.le_of_ble_eq_true rfl) (by simp only [List.extract_toArray, List.extract_eq_take_drop, Nat.zero_add, Nat.sub_zero, Nat.add_sub_cancel_left, List.drop_zero, List.take_succ_cons, List.take_zero, List.drop_succ_cons] <;> rfl) | exact cells_ro (by (with_reducible repeat constructor); done) (Nat.le_of_ble_eq_true rfl) (by simp only [List.extract_toArray, List.extract_eq_take_drop, Nat.zero_add, Nat.sub_zero, Nat.add_sub_cancel_left, List.drop_zero, List.take_succ_cons, List.take_zero, List.drop_succ_cons] <;> rfl))) ?_
     refine ho_ev rfl rfl rfl (by first | exact ev_fieldAddr0 rfl Tryd.fld53_0 rfl | exact ev_fieldAddr rfl Tryd.fld53_0 rfl) ?_
     refine ho_ev rfl rfl rfl (ev_load rfl Tryd.underlying3 rfl rfl (by first | exact cell_pt (by (with_reducible repeat constructor); done) rfl | exact cell_ro (by (with_reducible repeat constructor); done) rfl)) ?_
     refine ho_ev rfl rfl rfl (ev_move rfl rfl) ?_
     refine ho_ev rfl rfl rfl (ev_add (r := (k + Rf.rother last)) rfl rfl rfl (by first | (rw [hro, if_pos (by omega)]; exact in_i64 (by omega)) | (rw [hro, if_neg (by omega)]; exact in_i64 (by omega)))) ?_
     refine ho_eff rfl rfl rfl (eff_call rfl rfl (.cons rfl (.cons rfl .nil)) rfl (rf_Free r x (k + Rf.rother last) (by omega) (by omega) hold) (by repeat (first | exact Picks.nil | (apply Picks.ro; focus ((repeat constructor); done)) | (apply Picks.cons; focus ((repeat constructor); done)))) (fun _ => by repeat (first | exact App.nil | apply App.cons))) (fun y1 => ?_)
     refine ho_ev rfl rfl rfl (ev_move rfl rfl) ?_
     refine ho_ev rfl rfl rfl (ev_extract rfl rfl rfl) ?_
     refine ho_ev rfl rfl rfl (ev_extract rfl rfl rfl) ?_
     refine ho_eff0 rfl rfl (eff_storeA rfl Tryd.ty49 rfl rfl (by (with_reducible repeat constructor); done) rfl rfl rfl (by simp only [setRange, List.setIfInBounds_toArray, List.set_cons_zero, List.set_cons_succ, Nat.zero_add]; rfl)) (fun _ => ?_)
     refine ho_nil ?_
     refine hx_then ?_
     refine ht_seq ?_
     refine ht_seq ?_
     refine ht_region ?_
     refine ho_ev rfl rfl rfl (ev_move rfl rfl) ?_
     refine ho_ge rfl rfl rfl rfl rfl rfl (fun g34 => ?_) (fun g34 => ?_)
     ·skip
      refine ho_nil ?_
      refine hx_then ?_
      refine ht_then rfl ?_
      refine ht_region ?_
      refine ho_ev rfl rfl rfl (ev_loadA rfl Tryd.underlying49 Tryd.ty49 rfl rfl (by first | exact cells_pt (by (with_reducible repeat constructor); done) (Nat.le_of_ble_eq_true rfl) (by simp only [List.extract_toArray, List.extract_eq_take_drop, Nat.zero_add, Nat.sub_zero, Nat.add_sub_cancel_left, List.drop_zero, List.take_succ_cons, List.take_zero, List.drop_succ_cons] <;> rfl) | exact cells_ro (by (with_reducible repeat constructor); done) (Nat.le_of_ble_eq_true rfl) (by simp only [List.extract_toArray, List.extract_eq_take_drop, Nat.zero_add, Nat.sub_zero, Nat.add_sub_cancel_left, List.drop_zero, List.take_succ_cons, List.take_zero, List.drop_succ_cons] <;> rfl))) ?_
      refine ho_eff rfl rfl rfl (eff_call rfl rfl (.cons rfl .nil) rfl (rf_Sync (r.free (k + Rf.rother last)) y1) (by repeat (first | exact Picks.nil | (apply Picks.ro; focus ((repeat constructor); done)) | (apply Picks.cons; focus ((repeat constructor); done)))) (fun _ => by repeat (first | exact App.nil | apply App.cons))) (fun _ => ?_)
      refine ho_eff0 rfl rfl (eff_storeA rfl Tryd.ty49 rfl rfl (by (with_reducible repeat constructor); done) rfl rfl rfl (by simp only [setRange, List.setIfInBounds_toArray, List.set_cons_zero, List.set_cons_succ, Nat.zero_add]; rfl)) (fun _ => ?_)
      refine ho_nil ?_
      refine hx_then ?_
      refine ht_seq ?_
      refine ht_seq ?_
      refine ht_region ?_
      refine ho_ev rfl rfl rfl (ev_move rfl rfl) ?_
      refine ho_ge rfl rfl rfl rfl rfl rfl (fun g35 => ?_) (fun g35 => ?_)
      ·omega
      ·skip
       refine ho_nil ?_
       refine hx_then ?_
       refine ht_else rfl ?_
       refine ht_skip ?_
       refine hx_then ?_
       refine ht_seq ?_
       refine ht_seq ?_
       refine ht_region ?_
       refine ho_ev rfl rfl rfl (ev_move rfl rfl) ?_
       refine ho_ge rfl rfl rfl rfl rfl rfl (fun g36 => ?_) (fun g36 => ?_)
       ·omega
       ·skip
        refine ho_nil ?_
        refine hx_then ?_
        refine ht_else rfl ?_
        refine ht_skip ?_
        refine hx_then ?_
        refine ht_seq ?_
        refine ht_draw (.op 0 (.op 1 (.op 2 (.op 3 (.op 4 (.op 5 .done)))))) [2, 3] Tryd.mixed rfl ?_
        refine hd_ev rfl rfl rfl rfl (EvG.of rfl (ev_loadA rfl Tryd.underlying49 Tryd.ty49 rfl rfl (by first | exact cells_pt (by (with_reducible repeat constructor); done) (Nat.le_of_ble_eq_true rfl) (by simp only [List.extract_toArray, List.extract_eq_take_drop, Nat.zero_add, Nat.sub_zero, Nat.add_sub_cancel_left, List.drop_zero, List.take_succ_cons, List.take_zero, List.drop_succ_cons] <;> rfl) | exact cells_ro (by (with_reducible repeat constructor); done) (Nat.le_of_ble_eq_true rfl) (by simp only [List.extract_toArray, List.extract_eq_take_drop, Nat.zero_add, Nat.sub_zero, Nat.add_sub_cancel_left, List.drop_zero, List.take_succ_cons, List.take_zero, List.drop_succ_cons] <;> rfl)))) ?_
        refine hd_ev rfl rfl rfl rfl (EvG.of rfl (ev_loadA rfl Tryd.underlying53 Tryd.ty53 rfl rfl (by first | exact cells_pt (by (with_reducible repeat constructor); done) (Nat.le_of_ble_eq_true rfl) (by simp only [List.extract_toArray, List.extract_eq_take_drop, Nat.zero_add, Nat.sub_zero, Nat.add_sub_cancel_left, List.drop_zero, List.take_succ_cons, List.take_zero, List.drop_succ_cons] <;> rfl) | exact cells_ro (by (with_reducible repeat constructor); done) (Nat.le_of_ble_eq_true rfl) (by simp only [List.extract_toArray, List.extract_eq_take_drop, Nat.zero_add, Nat.sub_zero, Nat.add_sub_cancel_left, List.drop_zero, List.take_succ_cons, List.take_zero, List.drop_succ_cons] <;> rfl)))) ?_
        refine hd_eff0 rfl rfl rfl rfl (eff_storeA rfl Tryd.ty49 rfl rfl (by (with_reducible repeat constructor); done) rfl rfl rfl (by simp only [setRange, List.setIfInBounds_toArray, List.set_cons_zero, List.set_cons_succ, Nat.zero_add]; rfl)) (fun _ => by (refine FL.ev rfl (EvG.of rfl (ev_loadA rfl Tryd.underlying53 Tryd.ty53 rfl rfl (by first | exact cells_pt (by (with_reducible repeat constructor); done) (Nat.le_of_ble_eq_true rfl) (by simp only [List.extract_toArray, List.extract_eq_take_drop, Nat.zero_add, Nat.sub_zero, Nat.add_sub_cancel_left, List.drop_zero, List.take_succ_cons, List.take_zero, List.drop_succ_cons] <;> rfl) | exact cells_ro (by (with_reducible repeat constructor); done) (Nat.le_of_ble_eq_true rfl) (by simp only [List.extract_toArray, List.extract_eq_take_drop, Nat.zero_add, Nat.sub_zero, Nat.add_sub_cancel_left, List.drop_zero, List.take_succ_cons, List.take_zero, List.drop_succ_cons] <;> rfl)))) ?_); (refine FL.skip rfl ?_); exact FL.nil) (fun _ => ?_)
        refine hd_eff0 rfl rfl rfl rfl (eff_storeA rfl Tryd.ty53 rfl rfl (by (with_reducible repeat constructor); done) rfl rfl rfl (by simp only [setRange, List.setIfInBounds_toArray, List.set_cons_zero, List.set_cons_succ, Nat.zero_add]; rfl)) (fun _ => by (refine FL.skip rfl ?_); (refine FL.skip rfl ?_); exact FL.nil) (fun _ => ?_)
        refine hd_ev rfl rfl rfl rfl (EvG.of rfl (ev_assign rfl rfl)) ?_
        refine hd_ev rfl rfl rfl rfl (EvG.of rfl (ev_assign rfl rfl)) ?_
        refine hd_nil ?_
        refine hx_then ?_
        refine ht_ret ?_
        have hR : (Rf.rsteps r k number last body n) = ⟨(r.free (k + Rf.rother last)).sync, false, 0, number, last⟩ := by unfold Rf.rsteps; rw [if_neg (by omega), if_neg (by omega), if_neg (by omega), if_pos (by omega)]
        rw [hR]
        exact hx_ret4A (.inl rfl) rfl rfl rfl rfl rfl Tryd.underlying49 Tryd.ty49 rfl (cells_pt (by (with_reducible repeat constructor); done) (Nat.le_of_ble_eq_true rfl) rfl) Tryd.underlying53 Tryd.ty53 rfl (cells_pt (by (with_reducible repeat constructor); done) (Nat.le_of_ble_eq_true rfl) rfl) ⟨y1.va, y1.vc, y1.va, y1.vc, none, 0⟩ rfl (Ent.roD (by (with_reducible repeat constructor); done) (Ent.cons (by (repeat constructor); done) Ent.nil))
     ·omega
    ·omega
   ·skip
    refine ht_region ?_
    refine ho_ev rfl rfl rfl (ev_move rfl rfl) ?_
    refine ho_ge rfl rfl rfl rfl rfl rfl (fun g37 => ?_) (fun g37 => ?_)
    ·skip
     refine ho_nil ?_
     refine hx_then ?_
     refine ht_then rfl ?_
     refine ht_region ?_
     refine ho_ev rfl rfl rfl (ev_loadA rfl Tryd.underlying49 Tryd.ty49 rfl rfl (by first | exact cells_pt (by (with_reducible repeat constructor); done) (Nat.le_of_ble_eq_true rfl) (by simp only [List.extract_toArray, List.extract_eq_take_drop, Nat.zero_add, Nat.sub_zero, Nat.add_sub_cancel_left, List.drop_zero, List.take_succ_cons, List.take_zero, List.drop_succ_cons] <;> rfl) | exact cells_ro (by (with_reducible repeat constructor); done) (Nat.le_of_ble_eq_true rfl) (by simp only [List.extract_toArray, List.extract_eq_take_drop, Nat.zero_add, Nat.sub_zero, Nat.add_sub_cancel_left, List.drop_zero, List.take_succ_cons, List.take_zero, List.drop_succ_cons] <;> rfl))) ?_
     refine ho_ev rfl rfl rfl (by first | exact ev_fieldAddr0 rfl Tryd.fld53_0 rfl | exact ev_fieldAddr rfl Tryd.fld53_0 rfl) ?_
     refine ho_ev rfl rfl rfl (ev_load rfl Tryd.underlying3 rfl rfl (by first | exact cell_pt (by (with_reducible repeat constructor); done) rfl | exact cell_ro (by (with_reducible repeat constructor); done) rfl)) ?_
     refine ho_ev rfl rfl rfl (ev_move rfl rfl) ?_
     refine ho_ev rfl rfl rfl (ev_add (r := (k + Rf.rother last)) rfl rfl rfl (by first | (rw [hro, if_pos (by omega)]; exact in_i64 (by omega)) | (rw [hro, if_neg (by omega)]; exact in_i64 (by omega)))) ?_
     refine ho_eff rfl rfl rfl (eff_call rfl rfl (.cons rfl (.cons rfl .nil)) rfl (rf_Free r x (k + Rf.rother last) (by omega) (by omega) hold) (by repeat (first | exact Picks.nil | (apply Picks.ro; focus ((repeat constructor); done)) | (apply Picks.cons; focus ((repeat constructor); done)))) (fun _ => by repeat (first | exact App.nil | apply App.cons))) (fun y1 => ?_)
     refine ho_ev rfl rfl rfl (ev_move rfl rfl) ?_
     refine ho_ev rfl rfl rfl (ev_extract rfl rfl rfl) ?_
     refine ho_ev rfl rfl rfl (ev_extract rfl rfl rfl) ?_
     refine ho_eff0 rfl rfl (eff_storeA rfl Tryd.ty49 rfl rfl (by (with_reducible repeat constructor); done) rfl rfl rfl (by simp only [setRange, List.setIfInBounds_toArray, List.set_cons_zero, List.set_cons_succ, Nat.zero_add]; rfl)) (fun _ => ?_)
     refine ho_nil ?_
     refine hx_then ?_
     refine ht_seq ?_
     refine ht_seq ?_
     refine ht_region ?_
     refine ho_ev rfl rfl rfl (ev_move rfl rfl) ?_
     refine ho_ge rfl rfl rfl rfl rfl rfl (fun g38 => ?_) (fun g38 => ?_)
     ·skip
      refine ho_nil ?_
      refine hx_then ?_
      refine ht_then rfl ?_
      refine ht_region ?_
      refine ho_ev rfl rfl rfl (ev_loadA rfl Tryd.underlying49 Tryd.ty49 rfl rfl (by first | exact cells_pt (by (with_reducible repeat constructor); done) (Nat.le_of_ble_eq_true rfl) (by simp only [List.extract_toArray, List.extract_eq_take_drop, Nat.zero_add, Nat.sub_zero, Nat.add_sub_cancel_left, List.drop_zero, List.take_succ_cons, List.take_zero, List.drop_succ_cons] <;> rfl) | exact cells_ro (by (with_reducible repeat constructor); done) (Nat.le_of_ble_eq_true rfl) (by simp only [List.extract_toArray, List.extract_eq_take_drop, Nat.zero_add, Nat.sub_zero, Nat.add_sub_cancel_left, List.drop_zero, List.take_succ_cons, List.take_zero, List.drop_succ_cons] <;> rfl))) ?_
      refine ho_eff rfl rfl rfl (eff_call rfl rfl (.cons rfl .nil) rfl (rf_Sync (r.free (k + Rf.rother last)) y1) (by repeat (first | exact Picks.nil | (apply Picks.ro; focus ((repeat constructor); done)) | (apply Picks.cons; focus ((repeat constructor); done)))) (fun _ => by repeat (first | exact App.nil | apply App.cons))) (fun _ => ?_)
      refine ho_eff0 rfl rfl (eff_storeA rfl Tryd.ty49 rfl rfl (by (with_reducible repeat constructor); done) rfl rfl rfl (by simp only [setRange, List.setIfInBounds_toArray, List.set_cons_zero, List.set_cons_succ, Nat.zero_add]; rfl)) (fun _ => ?_)
      refine ho_nil ?_
      refine hx_then ?_
      refine ht_seq ?_
      refine ht_seq ?_
      refine ht_region ?_
      refine ho_ev rfl rfl rfl (ev_move rfl rfl) ?_
      refine ho_ge rfl rfl rfl rfl rfl rfl (fun g39 => ?_) (fun g39 => ?_)
      ·skip
       refine ho_nil ?_
       refine hx_then ?_
       refine ht_then rfl ?_
       refine ht_seq ?_
       refine ht_region ?_
       refine ho_ev rfl rfl rfl (by first | exact ev_fieldAddr0 rfl Tryd.fld53_2 rfl | exact ev_fieldAddr rfl Tryd.fld53_2 rfl) ?_
       refine ho_ev rfl rfl rfl (ev_load rfl Tryd.underlying41 rfl rfl (by first | exact cell_pt (by (with_reducible repeat constructor); done) rfl | exact cell_ro (by (with_reducible repeat constructor); done) rfl)) ?_
       refine ho_ev rfl rfl rfl (ev_add (r := ((((number + 1) % 18446744073709551616) : Nat) : Int)) rfl rfl rfl (by exact next_u64 number)) ?_
       refine ho_ev rfl rfl rfl (ev_move rfl rfl) ?_
       refine ho_ev rfl rfl rfl (ev_build1 (csl := [_, _]) rfl Tryd.st71 (.cons rfl (.cons rfl .nil)) (.cons rfl (.cons rfl .nil)) rfl rfl) ?_
       refine ho_eff rfl rfl rfl (eff_call rfl rfl (.cons rfl .nil) rfl (ref_RPut ((number + 1) % 18446744073709551616) body (Nat.mod_lt _ (by decide)) (by omega)) (by repeat (first | exact Picks.nil | (apply Picks.ro; focus ((with_reducible repeat constructor); done)) | (apply Picks.cons; focus ((with_reducible repeat constructor); done)))) (fun _ => by repeat (first | exact App.nil | apply App.cons))) (fun _ => ?_)
       refine ho_ev rfl rfl rfl (ev_move rfl rfl) ?_
       refine ho_ev rfl rfl rfl (ev_extract rfl rfl rfl) ?_
       refine ho_ev rfl rfl rfl (ev_extract rfl rfl rfl) ?_
       refine ho_ev rfl rfl rfl (ev_assign rfl rfl) ?_
       refine ho_ev rfl rfl rfl (ev_assign rfl rfl) ?_
       refine ho_nil ?_
       refine hx_then ?_
       refine ht_seq ?_
       refine ht_region ?_
       refine ho_ev rfl rfl rfl (ev_loadA rfl Tryd.underlying49 Tryd.ty49 rfl rfl (by first | exact cells_pt (by (with_reducible repeat constructor); done) (Nat.le_of_ble_eq_true rfl) (by simp only [List.extract_toArray, List.extract_eq_take_drop, Nat.zero_add, Nat.sub_zero, Nat.add_sub_cancel_left, List.drop_zero, List.take_succ_cons, List.take_zero, List.drop_succ_cons] <;> rfl) | exact cells_ro (by (with_reducible repeat constructor); done) (Nat.le_of_ble_eq_true rfl) (by simp only [List.extract_toArray, List.extract_eq_take_drop, Nat.zero_add, Nat.sub_zero, Nat.add_sub_cancel_left, List.drop_zero, List.take_succ_cons, List.take_zero, List.drop_succ_cons] <;> rfl))) ?_
       refine ho_ev rfl rfl rfl (by first | exact ev_fieldAddr0 rfl Tryd.fld53_0 rfl | exact ev_fieldAddr rfl Tryd.fld53_0 rfl) ?_
       refine ho_ev rfl rfl rfl (ev_load rfl Tryd.underlying3 rfl rfl (by first | exact cell_pt (by (with_reducible repeat constructor); done) rfl | exact cell_ro (by (with_reducible repeat constructor); done) rfl)) ?_
       refine ho_ev rfl rfl rfl (ev_move rfl rfl) ?_
       refine ho_ev rfl rfl rfl (ev_add (r := (k + Rf.rother last)) rfl rfl rfl (by first | (rw [hro, if_pos (by omega)]; exact in_i64 (by omega)) | (rw [hro, if_neg (by omega)]; exact in_i64 (by omega)))) ?_
       refine ho_ev rfl rfl rfl (ev_move rfl rfl) ?_
       refine ho_eff rfl rfl rfl (eff_call rfl rfl (.cons rfl (.cons rfl (.cons rfl .nil))) rfl (rf_Write (r.free (k + Rf.rother last)).sync ⟨y1.va, y1.vc, y1.va, y1.vc, none, 0⟩ (k + Rf.rother last) (Wire.put ((number + 1) % 18446744073709551616) body) (by show (r.free (k + Rf.rother last)).view.length ≤ _; omega) (by show 0 ≤ _; omega) hold2) (by repeat (first | exact Picks.nil | (apply Picks.ro; focus ((repeat constructor); done)) | (apply Picks.cons; focus ((repeat constructor); done)))) (fun _ => by repeat (first | exact App.nil | apply App.cons))) (fun y3 => ?_)
       refine ho_ev rfl rfl rfl (ev_move rfl rfl) ?_
       refine ho_ev rfl rfl rfl (ev_extract rfl rfl rfl) ?_
       refine ho_ev rfl rfl rfl (ev_extract rfl rfl rfl) ?_
       refine ho_eff rfl rfl rfl (eff_alloc rfl Tryd.ty49 (by first | exact cells_agg _ | exact rfl)) (fun b15 => ?_)
       refine ho_eff0 rfl rfl (eff_storeA rfl Tryd.ty49 rfl rfl (by (with_reducible repeat constructor); done) rfl rfl rfl (by simp only [setRange, List.setIfInBounds_toArray, List.set_cons_zero, List.set_cons_succ, Nat.zero_add]; rfl)) (fun _ => ?_)
       refine ho_ev rfl rfl rfl (ev_assign rfl rfl) ?_
       refine ho_nil ?_
       refine hx_then ?_
       refine ht_seq ?_
       refine ht_seq ?_
       refine ht_region ?_
       refine ho_ev rfl rfl rfl (ev_move rfl rfl) ?_
       refine ho_ne rfl rfl rfl rfl rfl rfl (fun g40 => ?_) (fun g40 => ?_)
       ·skip
        refine ho_nil ?_
        refine hx_then ?_
        refine ht_then rfl ?_
        refine ht_seq ?_
        refine ht_draw (.op 0 (.op 1 (.op 2 (.op 3 (.op 4 (.op 5 (.op 6 .done))))))) [3, 4] Tryd.mixed rfl ?_
        refine hd_ev rfl rfl rfl rfl (EvG.of rfl (ev_loadA rfl Tryd.underlying49 Tryd.ty49 rfl rfl (by first | exact cells_pt (by (with_reducible repeat constructor); done) (Nat.le_of_ble_eq_true rfl) (by simp only [List.extract_toArray, List.extract_eq_take_drop, Nat.zero_add, Nat.sub_zero, Nat.add_sub_cancel_left, List.drop_zero, List.take_succ_cons, List.take_zero, List.drop_succ_cons] <;> rfl) | exact cells_ro (by (with_reducible repeat constructor); done) (Nat.le_of_ble_eq_true rfl) (by simp only [List.extract_toArray, List.extract_eq_take_drop, Nat.zero_add, Nat.sub_zero, Nat.add_sub_cancel_left, List.drop_zero, List.take_succ_cons, List.take_zero, List.drop_succ_cons] <;> rfl)))) ?_
        refine hd_ev rfl rfl rfl rfl (EvG.of rfl (ev_loadA rfl Tryd.underlying53 Tryd.ty53 rfl rfl (by first | exact cells_pt (by (with_reducible repeat constructor); done) (Nat.le_of_ble_eq_true rfl) (by simp only [List.extract_toArray, List.extract_eq_take_drop, Nat.zero_add, Nat.sub_zero, Nat.add_sub_cancel_left, List.drop_zero, List.take_succ_cons, List.take_zero, List.drop_succ_cons] <;> rfl) | exact cells_ro (by (with_reducible repeat constructor); done) (Nat.le_of_ble_eq_true rfl) (by simp only [List.extract_toArray, List.extract_eq_take_drop, Nat.zero_add, Nat.sub_zero, Nat.add_sub_cancel_left, List.drop_zero, List.take_succ_cons, List.take_zero, List.drop_succ_cons] <;> rfl)))) ?_
        refine hd_ev rfl rfl rfl rfl (EvG.of rfl (ev_move rfl rfl)) ?_
        refine hd_eff0 rfl rfl rfl rfl (eff_storeA rfl Tryd.ty49 rfl rfl (by (with_reducible repeat constructor); done) rfl rfl rfl (by simp only [setRange, List.setIfInBounds_toArray, List.set_cons_zero, List.set_cons_succ, Nat.zero_add]; rfl)) (fun _ => by (refine FL.ev rfl (EvG.of rfl (ev_move rfl rfl)) ?_); (refine FL.ev rfl (EvG.of rfl (ev_loadA rfl Tryd.underlying53 Tryd.ty53 rfl rfl (by first | exact cells_pt (by (with_reducible repeat constructor); done) (Nat.le_of_ble_eq_true rfl) (by simp only [List.extract_toArray, List.extract_eq_take_drop, Nat.zero_add, Nat.sub_zero, Nat.add_sub_cancel_left, List.drop_zero, List.take_succ_cons, List.take_zero, List.drop_succ_cons] <;> rfl) | exact cells_ro (by (with_reducible repeat constructor); done) (Nat.le_of_ble_eq_true rfl) (by simp only [List.extract_toArray, List.extract_eq_take_drop, Nat.zero_add, Nat.sub_zero, Nat.add_sub_cancel_left, List.drop_zero, List.take_succ_cons, List.take_zero, List.drop_succ_cons] <;> rfl)))) ?_); (refine FL.skip rfl ?_); exact FL.nil) (fun _ => ?_)
        refine hd_eff0 rfl rfl rfl rfl (eff_storeA rfl Tryd.ty53 rfl rfl (by (with_reducible repeat constructor); done) rfl rfl rfl (by simp only [setRange, List.setIfInBounds_toArray, List.set_cons_zero, List.set_cons_succ, Nat.zero_add]; rfl)) (fun _ => by (refine FL.ev rfl (EvG.of rfl (ev_move rfl rfl)) ?_); (refine FL.skip rfl ?_); (refine FL.skip rfl ?_); exact FL.nil) (fun _ => ?_)
        refine hd_ev rfl rfl rfl rfl (EvG.of rfl (ev_assign rfl rfl)) ?_
        refine hd_ev rfl rfl rfl rfl (EvG.of rfl (ev_assign rfl rfl)) ?_
        refine hd_nil ?_
        refine hx_then ?_
        refine ht_ret ?_
        refine hx_through trivial ?_
        refine hx_through trivial ?_
        have hw : (r.free (k + Rf.rother last)).sync.werr (k + Rf.rother last) (Wire.put ((number + 1) % 18446744073709551616) body) ≠ 0 := by omega
        have hww : (r.free (k + Rf.rother last)).sync.write (k + Rf.rother last) (Wire.put ((number + 1) % 18446744073709551616) body) = (r.free (k + Rf.rother last)).sync := by unfold Rf.RDisk.write; rw [if_neg hw]
        have hR : (Rf.rsteps r k number last body n) = ⟨(r.free (k + Rf.rother last)).sync, false, (r.free (k + Rf.rother last)).sync.werr (k + Rf.rother last) (Wire.put ((number + 1) % 18446744073709551616) body), number, last⟩ := by unfold Rf.rsteps; rw [if_neg (by omega), if_neg (by omega), if_neg (by omega), if_neg (by omega), if_pos hw]
        rw [hR]
        rw [hww]
        exact hx_ret4A (.inl rfl) rfl rfl rfl rfl rfl Tryd.underlying49 Tryd.ty49 rfl (cells_pt (by (with_reducible repeat constructor); done) (Nat.le_of_ble_eq_true rfl) rfl) Tryd.underlying53 Tryd.ty53 rfl (cells_pt (by (with_reducible repeat constructor); done) (Nat.le_of_ble_eq_true rfl) rfl) y3 rfl (Ent.roD (by (with_reducible repeat constructor); done) (Ent.cons (by (repeat constructor); done) Ent.nil))
       ·skip
        refine ho_nil ?_
        refine hx_then ?_
        refine ht_else rfl ?_
        refine ht_skip ?_
        refine hx_then ?_
        refine ht_region ?_
        refine ho_ev rfl rfl rfl (ev_loadA rfl Tryd.underlying49 Tryd.ty49 rfl rfl (by first | exact cells_pt (by (with_reducible repeat constructor); done) (Nat.le_of_ble_eq_true rfl) (by simp only [List.extract_toArray, List.extract_eq_take_drop, Nat.zero_add, Nat.sub_zero, Nat.add_sub_cancel_left, List.drop_zero, List.take_succ_cons, List.take_zero, List.drop_succ_cons] <;> rfl) | exact cells_ro (by (with_reducible repeat constructor); done) (Nat.le_of_ble_eq_true rfl) (by simp only [List.extract_toArray, List.extract_eq_take_drop, Nat.zero_add, Nat.sub_zero, Nat.add_sub_cancel_left, List.drop_zero, List.take_succ_cons, List.take_zero, List.drop_succ_cons] <;> rfl))) ?_
        refine ho_eff0 rfl rfl (eff_storeA rfl Tryd.ty49 rfl rfl (by (with_reducible repeat constructor); done) rfl rfl rfl (by simp only [setRange, List.setIfInBounds_toArray, List.set_cons_zero, List.set_cons_succ, Nat.zero_add]; rfl)) (fun _ => ?_)
        refine ho_nil ?_
        refine hx_then ?_
        refine ht_seq ?_
        refine ht_seq ?_
        refine ht_region ?_
        refine ho_ev rfl rfl rfl (ev_move rfl rfl) ?_
        refine ho_ge rfl rfl rfl rfl rfl rfl (fun g41 => ?_) (fun g41 => ?_)
        ·omega
        ·skip
         refine ho_nil ?_
         refine hx_then ?_
         refine ht_else rfl ?_
         refine ht_skip ?_
         refine hx_then ?_
         refine ht_seq ?_
         refine ht_draw (.op 0 (.op 1 (.op 2 (.op 3 (.op 4 (.op 5 .done)))))) [2, 3] Tryd.mixed rfl ?_
         refine hd_ev rfl rfl rfl rfl (EvG.of rfl (ev_loadA rfl Tryd.underlying49 Tryd.ty49 rfl rfl (by first | exact cells_pt (by (with_reducible repeat constructor); done) (Nat.le_of_ble_eq_true rfl) (by simp only [List.extract_toArray, List.extract_eq_take_drop, Nat.zero_add, Nat.sub_zero, Nat.add_sub_cancel_left, List.drop_zero, List.take_succ_cons, List.take_zero, List.drop_succ_cons] <;> rfl) | exact cells_ro (by (with_reducible repeat constructor); done) (Nat.le_of_ble_eq_true rfl) (by simp only [List.extract_toArray, List.extract_eq_take_drop, Nat.zero_add, Nat.sub_zero, Nat.add_sub_cancel_left, List.drop_zero, List.take_succ_cons, List.take_zero, List.drop_succ_cons] <;> rfl)))) ?_
         refine hd_ev rfl rfl rfl rfl (EvG.of rfl (ev_loadA rfl Tryd.underlying53 Tryd.ty53 rfl rfl (by first | exact cells_pt (by (with_reducible repeat constructor); done) (Nat.le_of_ble_eq_true rfl) (by simp only [List.extract_toArray, List.extract_eq_take_drop, Nat.zero_add, Nat.sub_zero, Nat.add_sub_cancel_left, List.drop_zero, List.take_succ_cons, List.take_zero, List.drop_succ_cons] <;> rfl) | exact cells_ro (by (with_reducible repeat constructor); done) (Nat.le_of_ble_eq_true rfl) (by simp only [List.extract_toArray, List.extract_eq_take_drop, Nat.zero_add, Nat.sub_zero, Nat.add_sub_cancel_left, List.drop_zero, List.take_succ_cons, List.take_zero, List.drop_succ_cons] <;> rfl)))) ?_
         refine hd_eff0 rfl rfl rfl rfl (eff_storeA rfl Tryd.ty49 rfl rfl (by (with_reducible repeat constructor); done) rfl rfl rfl (by simp only [setRange, List.setIfInBounds_toArray, List.set_cons_zero, List.set_cons_succ, Nat.zero_add]; rfl)) (fun _ => by (refine FL.ev rfl (EvG.of rfl (ev_loadA rfl Tryd.underlying53 Tryd.ty53 rfl rfl (by first | exact cells_pt (by (with_reducible repeat constructor); done) (Nat.le_of_ble_eq_true rfl) (by simp only [List.extract_toArray, List.extract_eq_take_drop, Nat.zero_add, Nat.sub_zero, Nat.add_sub_cancel_left, List.drop_zero, List.take_succ_cons, List.take_zero, List.drop_succ_cons] <;> rfl) | exact cells_ro (by (with_reducible repeat constructor); done) (Nat.le_of_ble_eq_true rfl) (by simp only [List.extract_toArray, List.extract_eq_take_drop, Nat.zero_add, Nat.sub_zero, Nat.add_sub_cancel_left, List.drop_zero, List.take_succ_cons, List.take_zero, List.drop_succ_cons] <;> rfl)))) ?_); (refine FL.skip rfl ?_); exact FL.nil) (fun _ => ?_)
         refine hd_eff0 rfl rfl rfl rfl (eff_storeA rfl Tryd.ty53 rfl rfl (by (with_reducible repeat constructor); done) rfl rfl rfl (by simp only [setRange, List.setIfInBounds_toArray, List.set_cons_zero, List.set_cons_succ, Nat.zero_add]; rfl)) (fun _ => by (refine FL.skip rfl ?_); (refine FL.skip rfl ?_); exact FL.nil) (fun _ => ?_)
         refine hd_ev rfl rfl rfl rfl (EvG.of rfl (ev_assign rfl rfl)) ?_
         refine hd_ev rfl rfl rfl rfl (EvG.of rfl (ev_assign rfl rfl)) ?_
         refine hd_nil ?_
         refine hx_then ?_
         refine ht_ret ?_
         have hw : (r.free (k + Rf.rother last)).sync.werr (k + Rf.rother last) (Wire.put ((number + 1) % 18446744073709551616) body) = 0 := by omega
         have hR : (Rf.rsteps r k number last body n) = ⟨(r.free (k + Rf.rother last)).sync.write (k + Rf.rother last) (Wire.put ((number + 1) % 18446744073709551616) body), false, 0, number, last⟩ := by unfold Rf.rsteps; rw [if_neg (by omega), if_neg (by omega), if_neg (by omega), if_neg (by omega), if_neg (by rw [hw]; exact fun h => h rfl), if_pos (by omega)]
         rw [hR]
         exact hx_ret4A (.inl rfl) rfl rfl rfl rfl rfl Tryd.underlying49 Tryd.ty49 rfl (cells_pt (by (with_reducible repeat constructor); done) (Nat.le_of_ble_eq_true rfl) rfl) Tryd.underlying53 Tryd.ty53 rfl (cells_pt (by (with_reducible repeat constructor); done) (Nat.le_of_ble_eq_true rfl) rfl) y3 rfl (Ent.roD (by (with_reducible repeat constructor); done) (Ent.cons (by (repeat constructor); done) Ent.nil))
      ·omega
     ·omega
    ·omega
   ·skip
    refine ht_region ?_
    refine ho_ev rfl rfl rfl (ev_move rfl rfl) ?_
    refine ho_ge rfl rfl rfl rfl rfl rfl (fun g42 => ?_) (fun g42 => ?_)
    ·skip
     refine ho_nil ?_
     refine hx_then ?_
     refine ht_then rfl ?_
     refine ht_region ?_
     refine ho_ev rfl rfl rfl (ev_loadA rfl Tryd.underlying49 Tryd.ty49 rfl rfl (by first | exact cells_pt (by (with_reducible repeat constructor); done) (Nat.le_of_ble_eq_true rfl) (by simp only [List.extract_toArray, List.extract_eq_take_drop, Nat.zero_add, Nat.sub_zero, Nat.add_sub_cancel_left, List.drop_zero, List.take_succ_cons, List.take_zero, List.drop_succ_cons] <;> rfl) | exact cells_ro (by (with_reducible repeat constructor); done) (Nat.le_of_ble_eq_true rfl) (by simp only [List.extract_toArray, List.extract_eq_take_drop, Nat.zero_add, Nat.sub_zero, Nat.add_sub_cancel_left, List.drop_zero, List.take_succ_cons, List.take_zero, List.drop_succ_cons] <;> rfl))) ?_
     refine ho_ev rfl rfl rfl (by first | exact ev_fieldAddr0 rfl Tryd.fld53_0 rfl | exact ev_fieldAddr rfl Tryd.fld53_0 rfl) ?_
     refine ho_ev rfl rfl rfl (ev_load rfl Tryd.underlying3 rfl rfl (by first | exact cell_pt (by (with_reducible repeat constructor); done) rfl | exact cell_ro (by (with_reducible repeat constructor); done) rfl)) ?_
     refine ho_ev rfl rfl rfl (ev_move rfl rfl) ?_
     refine ho_ev rfl rfl rfl (ev_add (r := (k + Rf.rother last)) rfl rfl rfl (by first | (rw [hro, if_pos (by omega)]; exact in_i64 (by omega)) | (rw [hro, if_neg (by omega)]; exact in_i64 (by omega)))) ?_
     refine ho_eff rfl rfl rfl (eff_call rfl rfl (.cons rfl (.cons rfl .nil)) rfl (rf_Free r x (k + Rf.rother last) (by omega) (by omega) hold) (by repeat (first | exact Picks.nil | (apply Picks.ro; focus ((repeat constructor); done)) | (apply Picks.cons; focus ((repeat constructor); done)))) (fun _ => by repeat (first | exact App.nil | apply App.cons))) (fun y1 => ?_)
     refine ho_ev rfl rfl rfl (ev_move rfl rfl) ?_
     refine ho_ev rfl rfl rfl (ev_extract rfl rfl rfl) ?_
     refine ho_ev rfl rfl rfl (ev_extract rfl rfl rfl) ?_
     refine ho_eff0 rfl rfl (eff_storeA rfl Tryd.ty49 rfl rfl (by (with_reducible repeat constructor); done) rfl rfl rfl (by simp only [setRange, List.setIfInBounds_toArray, List.set_cons_zero, List.set_cons_succ, Nat.zero_add]; rfl)) (fun _ => ?_)
     refine ho_nil ?_
     refine hx_then ?_
     refine ht_seq ?_
     refine ht_seq ?_
     refine ht_region ?_
     refine ho_ev rfl rfl rfl (ev_move rfl rfl) ?_
     refine ho_ge rfl rfl rfl rfl rfl rfl (fun g43 => ?_) (fun g43 => ?_)
     ·skip
      refine ho_nil ?_
      refine hx_then ?_
      refine ht_then rfl ?_
      refine ht_region ?_
      refine ho_ev rfl rfl rfl (ev_loadA rfl Tryd.underlying49 Tryd.ty49 rfl rfl (by first | exact cells_pt (by (with_reducible repeat constructor); done) (Nat.le_of_ble_eq_true rfl) (by simp only [List.extract_toArray, List.extract_eq_take_drop, Nat.zero_add, Nat.sub_zero, Nat.add_sub_cancel_left, List.drop_zero, List.take_succ_cons, List.take_zero, List.drop_succ_cons] <;> rfl) | exact cells_ro (by (with_reducible repeat constructor); done) (Nat.le_of_ble_eq_true rfl) (by simp only [List.extract_toArray, List.extract_eq_take_drop, Nat.zero_add, Nat.sub_zero, Nat.add_sub_cancel_left, List.drop_zero, List.take_succ_cons, List.take_zero, List.drop_succ_cons] <;> rfl))) ?_
      refine ho_eff rfl rfl rfl (eff_call rfl rfl (.cons rfl .nil) rfl (rf_Sync (r.free (k + Rf.rother last)) y1) (by repeat (first | exact Picks.nil | (apply Picks.ro; focus ((repeat constructor); done)) | (apply Picks.cons; focus ((repeat constructor); done)))) (fun _ => by repeat (first | exact App.nil | apply App.cons))) (fun _ => ?_)
      refine ho_eff0 rfl rfl (eff_storeA rfl Tryd.ty49 rfl rfl (by (with_reducible repeat constructor); done) rfl rfl rfl (by simp only [setRange, List.setIfInBounds_toArray, List.set_cons_zero, List.set_cons_succ, Nat.zero_add]; rfl)) (fun _ => ?_)
      refine ho_nil ?_
      refine hx_then ?_
      refine ht_seq ?_
      refine ht_seq ?_
      refine ht_region ?_
      refine ho_ev rfl rfl rfl (ev_move rfl rfl) ?_
      refine ho_ge rfl rfl rfl rfl rfl rfl (fun g44 => ?_) (fun g44 => ?_)
      ·skip
       refine ho_nil ?_
       refine hx_then ?_
       refine ht_then rfl ?_
       refine ht_seq ?_
       refine ht_region ?_
       refine ho_ev rfl rfl rfl (by first | exact ev_fieldAddr0 rfl Tryd.fld53_2 rfl | exact ev_fieldAddr rfl Tryd.fld53_2 rfl) ?_
       refine ho_ev rfl rfl rfl (ev_load rfl Tryd.underlying41 rfl rfl (by first | exact cell_pt (by (with_reducible repeat constructor); done) rfl | exact cell_ro (by (with_reducible repeat constructor); done) rfl)) ?_
       refine ho_ev rfl rfl rfl (ev_add (r := ((((number + 1) % 18446744073709551616) : Nat) : Int)) rfl rfl rfl (by exact next_u64 number)) ?_
       refine ho_ev rfl rfl rfl (ev_move rfl rfl) ?_
       refine ho_ev rfl rfl rfl (ev_build1 (csl := [_, _]) rfl Tryd.st71 (.cons rfl (.cons rfl .nil)) (.cons rfl (.cons rfl .nil)) rfl rfl) ?_
       refine ho_eff rfl rfl rfl (eff_call rfl rfl (.cons rfl .nil) rfl (ref_RPut ((number + 1) % 18446744073709551616) body (Nat.mod_lt _ (by decide)) (by omega)) (by repeat (first | exact Picks.nil | (apply Picks.ro; focus ((with_reducible repeat constructor); done)) | (apply Picks.cons; focus ((with_reducible repeat constructor); done)))) (fun _ => by repeat (first | exact App.nil | apply App.cons))) (fun _ => ?_)
       refine ho_ev rfl rfl rfl (ev_move rfl rfl) ?_
       refine ho_ev rfl rfl rfl (ev_extract rfl rfl rfl) ?_
       refine ho_ev rfl rfl rfl (ev_extract rfl rfl rfl) ?_
       refine ho_ev rfl rfl rfl (ev_assign rfl rfl) ?_
       refine ho_ev rfl rfl rfl (ev_assign rfl rfl) ?_
       refine ho_nil ?_
       refine hx_then ?_
       refine ht_seq ?_
       refine ht_region ?_
       refine ho_ev rfl rfl rfl (ev_loadA rfl Tryd.underlying49 Tryd.ty49 rfl rfl (by first | exact cells_pt (by (with_reducible repeat constructor); done) (Nat.le_of_ble_eq_true rfl) (by simp only [List.extract_toArray, List.extract_eq_take_drop, Nat.zero_add, Nat.sub_zero, Nat.add_sub_cancel_left, List.drop_zero, List.take_succ_cons, List.take_zero, List.drop_succ_cons] <;> rfl) | exact cells_ro (by (with_reducible repeat constructor); done) (Nat.le_of_ble_eq_true rfl) (by simp only [List.extract_toArray, List.extract_eq_take_drop, Nat.zero_add, Nat.sub_zero, Nat.add_sub_cancel_left, List.drop_zero, List.take_succ_cons, List.take_zero, List.drop_succ_cons] <;> rfl))) ?_
       refine ho_ev rfl rfl rfl (by first | exact ev_fieldAddr0 rfl Tryd.fld53_0 rfl | exact ev_fieldAddr rfl Tryd.fld53_0 rfl) ?_
       refine ho_ev rfl rfl rfl (ev_load rfl Tryd.underlying3 rfl rfl (by first | exact cell_pt (by (with_reducible repeat constructor); done) rfl | exact cell_ro (by (with_reducible repeat constructor); done) rfl)) ?_
       refine ho_ev rfl rfl rfl (ev_move rfl rfl) ?_
       refine ho_ev rfl rfl rfl (ev_add (r := (k + Rf.rother last)) rfl rfl rfl (by first | (rw [hro, if_pos (by omega)]; exact in_i64 (by omega)) | (rw [hro, if_neg (by omega)]; exact in_i64 (by omega)))) ?_
       refine ho_ev rfl rfl rfl (ev_move rfl rfl) ?_
       refine ho_eff rfl rfl rfl (eff_call rfl rfl (.cons rfl (.cons rfl (.cons rfl .nil))) rfl (rf_Write (r.free (k + Rf.rother last)).sync ⟨y1.va, y1.vc, y1.va, y1.vc, none, 0⟩ (k + Rf.rother last) (Wire.put ((number + 1) % 18446744073709551616) body) (by show (r.free (k + Rf.rother last)).view.length ≤ _; omega) (by show 0 ≤ _; omega) hold2) (by repeat (first | exact Picks.nil | (apply Picks.ro; focus ((repeat constructor); done)) | (apply Picks.cons; focus ((repeat constructor); done)))) (fun _ => by repeat (first | exact App.nil | apply App.cons))) (fun y3 => ?_)
       refine ho_ev rfl rfl rfl (ev_move rfl rfl) ?_
       refine ho_ev rfl rfl rfl (ev_extract rfl rfl rfl) ?_
       refine ho_ev rfl rfl rfl (ev_extract rfl rfl rfl) ?_
       refine ho_eff rfl rfl rfl (eff_alloc rfl Tryd.ty49 (by first | exact cells_agg _ | exact rfl)) (fun b15 => ?_)
       refine ho_eff0 rfl rfl (eff_storeA rfl Tryd.ty49 rfl rfl (by (with_reducible repeat constructor); done) rfl rfl rfl (by simp only [setRange, List.setIfInBounds_toArray, List.set_cons_zero, List.set_cons_succ, Nat.zero_add]; rfl)) (fun _ => ?_)
       refine ho_ev rfl rfl rfl (ev_assign rfl rfl) ?_
       refine ho_nil ?_
       refine hx_then ?_
       refine ht_seq ?_
       refine ht_seq ?_
       refine ht_region ?_
       refine ho_ev rfl rfl rfl (ev_move rfl rfl) ?_
       refine ho_ne rfl rfl rfl rfl rfl rfl (fun g45 => ?_) (fun g45 => ?_)
       ·skip
        refine ho_nil ?_
        refine hx_then ?_
        refine ht_then rfl ?_
        refine ht_seq ?_
        refine ht_draw (.op 0 (.op 1 (.op 2 (.op 3 (.op 4 (.op 5 (.op 6 .done))))))) [3, 4] Tryd.mixed rfl ?_
        refine hd_ev rfl rfl rfl rfl (EvG.of rfl (ev_loadA rfl Tryd.underlying49 Tryd.ty49 rfl rfl (by first | exact cells_pt (by (with_reducible repeat constructor); done) (Nat.le_of_ble_eq_true rfl) (by simp only [List.extract_toArray, List.extract_eq_take_drop, Nat.zero_add, Nat.sub_zero, Nat.add_sub_cancel_left, List.drop_zero, List.take_succ_cons, List.take_zero, List.drop_succ_cons] <;> rfl) | exact cells_ro (by (with_reducible repeat constructor); done) (Nat.le_of_ble_eq_true rfl) (by simp only [List.extract_toArray, List.extract_eq_take_drop, Nat.zero_add, Nat.sub_zero, Nat.add_sub_cancel_left, List.drop_zero, List.take_succ_cons, List.take_zero, List.drop_succ_cons] <;> rfl)))) ?_
        refine hd_ev rfl rfl rfl rfl (EvG.of rfl (ev_loadA rfl Tryd.underlying53 Tryd.ty53 rfl rfl (by first | exact cells_pt (by (with_reducible repeat constructor); done) (Nat.le_of_ble_eq_true rfl) (by simp only [List.extract_toArray, List.extract_eq_take_drop, Nat.zero_add, Nat.sub_zero, Nat.add_sub_cancel_left, List.drop_zero, List.take_succ_cons, List.take_zero, List.drop_succ_cons] <;> rfl) | exact cells_ro (by (with_reducible repeat constructor); done) (Nat.le_of_ble_eq_true rfl) (by simp only [List.extract_toArray, List.extract_eq_take_drop, Nat.zero_add, Nat.sub_zero, Nat.add_sub_cancel_left, List.drop_zero, List.take_succ_cons, List.take_zero, List.drop_succ_cons] <;> rfl)))) ?_
        refine hd_ev rfl rfl rfl rfl (EvG.of rfl (ev_move rfl rfl)) ?_
        refine hd_eff0 rfl rfl rfl rfl (eff_storeA rfl Tryd.ty49 rfl rfl (by (with_reducible repeat constructor); done) rfl rfl rfl (by simp only [setRange, List.setIfInBounds_toArray, List.set_cons_zero, List.set_cons_succ, Nat.zero_add]; rfl)) (fun _ => by (refine FL.ev rfl (EvG.of rfl (ev_move rfl rfl)) ?_); (refine FL.ev rfl (EvG.of rfl (ev_loadA rfl Tryd.underlying53 Tryd.ty53 rfl rfl (by first | exact cells_pt (by (with_reducible repeat constructor); done) (Nat.le_of_ble_eq_true rfl) (by simp only [List.extract_toArray, List.extract_eq_take_drop, Nat.zero_add, Nat.sub_zero, Nat.add_sub_cancel_left, List.drop_zero, List.take_succ_cons, List.take_zero, List.drop_succ_cons] <;> rfl) | exact cells_ro (by (with_reducible repeat constructor); done) (Nat.le_of_ble_eq_true rfl) (by simp only [List.extract_toArray, List.extract_eq_take_drop, Nat.zero_add, Nat.sub_zero, Nat.add_sub_cancel_left, List.drop_zero, List.take_succ_cons, List.take_zero, List.drop_succ_cons] <;> rfl)))) ?_); (refine FL.skip rfl ?_); exact FL.nil) (fun _ => ?_)
        refine hd_eff0 rfl rfl rfl rfl (eff_storeA rfl Tryd.ty53 rfl rfl (by (with_reducible repeat constructor); done) rfl rfl rfl (by simp only [setRange, List.setIfInBounds_toArray, List.set_cons_zero, List.set_cons_succ, Nat.zero_add]; rfl)) (fun _ => by (refine FL.ev rfl (EvG.of rfl (ev_move rfl rfl)) ?_); (refine FL.skip rfl ?_); (refine FL.skip rfl ?_); exact FL.nil) (fun _ => ?_)
        refine hd_ev rfl rfl rfl rfl (EvG.of rfl (ev_assign rfl rfl)) ?_
        refine hd_ev rfl rfl rfl rfl (EvG.of rfl (ev_assign rfl rfl)) ?_
        refine hd_nil ?_
        refine hx_then ?_
        refine ht_ret ?_
        refine hx_through trivial ?_
        refine hx_through trivial ?_
        have hw : (r.free (k + Rf.rother last)).sync.werr (k + Rf.rother last) (Wire.put ((number + 1) % 18446744073709551616) body) ≠ 0 := by omega
        have hww : (r.free (k + Rf.rother last)).sync.write (k + Rf.rother last) (Wire.put ((number + 1) % 18446744073709551616) body) = (r.free (k + Rf.rother last)).sync := by unfold Rf.RDisk.write; rw [if_neg hw]
        have hR : (Rf.rsteps r k number last body n) = ⟨(r.free (k + Rf.rother last)).sync, false, (r.free (k + Rf.rother last)).sync.werr (k + Rf.rother last) (Wire.put ((number + 1) % 18446744073709551616) body), number, last⟩ := by unfold Rf.rsteps; rw [if_neg (by omega), if_neg (by omega), if_neg (by omega), if_neg (by omega), if_pos hw]
        rw [hR]
        rw [hww]
        exact hx_ret4A (.inl rfl) rfl rfl rfl rfl rfl Tryd.underlying49 Tryd.ty49 rfl (cells_pt (by (with_reducible repeat constructor); done) (Nat.le_of_ble_eq_true rfl) rfl) Tryd.underlying53 Tryd.ty53 rfl (cells_pt (by (with_reducible repeat constructor); done) (Nat.le_of_ble_eq_true rfl) rfl) y3 rfl (Ent.roD (by (with_reducible repeat constructor); done) (Ent.cons (by (repeat constructor); done) Ent.nil))
       ·skip
        refine ho_nil ?_
        refine hx_then ?_
        refine ht_else rfl ?_
        refine ht_skip ?_
        refine hx_then ?_
        refine ht_region ?_
        refine ho_ev rfl rfl rfl (ev_loadA rfl Tryd.underlying49 Tryd.ty49 rfl rfl (by first | exact cells_pt (by (with_reducible repeat constructor); done) (Nat.le_of_ble_eq_true rfl) (by simp only [List.extract_toArray, List.extract_eq_take_drop, Nat.zero_add, Nat.sub_zero, Nat.add_sub_cancel_left, List.drop_zero, List.take_succ_cons, List.take_zero, List.drop_succ_cons] <;> rfl) | exact cells_ro (by (with_reducible repeat constructor); done) (Nat.le_of_ble_eq_true rfl) (by simp only [List.extract_toArray, List.extract_eq_take_drop, Nat.zero_add, Nat.sub_zero, Nat.add_sub_cancel_left, List.drop_zero, List.take_succ_cons, List.take_zero, List.drop_succ_cons] <;> rfl))) ?_
        refine ho_eff0 rfl rfl (eff_storeA rfl Tryd.ty49 rfl rfl (by (with_reducible repeat constructor); done) rfl rfl rfl (by simp only [setRange, List.setIfInBounds_toArray, List.set_cons_zero, List.set_cons_succ, Nat.zero_add]; rfl)) (fun _ => ?_)
        refine ho_nil ?_
        refine hx_then ?_
        refine ht_seq ?_
        refine ht_seq ?_
        refine ht_region ?_
        refine ho_ev rfl rfl rfl (ev_move rfl rfl) ?_
        refine ho_ge rfl rfl rfl rfl rfl rfl (fun g46 => ?_) (fun g46 => ?_)
        ·skip
         refine ho_nil ?_
         refine hx_then ?_
         refine ht_then rfl ?_
         refine ht_seq ?_
         refine ht_draw (.op 0 (.op 2 (.op 3 (.op 4 (.op 5 (.op 6 (.op 7 (.op 8 (.op 1 (.op 9 (.op 10 (.op 11 (.op 12 .done))))))))))))) [1, 9, 10] Tryd.mixed rfl ?_
         refine hd_ev rfl rfl rfl rfl (EvG.of rfl (ev_loadA rfl Tryd.underlying49 Tryd.ty49 rfl rfl (by first | exact cells_pt (by (with_reducible repeat constructor); done) (Nat.le_of_ble_eq_true rfl) (by simp only [List.extract_toArray, List.extract_eq_take_drop, Nat.zero_add, Nat.sub_zero, Nat.add_sub_cancel_left, List.drop_zero, List.take_succ_cons, List.take_zero, List.drop_succ_cons] <;> rfl) | exact cells_ro (by (with_reducible repeat constructor); done) (Nat.le_of_ble_eq_true rfl) (by simp only [List.extract_toArray, List.extract_eq_take_drop, Nat.zero_add, Nat.sub_zero, Nat.add_sub_cancel_left, List.drop_zero, List.take_succ_cons, List.take_zero, List.drop_succ_cons] <;> rfl)))) ?_
         refine hd_ev rfl rfl rfl rfl (EvG.of rfl (by first | exact ev_fieldAddr0 rfl Tryd.fld53_0 rfl | exact ev_fieldAddr rfl Tryd.fld53_0 rfl)) ?_
         refine hd_ev rfl rfl rfl rfl (EvG.of rfl (ev_load rfl Tryd.underlying3 rfl rfl (by first | exact cell_pt (by (with_reducible repeat constructor); done) rfl | exact cell_ro (by (with_reducible repeat constructor); done) rfl))) ?_
         refine hd_ev rfl rfl rfl rfl (EvG.of rfl (ev_move rfl rfl)) ?_
         refine hd_ev rfl rfl rfl rfl (EvG.of rfl (by first | exact ev_fieldAddr0 rfl Tryd.fld53_2 rfl | exact ev_fieldAddr rfl Tryd.fld53_2 rfl)) ?_
         refine hd_ev rfl rfl rfl rfl (EvG.of rfl (ev_load rfl Tryd.underlying41 rfl rfl (by first | exact cell_pt (by (with_reducible repeat constructor); done) rfl | exact cell_ro (by (with_reducible repeat constructor); done) rfl))) ?_
         refine hd_ev rfl rfl rfl rfl (EvG.of rfl (ev_add (r := ((((number + 1) % 18446744073709551616) : Nat) : Int)) rfl rfl rfl (by exact next_u64 number))) ?_
         refine hd_ev rfl rfl rfl rfl (EvG.of rfl (ev_build1 (csl := [_, _, _]) rfl Tryd.st53 (.cons rfl (.cons rfl (.cons rfl .nil))) (.cons rfl (.cons rfl (.cons rfl .nil))) rfl rfl)) ?_
         refine hd_eff rfl rfl rfl rfl rfl (eff_call rfl rfl (.cons rfl .nil) rfl (rf_Sync ((r.free (k + Rf.rother last)).sync.write (k + Rf.rother last) (Wire.put ((number + 1) % 18446744073709551616) body)) y3) (by repeat (first | exact Picks.nil | (apply Picks.ro; focus ((repeat constructor); done)) | (apply Picks.cons; focus ((repeat constructor); done)))) (fun _ => by repeat (first | exact App.nil | apply App.cons))) (fun _ => by (refine FL.ev rfl (EvG.of rfl (ev_build1 (csl := [_, _, _]) rfl Tryd.st53 (.cons rfl (.cons rfl (.cons rfl .nil))) (.cons rfl (.cons rfl (.cons rfl .nil))) rfl rfl)) ?_); (refine FL.ev rfl (EvG.of rfl (ev_add (r := ((((number + 1) % 18446744073709551616) : Nat) : Int)) rfl rfl rfl (by exact next_u64 number))) ?_); (refine FL.ev rfl (EvG.of rfl (ev_load rfl Tryd.underlying41 rfl rfl (by first | exact cell_pt (by (with_reducible repeat constructor); done) rfl | exact cell_ro (by (with_reducible repeat constructor); done) rfl))) ?_); (refine FL.ev rfl (EvG.of rfl (by first | exact ev_fieldAddr0 rfl Tryd.fld53_2 rfl | exact ev_fieldAddr rfl Tryd.fld53_2 rfl)) ?_); (refine FL.ev rfl (EvG.of rfl (ev_move rfl rfl)) ?_); (refine FL.ev rfl (EvG.of rfl (ev_load rfl Tryd.underlying3 rfl rfl (by first | exact cell_pt (by (with_reducible repeat constructor); done) rfl | exact cell_ro (by (with_reducible repeat constructor); done) rfl))) ?_); (refine FL.ev rfl (EvG.of rfl (by first | exact ev_fieldAddr0 rfl Tryd.fld53_0 rfl | exact ev_fieldAddr rfl Tryd.fld53_0 rfl)) ?_); (refine FL.skip rfl ?_); exact FL.nil) (fun _ => ?_)
         refine hd_eff0 rfl rfl rfl rfl (eff_storeA rfl Tryd.ty49 rfl rfl (by (with_reducible repeat constructor); done) rfl rfl rfl (by simp only [setRange, List.setIfInBounds_toArray, List.set_cons_zero, List.set_cons_succ, Nat.zero_add]; rfl)) (fun _ => by (refine FL.ev rfl (EvG.of rfl (ev_build1 (csl := [_, _, _]) rfl Tryd.st53 (.cons rfl (.cons rfl (.cons rfl .nil))) (.cons rfl (.cons rfl (.cons rfl .nil))) rfl rfl)) ?_); (refine FL.ev rfl (EvG.of rfl (ev_add (r := ((((number + 1) % 18446744073709551616) : Nat) : Int)) rfl rfl rfl (by exact next_u64 number))) ?_); (refine FL.ev rfl (EvG.of rfl (ev_load rfl Tryd.underlying41 rfl rfl (by first | exact cell_pt (by (with_reducible repeat constructor); done) rfl | exact cell_ro (by (with_reducible repeat constructor); done) rfl))) ?_); (refine FL.ev rfl (EvG.of rfl (by first | exact ev_fieldAddr0 rfl Tryd.fld53_2 rfl | exact ev_fieldAddr rfl Tryd.fld53_2 rfl)) ?_); (refine FL.ev rfl (EvG.of rfl (ev_move rfl rfl)) ?_); (refine FL.ev rfl (EvG.of rfl (ev_load rfl Tryd.underlying3 rfl rfl (by first | exact cell_pt (by (with_reducible repeat constructor); done) rfl | exact cell_ro (by (with_reducible repeat constructor); done) rfl))) ?_); (refine FL.ev rfl (EvG.of rfl (by first | exact ev_fieldAddr0 rfl Tryd.fld53_0 rfl | exact ev_fieldAddr rfl Tryd.fld53_0 rfl)) ?_); (refine FL.skip rfl ?_); exact FL.nil) (fun _ => ?_)
         refine hd_eff0 rfl rfl rfl rfl (eff_storeA rfl Tryd.ty53 rfl rfl (by (with_reducible repeat constructor); done) rfl rfl rfl (by simp only [setRange, List.setIfInBounds_toArray, List.set_cons_zero, List.set_cons_succ, Nat.zero_add]; rfl)) (fun _ => by (refine FL.skip rfl ?_); (refine FL.skip rfl ?_); (refine FL.skip rfl ?_); (refine FL.skip rfl ?_); (refine FL.skip rfl ?_); (refine FL.skip rfl ?_); (refine FL.skip rfl ?_); (refine FL.skip rfl ?_); exact FL.nil) (fun _ => ?_)
         refine hd_ev rfl rfl rfl rfl (EvG.of rfl (ev_assign rfl rfl)) ?_
         refine hd_ev rfl rfl rfl rfl (EvG.of rfl (ev_assign rfl rfl)) ?_
         refine hd_nil ?_
         refine hx_then ?_
         refine ht_ret ?_
         refine hx_through trivial ?_
         have hw : (r.free (k + Rf.rother last)).sync.werr (k + Rf.rother last) (Wire.put ((number + 1) % 18446744073709551616) body) = 0 := by omega
         have hR : (Rf.rsteps r k number last body n) = ⟨((r.free (k + Rf.rother last)).sync.write (k + Rf.rother last) (Wire.put ((number + 1) % 18446744073709551616) body)).sync, true, 0, ((number + 1) % 18446744073709551616), Rf.rother last⟩ := by unfold Rf.rsteps; rw [if_neg (by omega), if_neg (by omega), if_neg (by omega), if_neg (by omega), if_neg (by rw [hw]; exact fun h => h rfl), if_neg (by omega)]
         rw [hR]
         exact hx_ret4A (.inl rfl) rfl rfl rfl rfl rfl Tryd.underlying49 Tryd.ty49 rfl (cells_pt (by (with_reducible repeat constructor); done) (Nat.le_of_ble_eq_true rfl) rfl) Tryd.underlying53 Tryd.ty53 rfl (cells_pt (by (with_reducible repeat constructor); done) (Nat.le_of_ble_eq_true rfl) rfl) ⟨y3.va, y3.vc, y3.va, y3.vc, none, 0⟩ (by rw [show Rf.rother last = 0 from hro.trans (if_neg (by omega))]; rfl) (Ent.roD (by (with_reducible repeat constructor); done) (Ent.cons (by (repeat constructor); done) Ent.nil))
        ·omega
      ·omega
     ·omega
    ·omega
end Go.Proofs.YtlejcepbcfijiaaDoor
