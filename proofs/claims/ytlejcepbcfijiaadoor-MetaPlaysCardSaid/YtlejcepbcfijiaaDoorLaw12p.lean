/-
  LAW 12 (meta): the walk of MetaPlays. Conditions: as the contract says.
-/
import Derived.Test.YtlejcepbcfijiaaDoorLaw12
import Derived.Test.YtlejcepbcfijiaaDoorRefe
set_option maxRecDepth 100000
set_option linter.unusedVariables false
set_option linter.unusedSimpArgs false
namespace Go.Proofs.YtlejcepbcfijiaaDoor
open Go Go.SL

theorem law_MetaPlays (size k : Int) (a : Option Addr) (c : Nat) (xs : List ActV) (ms : List Dk.MAct) : Ctr Tryd.prog 5 #[.int .i64 size, .int .i64 k, .slice a xs.length c] [ro bitsR, ro (roS a xs.length xs), ro (actsR xs ms)] (fun _ : Unit => .bool true) (fun _ => []) := by
 refine fn_intro Tryd.func5 rfl rfl Tryd.ntmps5 (Nat.le_of_ble_eq_true rfl) (fun _ => by repeat (first | exact App.nil | apply App.cons)) (fun κ F => ?_)
 refine ht_actsLen (xs := xs) (ms := ms) (by (with_reducible repeat constructor); done) (fun hlen => ?_)
 rcases (show (size < 1 ∨ 65536 < size) ∨ ((1 ≤ size ∧ size ≤ 65536) ∧ (k < 0 ∨ 65534 < k)) ∨ ((1 ≤ size ∧ size ≤ 65536) ∧ (0 ≤ k ∧ k ≤ 65534)) by omega) with hn | ⟨hn, hb⟩ | ⟨hn, hb⟩
 ·skip
  refine ht_seq ?_
  refine ht_region ?_
  refine ho_ev rfl rfl rfl (ev_assign rfl rfl) ?_
  refine ho_nil ?_
  refine hx_then ?_
  refine ht_seq ?_
  refine ht_region ?_
  refine ho_ev rfl rfl rfl (ev_move rfl rfl) ?_
  refine ho_eff rfl rfl rfl (eff_call rfl rfl (.cons rfl .nil) rfl (disk_New_no size hn) (by repeat (first | exact Picks.nil | (apply Picks.ro; focus ((with_reducible repeat constructor); done)) | (apply Picks.cons; focus ((with_reducible repeat constructor); done)))) (fun _ => by repeat (first | exact App.nil | apply App.cons))) (fun _ => ?_)
  refine ho_ev rfl rfl rfl (ev_move rfl rfl) ?_
  refine ho_ev rfl rfl rfl (ev_extract rfl rfl rfl) ?_
  refine ho_ev rfl rfl rfl (ev_extract rfl rfl rfl) ?_
  refine ho_ev rfl rfl rfl (ev_assign rfl rfl) ?_
  refine ho_ev rfl rfl rfl (ev_assign rfl rfl) ?_
  refine ho_nil ?_
  refine hx_then ?_
  refine ht_seq ?_
  refine ht_region ?_
  refine ho_ev rfl rfl rfl (ev_move rfl rfl) ?_
  refine ho_eff rfl rfl rfl (eff_call rfl rfl (.cons rfl .nil) rfl (rf_New_no size hn) (by repeat (first | exact Picks.nil | (apply Picks.ro; focus ((with_reducible repeat constructor); done)) | (apply Picks.cons; focus ((with_reducible repeat constructor); done)))) (fun _ => by repeat (first | exact App.nil | apply App.cons))) (fun _ => ?_)
  refine ho_ev rfl rfl rfl (ev_move rfl rfl) ?_
  refine ho_ev rfl rfl rfl (ev_extract rfl rfl rfl) ?_
  refine ho_ev rfl rfl rfl (ev_extract rfl rfl rfl) ?_
  refine ho_eff rfl rfl rfl (eff_alloc rfl Tryd.ty49 (by first | exact cells_agg _ | exact rfl)) (fun b9 => ?_)
  refine ho_eff0 rfl rfl (eff_storeA rfl Tryd.ty49 rfl rfl (by (with_reducible repeat constructor); done) rfl rfl rfl (by simp only [setRange, List.setIfInBounds_toArray, List.set_cons_zero, List.set_cons_succ, Nat.zero_add]; rfl)) (fun _ => ?_)
  refine ho_ev rfl rfl rfl (ev_assign rfl rfl) ?_
  refine ho_nil ?_
  refine hx_then ?_
  refine ht_seq ?_
  refine ht_seq ?_
  refine ht_region ?_
  refine ho_eff rfl rfl rfl (eff_call rfl rfl .nil rfl (law_awake12) (by repeat (first | exact Picks.nil | (apply Picks.ro; focus ((with_reducible repeat constructor); done)) | (apply Picks.cons; focus ((with_reducible repeat constructor); done)))) (fun _ => by repeat (first | exact App.nil | apply App.cons))) (fun _ => ?_)
  refine ho_bool (t := 41) rfl (fun g1 => ?_) (fun g1 => ?_)
  ·skip
   refine ho_ev rfl rfl rfl (ev_not rfl rfl) ?_
   refine ho_ev rfl rfl rfl (ev_move rfl rfl) ?_
   refine ho_evg rfl rfl rfl rfl (ev_move rfl rfl) ?_
   refine ho_evg rfl rfl rfl rfl (ev_move rfl rfl) ?_
   refine ho_neg rfl rfl rfl rfl rfl rfl rfl (fun g2 => ?_) (fun g2 => ?_)
   ·omega
   ·skip
    refine ho_ev rfl rfl rfl (ev_pick_f rfl rfl rfl) ?_
    refine ho_ev rfl rfl rfl (ev_move rfl rfl) ?_
    refine ho_evg rfl rfl rfl rfl (ev_move rfl rfl) ?_
    refine ho_neg rfl rfl rfl rfl rfl rfl rfl (fun g3 => ?_) (fun g3 => ?_)
    ·skip
     refine ho_ev rfl rfl rfl (ev_pick_f rfl rfl rfl) ?_
     refine ho_ev rfl rfl rfl (ev_move rfl rfl) ?_
     refine ho_pass rfl rfl rfl rfl ?_
     refine ho_pass rfl rfl rfl rfl ?_
     refine ho_ev rfl rfl rfl (ev_pick_t rfl rfl rfl) ?_
     refine ho_nil ?_
     refine hx_then ?_
     refine ht_then rfl ?_
     refine ht_seq ?_
     refine ht_region ?_
     refine ho_eff rfl rfl rfl (eff_call rfl rfl .nil rfl (law_awake12) (by repeat (first | exact Picks.nil | (apply Picks.ro; focus ((with_reducible repeat constructor); done)) | (apply Picks.cons; focus ((with_reducible repeat constructor); done)))) (fun _ => by repeat (first | exact App.nil | apply App.cons))) (fun _ => ?_)
     refine ho_ev rfl rfl rfl (ev_move rfl rfl) ?_
     refine ho_bool (t := 57) rfl (fun g4 => ?_) (fun g4 => ?_)
     ·skip
      refine ho_evg rfl rfl rfl rfl (ev_move rfl rfl) ?_
      refine ho_evg rfl rfl rfl rfl (ev_move rfl rfl) ?_
      refine ho_eqg rfl rfl rfl rfl rfl rfl rfl (fun g5 => ?_) (fun g5 => ?_)
      ·skip
       refine ho_ev rfl rfl rfl (ev_pick_t rfl rfl rfl) ?_
       refine ho_ev rfl rfl rfl (ev_assign rfl rfl) ?_
       refine ho_nil ?_
       refine hx_then ?_
       refine ht_ret ?_
       refine hx_through trivial ?_
       exact hx_ret1 (.inl rfl) rfl rfl () rfl (Ent.cons (by (repeat constructor); done) Ent.nil)
      ·omega
     ·simp at g4
    ·omega
  ·simp at g1
 ·skip
  have hkb : k < 0 ∨ 65534 < k := by omega
  refine ht_seq ?_
  refine ht_region ?_
  refine ho_ev rfl rfl rfl (ev_assign rfl rfl) ?_
  refine ho_nil ?_
  refine hx_then ?_
  refine ht_seq ?_
  refine ht_region ?_
  refine ho_ev rfl rfl rfl (ev_move rfl rfl) ?_
  refine ho_eff rfl rfl rfl (eff_call rfl rfl (.cons rfl .nil) rfl (disk_New size (by omega)) (by repeat (first | exact Picks.nil | (apply Picks.ro; focus ((with_reducible repeat constructor); done)) | (apply Picks.cons; focus ((with_reducible repeat constructor); done)))) (fun _ => by repeat (first | exact App.nil | apply App.cons))) (fun b0 => ?_)
  refine ho_ev rfl rfl rfl (ev_move rfl rfl) ?_
  refine ho_ev rfl rfl rfl (ev_extract rfl rfl rfl) ?_
  refine ho_ev rfl rfl rfl (ev_extract rfl rfl rfl) ?_
  refine ho_ev rfl rfl rfl (ev_assign rfl rfl) ?_
  refine ho_ev rfl rfl rfl (ev_assign rfl rfl) ?_
  refine ho_nil ?_
  refine hx_then ?_
  refine ht_seq ?_
  refine ht_region ?_
  refine ho_ev rfl rfl rfl (ev_move rfl rfl) ?_
  refine ho_eff rfl rfl rfl (eff_call rfl rfl (.cons rfl .nil) rfl (rf_New size (by omega)) (by repeat (first | exact Picks.nil | (apply Picks.ro; focus ((with_reducible repeat constructor); done)) | (apply Picks.cons; focus ((with_reducible repeat constructor); done)))) (fun _ => by repeat (first | exact App.nil | apply App.cons))) (fun _ => ?_)
  refine ho_ev rfl rfl rfl (ev_move rfl rfl) ?_
  refine ho_ev rfl rfl rfl (ev_extract rfl rfl rfl) ?_
  refine ho_ev rfl rfl rfl (ev_extract rfl rfl rfl) ?_
  refine ho_eff rfl rfl rfl (eff_alloc rfl Tryd.ty49 (by first | exact cells_agg _ | exact rfl)) (fun b9 => ?_)
  refine ho_eff0 rfl rfl (eff_storeA rfl Tryd.ty49 rfl rfl (by (with_reducible repeat constructor); done) rfl rfl rfl (by simp only [setRange, List.setIfInBounds_toArray, List.set_cons_zero, List.set_cons_succ, Nat.zero_add]; rfl)) (fun _ => ?_)
  refine ho_ev rfl rfl rfl (ev_assign rfl rfl) ?_
  refine ho_nil ?_
  refine hx_then ?_
  refine ht_seq ?_
  refine ht_seq ?_
  refine ht_region ?_
  refine ho_eff rfl rfl rfl (eff_call rfl rfl .nil rfl (law_awake12) (by repeat (first | exact Picks.nil | (apply Picks.ro; focus ((with_reducible repeat constructor); done)) | (apply Picks.cons; focus ((with_reducible repeat constructor); done)))) (fun _ => by repeat (first | exact App.nil | apply App.cons))) (fun _ => ?_)
  refine ho_bool (t := 41) rfl (fun g1 => ?_) (fun g1 => ?_)
  ·skip
   refine ho_ev rfl rfl rfl (ev_not rfl rfl) ?_
   refine ho_ev rfl rfl rfl (ev_move rfl rfl) ?_
   refine ho_evg rfl rfl rfl rfl (ev_move rfl rfl) ?_
   refine ho_evg rfl rfl rfl rfl (ev_move rfl rfl) ?_
   refine ho_neg rfl rfl rfl rfl rfl rfl rfl (fun g2 => ?_) (fun g2 => ?_)
   ·omega
   ·skip
    refine ho_ev rfl rfl rfl (ev_pick_f rfl rfl rfl) ?_
    refine ho_ev rfl rfl rfl (ev_move rfl rfl) ?_
    refine ho_evg rfl rfl rfl rfl (ev_move rfl rfl) ?_
    refine ho_neg rfl rfl rfl rfl rfl rfl rfl (fun g3 => ?_) (fun g3 => ?_)
    ·omega
    ·skip
     refine ho_ev rfl rfl rfl (ev_pick_f rfl rfl rfl) ?_
     refine ho_ev rfl rfl rfl (ev_move rfl rfl) ?_
     refine ho_evg rfl rfl rfl rfl (ev_move rfl rfl) ?_
     refine ho_evg rfl rfl rfl rfl (ev_ptrNil rfl Tryd.underlying23 rfl rfl rfl) ?_
     refine ho_ev rfl rfl rfl (ev_pick_f rfl rfl rfl) ?_
     refine ho_nil ?_
     refine hx_then ?_
     refine ht_bool (t := 55) rfl (fun g4 => ?_) (fun g4 => ?_)
     ·simp at g4
     ·skip
      refine ht_else rfl ?_
      refine ht_skip ?_
      refine hx_then ?_
      refine ht_seq ?_
      refine ht_region ?_
      refine ho_ev rfl rfl rfl (ev_move rfl rfl) ?_
      refine ho_ev rfl rfl rfl (ev_move rfl rfl) ?_
      refine ho_eff rfl rfl rfl (eff_call rfl rfl (.cons rfl (.cons rfl .nil)) rfl (meta_Open_no b0 (Dk.Disk.new size) k hkb) (by repeat (first | exact Picks.nil | (apply Picks.ro; focus ((with_reducible repeat constructor); done)) | (apply Picks.cons; focus ((with_reducible repeat constructor); done)))) (fun _ => by repeat (first | exact App.nil | apply App.cons))) (fun _ => ?_)
      refine ho_ev rfl rfl rfl (ev_move rfl rfl) ?_
      refine ho_ev rfl rfl rfl (ev_extract rfl rfl rfl) ?_
      refine ho_ev rfl rfl rfl (ev_extract rfl rfl rfl) ?_
      refine ho_ev rfl rfl rfl (ev_extract rfl rfl rfl) ?_
      refine ho_ev rfl rfl rfl (ev_assign rfl rfl) ?_
      refine ho_ev rfl rfl rfl (ev_assign rfl rfl) ?_
      refine ho_ev rfl rfl rfl (ev_assign rfl rfl) ?_
      refine ho_nil ?_
      refine hx_then ?_
      refine ht_seq ?_
      refine ht_region ?_
      refine ho_ev rfl rfl rfl (ev_loadA rfl Tryd.underlying49 Tryd.ty49 rfl rfl (by first | exact cells_pt (by (with_reducible repeat constructor); done) (Nat.le_of_ble_eq_true rfl) (by simp only [List.extract_toArray, List.extract_eq_take_drop, Nat.zero_add, Nat.sub_zero, Nat.add_sub_cancel_left, List.drop_zero, List.take_succ_cons, List.take_zero, List.drop_succ_cons] <;> rfl) | exact cells_ro (by (with_reducible repeat constructor); done) (Nat.le_of_ble_eq_true rfl) (by simp only [List.extract_toArray, List.extract_eq_take_drop, Nat.zero_add, Nat.sub_zero, Nat.add_sub_cancel_left, List.drop_zero, List.take_succ_cons, List.take_zero, List.drop_succ_cons] <;> rfl))) ?_
      refine ho_ev rfl rfl rfl (ev_move rfl rfl) ?_
      refine ho_eff rfl rfl rfl (eff_call rfl rfl (.cons rfl (.cons rfl .nil)) rfl (rf_Open_no (Rf.RDisk.new size) ⟨none, 0, none, 0, none, 0⟩ k hkb) (by repeat (first | exact Picks.nil | (apply Picks.ro; focus ((with_reducible repeat constructor); done)) | (apply Picks.cons; focus ((with_reducible repeat constructor); done)))) (fun _ => by repeat (first | exact App.nil | apply App.cons))) (fun _ => ?_)
      refine ho_ev rfl rfl rfl (ev_move rfl rfl) ?_
      refine ho_ev rfl rfl rfl (ev_extract rfl rfl rfl) ?_
      refine ho_ev rfl rfl rfl (ev_extract rfl rfl rfl) ?_
      refine ho_ev rfl rfl rfl (ev_extract rfl rfl rfl) ?_
      refine ho_eff rfl rfl rfl (eff_alloc rfl Tryd.ty53 (by first | exact cells_agg _ | exact rfl)) (fun b14 => ?_)
      refine ho_eff0 rfl rfl (eff_storeA rfl Tryd.ty53 rfl rfl (by (with_reducible repeat constructor); done) rfl rfl rfl (by simp only [setRange, List.setIfInBounds_toArray, List.set_cons_zero, List.set_cons_succ, Nat.zero_add]; rfl)) (fun _ => ?_)
      refine ho_ev rfl rfl rfl (ev_assign rfl rfl) ?_
      refine ho_ev rfl rfl rfl (ev_assign rfl rfl) ?_
      refine ho_nil ?_
      refine hx_then ?_
      refine ht_seq ?_
      refine ht_seq ?_
      refine ht_region ?_
      refine ho_ev rfl rfl rfl (ev_move rfl rfl) ?_
      refine ho_ev rfl rfl rfl (ev_move rfl rfl) ?_
      refine ho_ne rfl rfl rfl rfl rfl rfl (fun g5 => ?_) (fun g5 => ?_)
      ·omega
      ·skip
       refine ho_ev rfl rfl rfl (ev_move rfl rfl) ?_
       refine ho_evg rfl rfl rfl rfl (ev_move rfl rfl) ?_
       refine ho_evg rfl rfl rfl rfl (ev_move rfl rfl) ?_
       refine ho_neSg rfl rfl rfl rfl rfl rfl rfl (fun g6 => ?_) (fun g6 => ?_)
       ·simp at g6
       ·skip
        refine ho_ev rfl rfl rfl (ev_pick_f rfl rfl rfl) ?_
        refine ho_ev rfl rfl rfl (ev_move rfl rfl) ?_
        refine ho_evg rfl rfl rfl rfl (ev_move rfl rfl) ?_
        refine ho_evg rfl rfl rfl rfl (ev_ptrNil rfl Tryd.underlying28 rfl rfl rfl) ?_
        refine ho_evg rfl rfl rfl rfl (ev_move rfl rfl) ?_
        refine ho_eqg rfl rfl rfl rfl rfl rfl rfl (fun g7 => ?_) (fun g7 => ?_)
        ·skip
         refine ho_bool (t := 86) rfl (fun g8 => ?_) (fun g8 => ?_)
         ·skip
          refine ho_evg rfl rfl rfl rfl (ev_cmpB rfl Tryd.underlying4 rfl rfl rfl) ?_
          refine ho_ev rfl rfl rfl (ev_pick_f rfl rfl rfl) ?_
          refine ho_nil ?_
          refine hx_then ?_
          refine ht_else rfl ?_
          refine ht_skip ?_
          refine hx_then ?_
          refine ht_seq ?_
          refine ht_seq ?_
          refine ht_region ?_
          refine ho_ev rfl rfl rfl (ev_assign rfl rfl) ?_
          refine ho_nil ?_
          refine hx_then ?_
          refine ht_block ?_
          refine ht_loop (fun q : Unit => ([F], [(2, .slice a xs.length c), (11, .pointer none), (17, .int .i64 0)])) (fun q : Unit => 0) () ?_ (by repeat (first | exact EnvSub.nil _ | (refine EnvSub.cons rfl ?_))) (fun q => ?_)
          ·(first | dsimp only | skip)
           exact (Ent.cons (by (repeat constructor); done) Ent.nil)
          obtain q := q
          dsimp only
          refine ht_seq ?_
          refine ht_seq ?_
          refine ht_region ?_
          refine ho_ev rfl rfl rfl (ev_move rfl rfl) ?_
          refine ho_ev rfl rfl rfl (ev_move rfl rfl) ?_
          refine ho_ev rfl rfl rfl (ev_lenSl rfl Tryd.underlying22 rfl) ?_
          refine ho_lt rfl rfl rfl rfl rfl rfl (fun g9 => ?_) (fun g9 => ?_)
          ·skip
           refine ho_ev rfl rfl rfl (ev_move rfl rfl) ?_
           refine ho_evg rfl rfl rfl rfl (ev_move rfl rfl) ?_
           refine ho_ltg rfl rfl rfl rfl rfl rfl rfl (fun g10 => ?_) (fun g10 => ?_)
           ·skip
            refine ho_ev rfl rfl rfl (ev_pick_t rfl rfl rfl) ?_
            refine ho_ev rfl rfl rfl (ev_move rfl rfl) ?_
            refine ho_evg rfl rfl rfl rfl (ev_move rfl rfl) ?_
            refine ho_evg rfl rfl rfl rfl (ev_ptrNil rfl Tryd.underlying28 rfl rfl rfl) ?_
            refine ho_ev rfl rfl rfl (ev_pick_t rfl rfl rfl) ?_
            refine ho_nil ?_
            refine hx_then ?_
            refine ht_bool (t := 102) rfl (fun g11 => ?_) (fun g11 => ?_)
            ·simp at g11
            ·skip
             refine ht_else rfl ?_
             refine ht_exit ?_
             refine hx_through trivial ?_
             refine hx_through trivial ?_
             refine hx_block_here ?_
             refine hx_then ?_
             refine ht_seq ?_
             refine ht_region ?_
             refine ho_ev rfl rfl rfl (ev_assign rfl rfl) ?_
             refine ho_nil ?_
             refine hx_then ?_
             refine ht_ret ?_
             exact hx_ret1 (.inl rfl) rfl rfl () rfl (Ent.cons (by (repeat constructor); done) Ent.nil)
           ·omega
          ·skip
           refine ho_ev rfl rfl rfl (ev_move rfl rfl) ?_
           refine ho_pass rfl rfl rfl rfl ?_
           refine ho_pass rfl rfl rfl rfl ?_
           refine ho_ev rfl rfl rfl (ev_pick_f rfl rfl rfl) ?_
           refine ho_ev rfl rfl rfl (ev_move rfl rfl) ?_
           refine ho_pass rfl rfl rfl rfl ?_
           refine ho_pass rfl rfl rfl rfl ?_
           refine ho_ev rfl rfl rfl (ev_pick_f rfl rfl rfl) ?_
           refine ho_nil ?_
           refine hx_then ?_
           refine ht_else rfl ?_
           refine ht_exit ?_
           refine hx_through trivial ?_
           refine hx_through trivial ?_
           refine hx_block_here ?_
           refine hx_then ?_
           refine ht_seq ?_
           refine ht_region ?_
           refine ho_ev rfl rfl rfl (ev_assign rfl rfl) ?_
           refine ho_nil ?_
           refine hx_then ?_
           refine ht_ret ?_
           exact hx_ret1 (.inl rfl) rfl rfl () rfl (Ent.cons (by (repeat constructor); done) Ent.nil)
         ·simp at g8
        ·omega
  ·simp at g1
 ·skip
  have hk : 0 ≤ k ∧ k ≤ 65534 := by omega
  refine ht_seq ?_
  refine ht_region ?_
  refine ho_ev rfl rfl rfl (ev_assign rfl rfl) ?_
  refine ho_nil ?_
  refine hx_then ?_
  refine ht_seq ?_
  refine ht_region ?_
  refine ho_ev rfl rfl rfl (ev_move rfl rfl) ?_
  refine ho_eff rfl rfl rfl (eff_call rfl rfl (.cons rfl .nil) rfl (disk_New size (by omega)) (by repeat (first | exact Picks.nil | (apply Picks.ro; focus ((with_reducible repeat constructor); done)) | (apply Picks.cons; focus ((with_reducible repeat constructor); done)))) (fun _ => by repeat (first | exact App.nil | apply App.cons))) (fun b0 => ?_)
  refine ho_ev rfl rfl rfl (ev_move rfl rfl) ?_
  refine ho_ev rfl rfl rfl (ev_extract rfl rfl rfl) ?_
  refine ho_ev rfl rfl rfl (ev_extract rfl rfl rfl) ?_
  refine ho_ev rfl rfl rfl (ev_assign rfl rfl) ?_
  refine ho_ev rfl rfl rfl (ev_assign rfl rfl) ?_
  refine ho_nil ?_
  refine hx_then ?_
  refine ht_seq ?_
  refine ht_region ?_
  refine ho_ev rfl rfl rfl (ev_move rfl rfl) ?_
  refine ho_eff rfl rfl rfl (eff_call rfl rfl (.cons rfl .nil) rfl (rf_New size (by omega)) (by repeat (first | exact Picks.nil | (apply Picks.ro; focus ((with_reducible repeat constructor); done)) | (apply Picks.cons; focus ((with_reducible repeat constructor); done)))) (fun _ => by repeat (first | exact App.nil | apply App.cons))) (fun _ => ?_)
  refine ho_ev rfl rfl rfl (ev_move rfl rfl) ?_
  refine ho_ev rfl rfl rfl (ev_extract rfl rfl rfl) ?_
  refine ho_ev rfl rfl rfl (ev_extract rfl rfl rfl) ?_
  refine ho_eff rfl rfl rfl (eff_alloc rfl Tryd.ty49 (by first | exact cells_agg _ | exact rfl)) (fun b9 => ?_)
  refine ho_eff0 rfl rfl (eff_storeA rfl Tryd.ty49 rfl rfl (by (with_reducible repeat constructor); done) rfl rfl rfl (by simp only [setRange, List.setIfInBounds_toArray, List.set_cons_zero, List.set_cons_succ, Nat.zero_add]; rfl)) (fun _ => ?_)
  refine ho_ev rfl rfl rfl (ev_assign rfl rfl) ?_
  refine ho_nil ?_
  refine hx_then ?_
  refine ht_seq ?_
  refine ht_seq ?_
  refine ht_region ?_
  refine ho_eff rfl rfl rfl (eff_call rfl rfl .nil rfl (law_awake12) (by repeat (first | exact Picks.nil | (apply Picks.ro; focus ((with_reducible repeat constructor); done)) | (apply Picks.cons; focus ((with_reducible repeat constructor); done)))) (fun _ => by repeat (first | exact App.nil | apply App.cons))) (fun _ => ?_)
  refine ho_bool (t := 41) rfl (fun g1 => ?_) (fun g1 => ?_)
  ·skip
   refine ho_ev rfl rfl rfl (ev_not rfl rfl) ?_
   refine ho_ev rfl rfl rfl (ev_move rfl rfl) ?_
   refine ho_evg rfl rfl rfl rfl (ev_move rfl rfl) ?_
   refine ho_evg rfl rfl rfl rfl (ev_move rfl rfl) ?_
   refine ho_neg rfl rfl rfl rfl rfl rfl rfl (fun g2 => ?_) (fun g2 => ?_)
   ·omega
   ·skip
    refine ho_ev rfl rfl rfl (ev_pick_f rfl rfl rfl) ?_
    refine ho_ev rfl rfl rfl (ev_move rfl rfl) ?_
    refine ho_evg rfl rfl rfl rfl (ev_move rfl rfl) ?_
    refine ho_neg rfl rfl rfl rfl rfl rfl rfl (fun g3 => ?_) (fun g3 => ?_)
    ·omega
    ·skip
     refine ho_ev rfl rfl rfl (ev_pick_f rfl rfl rfl) ?_
     refine ho_ev rfl rfl rfl (ev_move rfl rfl) ?_
     refine ho_evg rfl rfl rfl rfl (ev_move rfl rfl) ?_
     refine ho_evg rfl rfl rfl rfl (ev_ptrNil rfl Tryd.underlying23 rfl rfl rfl) ?_
     refine ho_ev rfl rfl rfl (ev_pick_f rfl rfl rfl) ?_
     refine ho_nil ?_
     refine hx_then ?_
     refine ht_bool (t := 55) rfl (fun g4 => ?_) (fun g4 => ?_)
     ·simp at g4
     ·skip
      refine ht_else rfl ?_
      refine ht_skip ?_
      refine hx_then ?_
      refine ht_seq ?_
      refine ht_region ?_
      refine ho_ev rfl rfl rfl (ev_move rfl rfl) ?_
      refine ho_ev rfl rfl rfl (ev_move rfl rfl) ?_
      refine ho_eff rfl rfl rfl (eff_call rfl rfl (.cons rfl (.cons rfl .nil)) rfl (meta_Open b0 (Dk.Disk.new size) k hk) (by repeat (first | exact Picks.nil | (apply Picks.ro; focus ((repeat constructor); done)) | (apply Picks.cons; focus ((repeat constructor); done)))) (fun _ => by repeat (first | exact App.nil | apply App.cons))) (fun m0 => ?_)
      rw [show Mt.opened (Dk.Disk.new size).view k = ⟨0, 1, []⟩ from Mt.opened_none rfl rfl]
      dsimp only
      rw [if_pos rfl]
      refine ho_ev rfl rfl rfl (ev_move rfl rfl) ?_
      refine ho_ev rfl rfl rfl (ev_extract rfl rfl rfl) ?_
      refine ho_ev rfl rfl rfl (ev_extract rfl rfl rfl) ?_
      refine ho_ev rfl rfl rfl (ev_extract rfl rfl rfl) ?_
      refine ho_ev rfl rfl rfl (ev_assign rfl rfl) ?_
      refine ho_ev rfl rfl rfl (ev_assign rfl rfl) ?_
      refine ho_ev rfl rfl rfl (ev_assign rfl rfl) ?_
      refine ho_nil ?_
      refine hx_then ?_
      refine ht_seq ?_
      refine ht_region ?_
      refine ho_ev rfl rfl rfl (ev_loadA rfl Tryd.underlying49 Tryd.ty49 rfl rfl (by first | exact cells_pt (by (with_reducible repeat constructor); done) (Nat.le_of_ble_eq_true rfl) (by simp only [List.extract_toArray, List.extract_eq_take_drop, Nat.zero_add, Nat.sub_zero, Nat.add_sub_cancel_left, List.drop_zero, List.take_succ_cons, List.take_zero, List.drop_succ_cons] <;> rfl) | exact cells_ro (by (with_reducible repeat constructor); done) (Nat.le_of_ble_eq_true rfl) (by simp only [List.extract_toArray, List.extract_eq_take_drop, Nat.zero_add, Nat.sub_zero, Nat.add_sub_cancel_left, List.drop_zero, List.take_succ_cons, List.take_zero, List.drop_succ_cons] <;> rfl))) ?_
      refine ho_ev rfl rfl rfl (ev_move rfl rfl) ?_
      refine ho_eff rfl rfl rfl (eff_call rfl rfl (.cons rfl (.cons rfl .nil)) rfl (rf_Open (Rf.RDisk.new size) ⟨none, 0, none, 0, none, 0⟩ k hk (by show 0 ≤ _; omega) (fun y hy => by cases hy)) (by repeat (first | exact Picks.nil | (apply Picks.ro; focus ((repeat constructor); done)) | (apply Picks.cons; focus ((repeat constructor); done)))) (fun _ => by repeat (first | exact App.nil | apply App.cons))) (fun _ => ?_)
      rw [show Mt.opened (fun i => Rf.rfind (Rf.RDisk.new size).view i) k = ⟨0, 1, []⟩ from Mt.opened_none rfl rfl]
      dsimp only
      rw [if_pos rfl]
      refine ho_ev rfl rfl rfl (ev_move rfl rfl) ?_
      refine ho_ev rfl rfl rfl (ev_extract rfl rfl rfl) ?_
      refine ho_ev rfl rfl rfl (ev_extract rfl rfl rfl) ?_
      refine ho_ev rfl rfl rfl (ev_extract rfl rfl rfl) ?_
      refine ho_eff rfl rfl rfl (eff_alloc rfl Tryd.ty53 (by first | exact cells_agg _ | exact rfl)) (fun b14 => ?_)
      refine ho_eff0 rfl rfl (eff_storeA rfl Tryd.ty53 rfl rfl (by (with_reducible repeat constructor); done) rfl rfl rfl (by simp only [setRange, List.setIfInBounds_toArray, List.set_cons_zero, List.set_cons_succ, Nat.zero_add]; rfl)) (fun _ => ?_)
      refine ho_ev rfl rfl rfl (ev_assign rfl rfl) ?_
      refine ho_ev rfl rfl rfl (ev_assign rfl rfl) ?_
      refine ho_nil ?_
      refine hx_then ?_
      refine ht_seq ?_
      refine ht_seq ?_
      refine ht_region ?_
      refine ho_ev rfl rfl rfl (ev_move rfl rfl) ?_
      refine ho_ev rfl rfl rfl (ev_move rfl rfl) ?_
      refine ho_ne rfl rfl rfl rfl rfl rfl (fun g5 => ?_) (fun g5 => ?_)
      ·omega
      ·skip
       refine ho_ev rfl rfl rfl (ev_move rfl rfl) ?_
       refine ho_evg rfl rfl rfl rfl (ev_move rfl rfl) ?_
       refine ho_evg rfl rfl rfl rfl (ev_move rfl rfl) ?_
       refine ho_neSg rfl rfl rfl rfl rfl rfl rfl (fun g6 => ?_) (fun g6 => ?_)
       ·simp at g6
       ·skip
        refine ho_ev rfl rfl rfl (ev_pick_f rfl rfl rfl) ?_
        refine ho_ev rfl rfl rfl (ev_move rfl rfl) ?_
        refine ho_evg rfl rfl rfl rfl (ev_move rfl rfl) ?_
        refine ho_evg rfl rfl rfl rfl (ev_ptrNil rfl Tryd.underlying28 rfl rfl rfl) ?_
        refine ho_evg rfl rfl rfl rfl (ev_move rfl rfl) ?_
        refine ho_eqg rfl rfl rfl rfl rfl rfl rfl (fun g7 => ?_) (fun g7 => ?_)
        ·omega
        ·skip
         refine ho_bool (t := 86) rfl (fun g8 => ?_) (fun g8 => ?_)
         ·simp at g8
         ·skip
          refine ho_evg rfl rfl rfl rfl (ev_cmpB rfl Tryd.underlying4 rfl rfl rfl) ?_
          refine ho_ev rfl rfl rfl (ev_pick_f rfl rfl rfl) ?_
          refine ho_nil ?_
          refine hx_then ?_
          refine ht_else rfl ?_
          refine ht_skip ?_
          refine hx_then ?_
          refine ht_seq ?_
          refine ht_seq ?_
          refine ht_region ?_
          refine ho_ev rfl rfl rfl (ev_assign rfl rfl) ?_
          refine ho_nil ?_
          refine hx_then ?_
          refine ht_block ?_
          refine ht_loop (fun q : Nat × Dk.Disk × Rf.RDisk × RX × Nat × Nat × Nat × Int => ([DiskAt b0 q.2.1, pt q.2.2.2.2.1 (.cells #[.pointer (some ⟨b0, 0, none⟩), .int .i64 k, .int .u64 ((q.2.2.2.2.2.1 : Nat) : Int), .int .i64 ((q.2.2.2.2.2.2.1 : Nat) : Int)] 83 (0, 0)), ro bitsR, ro (roS a xs.length xs), ro (actsR xs ms), pt b9 (.cells #[.int .i64 q.2.2.1.size, .int .i64 q.2.2.1.limit, .slice q.2.2.2.1.va q.2.2.1.view.length q.2.2.2.1.vc, .slice q.2.2.2.1.ga q.2.2.1.ground.length q.2.2.2.1.gc, .slice q.2.2.2.1.la q.2.2.1.L.length q.2.2.2.1.lc] 49 (0, 0)), pt b14 (.cells #[.int .i64 k, .int .i64 q.2.2.2.2.2.2.2, .int .u64 ((q.2.2.2.2.2.1 : Nat) : Int)] 53 (0, 0)), ro (rdR q.2.2.1 q.2.2.2.1), pu (Rf.Plays q.2.2.1 q.2.1 q.2.2.2.2.2.1 q.2.2.2.2.2.2.1 q.2.2.2.2.2.2.2 q.1 ∧ q.1 ≤ 25 ∧ q.1 ≤ xs.length), F], [(1, .int .i64 k), (2, .slice a xs.length c), (7, .pointer (some ⟨b0, 0, none⟩)), (9, .pointer (some ⟨b9, 0, none⟩)), (11, .pointer (some ⟨q.2.2.2.2.1, 0, none⟩)), (14, .pointer (some ⟨b14, 0, none⟩)), (17, .int .i64 q.1)])) (fun q : Nat × Dk.Disk × Rf.RDisk × RX × Nat × Nat × Nat × Int => 25 - q.1) (0, Dk.Disk.new size, Rf.RDisk.new size, ⟨none, 0, none, 0, none, 0⟩, m0, 0, 1, -1) ?_ (by repeat (first | exact EnvSub.nil _ | (refine EnvSub.cons rfl ?_))) (fun q => ?_)
          ·(first | dsimp only | skip)
           exact Ent.cons (by (repeat constructor); done) (Ent.cons (by (repeat constructor); done) (Ent.roD (by (with_reducible repeat constructor); done) (Ent.roD (by (with_reducible repeat constructor); done) (Ent.roD (by (with_reducible repeat constructor); done) (Ent.cons (by (repeat constructor); done) (Ent.cons (by (repeat constructor); done) (Ent.roD (by (repeat constructor); done) (Ent.pu ⟨Rf.plays_new size, by omega, by omega⟩ (Ent.cons (by (repeat constructor); done) Ent.nil)))))))))
          obtain ⟨q, d, r, x, mb, number, last, rl⟩ := q
          dsimp only
          refine ht_pick (A := pu (Rf.Plays r d number last rl q ∧ q ≤ 25 ∧ q ≤ xs.length)) (by (repeat constructor); done) (ht_pure fun hq => ?_)
          obtain ⟨hp, hq25, hql⟩ := hq
          obtain ⟨hpl, hLq, hvq, hgq, hcard⟩ := Rf.plays_len hp
          have hsl := Rf.same_last hp.same
          refine ht_seq ?_
          refine ht_seq ?_
          refine ht_region ?_
          refine ho_ev rfl rfl rfl (ev_move rfl rfl) ?_
          refine ho_ev rfl rfl rfl (ev_move rfl rfl) ?_
          refine ho_ev rfl rfl rfl (ev_lenSl rfl Tryd.underlying22 rfl) ?_
          refine ho_lt rfl rfl rfl rfl rfl rfl (fun g9 => ?_) (fun g9 => ?_)
          ·skip
           refine ho_ev rfl rfl rfl (ev_move rfl rfl) ?_
           refine ho_evg rfl rfl rfl rfl (ev_move rfl rfl) ?_
           refine ho_ltg rfl rfl rfl rfl rfl rfl rfl (fun g10 => ?_) (fun g10 => ?_)
           ·skip
            refine ho_ev rfl rfl rfl (ev_pick_t rfl rfl rfl) ?_
            refine ho_ev rfl rfl rfl (ev_move rfl rfl) ?_
            refine ho_evg rfl rfl rfl rfl (ev_move rfl rfl) ?_
            refine ho_evg rfl rfl rfl rfl (ev_ptrNil rfl Tryd.underlying28 rfl rfl rfl) ?_
            refine ho_ev rfl rfl rfl (ev_pick_t rfl rfl rfl) ?_
            refine ho_nil ?_
            refine hx_then ?_
            refine ht_bool (t := 102) rfl (fun g11 => ?_) (fun g11 => ?_)
            ·skip
             refine ht_then rfl ?_
             refine ht_skip ?_
             refine hx_then ?_
             refine ht_seq ?_
             refine ht_block ?_
             refine ht_seq ?_
             refine ht_actAt (xs := xs) (ms := ms) (i := q) (by omega) (by (with_reducible repeat constructor); done) (fun x0 m0x hx0 hm0 => ?_)
             refine ht_someS (α := ActV) (a := a) (xs := xs) (reads_ro (by (with_reducible repeat constructor); done)) (by omega) (fun ab ao ha => ?_)
             refine ht_region ?_
             refine ho_ev rfl rfl rfl (ev_move rfl rfl) ?_
             refine ho_ev rfl rfl rfl (ev_move rfl rfl) ?_
             refine ho_ev rfl rfl rfl (ev_indexAddr rfl Tryd.underlying22 Tryd.ty33 (congrArg (fun z => some (Value.slice z xs.length c)) ha) rfl (by omega) (by omega)) ?_
             refine ho_ev rfl rfl rfl (ev_loadA rfl Tryd.underlying33 Tryd.ty33 rfl rfl (cells_Sa ha (reads_ro (by (with_reducible repeat constructor); done)) hx0)) ?_
             refine ho_eff rfl rfl rfl (eff_call rfl rfl (.cons rfl .nil) rfl (law_few12 x0 m0x) (by repeat (first | exact Picks.nil | (apply Picks.ro; focus ((repeat constructor); done)) | (apply Picks.cons; focus ((repeat constructor); done)))) (fun _ => by repeat (first | exact App.nil | apply App.cons))) (fun y => ?_)
             refine ho_eff rfl rfl rfl (eff_alloc rfl Tryd.ty33 (by first | exact cells_agg _ | exact rfl)) (fun b18 => ?_)
             refine ho_eff0 rfl rfl (eff_storeA rfl Tryd.ty33 rfl rfl (by (with_reducible repeat constructor); done) rfl rfl rfl (by simp only [setRange, List.setIfInBounds_toArray, List.set_cons_zero, List.set_cons_succ, Nat.zero_add]; rfl)) (fun _ => ?_)
             refine ho_nil ?_
             refine hx_then ?_
             refine ht_seq ?_
             refine ht_seq ?_
             refine ht_act (x := y) (m := few12 m0x) (by (with_reducible repeat constructor); done) (fun hyk hyp hyb hyl hyc => ?_)
             obtain ⟨yk, yp, yb, yla, ylm, ylc⟩ := y
             dsimp only [ActV.val] at hyk hyp hyb hyl hyc ⊢
             subst hyk hyp hyb hyl
             refine ht_region ?_
             refine ho_ev rfl rfl rfl (by first | exact ev_fieldAddr0 rfl Tryd.fld33_0 rfl | exact ev_fieldAddr rfl Tryd.fld33_0 rfl) ?_
             refine ho_ev rfl rfl rfl (ev_load rfl Tryd.underlying3 rfl rfl (by first | exact cell_pt (by (with_reducible repeat constructor); done) rfl | exact cell_ro (by (with_reducible repeat constructor); done) rfl)) ?_
             refine ho_eq rfl rfl rfl rfl rfl rfl (fun g12 => ?_) (fun g12 => ?_)
             ·skip
              refine ho_nil ?_
              refine hx_then ?_
              refine ht_then rfl ?_
              refine ht_seq ?_
              refine ht_region ?_
              refine ho_ev rfl rfl rfl (ev_move rfl rfl) ?_
              refine ho_ev rfl rfl rfl (by first | exact ev_fieldAddr0 rfl Tryd.fld33_1 rfl | exact ev_fieldAddr rfl Tryd.fld33_1 rfl) ?_
              refine ho_ev rfl rfl rfl (ev_load rfl Tryd.underlying3 rfl rfl (by first | exact cell_pt (by (with_reducible repeat constructor); done) rfl | exact cell_ro (by (with_reducible repeat constructor); done) rfl)) ?_
              refine ho_eff rfl rfl rfl (eff_call rfl rfl (.cons rfl (.cons rfl .nil)) rfl (disk_Limit b0 d (few12 m0x).place) (by repeat (first | exact Picks.nil | (apply Picks.ro; focus ((repeat constructor); done)) | (apply Picks.cons; focus ((repeat constructor); done)))) (fun _ => by repeat (first | exact App.nil | apply App.cons))) (fun _ => ?_)
              refine ho_nil ?_
              refine hx_then ?_
              refine ht_seq ?_
              refine ht_region ?_
              refine ho_ev rfl rfl rfl (by first | exact ev_fieldAddr0 rfl Tryd.fld33_1 rfl | exact ev_fieldAddr rfl Tryd.fld33_1 rfl) ?_
              refine ho_ev rfl rfl rfl (ev_load rfl Tryd.underlying3 rfl rfl (by first | exact cell_pt (by (with_reducible repeat constructor); done) rfl | exact cell_ro (by (with_reducible repeat constructor); done) rfl)) ?_
              refine ho_ev rfl rfl rfl (by first | exact ev_fieldAddr0 rfl Tryd.fld49_1 rfl | exact ev_fieldAddr rfl Tryd.fld49_1 rfl) ?_
              refine ho_eff0 rfl rfl (eff_store1 rfl Tryd.ty3 rfl rfl (by (with_reducible repeat constructor); done) rfl rfl (lt_of_blt rfl) (by simp only [List.setIfInBounds_toArray, List.set_cons_zero, List.set_cons_succ]; rfl)) (fun _ => ?_)
              refine ho_nil ?_
              refine hx_then ?_
              refine ht_exit ?_
              refine hx_through trivial ?_
              refine hx_block_here ?_
              refine hx_then ?_
              refine ht_region ?_
              refine ho_ev rfl rfl rfl (ev_move rfl rfl) ?_
              refine ho_ev rfl rfl rfl (ev_add rfl rfl rfl (by first | exact in_i64 (by omega) | rfl)) ?_
              refine ho_ev rfl rfl rfl (ev_assign rfl rfl) ?_
              refine ho_nil ?_
              refine hx_again (I := (fun q : Nat × Dk.Disk × Rf.RDisk × RX × Nat × Nat × Nat × Int => ([DiskAt b0 q.2.1, pt q.2.2.2.2.1 (.cells #[.pointer (some ⟨b0, 0, none⟩), .int .i64 k, .int .u64 ((q.2.2.2.2.2.1 : Nat) : Int), .int .i64 ((q.2.2.2.2.2.2.1 : Nat) : Int)] 83 (0, 0)), ro bitsR, ro (roS a xs.length xs), ro (actsR xs ms), pt b9 (.cells #[.int .i64 q.2.2.1.size, .int .i64 q.2.2.1.limit, .slice q.2.2.2.1.va q.2.2.1.view.length q.2.2.2.1.vc, .slice q.2.2.2.1.ga q.2.2.1.ground.length q.2.2.2.1.gc, .slice q.2.2.2.1.la q.2.2.1.L.length q.2.2.2.1.lc] 49 (0, 0)), pt b14 (.cells #[.int .i64 k, .int .i64 q.2.2.2.2.2.2.2, .int .u64 ((q.2.2.2.2.2.1 : Nat) : Int)] 53 (0, 0)), ro (rdR q.2.2.1 q.2.2.2.1), pu (Rf.Plays q.2.2.1 q.2.1 q.2.2.2.2.2.1 q.2.2.2.2.2.2.1 q.2.2.2.2.2.2.2 q.1 ∧ q.1 ≤ 25 ∧ q.1 ≤ xs.length), F], [(1, .int .i64 k), (2, .slice a xs.length c), (7, .pointer (some ⟨b0, 0, none⟩)), (9, .pointer (some ⟨b9, 0, none⟩)), (11, .pointer (some ⟨q.2.2.2.2.1, 0, none⟩)), (14, .pointer (some ⟨b14, 0, none⟩)), (17, .int .i64 q.1)]))) (μ := (fun q : Nat × Dk.Disk × Rf.RDisk × RX × Nat × Nat × Nat × Int => 25 - q.1)) (i := (q, d, r, x, mb, number, last, rl)) (q + 1, d.setLimit (few12 m0x).place, { r with limit := (few12 m0x).place }, x, mb, number, last, rl) ?_ ?_ ?_
              ·(first | dsimp only | skip); omega
              ·repeat (first | exact EnvSub.nil _ | (refine EnvSub.cons rfl ?_))
              ·(first | dsimp only | skip)
               exact Ent.cons (by (repeat constructor); done) (Ent.cons (by (repeat constructor); done) (Ent.roD (by (with_reducible repeat constructor); done) (Ent.roD (by (with_reducible repeat constructor); done) (Ent.roD (by (with_reducible repeat constructor); done) (Ent.cons (by (repeat constructor); done) (Ent.cons (by (repeat constructor); done) (Ent.roD (by (repeat constructor); done) (Ent.pu ⟨Rf.plays_limit hp _, by omega, by omega⟩ (Ent.cons (by (repeat constructor); done) Ent.nil)))))))))
             ·skip
              refine ho_nil ?_
              refine hx_then ?_
              refine ht_else rfl ?_
              refine ht_skip ?_
              refine hx_then ?_
              refine ht_seq ?_
              refine ht_region ?_
              refine ho_ev rfl rfl rfl (ev_loadA rfl Tryd.underlying49 Tryd.ty49 rfl rfl (by first | exact cells_pt (by (with_reducible repeat constructor); done) (Nat.le_of_ble_eq_true rfl) (by simp only [List.extract_toArray, List.extract_eq_take_drop, Nat.zero_add, Nat.sub_zero, Nat.add_sub_cancel_left, List.drop_zero, List.take_succ_cons, List.take_zero, List.drop_succ_cons] <;> rfl) | exact cells_ro (by (with_reducible repeat constructor); done) (Nat.le_of_ble_eq_true rfl) (by simp only [List.extract_toArray, List.extract_eq_take_drop, Nat.zero_add, Nat.sub_zero, Nat.add_sub_cancel_left, List.drop_zero, List.take_succ_cons, List.take_zero, List.drop_succ_cons] <;> rfl))) ?_
              refine ho_ev rfl rfl rfl (ev_loadA rfl Tryd.underlying53 Tryd.ty53 rfl rfl (by first | exact cells_pt (by (with_reducible repeat constructor); done) (Nat.le_of_ble_eq_true rfl) (by simp only [List.extract_toArray, List.extract_eq_take_drop, Nat.zero_add, Nat.sub_zero, Nat.add_sub_cancel_left, List.drop_zero, List.take_succ_cons, List.take_zero, List.drop_succ_cons] <;> rfl) | exact cells_ro (by (with_reducible repeat constructor); done) (Nat.le_of_ble_eq_true rfl) (by simp only [List.extract_toArray, List.extract_eq_take_drop, Nat.zero_add, Nat.sub_zero, Nat.add_sub_cancel_left, List.drop_zero, List.take_succ_cons, List.take_zero, List.drop_succ_cons] <;> rfl))) ?_
              refine ho_ev rfl rfl rfl (by first | exact ev_fieldAddr0 rfl Tryd.fld33_2 rfl | exact ev_fieldAddr rfl Tryd.fld33_2 rfl) ?_
              refine ho_ev rfl rfl rfl (ev_load rfl Tryd.underlying9 rfl rfl (by first | exact cell_pt (by (with_reducible repeat constructor); done) rfl | exact cell_ro (by (with_reducible repeat constructor); done) rfl)) ?_
              refine ho_ev rfl rfl rfl (by first | exact ev_fieldAddr0 rfl Tryd.fld33_1 rfl | exact ev_fieldAddr rfl Tryd.fld33_1 rfl) ?_
              refine ho_ev rfl rfl rfl (ev_load rfl Tryd.underlying3 rfl rfl (by first | exact cell_pt (by (with_reducible repeat constructor); done) rfl | exact cell_ro (by (with_reducible repeat constructor); done) rfl)) ?_
              refine ho_eff rfl rfl rfl (eff_call rfl rfl (.cons rfl (.cons rfl (.cons rfl (.cons rfl .nil)))) rfl (rf_Steps r x k number rl (few12 m0x).b (few12 m0x).place hk (by have := few12_b m0x; omega) (by omega) (by omega) (Rf.rfind_short hp.short.view) (Rf.rfind_short (Rf.short_free hp.short _).view)) (by repeat (first | exact Picks.nil | (apply Picks.ro; focus ((repeat constructor); done)) | (apply Picks.cons; focus ((repeat constructor); done)))) (fun _ => by repeat (first | exact App.nil | apply App.cons))) (fun z => ?_)
              refine ho_ev rfl rfl rfl (ev_move rfl rfl) ?_
              refine ho_ev rfl rfl rfl (ev_extract rfl rfl rfl) ?_
              refine ho_ev rfl rfl rfl (ev_extract rfl rfl rfl) ?_
              refine ho_ev rfl rfl rfl (ev_extract rfl rfl rfl) ?_
              refine ho_ev rfl rfl rfl (ev_extract rfl rfl rfl) ?_
              refine ho_eff rfl rfl rfl (eff_alloc rfl Tryd.ty49 (by first | exact cells_agg _ | exact rfl)) (fun b19 => ?_)
              refine ho_eff rfl rfl rfl (eff_alloc rfl Tryd.ty53 (by first | exact cells_agg _ | exact rfl)) (fun b20 => ?_)
              refine ho_eff0 rfl rfl (eff_storeA rfl Tryd.ty49 rfl rfl (by (with_reducible repeat constructor); done) rfl rfl rfl (by simp only [setRange, List.setIfInBounds_toArray, List.set_cons_zero, List.set_cons_succ, Nat.zero_add]; rfl)) (fun _ => ?_)
              refine ho_eff0 rfl rfl (eff_storeA rfl Tryd.ty53 rfl rfl (by (with_reducible repeat constructor); done) rfl rfl rfl (by simp only [setRange, List.setIfInBounds_toArray, List.set_cons_zero, List.set_cons_succ, Nat.zero_add]; rfl)) (fun _ => ?_)
              refine ho_ev rfl rfl rfl (ev_assign rfl rfl) ?_
              refine ho_ev rfl rfl rfl (ev_assign rfl rfl) ?_
              refine ho_nil ?_
              refine hx_then ?_
              refine ht_seq ?_
              refine ht_draw (.op 0 (.op 1 (.op 2 (.op 3 .done)))) [2, 3] Tryd.mixed rfl ?_
              refine hd_ev rfl rfl rfl rfl (EvG.of rfl (ev_loadA rfl Tryd.underlying49 Tryd.ty49 rfl rfl (by first | exact cells_pt (by (with_reducible repeat constructor); done) (Nat.le_of_ble_eq_true rfl) (by simp only [List.extract_toArray, List.extract_eq_take_drop, Nat.zero_add, Nat.sub_zero, Nat.add_sub_cancel_left, List.drop_zero, List.take_succ_cons, List.take_zero, List.drop_succ_cons] <;> rfl) | exact cells_ro (by (with_reducible repeat constructor); done) (Nat.le_of_ble_eq_true rfl) (by simp only [List.extract_toArray, List.extract_eq_take_drop, Nat.zero_add, Nat.sub_zero, Nat.add_sub_cancel_left, List.drop_zero, List.take_succ_cons, List.take_zero, List.drop_succ_cons] <;> rfl)))) ?_
              refine hd_ev rfl rfl rfl rfl (EvG.of rfl (ev_loadA rfl Tryd.underlying53 Tryd.ty53 rfl rfl (by first | exact cells_pt (by (with_reducible repeat constructor); done) (Nat.le_of_ble_eq_true rfl) (by simp only [List.extract_toArray, List.extract_eq_take_drop, Nat.zero_add, Nat.sub_zero, Nat.add_sub_cancel_left, List.drop_zero, List.take_succ_cons, List.take_zero, List.drop_succ_cons] <;> rfl) | exact cells_ro (by (with_reducible repeat constructor); done) (Nat.le_of_ble_eq_true rfl) (by simp only [List.extract_toArray, List.extract_eq_take_drop, Nat.zero_add, Nat.sub_zero, Nat.add_sub_cancel_left, List.drop_zero, List.take_succ_cons, List.take_zero, List.drop_succ_cons] <;> rfl)))) ?_
              refine hd_eff0 rfl rfl rfl rfl (eff_storeA rfl Tryd.ty49 rfl rfl (by (with_reducible repeat constructor); done) rfl rfl rfl (by simp only [setRange, List.setIfInBounds_toArray, List.set_cons_zero, List.set_cons_succ, Nat.zero_add]; rfl)) (fun _ => by (refine FL.ev rfl (EvG.of rfl (ev_loadA rfl Tryd.underlying53 Tryd.ty53 rfl rfl (by first | exact cells_pt (by (with_reducible repeat constructor); done) (Nat.le_of_ble_eq_true rfl) (by simp only [List.extract_toArray, List.extract_eq_take_drop, Nat.zero_add, Nat.sub_zero, Nat.add_sub_cancel_left, List.drop_zero, List.take_succ_cons, List.take_zero, List.drop_succ_cons] <;> rfl) | exact cells_ro (by (with_reducible repeat constructor); done) (Nat.le_of_ble_eq_true rfl) (by simp only [List.extract_toArray, List.extract_eq_take_drop, Nat.zero_add, Nat.sub_zero, Nat.add_sub_cancel_left, List.drop_zero, List.take_succ_cons, List.take_zero, List.drop_succ_cons] <;> rfl)))) ?_); (refine FL.skip rfl ?_); exact FL.nil) (fun _ => ?_)
              refine hd_eff0 rfl rfl rfl rfl (eff_storeA rfl Tryd.ty53 rfl rfl (by (with_reducible repeat constructor); done) rfl rfl rfl (by simp only [setRange, List.setIfInBounds_toArray, List.set_cons_zero, List.set_cons_succ, Nat.zero_add]; rfl)) (fun _ => by (refine FL.skip rfl ?_); (refine FL.skip rfl ?_); exact FL.nil) (fun _ => ?_)
              refine hd_nil ?_
              refine hx_then ?_
              refine ht_seq ?_
              refine ht_region ?_
              refine ho_ev rfl rfl rfl (ev_move rfl rfl) ?_
              refine ho_ev rfl rfl rfl (by first | exact ev_fieldAddr0 rfl Tryd.fld33_2 rfl | exact ev_fieldAddr rfl Tryd.fld33_2 rfl) ?_
              refine ho_ev rfl rfl rfl (ev_load rfl Tryd.underlying9 rfl rfl (by first | exact cell_pt (by (with_reducible repeat constructor); done) rfl | exact cell_ro (by (with_reducible repeat constructor); done) rfl)) ?_
              refine ho_ev rfl rfl rfl (by first | exact ev_fieldAddr0 rfl Tryd.fld33_1 rfl | exact ev_fieldAddr rfl Tryd.fld33_1 rfl) ?_
              refine ho_ev rfl rfl rfl (ev_load rfl Tryd.underlying3 rfl rfl (by first | exact cell_pt (by (with_reducible repeat constructor); done) rfl | exact cell_ro (by (with_reducible repeat constructor); done) rfl)) ?_
              refine ho_eff rfl rfl rfl (eff_call rfl rfl (.cons rfl (.cons rfl (.cons rfl .nil))) rfl (meta_StepsW mb b0 d k number last (few12 m0x).b (few12 m0x).place hk hsl (by omega)) (by repeat (first | exact Picks.nil | (apply Picks.ro; focus ((repeat constructor); done)) | (apply Picks.cons; focus ((repeat constructor); done)))) (fun _ => by repeat (first | exact App.nil | apply App.cons))) (fun _ => ?_)
              refine ho_ev rfl rfl rfl (ev_move rfl rfl) ?_
              refine ho_ev rfl rfl rfl (ev_extract rfl rfl rfl) ?_
              refine ho_ev rfl rfl rfl (ev_extract rfl rfl rfl) ?_
              refine ho_ev rfl rfl rfl (ev_assign rfl rfl) ?_
              refine ho_ev rfl rfl rfl (ev_assign rfl rfl) ?_
              refine ho_nil ?_
              refine hx_then ?_
              refine ht_seq ?_
              refine ht_seq ?_
              obtain ⟨hps, hfin, herr, hnum⟩ := Rf.plays_steps hp k (show (few12 m0x).b.length ≤ 4096 by have := few12_b m0x; omega) (few12 m0x).place
              obtain ⟨hplS, hLS, hvS, hgS, _⟩ := Rf.plays_len hps
              rw [hfin, herr, hnum]
              rcases hfn : (Mt.stepsW d k number last (few12 m0x).b (few12 m0x).place).fin with _ | _
              ·skip
               refine ht_region ?_
               refine ho_ev rfl rfl rfl (ev_move rfl rfl) ?_
               refine ho_ev rfl rfl rfl (ev_move rfl rfl) ?_
               refine ho_ev rfl rfl rfl (ev_cmpB rfl Tryd.underlying4 rfl rfl rfl) ?_
               refine ho_ev rfl rfl rfl (ev_move rfl rfl) ?_
               refine ho_evg rfl rfl rfl rfl (ev_move rfl rfl) ?_
               refine ho_evg rfl rfl rfl rfl (ev_move rfl rfl) ?_
               refine ho_neg rfl rfl rfl rfl rfl rfl rfl (fun g13 => ?_) (fun g13 => ?_)
               ·omega
               ·skip
                refine ho_ev rfl rfl rfl (ev_pick_f rfl rfl rfl) ?_
                refine ho_nil ?_
                refine hx_then ?_
                refine ht_else rfl ?_
                refine ht_skip ?_
                refine hx_then ?_
                refine ht_join (fun g : Dk.Disk × Rf.RDisk × RX × Nat × Nat × Nat × Int => ([DiskAt b0 g.1, pt g.2.2.2.1 (.cells #[.pointer (some ⟨b0, 0, none⟩), .int .i64 k, .int .u64 ((g.2.2.2.2.1 : Nat) : Int), .int .i64 ((g.2.2.2.2.2.1 : Nat) : Int)] 83 (0, 0)), ro bitsR, ro (roS a xs.length xs), ro (actsR xs ms), pt b9 (.cells #[.int .i64 g.2.1.size, .int .i64 g.2.1.limit, .slice g.2.2.1.va g.2.1.view.length g.2.2.1.vc, .slice g.2.2.1.ga g.2.1.ground.length g.2.2.1.gc, .slice g.2.2.1.la g.2.1.L.length g.2.2.1.lc] 49 (0, 0)), pt b14 (.cells #[.int .i64 k, .int .i64 g.2.2.2.2.2.2, .int .u64 ((g.2.2.2.2.1 : Nat) : Int)] 53 (0, 0)), ro (rdR g.2.1 g.2.2.1), pu (Rf.Plays g.2.1 g.1 g.2.2.2.2.1 g.2.2.2.2.2.1 g.2.2.2.2.2.2 (q + 1)), F], [(1, .int .i64 k), (2, .slice a xs.length c), (7, .pointer (some ⟨b0, 0, none⟩)), (9, .pointer (some ⟨b9, 0, none⟩)), (11, .pointer (some ⟨g.2.2.2.1, 0, none⟩)), (14, .pointer (some ⟨b14, 0, none⟩)), (17, .int .i64 q)])) ?_ (fun g => ?_)
                ·skip
                 refine ht_seq ?_
                 refine ht_region ?_
                 refine ho_ev rfl rfl rfl (by first | exact ev_fieldAddr0 rfl Tryd.fld33_0 rfl | exact ev_fieldAddr rfl Tryd.fld33_0 rfl) ?_
                 refine ho_ev rfl rfl rfl (ev_load rfl Tryd.underlying3 rfl rfl (by first | exact cell_pt (by (with_reducible repeat constructor); done) rfl | exact cell_ro (by (with_reducible repeat constructor); done) rfl)) ?_
                 refine ho_eq rfl rfl rfl rfl rfl rfl (fun g14 => ?_) (fun g14 => ?_)
                 ·skip
                  refine ho_ev rfl rfl rfl (ev_move rfl rfl) ?_
                  refine ho_pass rfl rfl rfl rfl ?_
                  refine ho_pass rfl rfl rfl rfl ?_
                  refine ho_pass rfl rfl rfl rfl ?_
                  refine ho_ev rfl rfl rfl (ev_pick_t rfl rfl rfl) ?_
                  refine ho_nil ?_
                  refine hx_then ?_
                  refine ht_then rfl ?_
                  refine ht_seq ?_
                  refine ht_seq ?_
                  rcases (show (few12 m0x).kind = 1 ∨ (few12 m0x).kind = 2 by omega) with hk1 | hk2
                  ·skip
                   refine ht_region ?_
                   refine ho_ev rfl rfl rfl (by first | exact ev_fieldAddr0 rfl Tryd.fld33_0 rfl | exact ev_fieldAddr rfl Tryd.fld33_0 rfl) ?_
                   refine ho_ev rfl rfl rfl (ev_load rfl Tryd.underlying3 rfl rfl (by first | exact cell_pt (by (with_reducible repeat constructor); done) rfl | exact cell_ro (by (with_reducible repeat constructor); done) rfl)) ?_
                   refine ho_eq rfl rfl rfl rfl rfl rfl (fun g15 => ?_) (fun g15 => ?_)
                   ·skip
                    refine ho_nil ?_
                    refine hx_then ?_
                    refine ht_then rfl ?_
                    refine ht_seq ?_
                    refine ht_region ?_
                    refine ho_ev rfl rfl rfl (ev_move rfl rfl) ?_
                    refine ho_ev rfl rfl rfl (by first | exact ev_fieldAddr0 rfl Tryd.fld33_3 rfl | exact ev_fieldAddr rfl Tryd.fld33_3 rfl) ?_
                    refine ho_ev rfl rfl rfl (ev_load rfl Tryd.underlying31 rfl rfl (by first | exact cell_pt (by (with_reducible repeat constructor); done) rfl | exact cell_ro (by (with_reducible repeat constructor); done) rfl)) ?_
                    refine ho_eff rfl rfl rfl (eff_call rfl rfl (.cons rfl (.cons rfl .nil)) rfl (disk_Crash b0 (Mt.stepsW d k number last (few12 m0x).b (few12 m0x).place).d yla ylc (few12 m0x).l (by have := few12_l m0x; omega) (by omega)) (by repeat (first | exact Picks.nil | (apply Picks.ro; focus ((repeat constructor); done)) | (apply Picks.cons; focus ((repeat constructor); done)))) (fun _ => by repeat (first | exact App.nil | apply App.cons))) (fun _ => ?_)
                    refine ho_nil ?_
                    refine hx_then ?_
                    refine ht_region ?_
                    refine ho_ev rfl rfl rfl (ev_loadA rfl Tryd.underlying49 Tryd.ty49 rfl rfl (by first | exact cells_pt (by (with_reducible repeat constructor); done) (Nat.le_of_ble_eq_true rfl) (by simp only [List.extract_toArray, List.extract_eq_take_drop, Nat.zero_add, Nat.sub_zero, Nat.add_sub_cancel_left, List.drop_zero, List.take_succ_cons, List.take_zero, List.drop_succ_cons] <;> rfl) | exact cells_ro (by (with_reducible repeat constructor); done) (Nat.le_of_ble_eq_true rfl) (by simp only [List.extract_toArray, List.extract_eq_take_drop, Nat.zero_add, Nat.sub_zero, Nat.add_sub_cancel_left, List.drop_zero, List.take_succ_cons, List.take_zero, List.drop_succ_cons] <;> rfl))) ?_
                    refine ho_ev rfl rfl rfl (by first | exact ev_fieldAddr0 rfl Tryd.fld33_3 rfl | exact ev_fieldAddr rfl Tryd.fld33_3 rfl) ?_
                    refine ho_ev rfl rfl rfl (ev_load rfl Tryd.underlying31 rfl rfl (by first | exact cell_pt (by (with_reducible repeat constructor); done) rfl | exact cell_ro (by (with_reducible repeat constructor); done) rfl)) ?_
                    refine ho_eff rfl rfl rfl (eff_call rfl rfl (.cons rfl (.cons rfl .nil)) rfl (rf_Crash (Rf.rsteps r k number rl (few12 m0x).b (few12 m0x).place).r z yla ylc (few12 m0x).l (by have := few12_l m0x; omega) (by omega) (by omega) hps.short.ground hps.short.pend) (by repeat (first | exact Picks.nil | (apply Picks.ro; focus ((repeat constructor); done)) | (apply Picks.cons; focus ((repeat constructor); done)))) (fun _ => by repeat (first | exact App.nil | apply App.cons))) (fun zc => ?_)
                    refine ho_eff0 rfl rfl (eff_storeA rfl Tryd.ty49 rfl rfl (by (with_reducible repeat constructor); done) rfl rfl rfl (by simp only [setRange, List.setIfInBounds_toArray, List.set_cons_zero, List.set_cons_succ, Nat.zero_add]; rfl)) (fun _ => ?_)
                    refine ho_nil ?_
                    refine hx_then ?_
                    refine ht_seq ?_
                    refine ht_region ?_
                    refine ho_ev rfl rfl rfl (ev_loadA rfl Tryd.underlying49 Tryd.ty49 rfl rfl (by first | exact cells_pt (by (with_reducible repeat constructor); done) (Nat.le_of_ble_eq_true rfl) (by simp only [List.extract_toArray, List.extract_eq_take_drop, Nat.zero_add, Nat.sub_zero, Nat.add_sub_cancel_left, List.drop_zero, List.take_succ_cons, List.take_zero, List.drop_succ_cons] <;> rfl) | exact cells_ro (by (with_reducible repeat constructor); done) (Nat.le_of_ble_eq_true rfl) (by simp only [List.extract_toArray, List.extract_eq_take_drop, Nat.zero_add, Nat.sub_zero, Nat.add_sub_cancel_left, List.drop_zero, List.take_succ_cons, List.take_zero, List.drop_succ_cons] <;> rfl))) ?_
                    refine ho_ev rfl rfl rfl (ev_move rfl rfl) ?_
                    refine ho_eff rfl rfl rfl (eff_call rfl rfl (.cons rfl (.cons rfl .nil)) rfl (rf_Open ((Rf.rsteps r k number rl (few12 m0x).b (few12 m0x).place).r.crash (few12 m0x).l) zc k hk (by have := (Rf.plays_len (Rf.plays_crash hps (few12 m0x).l)).2.2.1; omega) (Rf.plays_crash hps (few12 m0x).l).short.view) (by repeat (first | exact Picks.nil | (apply Picks.ro; focus ((repeat constructor); done)) | (apply Picks.cons; focus ((repeat constructor); done)))) (fun _ => by repeat (first | exact App.nil | apply App.cons))) (fun _ => ?_)
                    rw [Rf.rep_fun (Rf.plays_crash hps (few12 m0x).l).rep.view]
                    refine ho_ev rfl rfl rfl (ev_move rfl rfl) ?_
                    refine ho_ev rfl rfl rfl (ev_extract rfl rfl rfl) ?_
                    refine ho_ev rfl rfl rfl (ev_extract rfl rfl rfl) ?_
                    refine ho_ev rfl rfl rfl (ev_extract rfl rfl rfl) ?_
                    refine ho_eff rfl rfl rfl (eff_alloc rfl Tryd.ty53 (by first | exact cells_agg _ | exact rfl)) (fun b25 => ?_)
                    refine ho_eff0 rfl rfl (eff_storeA rfl Tryd.ty53 rfl rfl (by (with_reducible repeat constructor); done) rfl rfl rfl (by simp only [setRange, List.setIfInBounds_toArray, List.set_cons_zero, List.set_cons_succ, Nat.zero_add]; rfl)) (fun _ => ?_)
                    refine ho_ev rfl rfl rfl (ev_assign rfl rfl) ?_
                    refine ho_ev rfl rfl rfl (ev_assign rfl rfl) ?_
                    refine ho_nil ?_
                    refine hx_then ?_
                    refine ht_seq ?_
                    refine ht_region ?_
                    refine ho_ev rfl rfl rfl (ev_move rfl rfl) ?_
                    refine ho_ev rfl rfl rfl (ev_move rfl rfl) ?_
                    refine ho_eff rfl rfl rfl (eff_call rfl rfl (.cons rfl (.cons rfl .nil)) rfl (meta_Open b0 ((Mt.stepsW d k number last (few12 m0x).b (few12 m0x).place).d.crash (few12 m0x).l) k hk) (by repeat (first | exact Picks.nil | (apply Picks.ro; focus ((repeat constructor); done)) | (apply Picks.cons; focus ((repeat constructor); done)))) (fun _ => by repeat (first | exact App.nil | apply App.cons))) (fun mn => ?_)
                    refine ho_ev rfl rfl rfl (ev_move rfl rfl) ?_
                    refine ho_ev rfl rfl rfl (ev_extract rfl rfl rfl) ?_
                    refine ho_ev rfl rfl rfl (ev_extract rfl rfl rfl) ?_
                    refine ho_ev rfl rfl rfl (ev_extract rfl rfl rfl) ?_
                    refine ho_ev rfl rfl rfl (ev_assign rfl rfl) ?_
                    refine ho_ev rfl rfl rfl (ev_assign rfl rfl) ?_
                    refine ho_ev rfl rfl rfl (ev_assign rfl rfl) ?_
                    refine ho_nil ?_
                    refine hx_then ?_
                    refine ht_seq ?_
                    refine ht_seq ?_
                    refine ht_region ?_
                    refine ho_ev rfl rfl rfl (ev_move rfl rfl) ?_
                    refine ho_ev rfl rfl rfl (ev_ptrNil rfl Tryd.underlying28 rfl rfl rfl) ?_
                    refine ho_ev rfl rfl rfl (ev_move rfl rfl) ?_
                    refine ho_bool (t := 186) rfl (fun g16 => ?_) (fun g16 => ?_)
                    ·simp at g16
                    ·skip
                     refine ho_evg rfl rfl rfl rfl (ev_move rfl rfl) ?_
                     refine ho_evg rfl rfl rfl rfl (ev_move rfl rfl) ?_
                     refine ho_neSg rfl rfl rfl rfl rfl rfl rfl (fun g17 => ?_) (fun g17 => ?_)
                     ·simp at g17
                     ·skip
                      refine ho_ev rfl rfl rfl (ev_pick_f rfl rfl rfl) ?_
                      refine ho_ev rfl rfl rfl (ev_move rfl rfl) ?_
                      refine ho_evg rfl rfl rfl rfl (ev_move rfl rfl) ?_
                      refine ho_evg rfl rfl rfl rfl (ev_move rfl rfl) ?_
                      refine ho_neg rfl rfl rfl rfl rfl rfl rfl (fun g18 => ?_) (fun g18 => ?_)
                      ·omega
                      ·skip
                       refine ho_ev rfl rfl rfl (ev_pick_f rfl rfl rfl) ?_
                       refine ho_nil ?_
                       refine hx_then ?_
                       refine ht_else rfl ?_
                       refine ht_skip ?_
                       refine hx_then ?_
                       refine ht_region ?_
                       refine ho_ev rfl rfl rfl (ev_loadA rfl Tryd.underlying53 Tryd.ty53 rfl rfl (by first | exact cells_pt (by (with_reducible repeat constructor); done) (Nat.le_of_ble_eq_true rfl) (by simp only [List.extract_toArray, List.extract_eq_take_drop, Nat.zero_add, Nat.sub_zero, Nat.add_sub_cancel_left, List.drop_zero, List.take_succ_cons, List.take_zero, List.drop_succ_cons] <;> rfl) | exact cells_ro (by (with_reducible repeat constructor); done) (Nat.le_of_ble_eq_true rfl) (by simp only [List.extract_toArray, List.extract_eq_take_drop, Nat.zero_add, Nat.sub_zero, Nat.add_sub_cancel_left, List.drop_zero, List.take_succ_cons, List.take_zero, List.drop_succ_cons] <;> rfl))) ?_
                       refine ho_ev rfl rfl rfl (ev_move rfl rfl) ?_
                       refine ho_eff0 rfl rfl (eff_storeA rfl Tryd.ty53 rfl rfl (by (with_reducible repeat constructor); done) rfl rfl rfl (by simp only [setRange, List.setIfInBounds_toArray, List.set_cons_zero, List.set_cons_succ, Nat.zero_add]; rfl)) (fun _ => ?_)
                       refine ho_ev rfl rfl rfl (ev_assign rfl rfl) ?_
                       refine ho_nil ?_
                       refine hx_joined (I := (fun g : Dk.Disk × Rf.RDisk × RX × Nat × Nat × Nat × Int => ([DiskAt b0 g.1, pt g.2.2.2.1 (.cells #[.pointer (some ⟨b0, 0, none⟩), .int .i64 k, .int .u64 ((g.2.2.2.2.1 : Nat) : Int), .int .i64 ((g.2.2.2.2.2.1 : Nat) : Int)] 83 (0, 0)), ro bitsR, ro (roS a xs.length xs), ro (actsR xs ms), pt b9 (.cells #[.int .i64 g.2.1.size, .int .i64 g.2.1.limit, .slice g.2.2.1.va g.2.1.view.length g.2.2.1.vc, .slice g.2.2.1.ga g.2.1.ground.length g.2.2.1.gc, .slice g.2.2.1.la g.2.1.L.length g.2.2.1.lc] 49 (0, 0)), pt b14 (.cells #[.int .i64 k, .int .i64 g.2.2.2.2.2.2, .int .u64 ((g.2.2.2.2.1 : Nat) : Int)] 53 (0, 0)), ro (rdR g.2.1 g.2.2.1), pu (Rf.Plays g.2.1 g.1 g.2.2.2.2.1 g.2.2.2.2.2.1 g.2.2.2.2.2.2 (q + 1)), F], [(1, .int .i64 k), (2, .slice a xs.length c), (7, .pointer (some ⟨b0, 0, none⟩)), (9, .pointer (some ⟨b9, 0, none⟩)), (11, .pointer (some ⟨g.2.2.2.1, 0, none⟩)), (14, .pointer (some ⟨b14, 0, none⟩)), (17, .int .i64 q)]))) (((Mt.stepsW d k number last (few12 m0x).b (few12 m0x).place).d.crash (few12 m0x).l), ((Rf.rsteps r k number rl (few12 m0x).b (few12 m0x).place).r.crash (few12 m0x).l), zc, mn, (Mt.opened ((Mt.stepsW d k number last (few12 m0x).b (few12 m0x).place).d.crash (few12 m0x).l).view k).number, (Mt.opened ((Mt.stepsW d k number last (few12 m0x).b (few12 m0x).place).d.crash (few12 m0x).l).view k).last, Rf.rlast (Mt.opened ((Mt.stepsW d k number last (few12 m0x).b (few12 m0x).place).d.crash (few12 m0x).l).view k)) ?_ ?_
                       ·repeat (first | exact EnvSub.nil _ | (refine EnvSub.cons rfl ?_))
                       ·(first | dsimp only | skip)
                        exact Ent.cons (by (repeat constructor); done) (Ent.cons (by (repeat constructor); done) (Ent.roD (by (with_reducible repeat constructor); done) (Ent.roD (by (with_reducible repeat constructor); done) (Ent.roD (by (with_reducible repeat constructor); done) (Ent.cons (by (repeat constructor); done) (Ent.cons (by (repeat constructor); done) (Ent.roD (by (repeat constructor); done) (Ent.pu (Rf.plays_open (Rf.plays_crash hps (few12 m0x).l) k) (Ent.cons (by (repeat constructor); done) Ent.nil)))))))))
                   ·omega
                  ·skip
                   refine ht_region ?_
                   refine ho_ev rfl rfl rfl (by first | exact ev_fieldAddr0 rfl Tryd.fld33_0 rfl | exact ev_fieldAddr rfl Tryd.fld33_0 rfl) ?_
                   refine ho_ev rfl rfl rfl (ev_load rfl Tryd.underlying3 rfl rfl (by first | exact cell_pt (by (with_reducible repeat constructor); done) rfl | exact cell_ro (by (with_reducible repeat constructor); done) rfl)) ?_
                   refine ho_eq rfl rfl rfl rfl rfl rfl (fun g19 => ?_) (fun g19 => ?_)
                   ·omega
                   ·omega
                 ·skip
                  refine ho_ev rfl rfl rfl (ev_move rfl rfl) ?_
                  refine ho_evg rfl rfl rfl rfl (by first | exact ev_fieldAddr0 rfl Tryd.fld33_0 rfl | exact ev_fieldAddr rfl Tryd.fld33_0 rfl) ?_
                  refine ho_evg rfl rfl rfl rfl (ev_load rfl Tryd.underlying3 rfl rfl (by first | exact cell_pt (by (with_reducible repeat constructor); done) rfl | exact cell_ro (by (with_reducible repeat constructor); done) rfl)) ?_
                  refine ho_eqg rfl rfl rfl rfl rfl rfl rfl (fun g20 => ?_) (fun g20 => ?_)
                  ·skip
                   refine ho_ev rfl rfl rfl (ev_pick_f rfl rfl rfl) ?_
                   refine ho_nil ?_
                   refine hx_then ?_
                   refine ht_then rfl ?_
                   refine ht_seq ?_
                   refine ht_seq ?_
                   rcases (show (few12 m0x).kind = 1 ∨ (few12 m0x).kind = 2 by omega) with hk1 | hk2
                   ·skip
                    refine ht_region ?_
                    refine ho_ev rfl rfl rfl (by first | exact ev_fieldAddr0 rfl Tryd.fld33_0 rfl | exact ev_fieldAddr rfl Tryd.fld33_0 rfl) ?_
                    refine ho_ev rfl rfl rfl (ev_load rfl Tryd.underlying3 rfl rfl (by first | exact cell_pt (by (with_reducible repeat constructor); done) rfl | exact cell_ro (by (with_reducible repeat constructor); done) rfl)) ?_
                    refine ho_eq rfl rfl rfl rfl rfl rfl (fun g21 => ?_) (fun g21 => ?_)
                    ·omega
                    ·omega
                   ·skip
                    refine ht_region ?_
                    refine ho_ev rfl rfl rfl (by first | exact ev_fieldAddr0 rfl Tryd.fld33_0 rfl | exact ev_fieldAddr rfl Tryd.fld33_0 rfl) ?_
                    refine ho_ev rfl rfl rfl (ev_load rfl Tryd.underlying3 rfl rfl (by first | exact cell_pt (by (with_reducible repeat constructor); done) rfl | exact cell_ro (by (with_reducible repeat constructor); done) rfl)) ?_
                    refine ho_eq rfl rfl rfl rfl rfl rfl (fun g22 => ?_) (fun g22 => ?_)
                    ·omega
                    ·skip
                     refine ho_nil ?_
                     refine hx_then ?_
                     refine ht_else rfl ?_
                     refine ht_skip ?_
                     refine hx_then ?_
                     refine ht_seq ?_
                     refine ht_region ?_
                     refine ho_ev rfl rfl rfl (ev_loadA rfl Tryd.underlying49 Tryd.ty49 rfl rfl (by first | exact cells_pt (by (with_reducible repeat constructor); done) (Nat.le_of_ble_eq_true rfl) (by simp only [List.extract_toArray, List.extract_eq_take_drop, Nat.zero_add, Nat.sub_zero, Nat.add_sub_cancel_left, List.drop_zero, List.take_succ_cons, List.take_zero, List.drop_succ_cons] <;> rfl) | exact cells_ro (by (with_reducible repeat constructor); done) (Nat.le_of_ble_eq_true rfl) (by simp only [List.extract_toArray, List.extract_eq_take_drop, Nat.zero_add, Nat.sub_zero, Nat.add_sub_cancel_left, List.drop_zero, List.take_succ_cons, List.take_zero, List.drop_succ_cons] <;> rfl))) ?_
                     refine ho_ev rfl rfl rfl (ev_move rfl rfl) ?_
                     refine ho_eff rfl rfl rfl (eff_call rfl rfl (.cons rfl (.cons rfl .nil)) rfl (rf_Open (Rf.rsteps r k number rl (few12 m0x).b (few12 m0x).place).r z k hk (by have := (Rf.plays_len hps).2.2.1; omega) hps.short.view) (by repeat (first | exact Picks.nil | (apply Picks.ro; focus ((repeat constructor); done)) | (apply Picks.cons; focus ((repeat constructor); done)))) (fun _ => by repeat (first | exact App.nil | apply App.cons))) (fun _ => ?_)
                     rw [Rf.rep_fun hps.rep.view]
                     refine ho_ev rfl rfl rfl (ev_move rfl rfl) ?_
                     refine ho_ev rfl rfl rfl (ev_extract rfl rfl rfl) ?_
                     refine ho_ev rfl rfl rfl (ev_extract rfl rfl rfl) ?_
                     refine ho_ev rfl rfl rfl (ev_extract rfl rfl rfl) ?_
                     refine ho_eff rfl rfl rfl (eff_alloc rfl Tryd.ty53 (by first | exact cells_agg _ | exact rfl)) (fun b25 => ?_)
                     refine ho_eff0 rfl rfl (eff_storeA rfl Tryd.ty53 rfl rfl (by (with_reducible repeat constructor); done) rfl rfl rfl (by simp only [setRange, List.setIfInBounds_toArray, List.set_cons_zero, List.set_cons_succ, Nat.zero_add]; rfl)) (fun _ => ?_)
                     refine ho_ev rfl rfl rfl (ev_assign rfl rfl) ?_
                     refine ho_ev rfl rfl rfl (ev_assign rfl rfl) ?_
                     refine ho_nil ?_
                     refine hx_then ?_
                     refine ht_seq ?_
                     refine ht_region ?_
                     refine ho_ev rfl rfl rfl (ev_move rfl rfl) ?_
                     refine ho_ev rfl rfl rfl (ev_move rfl rfl) ?_
                     refine ho_eff rfl rfl rfl (eff_call rfl rfl (.cons rfl (.cons rfl .nil)) rfl (meta_Open b0 (Mt.stepsW d k number last (few12 m0x).b (few12 m0x).place).d k hk) (by repeat (first | exact Picks.nil | (apply Picks.ro; focus ((repeat constructor); done)) | (apply Picks.cons; focus ((repeat constructor); done)))) (fun _ => by repeat (first | exact App.nil | apply App.cons))) (fun mn => ?_)
                     refine ho_ev rfl rfl rfl (ev_move rfl rfl) ?_
                     refine ho_ev rfl rfl rfl (ev_extract rfl rfl rfl) ?_
                     refine ho_ev rfl rfl rfl (ev_extract rfl rfl rfl) ?_
                     refine ho_ev rfl rfl rfl (ev_extract rfl rfl rfl) ?_
                     refine ho_ev rfl rfl rfl (ev_assign rfl rfl) ?_
                     refine ho_ev rfl rfl rfl (ev_assign rfl rfl) ?_
                     refine ho_ev rfl rfl rfl (ev_assign rfl rfl) ?_
                     refine ho_nil ?_
                     refine hx_then ?_
                     refine ht_seq ?_
                     refine ht_seq ?_
                     refine ht_region ?_
                     refine ho_ev rfl rfl rfl (ev_move rfl rfl) ?_
                     refine ho_ev rfl rfl rfl (ev_ptrNil rfl Tryd.underlying28 rfl rfl rfl) ?_
                     refine ho_ev rfl rfl rfl (ev_move rfl rfl) ?_
                     refine ho_bool (t := 186) rfl (fun g23 => ?_) (fun g23 => ?_)
                     ·simp at g23
                     ·skip
                      refine ho_evg rfl rfl rfl rfl (ev_move rfl rfl) ?_
                      refine ho_evg rfl rfl rfl rfl (ev_move rfl rfl) ?_
                      refine ho_neSg rfl rfl rfl rfl rfl rfl rfl (fun g24 => ?_) (fun g24 => ?_)
                      ·simp at g24
                      ·skip
                       refine ho_ev rfl rfl rfl (ev_pick_f rfl rfl rfl) ?_
                       refine ho_ev rfl rfl rfl (ev_move rfl rfl) ?_
                       refine ho_evg rfl rfl rfl rfl (ev_move rfl rfl) ?_
                       refine ho_evg rfl rfl rfl rfl (ev_move rfl rfl) ?_
                       refine ho_neg rfl rfl rfl rfl rfl rfl rfl (fun g25 => ?_) (fun g25 => ?_)
                       ·omega
                       ·skip
                        refine ho_ev rfl rfl rfl (ev_pick_f rfl rfl rfl) ?_
                        refine ho_nil ?_
                        refine hx_then ?_
                        refine ht_else rfl ?_
                        refine ht_skip ?_
                        refine hx_then ?_
                        refine ht_region ?_
                        refine ho_ev rfl rfl rfl (ev_loadA rfl Tryd.underlying53 Tryd.ty53 rfl rfl (by first | exact cells_pt (by (with_reducible repeat constructor); done) (Nat.le_of_ble_eq_true rfl) (by simp only [List.extract_toArray, List.extract_eq_take_drop, Nat.zero_add, Nat.sub_zero, Nat.add_sub_cancel_left, List.drop_zero, List.take_succ_cons, List.take_zero, List.drop_succ_cons] <;> rfl) | exact cells_ro (by (with_reducible repeat constructor); done) (Nat.le_of_ble_eq_true rfl) (by simp only [List.extract_toArray, List.extract_eq_take_drop, Nat.zero_add, Nat.sub_zero, Nat.add_sub_cancel_left, List.drop_zero, List.take_succ_cons, List.take_zero, List.drop_succ_cons] <;> rfl))) ?_
                        refine ho_ev rfl rfl rfl (ev_move rfl rfl) ?_
                        refine ho_eff0 rfl rfl (eff_storeA rfl Tryd.ty53 rfl rfl (by (with_reducible repeat constructor); done) rfl rfl rfl (by simp only [setRange, List.setIfInBounds_toArray, List.set_cons_zero, List.set_cons_succ, Nat.zero_add]; rfl)) (fun _ => ?_)
                        refine ho_ev rfl rfl rfl (ev_assign rfl rfl) ?_
                        refine ho_nil ?_
                        refine hx_joined (I := (fun g : Dk.Disk × Rf.RDisk × RX × Nat × Nat × Nat × Int => ([DiskAt b0 g.1, pt g.2.2.2.1 (.cells #[.pointer (some ⟨b0, 0, none⟩), .int .i64 k, .int .u64 ((g.2.2.2.2.1 : Nat) : Int), .int .i64 ((g.2.2.2.2.2.1 : Nat) : Int)] 83 (0, 0)), ro bitsR, ro (roS a xs.length xs), ro (actsR xs ms), pt b9 (.cells #[.int .i64 g.2.1.size, .int .i64 g.2.1.limit, .slice g.2.2.1.va g.2.1.view.length g.2.2.1.vc, .slice g.2.2.1.ga g.2.1.ground.length g.2.2.1.gc, .slice g.2.2.1.la g.2.1.L.length g.2.2.1.lc] 49 (0, 0)), pt b14 (.cells #[.int .i64 k, .int .i64 g.2.2.2.2.2.2, .int .u64 ((g.2.2.2.2.1 : Nat) : Int)] 53 (0, 0)), ro (rdR g.2.1 g.2.2.1), pu (Rf.Plays g.2.1 g.1 g.2.2.2.2.1 g.2.2.2.2.2.1 g.2.2.2.2.2.2 (q + 1)), F], [(1, .int .i64 k), (2, .slice a xs.length c), (7, .pointer (some ⟨b0, 0, none⟩)), (9, .pointer (some ⟨b9, 0, none⟩)), (11, .pointer (some ⟨g.2.2.2.1, 0, none⟩)), (14, .pointer (some ⟨b14, 0, none⟩)), (17, .int .i64 q)]))) ((Mt.stepsW d k number last (few12 m0x).b (few12 m0x).place).d, (Rf.rsteps r k number rl (few12 m0x).b (few12 m0x).place).r, z, mn, (Mt.opened (Mt.stepsW d k number last (few12 m0x).b (few12 m0x).place).d.view k).number, (Mt.opened (Mt.stepsW d k number last (few12 m0x).b (few12 m0x).place).d.view k).last, Rf.rlast (Mt.opened (Mt.stepsW d k number last (few12 m0x).b (few12 m0x).place).d.view k)) ?_ ?_
                        ·repeat (first | exact EnvSub.nil _ | (refine EnvSub.cons rfl ?_))
                        ·(first | dsimp only | skip)
                         exact Ent.cons (by (repeat constructor); done) (Ent.cons (by (repeat constructor); done) (Ent.roD (by (with_reducible repeat constructor); done) (Ent.roD (by (with_reducible repeat constructor); done) (Ent.roD (by (with_reducible repeat constructor); done) (Ent.cons (by (repeat constructor); done) (Ent.cons (by (repeat constructor); done) (Ent.roD (by (repeat constructor); done) (Ent.pu (Rf.plays_open hps k) (Ent.cons (by (repeat constructor); done) Ent.nil)))))))))
                  ·skip
                   refine ho_ev rfl rfl rfl (ev_pick_f rfl rfl rfl) ?_
                   refine ho_nil ?_
                   refine hx_then ?_
                   refine ht_else rfl ?_
                   refine ht_skip ?_
                   refine hx_joined (I := (fun g : Dk.Disk × Rf.RDisk × RX × Nat × Nat × Nat × Int => ([DiskAt b0 g.1, pt g.2.2.2.1 (.cells #[.pointer (some ⟨b0, 0, none⟩), .int .i64 k, .int .u64 ((g.2.2.2.2.1 : Nat) : Int), .int .i64 ((g.2.2.2.2.2.1 : Nat) : Int)] 83 (0, 0)), ro bitsR, ro (roS a xs.length xs), ro (actsR xs ms), pt b9 (.cells #[.int .i64 g.2.1.size, .int .i64 g.2.1.limit, .slice g.2.2.1.va g.2.1.view.length g.2.2.1.vc, .slice g.2.2.1.ga g.2.1.ground.length g.2.2.1.gc, .slice g.2.2.1.la g.2.1.L.length g.2.2.1.lc] 49 (0, 0)), pt b14 (.cells #[.int .i64 k, .int .i64 g.2.2.2.2.2.2, .int .u64 ((g.2.2.2.2.1 : Nat) : Int)] 53 (0, 0)), ro (rdR g.2.1 g.2.2.1), pu (Rf.Plays g.2.1 g.1 g.2.2.2.2.1 g.2.2.2.2.2.1 g.2.2.2.2.2.2 (q + 1)), F], [(1, .int .i64 k), (2, .slice a xs.length c), (7, .pointer (some ⟨b0, 0, none⟩)), (9, .pointer (some ⟨b9, 0, none⟩)), (11, .pointer (some ⟨g.2.2.2.1, 0, none⟩)), (14, .pointer (some ⟨b14, 0, none⟩)), (17, .int .i64 q)]))) ((Mt.stepsW d k number last (few12 m0x).b (few12 m0x).place).d, (Rf.rsteps r k number rl (few12 m0x).b (few12 m0x).place).r, z, mb, (Mt.stepsW d k number last (few12 m0x).b (few12 m0x).place).number, (Mt.stepsW d k number last (few12 m0x).b (few12 m0x).place).last, (Rf.rsteps r k number rl (few12 m0x).b (few12 m0x).place).last) ?_ ?_
                   ·repeat (first | exact EnvSub.nil _ | (refine EnvSub.cons rfl ?_))
                   ·(first | dsimp only | skip)
                    exact Ent.cons (by (repeat constructor); done) (Ent.cons (by (repeat constructor); done) (Ent.roD (by (with_reducible repeat constructor); done) (Ent.roD (by (with_reducible repeat constructor); done) (Ent.roD (by (with_reducible repeat constructor); done) (Ent.cons (by (repeat constructor); done) (Ent.cons (by (repeat constructor); done) (Ent.roD (by (repeat constructor); done) (Ent.pu hps (Ent.cons (by (repeat constructor); done) Ent.nil)))))))))
                ·skip
                 obtain ⟨d2, r2, x2, mb2, number2, last2, rl2⟩ := g
                 (first | dsimp only | skip)
                 refine ht_pick (A := pu (Rf.Plays r2 d2 number2 last2 rl2 (q + 1))) (by (repeat constructor); done) (ht_pure fun hp2 => ?_)
                 obtain ⟨hpl2, hLq2, hvq2, hgq2, hcard2⟩ := Rf.plays_len hp2
                 refine ht_seq ?_
                 refine ht_draw (.op 0 (.op 2 (.op 3 (.op 1 (.op 4 (.op 5 (.op 6 (.op 8 (.op 9 (.op 10 (.op 7 (.op 11 (.op 12 (.op 13 (.op 14 (.op 16 (.op 17 (.op 18 (.op 15 (.op 19 (.op 20 .done))))))))))))))))))))) [1, 7, 15] Tryd.mixed rfl ?_
                 refine hd_ev rfl rfl rfl rfl (EvG.of rfl (ev_move rfl rfl)) ?_
                 refine hd_ev rfl rfl rfl rfl (EvG.of rfl (by first | exact ev_fieldAddr0 rfl Tryd.fld53_2 rfl | exact ev_fieldAddr rfl Tryd.fld53_2 rfl)) ?_
                 refine hd_ev rfl rfl rfl rfl (EvG.of rfl (ev_load rfl Tryd.underlying41 rfl rfl (by first | exact cell_pt (by (with_reducible repeat constructor); done) rfl | exact cell_ro (by (with_reducible repeat constructor); done) rfl))) ?_
                 refine hd_eff rfl rfl rfl rfl rfl (eff_call rfl rfl (.cons rfl .nil) rfl (meta_Number mb2 b0 k number2 last2) (by repeat (first | exact Picks.nil | (apply Picks.ro; focus ((repeat constructor); done)) | (apply Picks.cons; focus ((repeat constructor); done)))) (fun _ => by repeat (first | exact App.nil | apply App.cons))) (fun _ => by (refine FL.ev rfl (EvG.of rfl (ev_load rfl Tryd.underlying41 rfl rfl (by first | exact cell_pt (by (with_reducible repeat constructor); done) rfl | exact cell_ro (by (with_reducible repeat constructor); done) rfl))) ?_); (refine FL.ev rfl (EvG.of rfl (by first | exact ev_fieldAddr0 rfl Tryd.fld53_2 rfl | exact ev_fieldAddr rfl Tryd.fld53_2 rfl)) ?_); (refine FL.skip rfl ?_); exact FL.nil) (fun _ => ?_)
                 refine hd_ne rfl rfl rfl rfl rfl rfl rfl rfl (fun g26 => ?_) (fun g26 => ?_)
                 ·omega
                 ·skip
                  refine hd_ev rfl rfl rfl rfl (EvG.of rfl (ev_move rfl rfl)) ?_
                  refine hd_ev rfl rfl rfl rfl (EvG.ofg rfl rfl (ev_move rfl rfl)) ?_
                  refine hd_ev rfl rfl rfl rfl (EvG.ofg rfl rfl (by first | exact ev_fieldAddr0 rfl Tryd.fld49_2 rfl | exact ev_fieldAddr rfl Tryd.fld49_2 rfl)) ?_
                  refine hd_ev rfl rfl rfl rfl (EvG.ofg rfl rfl (ev_load rfl Tryd.underlying46 rfl rfl (by first | exact cell_pt (by (with_reducible repeat constructor); done) rfl | exact cell_ro (by (with_reducible repeat constructor); done) rfl))) ?_
                  refine hd_ev rfl rfl rfl rfl (EvG.ofg rfl rfl (ev_lenSl rfl Tryd.underlying46 rfl)) ?_
                  refine hd_effg rfl rfl rfl rfl rfl rfl (eff_call rfl rfl (.cons rfl .nil) rfl (disk_Used b0 d2) (by repeat (first | exact Picks.nil | (apply Picks.ro; focus ((repeat constructor); done)) | (apply Picks.cons; focus ((repeat constructor); done)))) (fun _ => by repeat (first | exact App.nil | apply App.cons))) (fun _ => by (refine FL.ev rfl (EvG.ofg rfl rfl (ev_lenSl rfl Tryd.underlying46 rfl)) ?_); (refine FL.ev rfl (EvG.ofg rfl rfl (ev_load rfl Tryd.underlying46 rfl rfl (by first | exact cell_pt (by (with_reducible repeat constructor); done) rfl | exact cell_ro (by (with_reducible repeat constructor); done) rfl))) ?_); (refine FL.ev rfl (EvG.ofg rfl rfl (by first | exact ev_fieldAddr0 rfl Tryd.fld49_2 rfl | exact ev_fieldAddr rfl Tryd.fld49_2 rfl)) ?_); (refine FL.skip rfl ?_); (refine FL.skip rfl ?_); (refine FL.skip rfl ?_); (refine FL.skip rfl ?_); (refine FL.skip rfl ?_); (refine FL.skip rfl ?_); exact FL.nil) (fun _ => ?_)
                  refine hd_neg rfl rfl rfl rfl rfl rfl rfl rfl rfl (fun g27 => ?_) (fun g27 => ?_)
                  ·omega
                  ·skip
                   refine hd_ev rfl rfl rfl rfl (EvG.of rfl (ev_pick_f rfl rfl rfl)) ?_
                   refine hd_ev rfl rfl rfl rfl (EvG.of rfl (ev_move rfl rfl)) ?_
                   refine hd_ev rfl rfl rfl rfl (EvG.ofg rfl rfl (ev_move rfl rfl)) ?_
                   refine hd_ev rfl rfl rfl rfl (EvG.ofg rfl rfl (by first | exact ev_fieldAddr0 rfl Tryd.fld49_4 rfl | exact ev_fieldAddr rfl Tryd.fld49_4 rfl)) ?_
                   refine hd_ev rfl rfl rfl rfl (EvG.ofg rfl rfl (ev_load rfl Tryd.underlying47 rfl rfl (by first | exact cell_pt (by (with_reducible repeat constructor); done) rfl | exact cell_ro (by (with_reducible repeat constructor); done) rfl))) ?_
                   refine hd_ev rfl rfl rfl rfl (EvG.ofg rfl rfl (ev_lenSl rfl Tryd.underlying47 rfl)) ?_
                   refine hd_effg rfl rfl rfl rfl rfl rfl (eff_call rfl rfl (.cons rfl .nil) rfl (disk_Pending b0 d2) (by repeat (first | exact Picks.nil | (apply Picks.ro; focus ((repeat constructor); done)) | (apply Picks.cons; focus ((repeat constructor); done)))) (fun _ => by repeat (first | exact App.nil | apply App.cons))) (fun _ => by (refine FL.ev rfl (EvG.ofg rfl rfl (ev_lenSl rfl Tryd.underlying47 rfl)) ?_); (refine FL.ev rfl (EvG.ofg rfl rfl (ev_load rfl Tryd.underlying47 rfl rfl (by first | exact cell_pt (by (with_reducible repeat constructor); done) rfl | exact cell_ro (by (with_reducible repeat constructor); done) rfl))) ?_); (refine FL.ev rfl (EvG.ofg rfl rfl (by first | exact ev_fieldAddr0 rfl Tryd.fld49_4 rfl | exact ev_fieldAddr rfl Tryd.fld49_4 rfl)) ?_); (refine FL.skip rfl ?_); (refine FL.skip rfl ?_); (refine FL.skip rfl ?_); (refine FL.skip rfl ?_); (refine FL.skip rfl ?_); (refine FL.skip rfl ?_); (refine FL.skip rfl ?_); (refine FL.skip rfl ?_); (refine FL.skip rfl ?_); (refine FL.skip rfl ?_); (refine FL.skip rfl ?_); (refine FL.skip rfl ?_); (refine FL.skip rfl ?_); exact FL.nil) (fun _ => ?_)
                   refine hd_neg rfl rfl rfl rfl rfl rfl rfl rfl rfl (fun g28 => ?_) (fun g28 => ?_)
                   ·omega
                   ·skip
                    refine hd_ev rfl rfl rfl rfl (EvG.of rfl (ev_pick_f rfl rfl rfl)) ?_
                    refine hd_nil ?_
                    refine hx_then ?_
                    refine ht_else rfl ?_
                    refine ht_skip ?_
                    refine hx_block_normal ?_
                    refine hx_then ?_
                    refine ht_region ?_
                    refine ho_ev rfl rfl rfl (ev_move rfl rfl) ?_
                    refine ho_ev rfl rfl rfl (ev_add rfl rfl rfl (by first | exact in_i64 (by omega) | rfl)) ?_
                    refine ho_ev rfl rfl rfl (ev_assign rfl rfl) ?_
                    refine ho_nil ?_
                    refine hx_again (I := (fun q : Nat × Dk.Disk × Rf.RDisk × RX × Nat × Nat × Nat × Int => ([DiskAt b0 q.2.1, pt q.2.2.2.2.1 (.cells #[.pointer (some ⟨b0, 0, none⟩), .int .i64 k, .int .u64 ((q.2.2.2.2.2.1 : Nat) : Int), .int .i64 ((q.2.2.2.2.2.2.1 : Nat) : Int)] 83 (0, 0)), ro bitsR, ro (roS a xs.length xs), ro (actsR xs ms), pt b9 (.cells #[.int .i64 q.2.2.1.size, .int .i64 q.2.2.1.limit, .slice q.2.2.2.1.va q.2.2.1.view.length q.2.2.2.1.vc, .slice q.2.2.2.1.ga q.2.2.1.ground.length q.2.2.2.1.gc, .slice q.2.2.2.1.la q.2.2.1.L.length q.2.2.2.1.lc] 49 (0, 0)), pt b14 (.cells #[.int .i64 k, .int .i64 q.2.2.2.2.2.2.2, .int .u64 ((q.2.2.2.2.2.1 : Nat) : Int)] 53 (0, 0)), ro (rdR q.2.2.1 q.2.2.2.1), pu (Rf.Plays q.2.2.1 q.2.1 q.2.2.2.2.2.1 q.2.2.2.2.2.2.1 q.2.2.2.2.2.2.2 q.1 ∧ q.1 ≤ 25 ∧ q.1 ≤ xs.length), F], [(1, .int .i64 k), (2, .slice a xs.length c), (7, .pointer (some ⟨b0, 0, none⟩)), (9, .pointer (some ⟨b9, 0, none⟩)), (11, .pointer (some ⟨q.2.2.2.2.1, 0, none⟩)), (14, .pointer (some ⟨b14, 0, none⟩)), (17, .int .i64 q.1)]))) (μ := (fun q : Nat × Dk.Disk × Rf.RDisk × RX × Nat × Nat × Nat × Int => 25 - q.1)) (i := (q, d, r, x, mb, number, last, rl)) (q + 1, d2, r2, x2, mb2, number2, last2, rl2) ?_ ?_ ?_
                    ·(first | dsimp only | skip); omega
                    ·repeat (first | exact EnvSub.nil _ | (refine EnvSub.cons rfl ?_))
                    ·(first | dsimp only | skip)
                     exact Ent.cons (by (repeat constructor); done) (Ent.cons (by (repeat constructor); done) (Ent.roD (by (with_reducible repeat constructor); done) (Ent.roD (by (with_reducible repeat constructor); done) (Ent.roD (by (with_reducible repeat constructor); done) (Ent.cons (by (repeat constructor); done) (Ent.cons (by (repeat constructor); done) (Ent.roD (by (repeat constructor); done) (Ent.pu ⟨hp2, by omega, by omega⟩ (Ent.cons (by (repeat constructor); done) Ent.nil)))))))))
              ·skip
               refine ht_region ?_
               refine ho_ev rfl rfl rfl (ev_move rfl rfl) ?_
               refine ho_ev rfl rfl rfl (ev_move rfl rfl) ?_
               refine ho_ev rfl rfl rfl (ev_cmpB rfl Tryd.underlying4 rfl rfl rfl) ?_
               refine ho_ev rfl rfl rfl (ev_move rfl rfl) ?_
               refine ho_evg rfl rfl rfl rfl (ev_move rfl rfl) ?_
               refine ho_evg rfl rfl rfl rfl (ev_move rfl rfl) ?_
               refine ho_neg rfl rfl rfl rfl rfl rfl rfl (fun g29 => ?_) (fun g29 => ?_)
               ·omega
               ·skip
                refine ho_ev rfl rfl rfl (ev_pick_f rfl rfl rfl) ?_
                refine ho_nil ?_
                refine hx_then ?_
                refine ht_else rfl ?_
                refine ht_skip ?_
                refine hx_then ?_
                refine ht_join (fun g : Dk.Disk × Rf.RDisk × RX × Nat × Nat × Nat × Int => ([DiskAt b0 g.1, pt g.2.2.2.1 (.cells #[.pointer (some ⟨b0, 0, none⟩), .int .i64 k, .int .u64 ((g.2.2.2.2.1 : Nat) : Int), .int .i64 ((g.2.2.2.2.2.1 : Nat) : Int)] 83 (0, 0)), ro bitsR, ro (roS a xs.length xs), ro (actsR xs ms), pt b9 (.cells #[.int .i64 g.2.1.size, .int .i64 g.2.1.limit, .slice g.2.2.1.va g.2.1.view.length g.2.2.1.vc, .slice g.2.2.1.ga g.2.1.ground.length g.2.2.1.gc, .slice g.2.2.1.la g.2.1.L.length g.2.2.1.lc] 49 (0, 0)), pt b14 (.cells #[.int .i64 k, .int .i64 g.2.2.2.2.2.2, .int .u64 ((g.2.2.2.2.1 : Nat) : Int)] 53 (0, 0)), ro (rdR g.2.1 g.2.2.1), pu (Rf.Plays g.2.1 g.1 g.2.2.2.2.1 g.2.2.2.2.2.1 g.2.2.2.2.2.2 (q + 1)), F], [(1, .int .i64 k), (2, .slice a xs.length c), (7, .pointer (some ⟨b0, 0, none⟩)), (9, .pointer (some ⟨b9, 0, none⟩)), (11, .pointer (some ⟨g.2.2.2.1, 0, none⟩)), (14, .pointer (some ⟨b14, 0, none⟩)), (17, .int .i64 q)])) ?_ (fun g => ?_)
                ·skip
                 refine ht_seq ?_
                 refine ht_region ?_
                 refine ho_ev rfl rfl rfl (by first | exact ev_fieldAddr0 rfl Tryd.fld33_0 rfl | exact ev_fieldAddr rfl Tryd.fld33_0 rfl) ?_
                 refine ho_ev rfl rfl rfl (ev_load rfl Tryd.underlying3 rfl rfl (by first | exact cell_pt (by (with_reducible repeat constructor); done) rfl | exact cell_ro (by (with_reducible repeat constructor); done) rfl)) ?_
                 refine ho_eq rfl rfl rfl rfl rfl rfl (fun g30 => ?_) (fun g30 => ?_)
                 ·skip
                  refine ho_ev rfl rfl rfl (ev_move rfl rfl) ?_
                  refine ho_pass rfl rfl rfl rfl ?_
                  refine ho_pass rfl rfl rfl rfl ?_
                  refine ho_pass rfl rfl rfl rfl ?_
                  refine ho_ev rfl rfl rfl (ev_pick_t rfl rfl rfl) ?_
                  refine ho_nil ?_
                  refine hx_then ?_
                  refine ht_then rfl ?_
                  refine ht_seq ?_
                  refine ht_seq ?_
                  rcases (show (few12 m0x).kind = 1 ∨ (few12 m0x).kind = 2 by omega) with hk1 | hk2
                  ·skip
                   refine ht_region ?_
                   refine ho_ev rfl rfl rfl (by first | exact ev_fieldAddr0 rfl Tryd.fld33_0 rfl | exact ev_fieldAddr rfl Tryd.fld33_0 rfl) ?_
                   refine ho_ev rfl rfl rfl (ev_load rfl Tryd.underlying3 rfl rfl (by first | exact cell_pt (by (with_reducible repeat constructor); done) rfl | exact cell_ro (by (with_reducible repeat constructor); done) rfl)) ?_
                   refine ho_eq rfl rfl rfl rfl rfl rfl (fun g31 => ?_) (fun g31 => ?_)
                   ·skip
                    refine ho_nil ?_
                    refine hx_then ?_
                    refine ht_then rfl ?_
                    refine ht_seq ?_
                    refine ht_region ?_
                    refine ho_ev rfl rfl rfl (ev_move rfl rfl) ?_
                    refine ho_ev rfl rfl rfl (by first | exact ev_fieldAddr0 rfl Tryd.fld33_3 rfl | exact ev_fieldAddr rfl Tryd.fld33_3 rfl) ?_
                    refine ho_ev rfl rfl rfl (ev_load rfl Tryd.underlying31 rfl rfl (by first | exact cell_pt (by (with_reducible repeat constructor); done) rfl | exact cell_ro (by (with_reducible repeat constructor); done) rfl)) ?_
                    refine ho_eff rfl rfl rfl (eff_call rfl rfl (.cons rfl (.cons rfl .nil)) rfl (disk_Crash b0 (Mt.stepsW d k number last (few12 m0x).b (few12 m0x).place).d yla ylc (few12 m0x).l (by have := few12_l m0x; omega) (by omega)) (by repeat (first | exact Picks.nil | (apply Picks.ro; focus ((repeat constructor); done)) | (apply Picks.cons; focus ((repeat constructor); done)))) (fun _ => by repeat (first | exact App.nil | apply App.cons))) (fun _ => ?_)
                    refine ho_nil ?_
                    refine hx_then ?_
                    refine ht_region ?_
                    refine ho_ev rfl rfl rfl (ev_loadA rfl Tryd.underlying49 Tryd.ty49 rfl rfl (by first | exact cells_pt (by (with_reducible repeat constructor); done) (Nat.le_of_ble_eq_true rfl) (by simp only [List.extract_toArray, List.extract_eq_take_drop, Nat.zero_add, Nat.sub_zero, Nat.add_sub_cancel_left, List.drop_zero, List.take_succ_cons, List.take_zero, List.drop_succ_cons] <;> rfl) | exact cells_ro (by (with_reducible repeat constructor); done) (Nat.le_of_ble_eq_true rfl) (by simp only [List.extract_toArray, List.extract_eq_take_drop, Nat.zero_add, Nat.sub_zero, Nat.add_sub_cancel_left, List.drop_zero, List.take_succ_cons, List.take_zero, List.drop_succ_cons] <;> rfl))) ?_
                    refine ho_ev rfl rfl rfl (by first | exact ev_fieldAddr0 rfl Tryd.fld33_3 rfl | exact ev_fieldAddr rfl Tryd.fld33_3 rfl) ?_
                    refine ho_ev rfl rfl rfl (ev_load rfl Tryd.underlying31 rfl rfl (by first | exact cell_pt (by (with_reducible repeat constructor); done) rfl | exact cell_ro (by (with_reducible repeat constructor); done) rfl)) ?_
                    refine ho_eff rfl rfl rfl (eff_call rfl rfl (.cons rfl (.cons rfl .nil)) rfl (rf_Crash (Rf.rsteps r k number rl (few12 m0x).b (few12 m0x).place).r z yla ylc (few12 m0x).l (by have := few12_l m0x; omega) (by omega) (by omega) hps.short.ground hps.short.pend) (by repeat (first | exact Picks.nil | (apply Picks.ro; focus ((repeat constructor); done)) | (apply Picks.cons; focus ((repeat constructor); done)))) (fun _ => by repeat (first | exact App.nil | apply App.cons))) (fun zc => ?_)
                    refine ho_eff0 rfl rfl (eff_storeA rfl Tryd.ty49 rfl rfl (by (with_reducible repeat constructor); done) rfl rfl rfl (by simp only [setRange, List.setIfInBounds_toArray, List.set_cons_zero, List.set_cons_succ, Nat.zero_add]; rfl)) (fun _ => ?_)
                    refine ho_nil ?_
                    refine hx_then ?_
                    refine ht_seq ?_
                    refine ht_region ?_
                    refine ho_ev rfl rfl rfl (ev_loadA rfl Tryd.underlying49 Tryd.ty49 rfl rfl (by first | exact cells_pt (by (with_reducible repeat constructor); done) (Nat.le_of_ble_eq_true rfl) (by simp only [List.extract_toArray, List.extract_eq_take_drop, Nat.zero_add, Nat.sub_zero, Nat.add_sub_cancel_left, List.drop_zero, List.take_succ_cons, List.take_zero, List.drop_succ_cons] <;> rfl) | exact cells_ro (by (with_reducible repeat constructor); done) (Nat.le_of_ble_eq_true rfl) (by simp only [List.extract_toArray, List.extract_eq_take_drop, Nat.zero_add, Nat.sub_zero, Nat.add_sub_cancel_left, List.drop_zero, List.take_succ_cons, List.take_zero, List.drop_succ_cons] <;> rfl))) ?_
                    refine ho_ev rfl rfl rfl (ev_move rfl rfl) ?_
                    refine ho_eff rfl rfl rfl (eff_call rfl rfl (.cons rfl (.cons rfl .nil)) rfl (rf_Open ((Rf.rsteps r k number rl (few12 m0x).b (few12 m0x).place).r.crash (few12 m0x).l) zc k hk (by have := (Rf.plays_len (Rf.plays_crash hps (few12 m0x).l)).2.2.1; omega) (Rf.plays_crash hps (few12 m0x).l).short.view) (by repeat (first | exact Picks.nil | (apply Picks.ro; focus ((repeat constructor); done)) | (apply Picks.cons; focus ((repeat constructor); done)))) (fun _ => by repeat (first | exact App.nil | apply App.cons))) (fun _ => ?_)
                    rw [Rf.rep_fun (Rf.plays_crash hps (few12 m0x).l).rep.view]
                    refine ho_ev rfl rfl rfl (ev_move rfl rfl) ?_
                    refine ho_ev rfl rfl rfl (ev_extract rfl rfl rfl) ?_
                    refine ho_ev rfl rfl rfl (ev_extract rfl rfl rfl) ?_
                    refine ho_ev rfl rfl rfl (ev_extract rfl rfl rfl) ?_
                    refine ho_eff rfl rfl rfl (eff_alloc rfl Tryd.ty53 (by first | exact cells_agg _ | exact rfl)) (fun b25 => ?_)
                    refine ho_eff0 rfl rfl (eff_storeA rfl Tryd.ty53 rfl rfl (by (with_reducible repeat constructor); done) rfl rfl rfl (by simp only [setRange, List.setIfInBounds_toArray, List.set_cons_zero, List.set_cons_succ, Nat.zero_add]; rfl)) (fun _ => ?_)
                    refine ho_ev rfl rfl rfl (ev_assign rfl rfl) ?_
                    refine ho_ev rfl rfl rfl (ev_assign rfl rfl) ?_
                    refine ho_nil ?_
                    refine hx_then ?_
                    refine ht_seq ?_
                    refine ht_region ?_
                    refine ho_ev rfl rfl rfl (ev_move rfl rfl) ?_
                    refine ho_ev rfl rfl rfl (ev_move rfl rfl) ?_
                    refine ho_eff rfl rfl rfl (eff_call rfl rfl (.cons rfl (.cons rfl .nil)) rfl (meta_Open b0 ((Mt.stepsW d k number last (few12 m0x).b (few12 m0x).place).d.crash (few12 m0x).l) k hk) (by repeat (first | exact Picks.nil | (apply Picks.ro; focus ((repeat constructor); done)) | (apply Picks.cons; focus ((repeat constructor); done)))) (fun _ => by repeat (first | exact App.nil | apply App.cons))) (fun mn => ?_)
                    refine ho_ev rfl rfl rfl (ev_move rfl rfl) ?_
                    refine ho_ev rfl rfl rfl (ev_extract rfl rfl rfl) ?_
                    refine ho_ev rfl rfl rfl (ev_extract rfl rfl rfl) ?_
                    refine ho_ev rfl rfl rfl (ev_extract rfl rfl rfl) ?_
                    refine ho_ev rfl rfl rfl (ev_assign rfl rfl) ?_
                    refine ho_ev rfl rfl rfl (ev_assign rfl rfl) ?_
                    refine ho_ev rfl rfl rfl (ev_assign rfl rfl) ?_
                    refine ho_nil ?_
                    refine hx_then ?_
                    refine ht_seq ?_
                    refine ht_seq ?_
                    refine ht_region ?_
                    refine ho_ev rfl rfl rfl (ev_move rfl rfl) ?_
                    refine ho_ev rfl rfl rfl (ev_ptrNil rfl Tryd.underlying28 rfl rfl rfl) ?_
                    refine ho_ev rfl rfl rfl (ev_move rfl rfl) ?_
                    refine ho_bool (t := 186) rfl (fun g32 => ?_) (fun g32 => ?_)
                    ·simp at g32
                    ·skip
                     refine ho_evg rfl rfl rfl rfl (ev_move rfl rfl) ?_
                     refine ho_evg rfl rfl rfl rfl (ev_move rfl rfl) ?_
                     refine ho_neSg rfl rfl rfl rfl rfl rfl rfl (fun g33 => ?_) (fun g33 => ?_)
                     ·simp at g33
                     ·skip
                      refine ho_ev rfl rfl rfl (ev_pick_f rfl rfl rfl) ?_
                      refine ho_ev rfl rfl rfl (ev_move rfl rfl) ?_
                      refine ho_evg rfl rfl rfl rfl (ev_move rfl rfl) ?_
                      refine ho_evg rfl rfl rfl rfl (ev_move rfl rfl) ?_
                      refine ho_neg rfl rfl rfl rfl rfl rfl rfl (fun g34 => ?_) (fun g34 => ?_)
                      ·omega
                      ·skip
                       refine ho_ev rfl rfl rfl (ev_pick_f rfl rfl rfl) ?_
                       refine ho_nil ?_
                       refine hx_then ?_
                       refine ht_else rfl ?_
                       refine ht_skip ?_
                       refine hx_then ?_
                       refine ht_region ?_
                       refine ho_ev rfl rfl rfl (ev_loadA rfl Tryd.underlying53 Tryd.ty53 rfl rfl (by first | exact cells_pt (by (with_reducible repeat constructor); done) (Nat.le_of_ble_eq_true rfl) (by simp only [List.extract_toArray, List.extract_eq_take_drop, Nat.zero_add, Nat.sub_zero, Nat.add_sub_cancel_left, List.drop_zero, List.take_succ_cons, List.take_zero, List.drop_succ_cons] <;> rfl) | exact cells_ro (by (with_reducible repeat constructor); done) (Nat.le_of_ble_eq_true rfl) (by simp only [List.extract_toArray, List.extract_eq_take_drop, Nat.zero_add, Nat.sub_zero, Nat.add_sub_cancel_left, List.drop_zero, List.take_succ_cons, List.take_zero, List.drop_succ_cons] <;> rfl))) ?_
                       refine ho_ev rfl rfl rfl (ev_move rfl rfl) ?_
                       refine ho_eff0 rfl rfl (eff_storeA rfl Tryd.ty53 rfl rfl (by (with_reducible repeat constructor); done) rfl rfl rfl (by simp only [setRange, List.setIfInBounds_toArray, List.set_cons_zero, List.set_cons_succ, Nat.zero_add]; rfl)) (fun _ => ?_)
                       refine ho_ev rfl rfl rfl (ev_assign rfl rfl) ?_
                       refine ho_nil ?_
                       refine hx_joined (I := (fun g : Dk.Disk × Rf.RDisk × RX × Nat × Nat × Nat × Int => ([DiskAt b0 g.1, pt g.2.2.2.1 (.cells #[.pointer (some ⟨b0, 0, none⟩), .int .i64 k, .int .u64 ((g.2.2.2.2.1 : Nat) : Int), .int .i64 ((g.2.2.2.2.2.1 : Nat) : Int)] 83 (0, 0)), ro bitsR, ro (roS a xs.length xs), ro (actsR xs ms), pt b9 (.cells #[.int .i64 g.2.1.size, .int .i64 g.2.1.limit, .slice g.2.2.1.va g.2.1.view.length g.2.2.1.vc, .slice g.2.2.1.ga g.2.1.ground.length g.2.2.1.gc, .slice g.2.2.1.la g.2.1.L.length g.2.2.1.lc] 49 (0, 0)), pt b14 (.cells #[.int .i64 k, .int .i64 g.2.2.2.2.2.2, .int .u64 ((g.2.2.2.2.1 : Nat) : Int)] 53 (0, 0)), ro (rdR g.2.1 g.2.2.1), pu (Rf.Plays g.2.1 g.1 g.2.2.2.2.1 g.2.2.2.2.2.1 g.2.2.2.2.2.2 (q + 1)), F], [(1, .int .i64 k), (2, .slice a xs.length c), (7, .pointer (some ⟨b0, 0, none⟩)), (9, .pointer (some ⟨b9, 0, none⟩)), (11, .pointer (some ⟨g.2.2.2.1, 0, none⟩)), (14, .pointer (some ⟨b14, 0, none⟩)), (17, .int .i64 q)]))) (((Mt.stepsW d k number last (few12 m0x).b (few12 m0x).place).d.crash (few12 m0x).l), ((Rf.rsteps r k number rl (few12 m0x).b (few12 m0x).place).r.crash (few12 m0x).l), zc, mn, (Mt.opened ((Mt.stepsW d k number last (few12 m0x).b (few12 m0x).place).d.crash (few12 m0x).l).view k).number, (Mt.opened ((Mt.stepsW d k number last (few12 m0x).b (few12 m0x).place).d.crash (few12 m0x).l).view k).last, Rf.rlast (Mt.opened ((Mt.stepsW d k number last (few12 m0x).b (few12 m0x).place).d.crash (few12 m0x).l).view k)) ?_ ?_
                       ·repeat (first | exact EnvSub.nil _ | (refine EnvSub.cons rfl ?_))
                       ·(first | dsimp only | skip)
                        exact Ent.cons (by (repeat constructor); done) (Ent.cons (by (repeat constructor); done) (Ent.roD (by (with_reducible repeat constructor); done) (Ent.roD (by (with_reducible repeat constructor); done) (Ent.roD (by (with_reducible repeat constructor); done) (Ent.cons (by (repeat constructor); done) (Ent.cons (by (repeat constructor); done) (Ent.roD (by (repeat constructor); done) (Ent.pu (Rf.plays_open (Rf.plays_crash hps (few12 m0x).l) k) (Ent.cons (by (repeat constructor); done) Ent.nil)))))))))
                   ·omega
                  ·skip
                   refine ht_region ?_
                   refine ho_ev rfl rfl rfl (by first | exact ev_fieldAddr0 rfl Tryd.fld33_0 rfl | exact ev_fieldAddr rfl Tryd.fld33_0 rfl) ?_
                   refine ho_ev rfl rfl rfl (ev_load rfl Tryd.underlying3 rfl rfl (by first | exact cell_pt (by (with_reducible repeat constructor); done) rfl | exact cell_ro (by (with_reducible repeat constructor); done) rfl)) ?_
                   refine ho_eq rfl rfl rfl rfl rfl rfl (fun g35 => ?_) (fun g35 => ?_)
                   ·omega
                   ·omega
                 ·skip
                  refine ho_ev rfl rfl rfl (ev_move rfl rfl) ?_
                  refine ho_evg rfl rfl rfl rfl (by first | exact ev_fieldAddr0 rfl Tryd.fld33_0 rfl | exact ev_fieldAddr rfl Tryd.fld33_0 rfl) ?_
                  refine ho_evg rfl rfl rfl rfl (ev_load rfl Tryd.underlying3 rfl rfl (by first | exact cell_pt (by (with_reducible repeat constructor); done) rfl | exact cell_ro (by (with_reducible repeat constructor); done) rfl)) ?_
                  refine ho_eqg rfl rfl rfl rfl rfl rfl rfl (fun g36 => ?_) (fun g36 => ?_)
                  ·skip
                   refine ho_ev rfl rfl rfl (ev_pick_f rfl rfl rfl) ?_
                   refine ho_nil ?_
                   refine hx_then ?_
                   refine ht_then rfl ?_
                   refine ht_seq ?_
                   refine ht_seq ?_
                   rcases (show (few12 m0x).kind = 1 ∨ (few12 m0x).kind = 2 by omega) with hk1 | hk2
                   ·skip
                    refine ht_region ?_
                    refine ho_ev rfl rfl rfl (by first | exact ev_fieldAddr0 rfl Tryd.fld33_0 rfl | exact ev_fieldAddr rfl Tryd.fld33_0 rfl) ?_
                    refine ho_ev rfl rfl rfl (ev_load rfl Tryd.underlying3 rfl rfl (by first | exact cell_pt (by (with_reducible repeat constructor); done) rfl | exact cell_ro (by (with_reducible repeat constructor); done) rfl)) ?_
                    refine ho_eq rfl rfl rfl rfl rfl rfl (fun g37 => ?_) (fun g37 => ?_)
                    ·omega
                    ·omega
                   ·skip
                    refine ht_region ?_
                    refine ho_ev rfl rfl rfl (by first | exact ev_fieldAddr0 rfl Tryd.fld33_0 rfl | exact ev_fieldAddr rfl Tryd.fld33_0 rfl) ?_
                    refine ho_ev rfl rfl rfl (ev_load rfl Tryd.underlying3 rfl rfl (by first | exact cell_pt (by (with_reducible repeat constructor); done) rfl | exact cell_ro (by (with_reducible repeat constructor); done) rfl)) ?_
                    refine ho_eq rfl rfl rfl rfl rfl rfl (fun g38 => ?_) (fun g38 => ?_)
                    ·omega
                    ·skip
                     refine ho_nil ?_
                     refine hx_then ?_
                     refine ht_else rfl ?_
                     refine ht_skip ?_
                     refine hx_then ?_
                     refine ht_seq ?_
                     refine ht_region ?_
                     refine ho_ev rfl rfl rfl (ev_loadA rfl Tryd.underlying49 Tryd.ty49 rfl rfl (by first | exact cells_pt (by (with_reducible repeat constructor); done) (Nat.le_of_ble_eq_true rfl) (by simp only [List.extract_toArray, List.extract_eq_take_drop, Nat.zero_add, Nat.sub_zero, Nat.add_sub_cancel_left, List.drop_zero, List.take_succ_cons, List.take_zero, List.drop_succ_cons] <;> rfl) | exact cells_ro (by (with_reducible repeat constructor); done) (Nat.le_of_ble_eq_true rfl) (by simp only [List.extract_toArray, List.extract_eq_take_drop, Nat.zero_add, Nat.sub_zero, Nat.add_sub_cancel_left, List.drop_zero, List.take_succ_cons, List.take_zero, List.drop_succ_cons] <;> rfl))) ?_
                     refine ho_ev rfl rfl rfl (ev_move rfl rfl) ?_
                     refine ho_eff rfl rfl rfl (eff_call rfl rfl (.cons rfl (.cons rfl .nil)) rfl (rf_Open (Rf.rsteps r k number rl (few12 m0x).b (few12 m0x).place).r z k hk (by have := (Rf.plays_len hps).2.2.1; omega) hps.short.view) (by repeat (first | exact Picks.nil | (apply Picks.ro; focus ((repeat constructor); done)) | (apply Picks.cons; focus ((repeat constructor); done)))) (fun _ => by repeat (first | exact App.nil | apply App.cons))) (fun _ => ?_)
                     rw [Rf.rep_fun hps.rep.view]
                     refine ho_ev rfl rfl rfl (ev_move rfl rfl) ?_
                     refine ho_ev rfl rfl rfl (ev_extract rfl rfl rfl) ?_
                     refine ho_ev rfl rfl rfl (ev_extract rfl rfl rfl) ?_
                     refine ho_ev rfl rfl rfl (ev_extract rfl rfl rfl) ?_
                     refine ho_eff rfl rfl rfl (eff_alloc rfl Tryd.ty53 (by first | exact cells_agg _ | exact rfl)) (fun b25 => ?_)
                     refine ho_eff0 rfl rfl (eff_storeA rfl Tryd.ty53 rfl rfl (by (with_reducible repeat constructor); done) rfl rfl rfl (by simp only [setRange, List.setIfInBounds_toArray, List.set_cons_zero, List.set_cons_succ, Nat.zero_add]; rfl)) (fun _ => ?_)
                     refine ho_ev rfl rfl rfl (ev_assign rfl rfl) ?_
                     refine ho_ev rfl rfl rfl (ev_assign rfl rfl) ?_
                     refine ho_nil ?_
                     refine hx_then ?_
                     refine ht_seq ?_
                     refine ht_region ?_
                     refine ho_ev rfl rfl rfl (ev_move rfl rfl) ?_
                     refine ho_ev rfl rfl rfl (ev_move rfl rfl) ?_
                     refine ho_eff rfl rfl rfl (eff_call rfl rfl (.cons rfl (.cons rfl .nil)) rfl (meta_Open b0 (Mt.stepsW d k number last (few12 m0x).b (few12 m0x).place).d k hk) (by repeat (first | exact Picks.nil | (apply Picks.ro; focus ((repeat constructor); done)) | (apply Picks.cons; focus ((repeat constructor); done)))) (fun _ => by repeat (first | exact App.nil | apply App.cons))) (fun mn => ?_)
                     refine ho_ev rfl rfl rfl (ev_move rfl rfl) ?_
                     refine ho_ev rfl rfl rfl (ev_extract rfl rfl rfl) ?_
                     refine ho_ev rfl rfl rfl (ev_extract rfl rfl rfl) ?_
                     refine ho_ev rfl rfl rfl (ev_extract rfl rfl rfl) ?_
                     refine ho_ev rfl rfl rfl (ev_assign rfl rfl) ?_
                     refine ho_ev rfl rfl rfl (ev_assign rfl rfl) ?_
                     refine ho_ev rfl rfl rfl (ev_assign rfl rfl) ?_
                     refine ho_nil ?_
                     refine hx_then ?_
                     refine ht_seq ?_
                     refine ht_seq ?_
                     refine ht_region ?_
                     refine ho_ev rfl rfl rfl (ev_move rfl rfl) ?_
                     refine ho_ev rfl rfl rfl (ev_ptrNil rfl Tryd.underlying28 rfl rfl rfl) ?_
                     refine ho_ev rfl rfl rfl (ev_move rfl rfl) ?_
                     refine ho_bool (t := 186) rfl (fun g39 => ?_) (fun g39 => ?_)
                     ·simp at g39
                     ·skip
                      refine ho_evg rfl rfl rfl rfl (ev_move rfl rfl) ?_
                      refine ho_evg rfl rfl rfl rfl (ev_move rfl rfl) ?_
                      refine ho_neSg rfl rfl rfl rfl rfl rfl rfl (fun g40 => ?_) (fun g40 => ?_)
                      ·simp at g40
                      ·skip
                       refine ho_ev rfl rfl rfl (ev_pick_f rfl rfl rfl) ?_
                       refine ho_ev rfl rfl rfl (ev_move rfl rfl) ?_
                       refine ho_evg rfl rfl rfl rfl (ev_move rfl rfl) ?_
                       refine ho_evg rfl rfl rfl rfl (ev_move rfl rfl) ?_
                       refine ho_neg rfl rfl rfl rfl rfl rfl rfl (fun g41 => ?_) (fun g41 => ?_)
                       ·omega
                       ·skip
                        refine ho_ev rfl rfl rfl (ev_pick_f rfl rfl rfl) ?_
                        refine ho_nil ?_
                        refine hx_then ?_
                        refine ht_else rfl ?_
                        refine ht_skip ?_
                        refine hx_then ?_
                        refine ht_region ?_
                        refine ho_ev rfl rfl rfl (ev_loadA rfl Tryd.underlying53 Tryd.ty53 rfl rfl (by first | exact cells_pt (by (with_reducible repeat constructor); done) (Nat.le_of_ble_eq_true rfl) (by simp only [List.extract_toArray, List.extract_eq_take_drop, Nat.zero_add, Nat.sub_zero, Nat.add_sub_cancel_left, List.drop_zero, List.take_succ_cons, List.take_zero, List.drop_succ_cons] <;> rfl) | exact cells_ro (by (with_reducible repeat constructor); done) (Nat.le_of_ble_eq_true rfl) (by simp only [List.extract_toArray, List.extract_eq_take_drop, Nat.zero_add, Nat.sub_zero, Nat.add_sub_cancel_left, List.drop_zero, List.take_succ_cons, List.take_zero, List.drop_succ_cons] <;> rfl))) ?_
                        refine ho_ev rfl rfl rfl (ev_move rfl rfl) ?_
                        refine ho_eff0 rfl rfl (eff_storeA rfl Tryd.ty53 rfl rfl (by (with_reducible repeat constructor); done) rfl rfl rfl (by simp only [setRange, List.setIfInBounds_toArray, List.set_cons_zero, List.set_cons_succ, Nat.zero_add]; rfl)) (fun _ => ?_)
                        refine ho_ev rfl rfl rfl (ev_assign rfl rfl) ?_
                        refine ho_nil ?_
                        refine hx_joined (I := (fun g : Dk.Disk × Rf.RDisk × RX × Nat × Nat × Nat × Int => ([DiskAt b0 g.1, pt g.2.2.2.1 (.cells #[.pointer (some ⟨b0, 0, none⟩), .int .i64 k, .int .u64 ((g.2.2.2.2.1 : Nat) : Int), .int .i64 ((g.2.2.2.2.2.1 : Nat) : Int)] 83 (0, 0)), ro bitsR, ro (roS a xs.length xs), ro (actsR xs ms), pt b9 (.cells #[.int .i64 g.2.1.size, .int .i64 g.2.1.limit, .slice g.2.2.1.va g.2.1.view.length g.2.2.1.vc, .slice g.2.2.1.ga g.2.1.ground.length g.2.2.1.gc, .slice g.2.2.1.la g.2.1.L.length g.2.2.1.lc] 49 (0, 0)), pt b14 (.cells #[.int .i64 k, .int .i64 g.2.2.2.2.2.2, .int .u64 ((g.2.2.2.2.1 : Nat) : Int)] 53 (0, 0)), ro (rdR g.2.1 g.2.2.1), pu (Rf.Plays g.2.1 g.1 g.2.2.2.2.1 g.2.2.2.2.2.1 g.2.2.2.2.2.2 (q + 1)), F], [(1, .int .i64 k), (2, .slice a xs.length c), (7, .pointer (some ⟨b0, 0, none⟩)), (9, .pointer (some ⟨b9, 0, none⟩)), (11, .pointer (some ⟨g.2.2.2.1, 0, none⟩)), (14, .pointer (some ⟨b14, 0, none⟩)), (17, .int .i64 q)]))) ((Mt.stepsW d k number last (few12 m0x).b (few12 m0x).place).d, (Rf.rsteps r k number rl (few12 m0x).b (few12 m0x).place).r, z, mn, (Mt.opened (Mt.stepsW d k number last (few12 m0x).b (few12 m0x).place).d.view k).number, (Mt.opened (Mt.stepsW d k number last (few12 m0x).b (few12 m0x).place).d.view k).last, Rf.rlast (Mt.opened (Mt.stepsW d k number last (few12 m0x).b (few12 m0x).place).d.view k)) ?_ ?_
                        ·repeat (first | exact EnvSub.nil _ | (refine EnvSub.cons rfl ?_))
                        ·(first | dsimp only | skip)
                         exact Ent.cons (by (repeat constructor); done) (Ent.cons (by (repeat constructor); done) (Ent.roD (by (with_reducible repeat constructor); done) (Ent.roD (by (with_reducible repeat constructor); done) (Ent.roD (by (with_reducible repeat constructor); done) (Ent.cons (by (repeat constructor); done) (Ent.cons (by (repeat constructor); done) (Ent.roD (by (repeat constructor); done) (Ent.pu (Rf.plays_open hps k) (Ent.cons (by (repeat constructor); done) Ent.nil)))))))))
                  ·skip
                   refine ho_ev rfl rfl rfl (ev_pick_f rfl rfl rfl) ?_
                   refine ho_nil ?_
                   refine hx_then ?_
                   refine ht_else rfl ?_
                   refine ht_skip ?_
                   refine hx_joined (I := (fun g : Dk.Disk × Rf.RDisk × RX × Nat × Nat × Nat × Int => ([DiskAt b0 g.1, pt g.2.2.2.1 (.cells #[.pointer (some ⟨b0, 0, none⟩), .int .i64 k, .int .u64 ((g.2.2.2.2.1 : Nat) : Int), .int .i64 ((g.2.2.2.2.2.1 : Nat) : Int)] 83 (0, 0)), ro bitsR, ro (roS a xs.length xs), ro (actsR xs ms), pt b9 (.cells #[.int .i64 g.2.1.size, .int .i64 g.2.1.limit, .slice g.2.2.1.va g.2.1.view.length g.2.2.1.vc, .slice g.2.2.1.ga g.2.1.ground.length g.2.2.1.gc, .slice g.2.2.1.la g.2.1.L.length g.2.2.1.lc] 49 (0, 0)), pt b14 (.cells #[.int .i64 k, .int .i64 g.2.2.2.2.2.2, .int .u64 ((g.2.2.2.2.1 : Nat) : Int)] 53 (0, 0)), ro (rdR g.2.1 g.2.2.1), pu (Rf.Plays g.2.1 g.1 g.2.2.2.2.1 g.2.2.2.2.2.1 g.2.2.2.2.2.2 (q + 1)), F], [(1, .int .i64 k), (2, .slice a xs.length c), (7, .pointer (some ⟨b0, 0, none⟩)), (9, .pointer (some ⟨b9, 0, none⟩)), (11, .pointer (some ⟨g.2.2.2.1, 0, none⟩)), (14, .pointer (some ⟨b14, 0, none⟩)), (17, .int .i64 q)]))) ((Mt.stepsW d k number last (few12 m0x).b (few12 m0x).place).d, (Rf.rsteps r k number rl (few12 m0x).b (few12 m0x).place).r, z, mb, (Mt.stepsW d k number last (few12 m0x).b (few12 m0x).place).number, (Mt.stepsW d k number last (few12 m0x).b (few12 m0x).place).last, (Rf.rsteps r k number rl (few12 m0x).b (few12 m0x).place).last) ?_ ?_
                   ·repeat (first | exact EnvSub.nil _ | (refine EnvSub.cons rfl ?_))
                   ·(first | dsimp only | skip)
                    exact Ent.cons (by (repeat constructor); done) (Ent.cons (by (repeat constructor); done) (Ent.roD (by (with_reducible repeat constructor); done) (Ent.roD (by (with_reducible repeat constructor); done) (Ent.roD (by (with_reducible repeat constructor); done) (Ent.cons (by (repeat constructor); done) (Ent.cons (by (repeat constructor); done) (Ent.roD (by (repeat constructor); done) (Ent.pu hps (Ent.cons (by (repeat constructor); done) Ent.nil)))))))))
                ·skip
                 obtain ⟨d2, r2, x2, mb2, number2, last2, rl2⟩ := g
                 (first | dsimp only | skip)
                 refine ht_pick (A := pu (Rf.Plays r2 d2 number2 last2 rl2 (q + 1))) (by (repeat constructor); done) (ht_pure fun hp2 => ?_)
                 obtain ⟨hpl2, hLq2, hvq2, hgq2, hcard2⟩ := Rf.plays_len hp2
                 refine ht_seq ?_
                 refine ht_draw (.op 0 (.op 2 (.op 3 (.op 1 (.op 4 (.op 5 (.op 6 (.op 8 (.op 9 (.op 10 (.op 7 (.op 11 (.op 12 (.op 13 (.op 14 (.op 16 (.op 17 (.op 18 (.op 15 (.op 19 (.op 20 .done))))))))))))))))))))) [1, 7, 15] Tryd.mixed rfl ?_
                 refine hd_ev rfl rfl rfl rfl (EvG.of rfl (ev_move rfl rfl)) ?_
                 refine hd_ev rfl rfl rfl rfl (EvG.of rfl (by first | exact ev_fieldAddr0 rfl Tryd.fld53_2 rfl | exact ev_fieldAddr rfl Tryd.fld53_2 rfl)) ?_
                 refine hd_ev rfl rfl rfl rfl (EvG.of rfl (ev_load rfl Tryd.underlying41 rfl rfl (by first | exact cell_pt (by (with_reducible repeat constructor); done) rfl | exact cell_ro (by (with_reducible repeat constructor); done) rfl))) ?_
                 refine hd_eff rfl rfl rfl rfl rfl (eff_call rfl rfl (.cons rfl .nil) rfl (meta_Number mb2 b0 k number2 last2) (by repeat (first | exact Picks.nil | (apply Picks.ro; focus ((repeat constructor); done)) | (apply Picks.cons; focus ((repeat constructor); done)))) (fun _ => by repeat (first | exact App.nil | apply App.cons))) (fun _ => by (refine FL.ev rfl (EvG.of rfl (ev_load rfl Tryd.underlying41 rfl rfl (by first | exact cell_pt (by (with_reducible repeat constructor); done) rfl | exact cell_ro (by (with_reducible repeat constructor); done) rfl))) ?_); (refine FL.ev rfl (EvG.of rfl (by first | exact ev_fieldAddr0 rfl Tryd.fld53_2 rfl | exact ev_fieldAddr rfl Tryd.fld53_2 rfl)) ?_); (refine FL.skip rfl ?_); exact FL.nil) (fun _ => ?_)
                 refine hd_ne rfl rfl rfl rfl rfl rfl rfl rfl (fun g42 => ?_) (fun g42 => ?_)
                 ·omega
                 ·skip
                  refine hd_ev rfl rfl rfl rfl (EvG.of rfl (ev_move rfl rfl)) ?_
                  refine hd_ev rfl rfl rfl rfl (EvG.ofg rfl rfl (ev_move rfl rfl)) ?_
                  refine hd_ev rfl rfl rfl rfl (EvG.ofg rfl rfl (by first | exact ev_fieldAddr0 rfl Tryd.fld49_2 rfl | exact ev_fieldAddr rfl Tryd.fld49_2 rfl)) ?_
                  refine hd_ev rfl rfl rfl rfl (EvG.ofg rfl rfl (ev_load rfl Tryd.underlying46 rfl rfl (by first | exact cell_pt (by (with_reducible repeat constructor); done) rfl | exact cell_ro (by (with_reducible repeat constructor); done) rfl))) ?_
                  refine hd_ev rfl rfl rfl rfl (EvG.ofg rfl rfl (ev_lenSl rfl Tryd.underlying46 rfl)) ?_
                  refine hd_effg rfl rfl rfl rfl rfl rfl (eff_call rfl rfl (.cons rfl .nil) rfl (disk_Used b0 d2) (by repeat (first | exact Picks.nil | (apply Picks.ro; focus ((repeat constructor); done)) | (apply Picks.cons; focus ((repeat constructor); done)))) (fun _ => by repeat (first | exact App.nil | apply App.cons))) (fun _ => by (refine FL.ev rfl (EvG.ofg rfl rfl (ev_lenSl rfl Tryd.underlying46 rfl)) ?_); (refine FL.ev rfl (EvG.ofg rfl rfl (ev_load rfl Tryd.underlying46 rfl rfl (by first | exact cell_pt (by (with_reducible repeat constructor); done) rfl | exact cell_ro (by (with_reducible repeat constructor); done) rfl))) ?_); (refine FL.ev rfl (EvG.ofg rfl rfl (by first | exact ev_fieldAddr0 rfl Tryd.fld49_2 rfl | exact ev_fieldAddr rfl Tryd.fld49_2 rfl)) ?_); (refine FL.skip rfl ?_); (refine FL.skip rfl ?_); (refine FL.skip rfl ?_); (refine FL.skip rfl ?_); (refine FL.skip rfl ?_); (refine FL.skip rfl ?_); exact FL.nil) (fun _ => ?_)
                  refine hd_neg rfl rfl rfl rfl rfl rfl rfl rfl rfl (fun g43 => ?_) (fun g43 => ?_)
                  ·omega
                  ·skip
                   refine hd_ev rfl rfl rfl rfl (EvG.of rfl (ev_pick_f rfl rfl rfl)) ?_
                   refine hd_ev rfl rfl rfl rfl (EvG.of rfl (ev_move rfl rfl)) ?_
                   refine hd_ev rfl rfl rfl rfl (EvG.ofg rfl rfl (ev_move rfl rfl)) ?_
                   refine hd_ev rfl rfl rfl rfl (EvG.ofg rfl rfl (by first | exact ev_fieldAddr0 rfl Tryd.fld49_4 rfl | exact ev_fieldAddr rfl Tryd.fld49_4 rfl)) ?_
                   refine hd_ev rfl rfl rfl rfl (EvG.ofg rfl rfl (ev_load rfl Tryd.underlying47 rfl rfl (by first | exact cell_pt (by (with_reducible repeat constructor); done) rfl | exact cell_ro (by (with_reducible repeat constructor); done) rfl))) ?_
                   refine hd_ev rfl rfl rfl rfl (EvG.ofg rfl rfl (ev_lenSl rfl Tryd.underlying47 rfl)) ?_
                   refine hd_effg rfl rfl rfl rfl rfl rfl (eff_call rfl rfl (.cons rfl .nil) rfl (disk_Pending b0 d2) (by repeat (first | exact Picks.nil | (apply Picks.ro; focus ((repeat constructor); done)) | (apply Picks.cons; focus ((repeat constructor); done)))) (fun _ => by repeat (first | exact App.nil | apply App.cons))) (fun _ => by (refine FL.ev rfl (EvG.ofg rfl rfl (ev_lenSl rfl Tryd.underlying47 rfl)) ?_); (refine FL.ev rfl (EvG.ofg rfl rfl (ev_load rfl Tryd.underlying47 rfl rfl (by first | exact cell_pt (by (with_reducible repeat constructor); done) rfl | exact cell_ro (by (with_reducible repeat constructor); done) rfl))) ?_); (refine FL.ev rfl (EvG.ofg rfl rfl (by first | exact ev_fieldAddr0 rfl Tryd.fld49_4 rfl | exact ev_fieldAddr rfl Tryd.fld49_4 rfl)) ?_); (refine FL.skip rfl ?_); (refine FL.skip rfl ?_); (refine FL.skip rfl ?_); (refine FL.skip rfl ?_); (refine FL.skip rfl ?_); (refine FL.skip rfl ?_); (refine FL.skip rfl ?_); (refine FL.skip rfl ?_); (refine FL.skip rfl ?_); (refine FL.skip rfl ?_); (refine FL.skip rfl ?_); (refine FL.skip rfl ?_); (refine FL.skip rfl ?_); exact FL.nil) (fun _ => ?_)
                   refine hd_neg rfl rfl rfl rfl rfl rfl rfl rfl rfl (fun g44 => ?_) (fun g44 => ?_)
                   ·omega
                   ·skip
                    refine hd_ev rfl rfl rfl rfl (EvG.of rfl (ev_pick_f rfl rfl rfl)) ?_
                    refine hd_nil ?_
                    refine hx_then ?_
                    refine ht_else rfl ?_
                    refine ht_skip ?_
                    refine hx_block_normal ?_
                    refine hx_then ?_
                    refine ht_region ?_
                    refine ho_ev rfl rfl rfl (ev_move rfl rfl) ?_
                    refine ho_ev rfl rfl rfl (ev_add rfl rfl rfl (by first | exact in_i64 (by omega) | rfl)) ?_
                    refine ho_ev rfl rfl rfl (ev_assign rfl rfl) ?_
                    refine ho_nil ?_
                    refine hx_again (I := (fun q : Nat × Dk.Disk × Rf.RDisk × RX × Nat × Nat × Nat × Int => ([DiskAt b0 q.2.1, pt q.2.2.2.2.1 (.cells #[.pointer (some ⟨b0, 0, none⟩), .int .i64 k, .int .u64 ((q.2.2.2.2.2.1 : Nat) : Int), .int .i64 ((q.2.2.2.2.2.2.1 : Nat) : Int)] 83 (0, 0)), ro bitsR, ro (roS a xs.length xs), ro (actsR xs ms), pt b9 (.cells #[.int .i64 q.2.2.1.size, .int .i64 q.2.2.1.limit, .slice q.2.2.2.1.va q.2.2.1.view.length q.2.2.2.1.vc, .slice q.2.2.2.1.ga q.2.2.1.ground.length q.2.2.2.1.gc, .slice q.2.2.2.1.la q.2.2.1.L.length q.2.2.2.1.lc] 49 (0, 0)), pt b14 (.cells #[.int .i64 k, .int .i64 q.2.2.2.2.2.2.2, .int .u64 ((q.2.2.2.2.2.1 : Nat) : Int)] 53 (0, 0)), ro (rdR q.2.2.1 q.2.2.2.1), pu (Rf.Plays q.2.2.1 q.2.1 q.2.2.2.2.2.1 q.2.2.2.2.2.2.1 q.2.2.2.2.2.2.2 q.1 ∧ q.1 ≤ 25 ∧ q.1 ≤ xs.length), F], [(1, .int .i64 k), (2, .slice a xs.length c), (7, .pointer (some ⟨b0, 0, none⟩)), (9, .pointer (some ⟨b9, 0, none⟩)), (11, .pointer (some ⟨q.2.2.2.2.1, 0, none⟩)), (14, .pointer (some ⟨b14, 0, none⟩)), (17, .int .i64 q.1)]))) (μ := (fun q : Nat × Dk.Disk × Rf.RDisk × RX × Nat × Nat × Nat × Int => 25 - q.1)) (i := (q, d, r, x, mb, number, last, rl)) (q + 1, d2, r2, x2, mb2, number2, last2, rl2) ?_ ?_ ?_
                    ·(first | dsimp only | skip); omega
                    ·repeat (first | exact EnvSub.nil _ | (refine EnvSub.cons rfl ?_))
                    ·(first | dsimp only | skip)
                     exact Ent.cons (by (repeat constructor); done) (Ent.cons (by (repeat constructor); done) (Ent.roD (by (with_reducible repeat constructor); done) (Ent.roD (by (with_reducible repeat constructor); done) (Ent.roD (by (with_reducible repeat constructor); done) (Ent.cons (by (repeat constructor); done) (Ent.cons (by (repeat constructor); done) (Ent.roD (by (repeat constructor); done) (Ent.pu ⟨hp2, by omega, by omega⟩ (Ent.cons (by (repeat constructor); done) Ent.nil)))))))))
            ·simp at g11
           ·skip
            refine ho_ev rfl rfl rfl (ev_pick_t rfl rfl rfl) ?_
            refine ho_ev rfl rfl rfl (ev_move rfl rfl) ?_
            refine ho_pass rfl rfl rfl rfl ?_
            refine ho_pass rfl rfl rfl rfl ?_
            refine ho_ev rfl rfl rfl (ev_pick_f rfl rfl rfl) ?_
            refine ho_nil ?_
            refine hx_then ?_
            refine ht_else rfl ?_
            refine ht_exit ?_
            refine hx_through trivial ?_
            refine hx_through trivial ?_
            refine hx_block_here ?_
            refine hx_then ?_
            refine ht_seq ?_
            refine ht_region ?_
            refine ho_ev rfl rfl rfl (ev_assign rfl rfl) ?_
            refine ho_nil ?_
            refine hx_then ?_
            refine ht_ret ?_
            exact hx_ret1 (.inl rfl) rfl rfl () rfl (Ent.cons (by (repeat constructor); done) Ent.nil)
          ·skip
           refine ho_ev rfl rfl rfl (ev_move rfl rfl) ?_
           refine ho_pass rfl rfl rfl rfl ?_
           refine ho_pass rfl rfl rfl rfl ?_
           refine ho_ev rfl rfl rfl (ev_pick_f rfl rfl rfl) ?_
           refine ho_ev rfl rfl rfl (ev_move rfl rfl) ?_
           refine ho_pass rfl rfl rfl rfl ?_
           refine ho_pass rfl rfl rfl rfl ?_
           refine ho_ev rfl rfl rfl (ev_pick_f rfl rfl rfl) ?_
           refine ho_nil ?_
           refine hx_then ?_
           refine ht_else rfl ?_
           refine ht_exit ?_
           refine hx_through trivial ?_
           refine hx_through trivial ?_
           refine hx_block_here ?_
           refine hx_then ?_
           refine ht_seq ?_
           refine ht_region ?_
           refine ho_ev rfl rfl rfl (ev_assign rfl rfl) ?_
           refine ho_nil ?_
           refine hx_then ?_
           refine ht_ret ?_
           exact hx_ret1 (.inl rfl) rfl rfl () rfl (Ent.cons (by (repeat constructor); done) Ent.nil)
  ·simp at g1
end Go.Proofs.YtlejcepbcfijiaaDoor
