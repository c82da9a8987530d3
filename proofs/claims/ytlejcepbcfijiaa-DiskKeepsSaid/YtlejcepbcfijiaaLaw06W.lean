/-
  LAW 06 (disk): the walk of DiskKeeps. Conditions: as the contract says.
-/
import Derived.Test.YtlejcepbcfijiaaLaw06
import Derived.Test.YtlejcepbcfijiaaLaw06K
set_option maxRecDepth 100000
set_option linter.unusedVariables false
set_option linter.unusedSimpArgs false
namespace Go.Proofs.Ytlejcepbcfijiaa
open Go Go.SL


/-- an array of 21: of its places the first ones are told -/
def arrC (g : Nat → Value) (z : Value) (j : Nat) : Array Value := ((List.range 21).map fun i => if i < j then g i else z).toArray
theorem arrC_size (g : Nat → Value) (z : Value) (j : Nat) : (arrC g z j).size = 21 := by simp [arrC]
theorem arrC_get (g : Nat → Value) (z : Value) {i j : Nat} (hi : i < 21) (hj : i < j) : (arrC g z j)[i]? = some (g i) := by simp [arrC, hi, hj]
theorem arrC_set (g : Nat → Value) (z : Value) {j : Nat} (hj : j < 21) : (arrC g z j).setIfInBounds j (g j) = arrC g z (j + 1) := by
  apply Array.ext
  · simp [arrC]
  · intro i h1 h2
    have hi : i < 21 := by simpa [arrC] using h2
    by_cases e : i = j
    · subst e; simp [arrC]
    · rw [Array.getElem_setIfInBounds_ne (by simpa [arrC] using hi) (Ne.symm e)]
      simp only [arrC, List.getElem_toArray, List.getElem_map, List.getElem_range]
      by_cases h : i < j
      · rw [if_pos h, if_pos (by omega)]
      · rw [if_neg h, if_neg (by omega)]
theorem arrC_touch (T : Nat → Bool) (z : Value) {k : Int} (h0 : 0 ≤ k) (hk : k < 21) : (arrC (fun i => .bool (T i)) z 21).setIfInBounds k.toNat (.bool true) = arrC (fun i => .bool (Dk.touch T k i)) z 21 := by
  apply Array.ext
  · simp [arrC]
  · intro i h1 h2
    have hi : i < 21 := by simpa [arrC] using h2
    by_cases e : i = k.toNat
    · subst e
      simp [arrC, Dk.touch, hi]
      left; omega
    · rw [Array.getElem_setIfInBounds_ne (by simpa [arrC] using hi) (Ne.symm e)]
      simp only [arrC, List.getElem_toArray, List.getElem_map, List.getElem_range, Dk.touch, hi, if_true]
      rw [if_neg (by omega)]

theorem law_DiskKeeps (n : Int) (a1 a2 a3 : Option Addr) (c1 c2 c3 : Nat) (xs1 xs2 : List ActV) (ms1 ms2 : List Dk.MAct) (cl : List (Int × Int)) : Ctr Try.prog 3 #[.int .i64 n, .agg #[.slice a1 xs1.length c1, .slice a2 xs2.length c2], .slice a3 cl.length c3] [ro (roS a1 xs1.length xs1), ro (actsR xs1 ms1), ro (roS a2 xs2.length xs2), ro (actsR xs2 ms2), ro (roS a3 cl.length cl)] (fun _ : Unit => .bool true) (fun _ => []) := by
 refine fn_intro Try.func3 rfl rfl Try.ntmps3 (Nat.le_of_ble_eq_true rfl) (fun _ => by repeat (first | exact App.nil | apply App.cons)) (fun κ F => ?_)
 refine ht_actsLen (xs := xs1) (ms := ms1) (by (with_reducible repeat constructor); done) (fun hlen1 => ?_)
 refine ht_actsLen (xs := xs2) (ms := ms2) (by (with_reducible repeat constructor); done) (fun hlen2 => ?_)
 refine ht_seq ?_
 refine ht_region ?_
 refine ho_eff rfl rfl rfl (eff_boxA rfl rfl) (fun b4 => ?_)
 refine ho_ev rfl rfl rfl (ev_assign rfl rfl) ?_
 refine ho_nil ?_
 refine hx_then ?_
 refine ht_seq ?_
 refine ht_draw (.op 0 (.op 1 (.op 2 (.op 3 (.op 4 (.op 5 .done)))))) [] Try.mixed rfl ?_
 refine hd_ev rfl rfl rfl rfl (EvG.of rfl (ev_indexAddrA rfl Try.underlying23 Try.ty22 rfl rfl (by omega) (by omega))) ?_
 refine hd_ev rfl rfl rfl rfl (EvG.of rfl (ev_load rfl Try.underlying22 rfl rfl (by first | exact cell_pt (by (with_reducible repeat constructor); done) rfl | exact cell_ro (by (with_reducible repeat constructor); done) rfl))) ?_
 refine hd_ev rfl rfl rfl rfl (EvG.of rfl (ev_indexAddrA rfl Try.underlying23 Try.ty22 rfl rfl (by omega) (by omega))) ?_
 refine hd_ev rfl rfl rfl rfl (EvG.of rfl (ev_load rfl Try.underlying22 rfl rfl (by first | exact cell_pt (by (with_reducible repeat constructor); done) rfl | exact cell_ro (by (with_reducible repeat constructor); done) rfl))) ?_
 refine hd_ev rfl rfl rfl rfl (EvG.of rfl (ev_assign rfl rfl)) ?_
 refine hd_ev rfl rfl rfl rfl (EvG.of rfl (ev_assign rfl rfl)) ?_
 refine hd_nil ?_
 refine hx_then ?_
 refine ht_seq ?_
 refine ht_region ?_
 refine ho_ev rfl rfl rfl (ev_move rfl rfl) ?_
 by_cases hn : n < 1 ∨ 65536 < n
 ·skip
  refine ho_eff rfl rfl rfl (eff_call rfl rfl (.cons rfl .nil) rfl (disk_New_no n hn) (by repeat (first | exact Picks.nil | (apply Picks.ro; focus ((with_reducible repeat constructor); done)) | (apply Picks.cons; focus ((with_reducible repeat constructor); done)))) (fun _ => by repeat (first | exact App.nil | apply App.cons))) (fun _ => ?_)
  refine ho_ev rfl rfl rfl (ev_move rfl rfl) ?_
  refine ho_ev rfl rfl rfl (ev_extract rfl rfl rfl) ?_
  refine ho_ev rfl rfl rfl (ev_extract rfl rfl rfl) ?_
  refine ho_ev rfl rfl rfl (ev_assign rfl rfl) ?_
  refine ho_ev rfl rfl rfl (ev_assign rfl rfl) ?_
  refine ho_nil ?_
  refine hx_then ?_
  refine ht_seq ?_
  refine ht_seq ?_
  refine ht_region ?_
  refine ho_eff rfl rfl rfl (eff_call rfl rfl .nil rfl (law_awake) (by repeat (first | exact Picks.nil | (apply Picks.ro; focus ((with_reducible repeat constructor); done)) | (apply Picks.cons; focus ((with_reducible repeat constructor); done)))) (fun _ => by repeat (first | exact App.nil | apply App.cons))) (fun _ => ?_)
  refine ho_bool (t := 32) rfl (fun g1 => ?_) (fun g1 => ?_)
  ·first | (exfalso; first | omega | (simp at g1; done) | contradiction) | skip
   all_goals (
    refine ho_ev rfl rfl rfl (ev_not rfl rfl) ?_
    refine ho_ev rfl rfl rfl (ev_move rfl rfl) ?_
    refine ho_evg rfl rfl rfl rfl (ev_move rfl rfl) ?_
    refine ho_neg rfl rfl rfl rfl rfl rfl rfl (fun g2 => ?_) (fun g2 => ?_)
    ·first | (exfalso; first | omega | (simp at g2; done) | contradiction) | skip
     all_goals (
      refine ho_ev rfl rfl rfl (ev_pick_f rfl rfl rfl) ?_
      refine ho_ev rfl rfl rfl (ev_move rfl rfl) ?_
      refine ho_pass rfl rfl rfl rfl ?_
      refine ho_pass rfl rfl rfl rfl ?_
      refine ho_ev rfl rfl rfl (ev_pick_t rfl rfl rfl) ?_
      refine ho_ev rfl rfl rfl (ev_move rfl rfl) ?_
      refine ho_pass rfl rfl rfl rfl ?_
      refine ho_pass rfl rfl rfl rfl ?_
      refine ho_pass rfl rfl rfl rfl ?_
      refine ho_ev rfl rfl rfl (ev_pick_t rfl rfl rfl) ?_
      refine ho_nil ?_
      refine hx_then ?_
      refine ht_then rfl ?_
      refine ht_seq ?_
      refine ht_region ?_
      refine ho_eff rfl rfl rfl (eff_call rfl rfl .nil rfl (law_awake) (by repeat (first | exact Picks.nil | (apply Picks.ro; focus ((with_reducible repeat constructor); done)) | (apply Picks.cons; focus ((with_reducible repeat constructor); done)))) (fun _ => by repeat (first | exact App.nil | apply App.cons))) (fun _ => ?_)
      refine ho_ev rfl rfl rfl (ev_assign rfl rfl) ?_
      refine ho_nil ?_
      refine hx_then ?_
      refine ht_ret ?_
      refine hx_through trivial ?_
      exact hx_ret1 (.inl rfl) rfl rfl () rfl (Ent.cons (by (repeat constructor); done) Ent.nil)
     )
    ·first | (exfalso; first | omega | (simp at g2; done) | contradiction) | skip
     all_goals (
      refine ho_ev rfl rfl rfl (ev_pick_f rfl rfl rfl) ?_
      refine ho_ev rfl rfl rfl (ev_move rfl rfl) ?_
      refine ho_evg rfl rfl rfl rfl (ev_move rfl rfl) ?_
      refine ho_evg rfl rfl rfl rfl (ev_ptrNil rfl Try.underlying25 rfl rfl rfl) ?_
      refine ho_ev rfl rfl rfl (ev_pick_f rfl rfl rfl) ?_
      refine ho_ev rfl rfl rfl (ev_move rfl rfl) ?_
      refine ho_bool (t := 42) rfl (fun g3 => ?_) (fun g3 => ?_)
      ·first | (exfalso; first | omega | (simp at g3; done) | contradiction) | skip
       all_goals (
        refine ho_pass rfl rfl rfl rfl ?_
        refine ho_pass rfl rfl rfl rfl ?_
        refine ho_pass rfl rfl rfl rfl ?_
        refine ho_ev rfl rfl rfl (ev_pick_t rfl rfl rfl) ?_
        refine ho_nil ?_
        refine hx_then ?_
        refine ht_then rfl ?_
        refine ht_seq ?_
        refine ht_region ?_
        refine ho_eff rfl rfl rfl (eff_call rfl rfl .nil rfl (law_awake) (by repeat (first | exact Picks.nil | (apply Picks.ro; focus ((with_reducible repeat constructor); done)) | (apply Picks.cons; focus ((with_reducible repeat constructor); done)))) (fun _ => by repeat (first | exact App.nil | apply App.cons))) (fun _ => ?_)
        refine ho_ev rfl rfl rfl (ev_assign rfl rfl) ?_
        refine ho_nil ?_
        refine hx_then ?_
        refine ht_ret ?_
        refine hx_through trivial ?_
        exact hx_ret1 (.inl rfl) rfl rfl () rfl (Ent.cons (by (repeat constructor); done) Ent.nil)
       )
      ·first | (exfalso; first | omega | (simp at g3; done) | contradiction) | skip
       all_goals (
        refine ho_evg rfl rfl rfl rfl (ev_move rfl rfl) ?_
        refine ho_evg rfl rfl rfl rfl (ev_lenSl rfl Try.underlying24 rfl) ?_
        refine ho_gtg rfl rfl rfl rfl rfl rfl rfl (fun g4 => ?_) (fun g4 => ?_)
        ·first | (exfalso; first | omega | (simp at g4; done) | contradiction) | skip
         all_goals (
          refine ho_ev rfl rfl rfl (ev_pick_f rfl rfl rfl) ?_
          refine ho_nil ?_
          refine hx_then ?_
          refine ht_then rfl ?_
          refine ht_seq ?_
          refine ht_region ?_
          refine ho_eff rfl rfl rfl (eff_call rfl rfl .nil rfl (law_awake) (by repeat (first | exact Picks.nil | (apply Picks.ro; focus ((with_reducible repeat constructor); done)) | (apply Picks.cons; focus ((with_reducible repeat constructor); done)))) (fun _ => by repeat (first | exact App.nil | apply App.cons))) (fun _ => ?_)
          refine ho_ev rfl rfl rfl (ev_assign rfl rfl) ?_
          refine ho_nil ?_
          refine hx_then ?_
          refine ht_ret ?_
          refine hx_through trivial ?_
          exact hx_ret1 (.inl rfl) rfl rfl () rfl (Ent.cons (by (repeat constructor); done) Ent.nil)
         )
        ·first | (exfalso; first | omega | (simp at g4; done) | contradiction) | skip
         all_goals (
          refine ho_ev rfl rfl rfl (ev_pick_f rfl rfl rfl) ?_
          refine ho_nil ?_
          refine hx_then ?_
          refine ht_else rfl ?_
          refine ht_skip ?_
          refine hx_then ?_
          refine ht_join (fun g : Dk.Disk => ([DiskAt b0 g, ro (roS a1 xs1.length xs1), ro (actsR xs1 ms1), ro (roS a2 xs2.length xs2), ro (actsR xs2 ms2), ro (roS a3 cl.length cl), pu (Dk.NN g), F], [(2, .slice a3 cl.length c3), (8, .slice a2 xs2.length c2), (9, .pointer (some ⟨b0, 0, none⟩))])) ?_ (fun g => ?_)
          ·skip
           refine ht_seq ?_
           refine ht_region ?_
           refine ho_ev rfl rfl rfl (ev_assign rfl rfl) ?_
           refine ho_nil ?_
           refine hx_then ?_
           refine ht_block ?_
           refine ht_loop (fun q : Nat => ([DiskAt b0 (Dk.Disk.upto n ms1 q), ro (roS a1 xs1.length xs1), ro (actsR xs1 ms1), ro (roS a2 xs2.length xs2), ro (actsR xs2 ms2), ro (roS a3 cl.length cl), pu (q ≤ 30 ∧ q ≤ xs1.length), F], [(7, .slice a1 xs1.length c1), (11, .int .i64 q), (2, .slice a3 cl.length c3), (8, .slice a2 xs2.length c2), (9, .pointer (some ⟨b0, 0, none⟩))])) (fun q : Nat => 30 - q) 0 ?_ (by repeat (first | exact EnvSub.nil _ | (refine EnvSub.cons rfl ?_))) (fun q => ?_)
           ·(first | dsimp only | skip)
            rw [Dk.upto_zero]
            exact Ent.cons (by (repeat constructor); done) (Ent.cons (by (repeat constructor); done) (Ent.cons (by (repeat constructor); done) (Ent.cons (by (repeat constructor); done) (Ent.cons (by (repeat constructor); done) (Ent.cons (by (repeat constructor); done) (Ent.pu ⟨by omega, by omega⟩ (Ent.cons (by (repeat constructor); done) Ent.nil)))))))
           obtain q := q
           dsimp only
           refine ht_pick (A := pu (q ≤ 30 ∧ q ≤ xs1.length)) (by (repeat constructor); done) (ht_pure fun hq => ?_)
           obtain ⟨hq1, hq2⟩ := hq
           refine ht_seq ?_
           refine ht_seq ?_
           refine ht_region ?_
           refine ho_ev rfl rfl rfl (ev_move rfl rfl) ?_
           refine ho_ev rfl rfl rfl (ev_move rfl rfl) ?_
           refine ho_ev rfl rfl rfl (ev_lenSl rfl Try.underlying22 rfl) ?_
           refine ho_lt rfl rfl rfl rfl rfl rfl (fun g5 => ?_) (fun g5 => ?_)
           ·first | (exfalso; first | omega | (simp at g5; done) | contradiction) | skip
            all_goals (
             refine ho_ev rfl rfl rfl (ev_move rfl rfl) ?_
             refine ho_evg rfl rfl rfl rfl (ev_move rfl rfl) ?_
             refine ho_ltg rfl rfl rfl rfl rfl rfl rfl (fun g6 => ?_) (fun g6 => ?_)
             ·first | (exfalso; first | omega | (simp at g6; done) | contradiction) | skip
              all_goals (
               refine ho_ev rfl rfl rfl (ev_pick_t rfl rfl rfl) ?_
               refine ho_nil ?_
               refine hx_then ?_
               refine ht_then rfl ?_
               refine ht_skip ?_
               refine hx_then ?_
               refine ht_seq ?_
               refine ht_block ?_
               refine ht_actAt (xs := xs1) (ms := ms1) (i := q) (by omega) (by (with_reducible repeat constructor); done) (fun x0 m0 hx0 hm0 => ?_)
               refine ht_someS (α := ActV) (a := a1) (xs := xs1) (reads_ro (by (with_reducible repeat constructor); done)) (by omega) (fun ab ao ha => ?_)
               refine ht_region ?_
               refine ho_ev rfl rfl rfl (ev_move rfl rfl) ?_
               refine ho_ev rfl rfl rfl (ev_move rfl rfl) ?_
               refine ho_ev rfl rfl rfl (ev_move rfl rfl) ?_
               refine ho_ev rfl rfl rfl (ev_indexAddr rfl Try.underlying22 Try.ty32 (congrArg (fun z => some (Value.slice z xs1.length c1)) ha) rfl (by omega) (by omega)) ?_
               refine ho_ev rfl rfl rfl (ev_loadA rfl Try.underlying32 Try.ty32 rfl rfl (cells_Sa ha (reads_ro (by (with_reducible repeat constructor); done)) hx0)) ?_
               refine ho_eff rfl rfl rfl (eff_call rfl rfl (.cons rfl .nil) rfl (law_few x0 m0) (by repeat (first | exact Picks.nil | (apply Picks.ro; focus ((repeat constructor); done)) | (apply Picks.cons; focus ((repeat constructor); done)))) (fun _ => by repeat (first | exact App.nil | apply App.cons))) (fun y => ?_)
               refine ho_eff rfl rfl rfl (eff_call rfl rfl (.cons rfl (.cons rfl .nil)) rfl (law_do b0 (Dk.Disk.upto n ms1 q) y m0.few (Dk.MAct.few_short m0) (by have := Dk.upto_len n ms1 q; omega)) (by repeat (first | exact Picks.nil | (apply Picks.ro; focus ((repeat constructor); done)) | (apply Picks.cons; focus ((repeat constructor); done)))) (fun _ => by repeat (first | exact App.nil | apply App.cons))) (fun _ => ?_)
               refine ho_nil ?_
               refine hx_block_normal ?_
               refine hx_then ?_
               refine ht_region ?_
               refine ho_ev rfl rfl rfl (ev_move rfl rfl) ?_
               refine ho_ev rfl rfl rfl (ev_add rfl rfl rfl (by first | exact in_i64 (by omega) | rfl)) ?_
               refine ho_ev rfl rfl rfl (ev_assign rfl rfl) ?_
               refine ho_nil ?_
               refine hx_again (I := (fun q : Nat => ([DiskAt b0 (Dk.Disk.upto n ms1 q), ro (roS a1 xs1.length xs1), ro (actsR xs1 ms1), ro (roS a2 xs2.length xs2), ro (actsR xs2 ms2), ro (roS a3 cl.length cl), pu (q ≤ 30 ∧ q ≤ xs1.length), F], [(7, .slice a1 xs1.length c1), (11, .int .i64 q), (2, .slice a3 cl.length c3), (8, .slice a2 xs2.length c2), (9, .pointer (some ⟨b0, 0, none⟩))]))) (μ := (fun q : Nat => 30 - q)) (i := q) (q + 1) ?_ ?_ ?_
               ·(first | dsimp only | skip); omega
               ·repeat (first | exact EnvSub.nil _ | (refine EnvSub.cons rfl ?_))
               ·(first | dsimp only | skip)
                rw [Dk.upto_step hm0]
                exact Ent.cons (by (repeat constructor); done) (Ent.cons (by (repeat constructor); done) (Ent.cons (by (repeat constructor); done) (Ent.cons (by (repeat constructor); done) (Ent.cons (by (repeat constructor); done) (Ent.cons (by (repeat constructor); done) (Ent.pu ⟨by omega, by omega⟩ (Ent.cons (by (repeat constructor); done) Ent.nil)))))))
              )
             ·first | (exfalso; first | omega | (simp at g6; done) | contradiction) | skip
              all_goals (
               refine ho_ev rfl rfl rfl (ev_pick_t rfl rfl rfl) ?_
               refine ho_nil ?_
               refine hx_then ?_
               refine ht_else rfl ?_
               refine ht_exit ?_
               refine hx_through trivial ?_
               refine hx_through trivial ?_
               refine hx_block_here ?_
               refine hx_joined (I := (fun g : Dk.Disk => ([DiskAt b0 g, ro (roS a1 xs1.length xs1), ro (actsR xs1 ms1), ro (roS a2 xs2.length xs2), ro (actsR xs2 ms2), ro (roS a3 cl.length cl), pu (Dk.NN g), F], [(2, .slice a3 cl.length c3), (8, .slice a2 xs2.length c2), (9, .pointer (some ⟨b0, 0, none⟩))]))) (Dk.Disk.upto n ms1 q) ?_ ?_
               ·repeat (first | exact EnvSub.nil _ | (refine EnvSub.cons rfl ?_))
               ·(first | dsimp only | skip)
                exact Ent.cons (by (repeat constructor); done) (Ent.cons (by (repeat constructor); done) (Ent.cons (by (repeat constructor); done) (Ent.cons (by (repeat constructor); done) (Ent.cons (by (repeat constructor); done) (Ent.cons (by (repeat constructor); done) (Ent.pu (Dk.nn_acts (Dk.nn_new n) ((ms1.take q).map Dk.MAct.few)) (Ent.cons (by (repeat constructor); done) Ent.nil)))))))
              )
            )
           ·first | (exfalso; first | omega | (simp at g5; done) | contradiction) | skip
            all_goals (
             refine ho_ev rfl rfl rfl (ev_move rfl rfl) ?_
             refine ho_pass rfl rfl rfl rfl ?_
             refine ho_pass rfl rfl rfl rfl ?_
             refine ho_ev rfl rfl rfl (ev_pick_f rfl rfl rfl) ?_
             refine ho_nil ?_
             refine hx_then ?_
             refine ht_else rfl ?_
             refine ht_exit ?_
             refine hx_through trivial ?_
             refine hx_through trivial ?_
             refine hx_block_here ?_
             refine hx_joined (I := (fun g : Dk.Disk => ([DiskAt b0 g, ro (roS a1 xs1.length xs1), ro (actsR xs1 ms1), ro (roS a2 xs2.length xs2), ro (actsR xs2 ms2), ro (roS a3 cl.length cl), pu (Dk.NN g), F], [(2, .slice a3 cl.length c3), (8, .slice a2 xs2.length c2), (9, .pointer (some ⟨b0, 0, none⟩))]))) (Dk.Disk.upto n ms1 q) ?_ ?_
             ·repeat (first | exact EnvSub.nil _ | (refine EnvSub.cons rfl ?_))
             ·(first | dsimp only | skip)
              exact Ent.cons (by (repeat constructor); done) (Ent.cons (by (repeat constructor); done) (Ent.cons (by (repeat constructor); done) (Ent.cons (by (repeat constructor); done) (Ent.cons (by (repeat constructor); done) (Ent.cons (by (repeat constructor); done) (Ent.pu (Dk.nn_acts (Dk.nn_new n) ((ms1.take q).map Dk.MAct.few)) (Ent.cons (by (repeat constructor); done) Ent.nil)))))))
            )
          ·skip
           (first | dsimp only | skip)
           revert g; intro D
           refine ht_pick (A := pu (Dk.NN D)) (by (repeat constructor); done) (ht_pure fun hnn => ?_)
           refine ht_seq ?_
           refine ht_region ?_
           refine ho_ev rfl rfl rfl (ev_move rfl rfl) ?_
           refine ho_eff rfl rfl rfl (eff_call rfl rfl (.cons rfl .nil) rfl (disk_Sync b0 D) (by repeat (first | exact Picks.nil | (apply Picks.ro; focus ((repeat constructor); done)) | (apply Picks.cons; focus ((repeat constructor); done)))) (fun _ => by repeat (first | exact App.nil | apply App.cons))) (fun _ => ?_)
           refine ho_nil ?_
           refine hx_then ?_
           refine ht_seq ?_
           refine ht_region ?_
           refine ho_eff rfl rfl rfl (eff_alloc rfl Try.ty34 (by first | exact cells_agg _ | exact rfl)) (fun b12 => ?_)
           refine ho_nil ?_
           refine hx_then ?_
           refine ht_seq ?_
           refine ht_region ?_
           refine ho_eff rfl rfl rfl (eff_alloc rfl Try.ty35 (by first | exact cells_agg _ | exact rfl)) (fun b13 => ?_)
           refine ho_nil ?_
           refine hx_then ?_
           refine ht_seq ?_
           refine ht_seq ?_
           refine ht_region ?_
           refine ho_ev rfl rfl rfl (ev_assign rfl rfl) ?_
           refine ho_nil ?_
           refine hx_then ?_
           refine ht_block ?_
           refine ht_loop (fun q : Nat => ([DiskAt b0 D.sync, pt b12 (.cells (arrC (fun i => vS ((D.view i).getD [])) (vS []) q) 34 (0, 0)), pt b13 (.cells (arrC (fun i => .bool (D.view i).isSome) (.bool false) q) 35 (0, 0)), ro (roS a1 xs1.length xs1), ro (actsR xs1 ms1), ro (roS a2 xs2.length xs2), ro (actsR xs2 ms2), ro (roS a3 cl.length cl), pu (q ≤ 21), F], [(14, .int .i64 q), (12, .pointer (some ⟨b12, 0, none⟩)), (13, .pointer (some ⟨b13, 0, none⟩)), (2, .slice a3 cl.length c3), (8, .slice a2 xs2.length c2), (9, .pointer (some ⟨b0, 0, none⟩))])) (fun q : Nat => 21 - q) 0 ?_ (by repeat (first | exact EnvSub.nil _ | (refine EnvSub.cons rfl ?_))) (fun q => ?_)
           ·(first | dsimp only | skip)
            exact Ent.cons (by (repeat constructor); done) (Ent.cons (by (repeat constructor); done) (Ent.cons (by (repeat constructor); done) (Ent.cons (by (repeat constructor); done) (Ent.cons (by (repeat constructor); done) (Ent.cons (by (repeat constructor); done) (Ent.cons (by (repeat constructor); done) (Ent.cons (by (repeat constructor); done) (Ent.pu (by omega) (Ent.cons (by (repeat constructor); done) Ent.nil)))))))))
           obtain q := q
           dsimp only
           refine ht_pick (A := pu (q ≤ 21)) (by (repeat constructor); done) (ht_pure fun hq1 => ?_)
           refine ht_seq ?_
           refine ht_seq ?_
           refine ht_region ?_
           refine ho_ev rfl rfl rfl (ev_move rfl rfl) ?_
           refine ho_lt rfl rfl rfl rfl rfl rfl (fun g7 => ?_) (fun g7 => ?_)
           ·first | (exfalso; first | omega | (simp at g7; done) | contradiction) | skip
            all_goals (
             refine ho_nil ?_
             refine hx_then ?_
             refine ht_then rfl ?_
             refine ht_skip ?_
             refine hx_then ?_
             refine ht_seq ?_
             refine ht_block ?_
             refine ht_seq ?_
             refine ht_region ?_
             refine ho_ev rfl rfl rfl (ev_move rfl rfl) ?_
             refine ho_ev rfl rfl rfl (ev_move rfl rfl) ?_
             rcases hv : D.sync.view q with _ | s
             ·skip
              refine ho_eff rfl rfl rfl (eff_call rfl rfl (.cons rfl (.cons rfl .nil)) rfl (disk_Read_no b0 D.sync q hv) (by repeat (first | exact Picks.nil | (apply Picks.ro; focus ((repeat constructor); done)) | (apply Picks.cons; focus ((repeat constructor); done)))) (fun _ => by repeat (first | exact App.nil | apply App.cons))) (fun _ => ?_)
              refine ho_ev rfl rfl rfl (ev_move rfl rfl) ?_
              refine ho_ev rfl rfl rfl (ev_extract rfl rfl rfl) ?_
              refine ho_ev rfl rfl rfl (ev_extract rfl rfl rfl) ?_
              refine ho_ev rfl rfl rfl (ev_assign rfl rfl) ?_
              refine ho_ev rfl rfl rfl (ev_assign rfl rfl) ?_
              refine ho_nil ?_
              refine hx_then ?_
              refine ht_region ?_
              refine ho_ev rfl rfl rfl (ev_move rfl rfl) ?_
              refine ho_ev rfl rfl rfl (ev_move rfl rfl) ?_
              refine ho_ev rfl rfl rfl (ev_move rfl rfl) ?_
              refine ho_ev rfl rfl rfl (ev_str rfl Try.underlying36 Try.underlying5 Try.underlying9 rfl (by first | exact reads_ro (by (with_reducible repeat constructor); done) | exact reads_own (by (with_reducible repeat constructor); done) | exact reads_nil _)) ?_
              refine ho_ev rfl rfl rfl (ev_move rfl rfl) ?_
              refine ho_eq rfl rfl rfl rfl rfl rfl (fun g8 => ?_) (fun g8 => ?_)
              ·first | (exfalso; first | omega | (simp at g8; done) | contradiction) | skip
               all_goals (
                refine ho_ev rfl rfl rfl (ev_indexAddrA rfl Try.underlying34 Try.ty9 rfl rfl (by omega) (by omega)) ?_
                refine ho_eff0 rfl rfl (eff_store1 (c' := arrC (fun i => vS ((D.view i).getD [])) (vS []) (q + 1)) rfl Try.ty9 rfl rfl (by (with_reducible repeat constructor); done) rfl rfl (by rw [arrC_size]; omega) (by rw [(show 0 + ((q : Int)).toNat * 1 = q by omega)]; have hA := arrC_set (fun i => vS ((D.view i).getD [])) (vS []) (j := q) (by omega); have hv1 : D.view q = _ := hv; simp only [hv1, Option.getD_none, Option.getD_some] at hA; exact hA)) (fun _ => ?_)
                refine ho_ev rfl rfl rfl (ev_indexAddrA rfl Try.underlying35 Try.ty4 rfl rfl (by omega) (by omega)) ?_
                refine ho_eff0 rfl rfl (eff_store1 (c' := arrC (fun i => .bool (D.view i).isSome) (.bool false) (q + 1)) rfl Try.ty4 rfl rfl (by (with_reducible repeat constructor); done) rfl rfl (by rw [arrC_size]; omega) (by rw [(show 0 + ((q : Int)).toNat * 1 = q by omega)]; have hA := arrC_set (fun i => .bool (D.view i).isSome) (.bool false) (j := q) (by omega); have hv1 : D.view q = _ := hv; simp only [hv1, Option.isSome_none, Option.isSome_some] at hA; exact hA)) (fun _ => ?_)
                refine ho_nil ?_
                refine hx_block_normal ?_
                refine hx_then ?_
                refine ht_region ?_
                refine ho_ev rfl rfl rfl (ev_move rfl rfl) ?_
                refine ho_ev rfl rfl rfl (ev_add rfl rfl rfl (by first | exact in_i64 (by omega) | rfl)) ?_
                refine ho_ev rfl rfl rfl (ev_assign rfl rfl) ?_
                refine ho_nil ?_
                refine hx_again (I := (fun q : Nat => ([DiskAt b0 D.sync, pt b12 (.cells (arrC (fun i => vS ((D.view i).getD [])) (vS []) q) 34 (0, 0)), pt b13 (.cells (arrC (fun i => .bool (D.view i).isSome) (.bool false) q) 35 (0, 0)), ro (roS a1 xs1.length xs1), ro (actsR xs1 ms1), ro (roS a2 xs2.length xs2), ro (actsR xs2 ms2), ro (roS a3 cl.length cl), pu (q ≤ 21), F], [(14, .int .i64 q), (12, .pointer (some ⟨b12, 0, none⟩)), (13, .pointer (some ⟨b13, 0, none⟩)), (2, .slice a3 cl.length c3), (8, .slice a2 xs2.length c2), (9, .pointer (some ⟨b0, 0, none⟩))]))) (μ := (fun q : Nat => 21 - q)) (i := q) (q + 1) ?_ ?_ ?_
                ·(first | dsimp only | skip); omega
                ·repeat (first | exact EnvSub.nil _ | (refine EnvSub.cons rfl ?_))
                ·(first | dsimp only | skip)
                 exact Ent.cons (by (repeat constructor); done) (Ent.cons (by (repeat constructor); done) (Ent.cons (by (repeat constructor); done) (Ent.cons (by (repeat constructor); done) (Ent.cons (by (repeat constructor); done) (Ent.cons (by (repeat constructor); done) (Ent.cons (by (repeat constructor); done) (Ent.cons (by (repeat constructor); done) (Ent.pu (by omega) (Ent.cons (by (repeat constructor); done) Ent.nil)))))))))
               )
              ·first | (exfalso; first | omega | (simp at g8; done) | contradiction) | skip
               all_goals (
                refine ho_ev rfl rfl rfl (ev_indexAddrA rfl Try.underlying34 Try.ty9 rfl rfl (by omega) (by omega)) ?_
                refine ho_eff0 rfl rfl (eff_store1 (c' := arrC (fun i => vS ((D.view i).getD [])) (vS []) (q + 1)) rfl Try.ty9 rfl rfl (by (with_reducible repeat constructor); done) rfl rfl (by rw [arrC_size]; omega) (by rw [(show 0 + ((q : Int)).toNat * 1 = q by omega)]; have hA := arrC_set (fun i => vS ((D.view i).getD [])) (vS []) (j := q) (by omega); have hv1 : D.view q = _ := hv; simp only [hv1, Option.getD_none, Option.getD_some] at hA; exact hA)) (fun _ => ?_)
                refine ho_ev rfl rfl rfl (ev_indexAddrA rfl Try.underlying35 Try.ty4 rfl rfl (by omega) (by omega)) ?_
                refine ho_eff0 rfl rfl (eff_store1 (c' := arrC (fun i => .bool (D.view i).isSome) (.bool false) (q + 1)) rfl Try.ty4 rfl rfl (by (with_reducible repeat constructor); done) rfl rfl (by rw [arrC_size]; omega) (by rw [(show 0 + ((q : Int)).toNat * 1 = q by omega)]; have hA := arrC_set (fun i => .bool (D.view i).isSome) (.bool false) (j := q) (by omega); have hv1 : D.view q = _ := hv; simp only [hv1, Option.isSome_none, Option.isSome_some] at hA; exact hA)) (fun _ => ?_)
                refine ho_nil ?_
                refine hx_block_normal ?_
                refine hx_then ?_
                refine ht_region ?_
                refine ho_ev rfl rfl rfl (ev_move rfl rfl) ?_
                refine ho_ev rfl rfl rfl (ev_add rfl rfl rfl (by first | exact in_i64 (by omega) | rfl)) ?_
                refine ho_ev rfl rfl rfl (ev_assign rfl rfl) ?_
                refine ho_nil ?_
                refine hx_again (I := (fun q : Nat => ([DiskAt b0 D.sync, pt b12 (.cells (arrC (fun i => vS ((D.view i).getD [])) (vS []) q) 34 (0, 0)), pt b13 (.cells (arrC (fun i => .bool (D.view i).isSome) (.bool false) q) 35 (0, 0)), ro (roS a1 xs1.length xs1), ro (actsR xs1 ms1), ro (roS a2 xs2.length xs2), ro (actsR xs2 ms2), ro (roS a3 cl.length cl), pu (q ≤ 21), F], [(14, .int .i64 q), (12, .pointer (some ⟨b12, 0, none⟩)), (13, .pointer (some ⟨b13, 0, none⟩)), (2, .slice a3 cl.length c3), (8, .slice a2 xs2.length c2), (9, .pointer (some ⟨b0, 0, none⟩))]))) (μ := (fun q : Nat => 21 - q)) (i := q) (q + 1) ?_ ?_ ?_
                ·(first | dsimp only | skip); omega
                ·repeat (first | exact EnvSub.nil _ | (refine EnvSub.cons rfl ?_))
                ·(first | dsimp only | skip)
                 exact Ent.cons (by (repeat constructor); done) (Ent.cons (by (repeat constructor); done) (Ent.cons (by (repeat constructor); done) (Ent.cons (by (repeat constructor); done) (Ent.cons (by (repeat constructor); done) (Ent.cons (by (repeat constructor); done) (Ent.cons (by (repeat constructor); done) (Ent.cons (by (repeat constructor); done) (Ent.pu (by omega) (Ent.cons (by (repeat constructor); done) Ent.nil)))))))))
               )
             ·skip
              refine ho_eff rfl rfl rfl (eff_call rfl rfl (.cons rfl (.cons rfl .nil)) rfl (disk_Read b0 D.sync q s hv) (by repeat (first | exact Picks.nil | (apply Picks.ro; focus ((repeat constructor); done)) | (apply Picks.cons; focus ((repeat constructor); done)))) (fun _ => by repeat (first | exact App.nil | apply App.cons))) (fun rd => ?_)
              refine ho_ev rfl rfl rfl (ev_move rfl rfl) ?_
              refine ho_ev rfl rfl rfl (ev_extract rfl rfl rfl) ?_
              refine ho_ev rfl rfl rfl (ev_extract rfl rfl rfl) ?_
              refine ho_ev rfl rfl rfl (ev_assign rfl rfl) ?_
              refine ho_ev rfl rfl rfl (ev_assign rfl rfl) ?_
              refine ho_nil ?_
              refine hx_then ?_
              refine ht_region ?_
              refine ho_ev rfl rfl rfl (ev_move rfl rfl) ?_
              refine ho_ev rfl rfl rfl (ev_move rfl rfl) ?_
              refine ho_ev rfl rfl rfl (ev_move rfl rfl) ?_
              refine ho_ev rfl rfl rfl (ev_str rfl Try.underlying36 Try.underlying5 Try.underlying9 rfl (by first | exact reads_ro (by (with_reducible repeat constructor); done) | exact reads_own (by (with_reducible repeat constructor); done) | exact reads_nil _)) ?_
              refine ho_ev rfl rfl rfl (ev_move rfl rfl) ?_
              refine ho_eq rfl rfl rfl rfl rfl rfl (fun g9 => ?_) (fun g9 => ?_)
              ·first | (exfalso; first | omega | (simp at g9; done) | contradiction) | skip
               all_goals (
                refine ho_ev rfl rfl rfl (ev_indexAddrA rfl Try.underlying34 Try.ty9 rfl rfl (by omega) (by omega)) ?_
                refine ho_eff0 rfl rfl (eff_store1 (c' := arrC (fun i => vS ((D.view i).getD [])) (vS []) (q + 1)) rfl Try.ty9 rfl rfl (by (with_reducible repeat constructor); done) rfl rfl (by rw [arrC_size]; omega) (by rw [(show 0 + ((q : Int)).toNat * 1 = q by omega)]; have hA := arrC_set (fun i => vS ((D.view i).getD [])) (vS []) (j := q) (by omega); have hv1 : D.view q = _ := hv; simp only [hv1, Option.getD_none, Option.getD_some] at hA; exact hA)) (fun _ => ?_)
                refine ho_ev rfl rfl rfl (ev_indexAddrA rfl Try.underlying35 Try.ty4 rfl rfl (by omega) (by omega)) ?_
                refine ho_eff0 rfl rfl (eff_store1 (c' := arrC (fun i => .bool (D.view i).isSome) (.bool false) (q + 1)) rfl Try.ty4 rfl rfl (by (with_reducible repeat constructor); done) rfl rfl (by rw [arrC_size]; omega) (by rw [(show 0 + ((q : Int)).toNat * 1 = q by omega)]; have hA := arrC_set (fun i => .bool (D.view i).isSome) (.bool false) (j := q) (by omega); have hv1 : D.view q = _ := hv; simp only [hv1, Option.isSome_none, Option.isSome_some] at hA; exact hA)) (fun _ => ?_)
                refine ho_nil ?_
                refine hx_block_normal ?_
                refine hx_then ?_
                refine ht_region ?_
                refine ho_ev rfl rfl rfl (ev_move rfl rfl) ?_
                refine ho_ev rfl rfl rfl (ev_add rfl rfl rfl (by first | exact in_i64 (by omega) | rfl)) ?_
                refine ho_ev rfl rfl rfl (ev_assign rfl rfl) ?_
                refine ho_nil ?_
                refine hx_again (I := (fun q : Nat => ([DiskAt b0 D.sync, pt b12 (.cells (arrC (fun i => vS ((D.view i).getD [])) (vS []) q) 34 (0, 0)), pt b13 (.cells (arrC (fun i => .bool (D.view i).isSome) (.bool false) q) 35 (0, 0)), ro (roS a1 xs1.length xs1), ro (actsR xs1 ms1), ro (roS a2 xs2.length xs2), ro (actsR xs2 ms2), ro (roS a3 cl.length cl), pu (q ≤ 21), F], [(14, .int .i64 q), (12, .pointer (some ⟨b12, 0, none⟩)), (13, .pointer (some ⟨b13, 0, none⟩)), (2, .slice a3 cl.length c3), (8, .slice a2 xs2.length c2), (9, .pointer (some ⟨b0, 0, none⟩))]))) (μ := (fun q : Nat => 21 - q)) (i := q) (q + 1) ?_ ?_ ?_
                ·(first | dsimp only | skip); omega
                ·repeat (first | exact EnvSub.nil _ | (refine EnvSub.cons rfl ?_))
                ·(first | dsimp only | skip)
                 exact Ent.cons (by (repeat constructor); done) (Ent.cons (by (repeat constructor); done) (Ent.cons (by (repeat constructor); done) (Ent.cons (by (repeat constructor); done) (Ent.cons (by (repeat constructor); done) (Ent.cons (by (repeat constructor); done) (Ent.cons (by (repeat constructor); done) (Ent.cons (by (repeat constructor); done) (Ent.pu (by omega) (Ent.cons (by (repeat constructor); done) Ent.nil)))))))))
               )
              ·first | (exfalso; first | omega | (simp at g9; done) | contradiction) | skip
               all_goals (
                refine ho_ev rfl rfl rfl (ev_indexAddrA rfl Try.underlying34 Try.ty9 rfl rfl (by omega) (by omega)) ?_
                refine ho_eff0 rfl rfl (eff_store1 (c' := arrC (fun i => vS ((D.view i).getD [])) (vS []) (q + 1)) rfl Try.ty9 rfl rfl (by (with_reducible repeat constructor); done) rfl rfl (by rw [arrC_size]; omega) (by rw [(show 0 + ((q : Int)).toNat * 1 = q by omega)]; have hA := arrC_set (fun i => vS ((D.view i).getD [])) (vS []) (j := q) (by omega); have hv1 : D.view q = _ := hv; simp only [hv1, Option.getD_none, Option.getD_some] at hA; exact hA)) (fun _ => ?_)
                refine ho_ev rfl rfl rfl (ev_indexAddrA rfl Try.underlying35 Try.ty4 rfl rfl (by omega) (by omega)) ?_
                refine ho_eff0 rfl rfl (eff_store1 (c' := arrC (fun i => .bool (D.view i).isSome) (.bool false) (q + 1)) rfl Try.ty4 rfl rfl (by (with_reducible repeat constructor); done) rfl rfl (by rw [arrC_size]; omega) (by rw [(show 0 + ((q : Int)).toNat * 1 = q by omega)]; have hA := arrC_set (fun i => .bool (D.view i).isSome) (.bool false) (j := q) (by omega); have hv1 : D.view q = _ := hv; simp only [hv1, Option.isSome_none, Option.isSome_some] at hA; exact hA)) (fun _ => ?_)
                refine ho_nil ?_
                refine hx_block_normal ?_
                refine hx_then ?_
                refine ht_region ?_
                refine ho_ev rfl rfl rfl (ev_move rfl rfl) ?_
                refine ho_ev rfl rfl rfl (ev_add rfl rfl rfl (by first | exact in_i64 (by omega) | rfl)) ?_
                refine ho_ev rfl rfl rfl (ev_assign rfl rfl) ?_
                refine ho_nil ?_
                refine hx_again (I := (fun q : Nat => ([DiskAt b0 D.sync, pt b12 (.cells (arrC (fun i => vS ((D.view i).getD [])) (vS []) q) 34 (0, 0)), pt b13 (.cells (arrC (fun i => .bool (D.view i).isSome) (.bool false) q) 35 (0, 0)), ro (roS a1 xs1.length xs1), ro (actsR xs1 ms1), ro (roS a2 xs2.length xs2), ro (actsR xs2 ms2), ro (roS a3 cl.length cl), pu (q ≤ 21), F], [(14, .int .i64 q), (12, .pointer (some ⟨b12, 0, none⟩)), (13, .pointer (some ⟨b13, 0, none⟩)), (2, .slice a3 cl.length c3), (8, .slice a2 xs2.length c2), (9, .pointer (some ⟨b0, 0, none⟩))]))) (μ := (fun q : Nat => 21 - q)) (i := q) (q + 1) ?_ ?_ ?_
                ·(first | dsimp only | skip); omega
                ·repeat (first | exact EnvSub.nil _ | (refine EnvSub.cons rfl ?_))
                ·(first | dsimp only | skip)
                 exact Ent.cons (by (repeat constructor); done) (Ent.cons (by (repeat constructor); done) (Ent.cons (by (repeat constructor); done) (Ent.cons (by (repeat constructor); done) (Ent.cons (by (repeat constructor); done) (Ent.cons (by (repeat constructor); done) (Ent.cons (by (repeat constructor); done) (Ent.cons (by (repeat constructor); done) (Ent.pu (by omega) (Ent.cons (by (repeat constructor); done) Ent.nil)))))))))
               )
            )
           ·first | (exfalso; first | omega | (simp at g7; done) | contradiction) | skip
            all_goals (
             refine ho_nil ?_
             refine hx_then ?_
             refine ht_else rfl ?_
             refine ht_exit ?_
             refine hx_through trivial ?_
             refine hx_through trivial ?_
             refine hx_block_here ?_
             refine hx_then ?_
             refine ht_seq ?_
             obtain rfl : q = 21 := by omega
             refine ht_region ?_
             refine ho_eff rfl rfl rfl (eff_alloc rfl Try.ty35 (by first | exact cells_agg _ | exact rfl)) (fun b17 => ?_)
             refine ho_nil ?_
             refine hx_then ?_
             refine ht_join (fun g : Dk.Disk × (Nat → Bool) => ([DiskAt b0 g.1, pt b12 (.cells (arrC (fun i => vS ((D.view i).getD [])) (vS []) 21) 34 (0, 0)), pt b13 (.cells (arrC (fun i => .bool (D.view i).isSome) (.bool false) 21) 35 (0, 0)), pt b17 (.cells (arrC (fun i => .bool (g.2 i)) (.bool false) 21) 35 (0, 0)), ro (roS a1 xs1.length xs1), ro (actsR xs1 ms1), ro (roS a2 xs2.length xs2), ro (actsR xs2 ms2), ro (roS a3 cl.length cl), pu (Dk.Keep D.view g.1 g.2 ∧ g.1.pend.length ≤ 30), F], [(17, .pointer (some ⟨b17, 0, none⟩)), (12, .pointer (some ⟨b12, 0, none⟩)), (13, .pointer (some ⟨b13, 0, none⟩)), (2, .slice a3 cl.length c3), (8, .slice a2 xs2.length c2), (9, .pointer (some ⟨b0, 0, none⟩))])) ?_ (fun g => ?_)
             ·skip
              refine ht_seq ?_
              refine ht_region ?_
              refine ho_ev rfl rfl rfl (ev_assign rfl rfl) ?_
              refine ho_nil ?_
              refine hx_then ?_
              refine ht_block ?_
              refine ht_loop (fun q : Nat × Dk.Disk × (Nat → Bool) => ([DiskAt b0 q.2.1, pt b12 (.cells (arrC (fun i => vS ((D.view i).getD [])) (vS []) 21) 34 (0, 0)), pt b13 (.cells (arrC (fun i => .bool (D.view i).isSome) (.bool false) 21) 35 (0, 0)), pt b17 (.cells (arrC (fun i => .bool (q.2.2 i)) (.bool false) 21) 35 (0, 0)), ro (roS a1 xs1.length xs1), ro (actsR xs1 ms1), ro (roS a2 xs2.length xs2), ro (actsR xs2 ms2), ro (roS a3 cl.length cl), pu (Dk.Keep D.view q.2.1 q.2.2 ∧ q.2.1.pend.length ≤ q.1 ∧ q.1 ≤ 30 ∧ q.1 ≤ xs2.length), F], [(18, .int .i64 q.1), (17, .pointer (some ⟨b17, 0, none⟩)), (12, .pointer (some ⟨b12, 0, none⟩)), (13, .pointer (some ⟨b13, 0, none⟩)), (2, .slice a3 cl.length c3), (8, .slice a2 xs2.length c2), (9, .pointer (some ⟨b0, 0, none⟩))])) (fun q : Nat × Dk.Disk × (Nat → Bool) => 30 - q.1) (0, D.sync, fun _ => false) ?_ (by repeat (first | exact EnvSub.nil _ | (refine EnvSub.cons rfl ?_))) (fun q => ?_)
              ·(first | dsimp only | skip)
               exact Ent.cons (by (repeat constructor); done) (Ent.cons (by (repeat constructor); done) (Ent.cons (by (repeat constructor); done) (Ent.cons (by (repeat constructor); done) (Ent.cons (by (repeat constructor); done) (Ent.cons (by (repeat constructor); done) (Ent.cons (by (repeat constructor); done) (Ent.cons (by (repeat constructor); done) (Ent.cons (by (repeat constructor); done) (Ent.pu ⟨Dk.keep_start hnn, by simp [Dk.Disk.sync], by omega, by omega⟩ (Ent.cons (by (repeat constructor); done) Ent.nil))))))))))
              obtain ⟨q, d, T⟩ := q
              dsimp only
              refine ht_pick (A := pu (Dk.Keep D.view d T ∧ d.pend.length ≤ q ∧ q ≤ 30 ∧ q ≤ xs2.length)) (by (repeat constructor); done) (ht_pure fun hq => ?_)
              obtain ⟨hkeep, hpl2, hq1, hq2⟩ := hq
              refine ht_seq ?_
              refine ht_seq ?_
              refine ht_region ?_
              refine ho_ev rfl rfl rfl (ev_move rfl rfl) ?_
              refine ho_ev rfl rfl rfl (ev_move rfl rfl) ?_
              refine ho_ev rfl rfl rfl (ev_lenSl rfl Try.underlying22 rfl) ?_
              refine ho_lt rfl rfl rfl rfl rfl rfl (fun g10 => ?_) (fun g10 => ?_)
              ·first | (exfalso; first | omega | (simp at g10; done) | contradiction) | skip
               all_goals (
                refine ho_ev rfl rfl rfl (ev_move rfl rfl) ?_
                refine ho_evg rfl rfl rfl rfl (ev_move rfl rfl) ?_
                refine ho_ltg rfl rfl rfl rfl rfl rfl rfl (fun g11 => ?_) (fun g11 => ?_)
                ·first | (exfalso; first | omega | (simp at g11; done) | contradiction) | skip
                 all_goals (
                  refine ho_ev rfl rfl rfl (ev_pick_t rfl rfl rfl) ?_
                  refine ho_nil ?_
                  refine hx_then ?_
                  refine ht_then rfl ?_
                  refine ht_skip ?_
                  refine hx_then ?_
                  refine ht_join (fun g : Dk.Disk × (Nat → Bool) => ([DiskAt b0 g.1, pt b12 (.cells (arrC (fun i => vS ((D.view i).getD [])) (vS []) 21) 34 (0, 0)), pt b13 (.cells (arrC (fun i => .bool (D.view i).isSome) (.bool false) 21) 35 (0, 0)), pt b17 (.cells (arrC (fun i => .bool (g.2 i)) (.bool false) 21) 35 (0, 0)), ro (roS a1 xs1.length xs1), ro (actsR xs1 ms1), ro (roS a2 xs2.length xs2), ro (actsR xs2 ms2), ro (roS a3 cl.length cl), pu (Dk.Keep D.view g.1 g.2 ∧ g.1.pend.length ≤ q + 1), F], [(18, .int .i64 q), (17, .pointer (some ⟨b17, 0, none⟩)), (12, .pointer (some ⟨b12, 0, none⟩)), (13, .pointer (some ⟨b13, 0, none⟩)), (2, .slice a3 cl.length c3), (8, .slice a2 xs2.length c2), (9, .pointer (some ⟨b0, 0, none⟩))])) ?_ (fun g => ?_)
                  ·skip
                   refine ht_block ?_
                   refine ht_seq ?_
                   refine ht_actAt (xs := xs2) (ms := ms2) (i := q) (by omega) (by (with_reducible repeat constructor); done) (fun x0 m0 hx0 hm0 => ?_)
                   refine ht_someS (α := ActV) (a := a2) (xs := xs2) (reads_ro (by (with_reducible repeat constructor); done)) (by omega) (fun ab ao ha => ?_)
                   refine ht_region ?_
                   refine ho_ev rfl rfl rfl (ev_move rfl rfl) ?_
                   refine ho_ev rfl rfl rfl (ev_move rfl rfl) ?_
                   refine ho_ev rfl rfl rfl (ev_indexAddr rfl Try.underlying22 Try.ty32 (congrArg (fun z => some (Value.slice z xs2.length c2)) ha) rfl (by omega) (by omega)) ?_
                   refine ho_ev rfl rfl rfl (ev_loadA rfl Try.underlying32 Try.ty32 rfl rfl (cells_Sa ha (reads_ro (by (with_reducible repeat constructor); done)) hx0)) ?_
                   refine ho_eff rfl rfl rfl (eff_call rfl rfl (.cons rfl .nil) rfl (law_few x0 m0) (by repeat (first | exact Picks.nil | (apply Picks.ro; focus ((repeat constructor); done)) | (apply Picks.cons; focus ((repeat constructor); done)))) (fun _ => by repeat (first | exact App.nil | apply App.cons))) (fun y => ?_)
                   refine ho_eff rfl rfl rfl (eff_alloc rfl Try.ty32 (by first | exact cells_agg _ | exact rfl)) (fun b19 => ?_)
                   refine ho_eff0 rfl rfl (eff_storeA rfl Try.ty32 rfl rfl (by (with_reducible repeat constructor); done) rfl rfl rfl (by simp only [setRange, List.setIfInBounds_toArray, List.set_cons_zero, List.set_cons_succ, Nat.zero_add]; rfl)) (fun _ => ?_)
                   refine ho_nil ?_
                   refine hx_then ?_
                   refine ht_seq ?_
                   refine ht_seq ?_
                   refine ht_act (x := y) (m := m0.few) (by (with_reducible repeat constructor); done) (fun hyk hyp hyb hyl hyc => ?_)
                   refine ht_region ?_
                   refine ho_ev rfl rfl rfl (by first | exact ev_fieldAddr0 rfl Try.fld32_0 rfl | exact ev_fieldAddr rfl Try.fld32_0 rfl) ?_
                   refine ho_ev rfl rfl rfl (ev_load rfl Try.underlying3 rfl rfl (by first | exact cell_pt (by (with_reducible repeat constructor); done) rfl | exact cell_ro (by (with_reducible repeat constructor); done) rfl)) ?_
                   refine ho_ne rfl rfl rfl rfl rfl rfl (fun g12 => ?_) (fun g12 => ?_)
                   ·first | (exfalso; first | omega | (simp at g12; done) | contradiction) | skip
                    all_goals (
                     refine ho_ev rfl rfl rfl (ev_move rfl rfl) ?_
                     refine ho_evg rfl rfl rfl rfl (by first | exact ev_fieldAddr0 rfl Try.fld32_0 rfl | exact ev_fieldAddr rfl Try.fld32_0 rfl) ?_
                     refine ho_evg rfl rfl rfl rfl (ev_load rfl Try.underlying3 rfl rfl (by first | exact cell_pt (by (with_reducible repeat constructor); done) rfl | exact cell_ro (by (with_reducible repeat constructor); done) rfl)) ?_
                     refine ho_neg rfl rfl rfl rfl rfl rfl rfl (fun g13 => ?_) (fun g13 => ?_)
                     ·first | (exfalso; first | omega | (simp at g13; done) | contradiction) | skip
                      all_goals (
                       refine ho_ev rfl rfl rfl (ev_pick_t rfl rfl rfl) ?_
                       refine ho_nil ?_
                       refine hx_then ?_
                       refine ht_then rfl ?_
                       refine ht_exit ?_
                       refine hx_through trivial ?_
                       refine hx_block_here ?_
                       refine hx_joined (I := (fun g : Dk.Disk × (Nat → Bool) => ([DiskAt b0 g.1, pt b12 (.cells (arrC (fun i => vS ((D.view i).getD [])) (vS []) 21) 34 (0, 0)), pt b13 (.cells (arrC (fun i => .bool (D.view i).isSome) (.bool false) 21) 35 (0, 0)), pt b17 (.cells (arrC (fun i => .bool (g.2 i)) (.bool false) 21) 35 (0, 0)), ro (roS a1 xs1.length xs1), ro (actsR xs1 ms1), ro (roS a2 xs2.length xs2), ro (actsR xs2 ms2), ro (roS a3 cl.length cl), pu (Dk.Keep D.view g.1 g.2 ∧ g.1.pend.length ≤ q + 1), F], [(18, .int .i64 q), (17, .pointer (some ⟨b17, 0, none⟩)), (12, .pointer (some ⟨b12, 0, none⟩)), (13, .pointer (some ⟨b13, 0, none⟩)), (2, .slice a3 cl.length c3), (8, .slice a2 xs2.length c2), (9, .pointer (some ⟨b0, 0, none⟩))]))) (d, T) ?_ ?_
                       ·repeat (first | exact EnvSub.nil _ | (refine EnvSub.cons rfl ?_))
                       ·(first | dsimp only | skip)
                        exact Ent.cons (by (repeat constructor); done) (Ent.cons (by (repeat constructor); done) (Ent.cons (by (repeat constructor); done) (Ent.cons (by (repeat constructor); done) (Ent.cons (by (repeat constructor); done) (Ent.cons (by (repeat constructor); done) (Ent.cons (by (repeat constructor); done) (Ent.cons (by (repeat constructor); done) (Ent.cons (by (repeat constructor); done) (Ent.pu ⟨hkeep, by omega⟩ (Ent.cons (by (repeat constructor); done) Ent.nil))))))))))
                      )
                     ·first | (exfalso; first | omega | (simp at g13; done) | contradiction) | skip
                      all_goals (
                       refine ho_ev rfl rfl rfl (ev_pick_t rfl rfl rfl) ?_
                       refine ho_nil ?_
                       refine hx_then ?_
                       refine ht_else rfl ?_
                       refine ht_skip ?_
                       refine hx_then ?_
                       refine ht_seq ?_
                       have hkd : m0.few.kind = 0 ∨ m0.few.kind = 1 := by omega
                       refine ht_region ?_
                       refine ho_ev rfl rfl rfl (ev_move rfl rfl) ?_
                       refine ho_ev rfl rfl rfl (ev_loadA rfl Try.underlying32 Try.ty32 rfl rfl (by first | exact cells_pt (by (with_reducible repeat constructor); done) (Nat.le_of_ble_eq_true rfl) (by simp only [List.extract_toArray, List.extract_eq_take_drop, Nat.zero_add, Nat.sub_zero, Nat.add_sub_cancel_left, List.drop_zero, List.take_succ_cons, List.take_zero, List.drop_succ_cons]; rfl) | exact cells_ro (by (with_reducible repeat constructor); done) (Nat.le_of_ble_eq_true rfl) (by simp only [List.extract_toArray, List.extract_eq_take_drop, Nat.zero_add, Nat.sub_zero, Nat.add_sub_cancel_left, List.drop_zero, List.take_succ_cons, List.take_zero, List.drop_succ_cons]; rfl))) ?_
                       refine ho_eff rfl rfl rfl (eff_call rfl rfl (.cons rfl (.cons rfl .nil)) rfl (law_do b0 d y m0.few (Dk.MAct.few_short m0) (by omega)) (by repeat (first | exact Picks.nil | (apply Picks.ro; focus ((repeat constructor); done)) | (apply Picks.cons; focus ((repeat constructor); done)))) (fun _ => by repeat (first | exact App.nil | apply App.cons))) (fun _ => ?_)
                       refine ho_eq rfl rfl rfl rfl rfl rfl (fun g14 => ?_) (fun g14 => ?_)
                       ·first | (exfalso; first | omega | (simp at g14; done) | contradiction) | skip
                        all_goals (
                         refine ho_ev rfl rfl rfl (ev_move rfl rfl) ?_
                         refine ho_evg rfl rfl rfl rfl (by first | exact ev_fieldAddr0 rfl Try.fld32_1 rfl | exact ev_fieldAddr rfl Try.fld32_1 rfl) ?_
                         refine ho_evg rfl rfl rfl rfl (ev_load rfl Try.underlying3 rfl rfl (by first | exact cell_pt (by (with_reducible repeat constructor); done) rfl | exact cell_ro (by (with_reducible repeat constructor); done) rfl)) ?_
                         refine ho_ltg rfl rfl rfl rfl rfl rfl rfl (fun g15 => ?_) (fun g15 => ?_)
                         ·first | (exfalso; first | omega | (simp at g15; done) | contradiction) | skip
                          all_goals (
                           refine ho_ev rfl rfl rfl (ev_pick_t rfl rfl rfl) ?_
                           refine ho_nil ?_
                           refine hx_then ?_
                           refine ht_then rfl ?_
                           have hpl0 := Dk.aerr_place hkeep.nn hkd (by omega)
                           refine ht_region ?_
                           refine ho_ev rfl rfl rfl (by first | exact ev_fieldAddr0 rfl Try.fld32_1 rfl | exact ev_fieldAddr rfl Try.fld32_1 rfl) ?_
                           refine ho_ev rfl rfl rfl (ev_load rfl Try.underlying3 rfl rfl (by first | exact cell_pt (by (with_reducible repeat constructor); done) rfl | exact cell_ro (by (with_reducible repeat constructor); done) rfl)) ?_
                           refine ho_ev rfl rfl rfl (ev_indexAddrA rfl Try.underlying35 Try.ty4 rfl rfl (by omega) (by omega)) ?_
                           refine ho_eff0 rfl rfl (eff_store1 (c' := arrC (fun i => .bool (Dk.touch T m0.few.place i)) (.bool false) 21) rfl Try.ty4 rfl rfl (by (with_reducible repeat constructor); done) rfl rfl (by rw [arrC_size]; omega) (by rw [show 0 + y.place.toNat * 1 = m0.few.place.toNat by omega]; exact arrC_touch T _ hpl0 (by omega))) (fun _ => ?_)
                           refine ho_nil ?_
                           refine hx_block_normal ?_
                           refine hx_joined (I := (fun g : Dk.Disk × (Nat → Bool) => ([DiskAt b0 g.1, pt b12 (.cells (arrC (fun i => vS ((D.view i).getD [])) (vS []) 21) 34 (0, 0)), pt b13 (.cells (arrC (fun i => .bool (D.view i).isSome) (.bool false) 21) 35 (0, 0)), pt b17 (.cells (arrC (fun i => .bool (g.2 i)) (.bool false) 21) 35 (0, 0)), ro (roS a1 xs1.length xs1), ro (actsR xs1 ms1), ro (roS a2 xs2.length xs2), ro (actsR xs2 ms2), ro (roS a3 cl.length cl), pu (Dk.Keep D.view g.1 g.2 ∧ g.1.pend.length ≤ q + 1), F], [(18, .int .i64 q), (17, .pointer (some ⟨b17, 0, none⟩)), (12, .pointer (some ⟨b12, 0, none⟩)), (13, .pointer (some ⟨b13, 0, none⟩)), (2, .slice a3 cl.length c3), (8, .slice a2 xs2.length c2), (9, .pointer (some ⟨b0, 0, none⟩))]))) (d.act m0.few, Dk.touch T m0.few.place) ?_ ?_
                           ·repeat (first | exact EnvSub.nil _ | (refine EnvSub.cons rfl ?_))
                           ·(first | dsimp only | skip)
                            exact Ent.cons (by (repeat constructor); done) (Ent.cons (by (repeat constructor); done) (Ent.cons (by (repeat constructor); done) (Ent.cons (by (repeat constructor); done) (Ent.cons (by (repeat constructor); done) (Ent.cons (by (repeat constructor); done) (Ent.cons (by (repeat constructor); done) (Ent.cons (by (repeat constructor); done) (Ent.cons (by (repeat constructor); done) (Ent.pu ⟨Dk.keep_yes hkeep hkd (by omega), by have := Dk.act_len d m0.few; omega⟩ (Ent.cons (by (repeat constructor); done) Ent.nil))))))))))
                          )
                         ·first | (exfalso; first | omega | (simp at g15; done) | contradiction) | skip
                          all_goals (
                           refine ho_ev rfl rfl rfl (ev_pick_t rfl rfl rfl) ?_
                           refine ho_nil ?_
                           refine hx_then ?_
                           refine ht_else rfl ?_
                           refine ht_skip ?_
                           refine hx_block_normal ?_
                           refine hx_joined (I := (fun g : Dk.Disk × (Nat → Bool) => ([DiskAt b0 g.1, pt b12 (.cells (arrC (fun i => vS ((D.view i).getD [])) (vS []) 21) 34 (0, 0)), pt b13 (.cells (arrC (fun i => .bool (D.view i).isSome) (.bool false) 21) 35 (0, 0)), pt b17 (.cells (arrC (fun i => .bool (g.2 i)) (.bool false) 21) 35 (0, 0)), ro (roS a1 xs1.length xs1), ro (actsR xs1 ms1), ro (roS a2 xs2.length xs2), ro (actsR xs2 ms2), ro (roS a3 cl.length cl), pu (Dk.Keep D.view g.1 g.2 ∧ g.1.pend.length ≤ q + 1), F], [(18, .int .i64 q), (17, .pointer (some ⟨b17, 0, none⟩)), (12, .pointer (some ⟨b12, 0, none⟩)), (13, .pointer (some ⟨b13, 0, none⟩)), (2, .slice a3 cl.length c3), (8, .slice a2 xs2.length c2), (9, .pointer (some ⟨b0, 0, none⟩))]))) (d.act m0.few, T) ?_ ?_
                           ·repeat (first | exact EnvSub.nil _ | (refine EnvSub.cons rfl ?_))
                           ·(first | dsimp only | skip)
                            exact Ent.cons (by (repeat constructor); done) (Ent.cons (by (repeat constructor); done) (Ent.cons (by (repeat constructor); done) (Ent.cons (by (repeat constructor); done) (Ent.cons (by (repeat constructor); done) (Ent.cons (by (repeat constructor); done) (Ent.cons (by (repeat constructor); done) (Ent.cons (by (repeat constructor); done) (Ent.cons (by (repeat constructor); done) (Ent.pu ⟨Dk.keep_far hkeep hkd (by omega) (by omega), by have := Dk.act_len d m0.few; omega⟩ (Ent.cons (by (repeat constructor); done) Ent.nil))))))))))
                          )
                        )
                       ·first | (exfalso; first | omega | (simp at g14; done) | contradiction) | skip
                        all_goals (
                         refine ho_ev rfl rfl rfl (ev_move rfl rfl) ?_
                         refine ho_pass rfl rfl rfl rfl ?_
                         refine ho_pass rfl rfl rfl rfl ?_
                         refine ho_pass rfl rfl rfl rfl ?_
                         refine ho_ev rfl rfl rfl (ev_pick_f rfl rfl rfl) ?_
                         refine ho_nil ?_
                         refine hx_then ?_
                         refine ht_else rfl ?_
                         refine ht_skip ?_
                         refine hx_block_normal ?_
                         refine hx_joined (I := (fun g : Dk.Disk × (Nat → Bool) => ([DiskAt b0 g.1, pt b12 (.cells (arrC (fun i => vS ((D.view i).getD [])) (vS []) 21) 34 (0, 0)), pt b13 (.cells (arrC (fun i => .bool (D.view i).isSome) (.bool false) 21) 35 (0, 0)), pt b17 (.cells (arrC (fun i => .bool (g.2 i)) (.bool false) 21) 35 (0, 0)), ro (roS a1 xs1.length xs1), ro (actsR xs1 ms1), ro (roS a2 xs2.length xs2), ro (actsR xs2 ms2), ro (roS a3 cl.length cl), pu (Dk.Keep D.view g.1 g.2 ∧ g.1.pend.length ≤ q + 1), F], [(18, .int .i64 q), (17, .pointer (some ⟨b17, 0, none⟩)), (12, .pointer (some ⟨b12, 0, none⟩)), (13, .pointer (some ⟨b13, 0, none⟩)), (2, .slice a3 cl.length c3), (8, .slice a2 xs2.length c2), (9, .pointer (some ⟨b0, 0, none⟩))]))) (d.act m0.few, T) ?_ ?_
                         ·repeat (first | exact EnvSub.nil _ | (refine EnvSub.cons rfl ?_))
                         ·(first | dsimp only | skip)
                          exact Ent.cons (by (repeat constructor); done) (Ent.cons (by (repeat constructor); done) (Ent.cons (by (repeat constructor); done) (Ent.cons (by (repeat constructor); done) (Ent.cons (by (repeat constructor); done) (Ent.cons (by (repeat constructor); done) (Ent.cons (by (repeat constructor); done) (Ent.cons (by (repeat constructor); done) (Ent.cons (by (repeat constructor); done) (Ent.pu ⟨Dk.keep_no hkeep hkd (by omega), by have := Dk.act_len d m0.few; omega⟩ (Ent.cons (by (repeat constructor); done) Ent.nil))))))))))
                        )
                      )
                    )
                   ·first | (exfalso; first | omega | (simp at g12; done) | contradiction) | skip
                    all_goals (
                     refine ho_ev rfl rfl rfl (ev_move rfl rfl) ?_
                     refine ho_pass rfl rfl rfl rfl ?_
                     refine ho_pass rfl rfl rfl rfl ?_
                     refine ho_pass rfl rfl rfl rfl ?_
                     refine ho_ev rfl rfl rfl (ev_pick_f rfl rfl rfl) ?_
                     refine ho_nil ?_
                     refine hx_then ?_
                     refine ht_else rfl ?_
                     refine ht_skip ?_
                     refine hx_then ?_
                     refine ht_seq ?_
                     have hkd : m0.few.kind = 0 ∨ m0.few.kind = 1 := by omega
                     refine ht_region ?_
                     refine ho_ev rfl rfl rfl (ev_move rfl rfl) ?_
                     refine ho_ev rfl rfl rfl (ev_loadA rfl Try.underlying32 Try.ty32 rfl rfl (by first | exact cells_pt (by (with_reducible repeat constructor); done) (Nat.le_of_ble_eq_true rfl) (by simp only [List.extract_toArray, List.extract_eq_take_drop, Nat.zero_add, Nat.sub_zero, Nat.add_sub_cancel_left, List.drop_zero, List.take_succ_cons, List.take_zero, List.drop_succ_cons]; rfl) | exact cells_ro (by (with_reducible repeat constructor); done) (Nat.le_of_ble_eq_true rfl) (by simp only [List.extract_toArray, List.extract_eq_take_drop, Nat.zero_add, Nat.sub_zero, Nat.add_sub_cancel_left, List.drop_zero, List.take_succ_cons, List.take_zero, List.drop_succ_cons]; rfl))) ?_
                     refine ho_eff rfl rfl rfl (eff_call rfl rfl (.cons rfl (.cons rfl .nil)) rfl (law_do b0 d y m0.few (Dk.MAct.few_short m0) (by omega)) (by repeat (first | exact Picks.nil | (apply Picks.ro; focus ((repeat constructor); done)) | (apply Picks.cons; focus ((repeat constructor); done)))) (fun _ => by repeat (first | exact App.nil | apply App.cons))) (fun _ => ?_)
                     refine ho_eq rfl rfl rfl rfl rfl rfl (fun g16 => ?_) (fun g16 => ?_)
                     ·first | (exfalso; first | omega | (simp at g16; done) | contradiction) | skip
                      all_goals (
                       refine ho_ev rfl rfl rfl (ev_move rfl rfl) ?_
                       refine ho_evg rfl rfl rfl rfl (by first | exact ev_fieldAddr0 rfl Try.fld32_1 rfl | exact ev_fieldAddr rfl Try.fld32_1 rfl) ?_
                       refine ho_evg rfl rfl rfl rfl (ev_load rfl Try.underlying3 rfl rfl (by first | exact cell_pt (by (with_reducible repeat constructor); done) rfl | exact cell_ro (by (with_reducible repeat constructor); done) rfl)) ?_
                       refine ho_ltg rfl rfl rfl rfl rfl rfl rfl (fun g17 => ?_) (fun g17 => ?_)
                       ·first | (exfalso; first | omega | (simp at g17; done) | contradiction) | skip
                        all_goals (
                         refine ho_ev rfl rfl rfl (ev_pick_t rfl rfl rfl) ?_
                         refine ho_nil ?_
                         refine hx_then ?_
                         refine ht_then rfl ?_
                         have hpl0 := Dk.aerr_place hkeep.nn hkd (by omega)
                         refine ht_region ?_
                         refine ho_ev rfl rfl rfl (by first | exact ev_fieldAddr0 rfl Try.fld32_1 rfl | exact ev_fieldAddr rfl Try.fld32_1 rfl) ?_
                         refine ho_ev rfl rfl rfl (ev_load rfl Try.underlying3 rfl rfl (by first | exact cell_pt (by (with_reducible repeat constructor); done) rfl | exact cell_ro (by (with_reducible repeat constructor); done) rfl)) ?_
                         refine ho_ev rfl rfl rfl (ev_indexAddrA rfl Try.underlying35 Try.ty4 rfl rfl (by omega) (by omega)) ?_
                         refine ho_eff0 rfl rfl (eff_store1 (c' := arrC (fun i => .bool (Dk.touch T m0.few.place i)) (.bool false) 21) rfl Try.ty4 rfl rfl (by (with_reducible repeat constructor); done) rfl rfl (by rw [arrC_size]; omega) (by rw [show 0 + y.place.toNat * 1 = m0.few.place.toNat by omega]; exact arrC_touch T _ hpl0 (by omega))) (fun _ => ?_)
                         refine ho_nil ?_
                         refine hx_block_normal ?_
                         refine hx_joined (I := (fun g : Dk.Disk × (Nat → Bool) => ([DiskAt b0 g.1, pt b12 (.cells (arrC (fun i => vS ((D.view i).getD [])) (vS []) 21) 34 (0, 0)), pt b13 (.cells (arrC (fun i => .bool (D.view i).isSome) (.bool false) 21) 35 (0, 0)), pt b17 (.cells (arrC (fun i => .bool (g.2 i)) (.bool false) 21) 35 (0, 0)), ro (roS a1 xs1.length xs1), ro (actsR xs1 ms1), ro (roS a2 xs2.length xs2), ro (actsR xs2 ms2), ro (roS a3 cl.length cl), pu (Dk.Keep D.view g.1 g.2 ∧ g.1.pend.length ≤ q + 1), F], [(18, .int .i64 q), (17, .pointer (some ⟨b17, 0, none⟩)), (12, .pointer (some ⟨b12, 0, none⟩)), (13, .pointer (some ⟨b13, 0, none⟩)), (2, .slice a3 cl.length c3), (8, .slice a2 xs2.length c2), (9, .pointer (some ⟨b0, 0, none⟩))]))) (d.act m0.few, Dk.touch T m0.few.place) ?_ ?_
                         ·repeat (first | exact EnvSub.nil _ | (refine EnvSub.cons rfl ?_))
                         ·(first | dsimp only | skip)
                          exact Ent.cons (by (repeat constructor); done) (Ent.cons (by (repeat constructor); done) (Ent.cons (by (repeat constructor); done) (Ent.cons (by (repeat constructor); done) (Ent.cons (by (repeat constructor); done) (Ent.cons (by (repeat constructor); done) (Ent.cons (by (repeat constructor); done) (Ent.cons (by (repeat constructor); done) (Ent.cons (by (repeat constructor); done) (Ent.pu ⟨Dk.keep_yes hkeep hkd (by omega), by have := Dk.act_len d m0.few; omega⟩ (Ent.cons (by (repeat constructor); done) Ent.nil))))))))))
                        )
                       ·first | (exfalso; first | omega | (simp at g17; done) | contradiction) | skip
                        all_goals (
                         refine ho_ev rfl rfl rfl (ev_pick_t rfl rfl rfl) ?_
                         refine ho_nil ?_
                         refine hx_then ?_
                         refine ht_else rfl ?_
                         refine ht_skip ?_
                         refine hx_block_normal ?_
                         refine hx_joined (I := (fun g : Dk.Disk × (Nat → Bool) => ([DiskAt b0 g.1, pt b12 (.cells (arrC (fun i => vS ((D.view i).getD [])) (vS []) 21) 34 (0, 0)), pt b13 (.cells (arrC (fun i => .bool (D.view i).isSome) (.bool false) 21) 35 (0, 0)), pt b17 (.cells (arrC (fun i => .bool (g.2 i)) (.bool false) 21) 35 (0, 0)), ro (roS a1 xs1.length xs1), ro (actsR xs1 ms1), ro (roS a2 xs2.length xs2), ro (actsR xs2 ms2), ro (roS a3 cl.length cl), pu (Dk.Keep D.view g.1 g.2 ∧ g.1.pend.length ≤ q + 1), F], [(18, .int .i64 q), (17, .pointer (some ⟨b17, 0, none⟩)), (12, .pointer (some ⟨b12, 0, none⟩)), (13, .pointer (some ⟨b13, 0, none⟩)), (2, .slice a3 cl.length c3), (8, .slice a2 xs2.length c2), (9, .pointer (some ⟨b0, 0, none⟩))]))) (d.act m0.few, T) ?_ ?_
                         ·repeat (first | exact EnvSub.nil _ | (refine EnvSub.cons rfl ?_))
                         ·(first | dsimp only | skip)
                          exact Ent.cons (by (repeat constructor); done) (Ent.cons (by (repeat constructor); done) (Ent.cons (by (repeat constructor); done) (Ent.cons (by (repeat constructor); done) (Ent.cons (by (repeat constructor); done) (Ent.cons (by (repeat constructor); done) (Ent.cons (by (repeat constructor); done) (Ent.cons (by (repeat constructor); done) (Ent.cons (by (repeat constructor); done) (Ent.pu ⟨Dk.keep_far hkeep hkd (by omega) (by omega), by have := Dk.act_len d m0.few; omega⟩ (Ent.cons (by (repeat constructor); done) Ent.nil))))))))))
                        )
                      )
                     ·first | (exfalso; first | omega | (simp at g16; done) | contradiction) | skip
                      all_goals (
                       refine ho_ev rfl rfl rfl (ev_move rfl rfl) ?_
                       refine ho_pass rfl rfl rfl rfl ?_
                       refine ho_pass rfl rfl rfl rfl ?_
                       refine ho_pass rfl rfl rfl rfl ?_
                       refine ho_ev rfl rfl rfl (ev_pick_f rfl rfl rfl) ?_
                       refine ho_nil ?_
                       refine hx_then ?_
                       refine ht_else rfl ?_
                       refine ht_skip ?_
                       refine hx_block_normal ?_
                       refine hx_joined (I := (fun g : Dk.Disk × (Nat → Bool) => ([DiskAt b0 g.1, pt b12 (.cells (arrC (fun i => vS ((D.view i).getD [])) (vS []) 21) 34 (0, 0)), pt b13 (.cells (arrC (fun i => .bool (D.view i).isSome) (.bool false) 21) 35 (0, 0)), pt b17 (.cells (arrC (fun i => .bool (g.2 i)) (.bool false) 21) 35 (0, 0)), ro (roS a1 xs1.length xs1), ro (actsR xs1 ms1), ro (roS a2 xs2.length xs2), ro (actsR xs2 ms2), ro (roS a3 cl.length cl), pu (Dk.Keep D.view g.1 g.2 ∧ g.1.pend.length ≤ q + 1), F], [(18, .int .i64 q), (17, .pointer (some ⟨b17, 0, none⟩)), (12, .pointer (some ⟨b12, 0, none⟩)), (13, .pointer (some ⟨b13, 0, none⟩)), (2, .slice a3 cl.length c3), (8, .slice a2 xs2.length c2), (9, .pointer (some ⟨b0, 0, none⟩))]))) (d.act m0.few, T) ?_ ?_
                       ·repeat (first | exact EnvSub.nil _ | (refine EnvSub.cons rfl ?_))
                       ·(first | dsimp only | skip)
                        exact Ent.cons (by (repeat constructor); done) (Ent.cons (by (repeat constructor); done) (Ent.cons (by (repeat constructor); done) (Ent.cons (by (repeat constructor); done) (Ent.cons (by (repeat constructor); done) (Ent.cons (by (repeat constructor); done) (Ent.cons (by (repeat constructor); done) (Ent.cons (by (repeat constructor); done) (Ent.cons (by (repeat constructor); done) (Ent.pu ⟨Dk.keep_no hkeep hkd (by omega), by have := Dk.act_len d m0.few; omega⟩ (Ent.cons (by (repeat constructor); done) Ent.nil))))))))))
                      )
                    )
                  ·skip
                   obtain ⟨d, T⟩ := g
                   (first | dsimp only | skip)
                   refine ht_pick (A := pu (Dk.Keep D.view d T ∧ d.pend.length ≤ q + 1)) (by (repeat constructor); done) (ht_pure fun hq => ?_)
                   obtain ⟨hkeep, hpl2⟩ := hq
                   refine ht_region ?_
                   refine ho_ev rfl rfl rfl (ev_move rfl rfl) ?_
                   refine ho_ev rfl rfl rfl (ev_add rfl rfl rfl (by first | exact in_i64 (by omega) | rfl)) ?_
                   refine ho_ev rfl rfl rfl (ev_assign rfl rfl) ?_
                   refine ho_nil ?_
                   refine hx_again (I := (fun q : Nat × Dk.Disk × (Nat → Bool) => ([DiskAt b0 q.2.1, pt b12 (.cells (arrC (fun i => vS ((D.view i).getD [])) (vS []) 21) 34 (0, 0)), pt b13 (.cells (arrC (fun i => .bool (D.view i).isSome) (.bool false) 21) 35 (0, 0)), pt b17 (.cells (arrC (fun i => .bool (q.2.2 i)) (.bool false) 21) 35 (0, 0)), ro (roS a1 xs1.length xs1), ro (actsR xs1 ms1), ro (roS a2 xs2.length xs2), ro (actsR xs2 ms2), ro (roS a3 cl.length cl), pu (Dk.Keep D.view q.2.1 q.2.2 ∧ q.2.1.pend.length ≤ q.1 ∧ q.1 ≤ 30 ∧ q.1 ≤ xs2.length), F], [(18, .int .i64 q.1), (17, .pointer (some ⟨b17, 0, none⟩)), (12, .pointer (some ⟨b12, 0, none⟩)), (13, .pointer (some ⟨b13, 0, none⟩)), (2, .slice a3 cl.length c3), (8, .slice a2 xs2.length c2), (9, .pointer (some ⟨b0, 0, none⟩))]))) (μ := (fun q : Nat × Dk.Disk × (Nat → Bool) => 30 - q.1)) (i := (q, d, T)) (q + 1, d, T) ?_ ?_ ?_
                   ·(first | dsimp only | skip); omega
                   ·repeat (first | exact EnvSub.nil _ | (refine EnvSub.cons rfl ?_))
                   ·(first | dsimp only | skip)
                    exact Ent.cons (by (repeat constructor); done) (Ent.cons (by (repeat constructor); done) (Ent.cons (by (repeat constructor); done) (Ent.cons (by (repeat constructor); done) (Ent.cons (by (repeat constructor); done) (Ent.cons (by (repeat constructor); done) (Ent.cons (by (repeat constructor); done) (Ent.cons (by (repeat constructor); done) (Ent.cons (by (repeat constructor); done) (Ent.pu ⟨hkeep, by omega, by omega, by omega⟩ (Ent.cons (by (repeat constructor); done) Ent.nil))))))))))
                 )
                ·first | (exfalso; first | omega | (simp at g11; done) | contradiction) | skip
                 all_goals (
                  refine ho_ev rfl rfl rfl (ev_pick_t rfl rfl rfl) ?_
                  refine ho_nil ?_
                  refine hx_then ?_
                  refine ht_else rfl ?_
                  refine ht_exit ?_
                  refine hx_through trivial ?_
                  refine hx_through trivial ?_
                  refine hx_block_here ?_
                  refine hx_joined (I := (fun g : Dk.Disk × (Nat → Bool) => ([DiskAt b0 g.1, pt b12 (.cells (arrC (fun i => vS ((D.view i).getD [])) (vS []) 21) 34 (0, 0)), pt b13 (.cells (arrC (fun i => .bool (D.view i).isSome) (.bool false) 21) 35 (0, 0)), pt b17 (.cells (arrC (fun i => .bool (g.2 i)) (.bool false) 21) 35 (0, 0)), ro (roS a1 xs1.length xs1), ro (actsR xs1 ms1), ro (roS a2 xs2.length xs2), ro (actsR xs2 ms2), ro (roS a3 cl.length cl), pu (Dk.Keep D.view g.1 g.2 ∧ g.1.pend.length ≤ 30), F], [(17, .pointer (some ⟨b17, 0, none⟩)), (12, .pointer (some ⟨b12, 0, none⟩)), (13, .pointer (some ⟨b13, 0, none⟩)), (2, .slice a3 cl.length c3), (8, .slice a2 xs2.length c2), (9, .pointer (some ⟨b0, 0, none⟩))]))) (d, T) ?_ ?_
                  ·repeat (first | exact EnvSub.nil _ | (refine EnvSub.cons rfl ?_))
                  ·(first | dsimp only | skip)
                   exact Ent.cons (by (repeat constructor); done) (Ent.cons (by (repeat constructor); done) (Ent.cons (by (repeat constructor); done) (Ent.cons (by (repeat constructor); done) (Ent.cons (by (repeat constructor); done) (Ent.cons (by (repeat constructor); done) (Ent.cons (by (repeat constructor); done) (Ent.cons (by (repeat constructor); done) (Ent.cons (by (repeat constructor); done) (Ent.pu ⟨hkeep, by omega⟩ (Ent.cons (by (repeat constructor); done) Ent.nil))))))))))
                 )
               )
              ·first | (exfalso; first | omega | (simp at g10; done) | contradiction) | skip
               all_goals (
                refine ho_ev rfl rfl rfl (ev_move rfl rfl) ?_
                refine ho_pass rfl rfl rfl rfl ?_
                refine ho_pass rfl rfl rfl rfl ?_
                refine ho_ev rfl rfl rfl (ev_pick_f rfl rfl rfl) ?_
                refine ho_nil ?_
                refine hx_then ?_
                refine ht_else rfl ?_
                refine ht_exit ?_
                refine hx_through trivial ?_
                refine hx_through trivial ?_
                refine hx_block_here ?_
                refine hx_joined (I := (fun g : Dk.Disk × (Nat → Bool) => ([DiskAt b0 g.1, pt b12 (.cells (arrC (fun i => vS ((D.view i).getD [])) (vS []) 21) 34 (0, 0)), pt b13 (.cells (arrC (fun i => .bool (D.view i).isSome) (.bool false) 21) 35 (0, 0)), pt b17 (.cells (arrC (fun i => .bool (g.2 i)) (.bool false) 21) 35 (0, 0)), ro (roS a1 xs1.length xs1), ro (actsR xs1 ms1), ro (roS a2 xs2.length xs2), ro (actsR xs2 ms2), ro (roS a3 cl.length cl), pu (Dk.Keep D.view g.1 g.2 ∧ g.1.pend.length ≤ 30), F], [(17, .pointer (some ⟨b17, 0, none⟩)), (12, .pointer (some ⟨b12, 0, none⟩)), (13, .pointer (some ⟨b13, 0, none⟩)), (2, .slice a3 cl.length c3), (8, .slice a2 xs2.length c2), (9, .pointer (some ⟨b0, 0, none⟩))]))) (d, T) ?_ ?_
                ·repeat (first | exact EnvSub.nil _ | (refine EnvSub.cons rfl ?_))
                ·(first | dsimp only | skip)
                 exact Ent.cons (by (repeat constructor); done) (Ent.cons (by (repeat constructor); done) (Ent.cons (by (repeat constructor); done) (Ent.cons (by (repeat constructor); done) (Ent.cons (by (repeat constructor); done) (Ent.cons (by (repeat constructor); done) (Ent.cons (by (repeat constructor); done) (Ent.cons (by (repeat constructor); done) (Ent.cons (by (repeat constructor); done) (Ent.pu ⟨hkeep, by omega⟩ (Ent.cons (by (repeat constructor); done) Ent.nil))))))))))
               )
             ·skip
              obtain ⟨d, T⟩ := g
              (first | dsimp only | skip)
              refine ht_pick (A := pu (Dk.Keep D.view d T ∧ d.pend.length ≤ 30)) (by (repeat constructor); done) (ht_pure fun hq => ?_)
              obtain ⟨hkeep, hpl2⟩ := hq
              refine ht_seq ?_
              refine ht_region ?_
              refine ho_ev rfl rfl rfl (ev_move rfl rfl) ?_
              refine ho_eff rfl rfl rfl (eff_buildAll (α := (Int × Int)) [] rfl Try.underlying24 Try.ty44 .nil .nil rfl (Nat.le_of_ble_eq_true rfl)) (fun b121 => ?_)
              refine ho_ev rfl rfl rfl (ev_move rfl rfl) ?_
              refine ho_eff rfl rfl rfl (eff_append (α := (Int × Int)) rfl Try.underlying24 Try.ty44 rfl (by decide) Try.underlying24 rfl rfl (by (with_reducible repeat constructor); done) (by first | exact reads_ro (by (with_reducible repeat constructor); done) | exact reads_own (by (with_reducible repeat constructor); done) | exact reads_nil _) (by first | omega | (simp only [List.length_append, List.length_cons, List.length_nil, List.length_drop, List.length_take]; omega) | (simp; omega))) (fun p123 => ?_)
              refine ho_freezeS (α := Int × Int) (by (with_reducible repeat constructor); done) ?_
              rw [show ([] : List (Int × Int)) ++ cl = cl from rfl]
              refine ho_eff rfl rfl rfl (eff_call rfl rfl (.cons rfl (.cons rfl .nil)) rfl (disk_Crash b0 d _ _ cl (by omega) (by omega)) (by repeat (first | exact Picks.nil | (apply Picks.ro; focus ((repeat constructor); done)) | (apply Picks.cons; focus ((repeat constructor); done)))) (fun _ => by repeat (first | exact App.nil | apply App.cons))) (fun _ => ?_)
              refine ho_nil ?_
              refine hx_then ?_
              refine ht_seq ?_
              refine ht_seq ?_
              generalize hE : d.crash cl = E at *
              have hEv : ∀ i : Nat, i < 21 → T i = false → E.view i = D.view i := fun i hi hT => by rw [← hE]; exact Dk.keeps hkeep cl hi hT
              have hEp : E.pend.length = 0 := by rw [← hE]; rfl
              refine ht_region ?_
              refine ho_ev rfl rfl rfl (ev_assign rfl rfl) ?_
              refine ho_nil ?_
              refine hx_then ?_
              refine ht_block ?_
              refine ht_loop (fun q : Nat => ([DiskAt b0 E, pt b12 (.cells (arrC (fun i => vS ((D.view i).getD [])) (vS []) 21) 34 (0, 0)), pt b13 (.cells (arrC (fun i => .bool (D.view i).isSome) (.bool false) 21) 35 (0, 0)), pt b17 (.cells (arrC (fun i => .bool (T i)) (.bool false) 21) 35 (0, 0)), pu (q ≤ 21), F], [(20, .int .i64 q), (17, .pointer (some ⟨b17, 0, none⟩)), (12, .pointer (some ⟨b12, 0, none⟩)), (13, .pointer (some ⟨b13, 0, none⟩)), (9, .pointer (some ⟨b0, 0, none⟩))])) (fun q : Nat => 21 - q) 0 ?_ (by repeat (first | exact EnvSub.nil _ | (refine EnvSub.cons rfl ?_))) (fun q => ?_)
              ·(first | dsimp only | skip)
               exact Ent.cons (by (repeat constructor); done) (Ent.cons (by (repeat constructor); done) (Ent.cons (by (repeat constructor); done) (Ent.cons (by (repeat constructor); done) (Ent.pu (by omega) (Ent.cons (by (repeat constructor); done) Ent.nil)))))
              obtain q := q
              dsimp only
              refine ht_pick (A := pu (q ≤ 21)) (by (repeat constructor); done) (ht_pure fun hq1 => ?_)
              refine ht_seq ?_
              refine ht_seq ?_
              refine ht_region ?_
              refine ho_ev rfl rfl rfl (ev_move rfl rfl) ?_
              refine ho_lt rfl rfl rfl rfl rfl rfl (fun g18 => ?_) (fun g18 => ?_)
              ·first | (exfalso; first | omega | (simp at g18; done) | contradiction) | skip
               all_goals (
                refine ho_nil ?_
                refine hx_then ?_
                refine ht_then rfl ?_
                refine ht_skip ?_
                refine hx_then ?_
                refine ht_join (fun g : Unit => ([DiskAt b0 E, pt b12 (.cells (arrC (fun i => vS ((D.view i).getD [])) (vS []) 21) 34 (0, 0)), pt b13 (.cells (arrC (fun i => .bool (D.view i).isSome) (.bool false) 21) 35 (0, 0)), pt b17 (.cells (arrC (fun i => .bool (T i)) (.bool false) 21) 35 (0, 0)), F], [(20, .int .i64 q), (17, .pointer (some ⟨b17, 0, none⟩)), (12, .pointer (some ⟨b12, 0, none⟩)), (13, .pointer (some ⟨b13, 0, none⟩)), (9, .pointer (some ⟨b0, 0, none⟩))])) ?_ (fun g => ?_)
                ·skip
                 refine ht_block ?_
                 refine ht_seq ?_
                 refine ht_region ?_
                 refine ho_ev rfl rfl rfl (ev_move rfl rfl) ?_
                 refine ho_ev rfl rfl rfl (ev_move rfl rfl) ?_
                 rcases hv : E.view q with _ | s
                 ·skip
                  refine ho_eff rfl rfl rfl (eff_call rfl rfl (.cons rfl (.cons rfl .nil)) rfl (disk_Read_no b0 E q hv) (by repeat (first | exact Picks.nil | (apply Picks.ro; focus ((repeat constructor); done)) | (apply Picks.cons; focus ((repeat constructor); done)))) (fun _ => by repeat (first | exact App.nil | apply App.cons))) (fun _ => ?_)
                  refine ho_ev rfl rfl rfl (ev_move rfl rfl) ?_
                  refine ho_ev rfl rfl rfl (ev_extract rfl rfl rfl) ?_
                  refine ho_ev rfl rfl rfl (ev_extract rfl rfl rfl) ?_
                  refine ho_ev rfl rfl rfl (ev_assign rfl rfl) ?_
                  refine ho_ev rfl rfl rfl (ev_assign rfl rfl) ?_
                  refine ho_nil ?_
                  refine hx_then ?_
                  refine ht_seq ?_
                  rcases hT : T q with _ | _
                  ·skip
                   have hDv := (hEv q (by omega) hT).symm.trans hv
                   refine ht_draw (.op 0 (.op 1 (.op 2 (.op 3 (.op 4 (.op 5 (.op 6 (.op 7 (.op 8 (.op 9 (.op 10 (.op 11 (.op 12 (.op 13 (.op 14 (.op 15 (.op 16 (.op 17 (.op 18 (.op 19 .done)))))))))))))))))))) [] Try.mixed rfl ?_
                   refine hd_ev rfl rfl rfl rfl (EvG.of rfl (ev_move rfl rfl)) ?_
                   refine hd_ev rfl rfl rfl rfl (EvG.of rfl (ev_indexAddrA rfl Try.underlying35 Try.ty4 rfl rfl (by omega) (by omega))) ?_
                   refine hd_evb rfl rfl rfl rfl (EvG.of rfl (ev_load rfl Try.underlying4 rfl rfl (cell_pt (by (with_reducible repeat constructor); done) (v := .bool (T q)) (by rw [(show 0 + ((q : Int)).toNat * 1 = q by omega)]; exact arrC_get _ _ (by omega) (by omega))))) (fun g19 => ?_) (fun g19 => ?_)
                   ·first | (exfalso; first | omega | (simp at g19; done) | contradiction | (simp [hT] at g19; done) | (simp [hDv] at g19; done)) | skip
                    all_goals (
                     refine hd_ev rfl rfl rfl rfl (EvG.of rfl (ev_not rfl rfl)) ?_
                     refine hd_ev rfl rfl rfl rfl (EvG.of rfl (ev_move rfl rfl)) ?_
                     refine hd_ev rfl rfl rfl rfl (EvG.pass rfl rfl) ?_
                     refine hd_ev rfl rfl rfl rfl (EvG.pass rfl rfl) ?_
                     refine hd_ev rfl rfl rfl rfl (EvG.pass rfl rfl) ?_
                     refine hd_ev rfl rfl rfl rfl (EvG.pass rfl rfl) ?_
                     refine hd_ev rfl rfl rfl rfl (EvG.pass rfl rfl) ?_
                     refine hd_ev rfl rfl rfl rfl (EvG.pass rfl rfl) ?_
                     refine hd_ev rfl rfl rfl rfl (EvG.pass rfl rfl) ?_
                     refine hd_ev rfl rfl rfl rfl (EvG.passU rfl rfl) ?_
                     refine hd_ev rfl rfl rfl rfl (EvG.passU rfl rfl) ?_
                     refine hd_ev rfl rfl rfl rfl (EvG.passU rfl rfl) ?_
                     refine hd_ev rfl rfl rfl rfl (EvG.passU rfl rfl) ?_
                     refine hd_ev rfl rfl rfl rfl (EvG.passU rfl rfl) ?_
                     refine hd_ev rfl rfl rfl rfl (EvG.passU rfl rfl) ?_
                     refine hd_ev rfl rfl rfl rfl (EvG.pass rfl rfl) ?_
                     refine hd_ev rfl rfl rfl rfl (EvG.of rfl (ev_pick_f rfl rfl rfl)) ?_
                     refine hd_nil ?_
                     refine hx_then ?_
                     refine ht_else rfl ?_
                     refine ht_skip ?_
                     refine hx_block_normal ?_
                     refine hx_joined (I := (fun g : Unit => ([DiskAt b0 E, pt b12 (.cells (arrC (fun i => vS ((D.view i).getD [])) (vS []) 21) 34 (0, 0)), pt b13 (.cells (arrC (fun i => .bool (D.view i).isSome) (.bool false) 21) 35 (0, 0)), pt b17 (.cells (arrC (fun i => .bool (T i)) (.bool false) 21) 35 (0, 0)), F], [(20, .int .i64 q), (17, .pointer (some ⟨b17, 0, none⟩)), (12, .pointer (some ⟨b12, 0, none⟩)), (13, .pointer (some ⟨b13, 0, none⟩)), (9, .pointer (some ⟨b0, 0, none⟩))]))) () ?_ ?_
                     ·repeat (first | exact EnvSub.nil _ | (refine EnvSub.cons rfl ?_))
                     ·(first | dsimp only | skip)
                      exact Ent.cons (by (repeat constructor); done) (Ent.cons (by (repeat constructor); done) (Ent.cons (by (repeat constructor); done) (Ent.cons (by (repeat constructor); done) (Ent.cons (by (repeat constructor); done) Ent.nil))))
                    )
                   ·first | (exfalso; first | omega | (simp at g19; done) | contradiction | (simp [hT] at g19; done) | (simp [hDv] at g19; done)) | skip
                    all_goals (
                     refine hd_ev rfl rfl rfl rfl (EvG.of rfl (ev_not rfl rfl)) ?_
                     refine hd_ev rfl rfl rfl rfl (EvG.of rfl (ev_move rfl rfl)) ?_
                     refine hd_ev rfl rfl rfl rfl (EvG.ofg rfl rfl (ev_move rfl rfl)) ?_
                     refine hd_ev rfl rfl rfl rfl (EvG.ofg rfl rfl (ev_str rfl Try.underlying36 Try.underlying5 Try.underlying9 rfl (by first | exact reads_ro (by (with_reducible repeat constructor); done) | exact reads_own (by (with_reducible repeat constructor); done) | exact reads_nil _))) ?_
                     refine hd_ev rfl rfl rfl rfl (EvG.ofg rfl rfl (ev_move rfl rfl)) ?_
                     refine hd_ev rfl rfl rfl rfl (EvG.ofg rfl rfl (ev_indexAddrA rfl Try.underlying34 Try.ty9 rfl rfl (by omega) (by omega))) ?_
                     refine hd_ev rfl rfl rfl rfl (EvG.ofg rfl rfl (ev_load rfl Try.underlying9 rfl rfl (cell_pt (by (with_reducible repeat constructor); done) (v := vS ((D.view q).getD [])) (by rw [(show 0 + ((q : Int)).toNat * 1 = q by omega)]; exact arrC_get _ _ (by omega) (by omega))))) ?_
                     refine hd_neSg rfl rfl rfl rfl rfl rfl rfl rfl rfl (fun g20 => ?_) (fun g20 => ?_)
                     ·first | (exfalso; first | omega | (simp at g20; done) | contradiction | (simp [hT] at g20; done) | (simp [hDv] at g20; done)) | skip
                      all_goals (
                       refine hd_ev rfl rfl rfl rfl (EvG.ofg rfl rfl (ev_move rfl rfl)) ?_
                       refine hd_ev rfl rfl rfl rfl (EvG.pass rfl rfl) ?_
                       refine hd_ev rfl rfl rfl rfl (EvG.pass rfl rfl) ?_
                       refine hd_ev rfl rfl rfl rfl (EvG.pass rfl rfl) ?_
                       refine hd_ev rfl rfl rfl rfl (EvG.pass rfl rfl) ?_
                       refine hd_ev rfl rfl rfl rfl (EvG.pass rfl rfl) ?_
                       refine hd_ev rfl rfl rfl rfl (EvG.pass rfl rfl) ?_
                       refine hd_ev rfl rfl rfl rfl (EvG.ofg rfl rfl (ev_pick_t rfl rfl rfl)) ?_
                       refine hd_ev rfl rfl rfl rfl (EvG.of rfl (ev_pick_t rfl rfl rfl)) ?_
                       refine hd_nil ?_
                       refine hx_then ?_
                       refine ht_then rfl ?_
                       refine ht_seq ?_
                       refine ht_region ?_
                       refine ho_ev rfl rfl rfl (ev_assign rfl rfl) ?_
                       refine ho_nil ?_
                       refine hx_then ?_
                       refine ht_ret ?_
                       refine hx_block_ret ?_
                       refine hx_through trivial ?_
                       refine hx_through trivial ?_
                       refine hx_block_ret ?_
                       refine hx_through trivial ?_
                       exact hx_ret1 (.inl rfl) rfl rfl () rfl (Ent.cons (by (repeat constructor); done) Ent.nil)
                      )
                     ·first | (exfalso; first | omega | (simp at g20; done) | contradiction | (simp [hT] at g20; done) | (simp [hDv] at g20; done)) | skip
                      all_goals (
                       refine hd_ev rfl rfl rfl rfl (EvG.ofg rfl rfl (ev_move rfl rfl)) ?_
                       refine hd_ev rfl rfl rfl rfl (EvG.ofg rfl rfl (ev_move rfl rfl)) ?_
                       refine hd_ev rfl rfl rfl rfl (EvG.ofg rfl rfl (ev_indexAddrA rfl Try.underlying35 Try.ty4 rfl rfl (by omega) (by omega))) ?_
                       refine hd_evb rfl rfl rfl rfl (EvG.ofg rfl rfl (ev_load rfl Try.underlying4 rfl rfl (cell_pt (by (with_reducible repeat constructor); done) (v := .bool (D.view q).isSome) (by rw [(show 0 + ((q : Int)).toNat * 1 = q by omega)]; exact arrC_get _ _ (by omega) (by omega))))) (fun g21 => ?_) (fun g21 => ?_)
                       ·first | (exfalso; first | omega | (simp at g21; done) | contradiction | (simp [hT] at g21; done) | (simp [hDv] at g21; done)) | skip
                        all_goals (
                         refine hd_ev rfl rfl rfl rfl (EvG.ofg rfl rfl (ev_move rfl rfl)) ?_
                         refine hd_eqg rfl rfl rfl rfl rfl rfl rfl rfl rfl (fun g22 => ?_) (fun g22 => ?_)
                         ·first | (exfalso; first | omega | (simp at g22; done) | contradiction | (simp [hT] at g22; done) | (simp [hDv] at g22; done)) | skip
                          all_goals (
                           refine hd_ev rfl rfl rfl rfl (EvG.ofg rfl rfl (ev_cmpB rfl Try.underlying4 rfl rfl rfl)) ?_
                           refine hd_ev rfl rfl rfl rfl (EvG.ofg rfl rfl (ev_pick_f rfl rfl rfl)) ?_
                           refine hd_ev rfl rfl rfl rfl (EvG.of rfl (ev_pick_t rfl rfl rfl)) ?_
                           refine hd_nil ?_
                           refine hx_then ?_
                           refine ht_else rfl ?_
                           refine ht_skip ?_
                           refine hx_block_normal ?_
                           refine hx_joined (I := (fun g : Unit => ([DiskAt b0 E, pt b12 (.cells (arrC (fun i => vS ((D.view i).getD [])) (vS []) 21) 34 (0, 0)), pt b13 (.cells (arrC (fun i => .bool (D.view i).isSome) (.bool false) 21) 35 (0, 0)), pt b17 (.cells (arrC (fun i => .bool (T i)) (.bool false) 21) 35 (0, 0)), F], [(20, .int .i64 q), (17, .pointer (some ⟨b17, 0, none⟩)), (12, .pointer (some ⟨b12, 0, none⟩)), (13, .pointer (some ⟨b13, 0, none⟩)), (9, .pointer (some ⟨b0, 0, none⟩))]))) () ?_ ?_
                           ·repeat (first | exact EnvSub.nil _ | (refine EnvSub.cons rfl ?_))
                           ·(first | dsimp only | skip)
                            exact Ent.cons (by (repeat constructor); done) (Ent.cons (by (repeat constructor); done) (Ent.cons (by (repeat constructor); done) (Ent.cons (by (repeat constructor); done) (Ent.cons (by (repeat constructor); done) Ent.nil))))
                          )
                         ·first | (exfalso; first | omega | (simp at g22; done) | contradiction | (simp [hT] at g22; done) | (simp [hDv] at g22; done)) | skip
                          all_goals (
                           refine hd_ev rfl rfl rfl rfl (EvG.ofg rfl rfl (ev_cmpB rfl Try.underlying4 rfl rfl rfl)) ?_
                           refine hd_ev rfl rfl rfl rfl (EvG.ofg rfl rfl (ev_pick_f rfl rfl rfl)) ?_
                           refine hd_ev rfl rfl rfl rfl (EvG.of rfl (ev_pick_t rfl rfl rfl)) ?_
                           refine hd_nil ?_
                           refine hx_then ?_
                           refine ht_then rfl ?_
                           refine ht_seq ?_
                           refine ht_region ?_
                           refine ho_ev rfl rfl rfl (ev_assign rfl rfl) ?_
                           refine ho_nil ?_
                           refine hx_then ?_
                           refine ht_ret ?_
                           refine hx_block_ret ?_
                           refine hx_through trivial ?_
                           refine hx_through trivial ?_
                           refine hx_block_ret ?_
                           refine hx_through trivial ?_
                           exact hx_ret1 (.inl rfl) rfl rfl () rfl (Ent.cons (by (repeat constructor); done) Ent.nil)
                          )
                        )
                       ·first | (exfalso; first | omega | (simp at g21; done) | contradiction | (simp [hT] at g21; done) | (simp [hDv] at g21; done)) | skip
                        all_goals (
                         refine hd_ev rfl rfl rfl rfl (EvG.ofg rfl rfl (ev_move rfl rfl)) ?_
                         refine hd_eqg rfl rfl rfl rfl rfl rfl rfl rfl rfl (fun g23 => ?_) (fun g23 => ?_)
                         ·first | (exfalso; first | omega | (simp at g23; done) | contradiction | (simp [hT] at g23; done) | (simp [hDv] at g23; done)) | skip
                          all_goals (
                           refine hd_ev rfl rfl rfl rfl (EvG.ofg rfl rfl (ev_cmpB rfl Try.underlying4 rfl rfl rfl)) ?_
                           refine hd_ev rfl rfl rfl rfl (EvG.ofg rfl rfl (ev_pick_f rfl rfl rfl)) ?_
                           refine hd_ev rfl rfl rfl rfl (EvG.of rfl (ev_pick_t rfl rfl rfl)) ?_
                           refine hd_nil ?_
                           refine hx_then ?_
                           refine ht_then rfl ?_
                           refine ht_seq ?_
                           refine ht_region ?_
                           refine ho_ev rfl rfl rfl (ev_assign rfl rfl) ?_
                           refine ho_nil ?_
                           refine hx_then ?_
                           refine ht_ret ?_
                           refine hx_block_ret ?_
                           refine hx_through trivial ?_
                           refine hx_through trivial ?_
                           refine hx_block_ret ?_
                           refine hx_through trivial ?_
                           exact hx_ret1 (.inl rfl) rfl rfl () rfl (Ent.cons (by (repeat constructor); done) Ent.nil)
                          )
                         ·first | (exfalso; first | omega | (simp at g23; done) | contradiction | (simp [hT] at g23; done) | (simp [hDv] at g23; done)) | skip
                          all_goals (
                           refine hd_ev rfl rfl rfl rfl (EvG.ofg rfl rfl (ev_cmpB rfl Try.underlying4 rfl rfl rfl)) ?_
                           refine hd_ev rfl rfl rfl rfl (EvG.ofg rfl rfl (ev_pick_f rfl rfl rfl)) ?_
                           refine hd_ev rfl rfl rfl rfl (EvG.of rfl (ev_pick_t rfl rfl rfl)) ?_
                           refine hd_nil ?_
                           refine hx_then ?_
                           refine ht_else rfl ?_
                           refine ht_skip ?_
                           refine hx_block_normal ?_
                           refine hx_joined (I := (fun g : Unit => ([DiskAt b0 E, pt b12 (.cells (arrC (fun i => vS ((D.view i).getD [])) (vS []) 21) 34 (0, 0)), pt b13 (.cells (arrC (fun i => .bool (D.view i).isSome) (.bool false) 21) 35 (0, 0)), pt b17 (.cells (arrC (fun i => .bool (T i)) (.bool false) 21) 35 (0, 0)), F], [(20, .int .i64 q), (17, .pointer (some ⟨b17, 0, none⟩)), (12, .pointer (some ⟨b12, 0, none⟩)), (13, .pointer (some ⟨b13, 0, none⟩)), (9, .pointer (some ⟨b0, 0, none⟩))]))) () ?_ ?_
                           ·repeat (first | exact EnvSub.nil _ | (refine EnvSub.cons rfl ?_))
                           ·(first | dsimp only | skip)
                            exact Ent.cons (by (repeat constructor); done) (Ent.cons (by (repeat constructor); done) (Ent.cons (by (repeat constructor); done) (Ent.cons (by (repeat constructor); done) (Ent.cons (by (repeat constructor); done) Ent.nil))))
                          )
                        )
                      )
                    )
                  ·skip
                   refine ht_draw (.op 0 (.op 1 (.op 2 (.op 3 (.op 4 (.op 5 (.op 6 (.op 7 (.op 8 (.op 9 (.op 10 (.op 11 (.op 12 (.op 13 (.op 14 (.op 15 (.op 16 (.op 17 (.op 18 (.op 19 .done)))))))))))))))))))) [] Try.mixed rfl ?_
                   refine hd_ev rfl rfl rfl rfl (EvG.of rfl (ev_move rfl rfl)) ?_
                   refine hd_ev rfl rfl rfl rfl (EvG.of rfl (ev_indexAddrA rfl Try.underlying35 Try.ty4 rfl rfl (by omega) (by omega))) ?_
                   refine hd_evb rfl rfl rfl rfl (EvG.of rfl (ev_load rfl Try.underlying4 rfl rfl (cell_pt (by (with_reducible repeat constructor); done) (v := .bool (T q)) (by rw [(show 0 + ((q : Int)).toNat * 1 = q by omega)]; exact arrC_get _ _ (by omega) (by omega))))) (fun g24 => ?_) (fun g24 => ?_)
                   ·first | (exfalso; first | omega | (simp at g24; done) | contradiction | (simp [hT] at g24; done)) | skip
                    all_goals (
                     refine hd_ev rfl rfl rfl rfl (EvG.of rfl (ev_not rfl rfl)) ?_
                     refine hd_ev rfl rfl rfl rfl (EvG.of rfl (ev_move rfl rfl)) ?_
                     refine hd_ev rfl rfl rfl rfl (EvG.pass rfl rfl) ?_
                     refine hd_ev rfl rfl rfl rfl (EvG.pass rfl rfl) ?_
                     refine hd_ev rfl rfl rfl rfl (EvG.pass rfl rfl) ?_
                     refine hd_ev rfl rfl rfl rfl (EvG.pass rfl rfl) ?_
                     refine hd_ev rfl rfl rfl rfl (EvG.pass rfl rfl) ?_
                     refine hd_ev rfl rfl rfl rfl (EvG.pass rfl rfl) ?_
                     refine hd_ev rfl rfl rfl rfl (EvG.pass rfl rfl) ?_
                     refine hd_ev rfl rfl rfl rfl (EvG.passU rfl rfl) ?_
                     refine hd_ev rfl rfl rfl rfl (EvG.passU rfl rfl) ?_
                     refine hd_ev rfl rfl rfl rfl (EvG.passU rfl rfl) ?_
                     refine hd_ev rfl rfl rfl rfl (EvG.passU rfl rfl) ?_
                     refine hd_ev rfl rfl rfl rfl (EvG.passU rfl rfl) ?_
                     refine hd_ev rfl rfl rfl rfl (EvG.passU rfl rfl) ?_
                     refine hd_ev rfl rfl rfl rfl (EvG.pass rfl rfl) ?_
                     refine hd_ev rfl rfl rfl rfl (EvG.of rfl (ev_pick_f rfl rfl rfl)) ?_
                     refine hd_nil ?_
                     refine hx_then ?_
                     refine ht_else rfl ?_
                     refine ht_skip ?_
                     refine hx_block_normal ?_
                     refine hx_joined (I := (fun g : Unit => ([DiskAt b0 E, pt b12 (.cells (arrC (fun i => vS ((D.view i).getD [])) (vS []) 21) 34 (0, 0)), pt b13 (.cells (arrC (fun i => .bool (D.view i).isSome) (.bool false) 21) 35 (0, 0)), pt b17 (.cells (arrC (fun i => .bool (T i)) (.bool false) 21) 35 (0, 0)), F], [(20, .int .i64 q), (17, .pointer (some ⟨b17, 0, none⟩)), (12, .pointer (some ⟨b12, 0, none⟩)), (13, .pointer (some ⟨b13, 0, none⟩)), (9, .pointer (some ⟨b0, 0, none⟩))]))) () ?_ ?_
                     ·repeat (first | exact EnvSub.nil _ | (refine EnvSub.cons rfl ?_))
                     ·(first | dsimp only | skip)
                      exact Ent.cons (by (repeat constructor); done) (Ent.cons (by (repeat constructor); done) (Ent.cons (by (repeat constructor); done) (Ent.cons (by (repeat constructor); done) (Ent.cons (by (repeat constructor); done) Ent.nil))))
                    )
                   ·first | (exfalso; first | omega | (simp at g24; done) | contradiction | (simp [hT] at g24; done)) | skip
                    all_goals (
                     refine hd_ev rfl rfl rfl rfl (EvG.of rfl (ev_not rfl rfl)) ?_
                     refine hd_ev rfl rfl rfl rfl (EvG.of rfl (ev_move rfl rfl)) ?_
                     refine hd_ev rfl rfl rfl rfl (EvG.ofg rfl rfl (ev_move rfl rfl)) ?_
                     refine hd_ev rfl rfl rfl rfl (EvG.ofg rfl rfl (ev_str rfl Try.underlying36 Try.underlying5 Try.underlying9 rfl (by first | exact reads_ro (by (with_reducible repeat constructor); done) | exact reads_own (by (with_reducible repeat constructor); done) | exact reads_nil _))) ?_
                     refine hd_ev rfl rfl rfl rfl (EvG.ofg rfl rfl (ev_move rfl rfl)) ?_
                     refine hd_ev rfl rfl rfl rfl (EvG.ofg rfl rfl (ev_indexAddrA rfl Try.underlying34 Try.ty9 rfl rfl (by omega) (by omega))) ?_
                     refine hd_ev rfl rfl rfl rfl (EvG.ofg rfl rfl (ev_load rfl Try.underlying9 rfl rfl (cell_pt (by (with_reducible repeat constructor); done) (v := vS ((D.view q).getD [])) (by rw [(show 0 + ((q : Int)).toNat * 1 = q by omega)]; exact arrC_get _ _ (by omega) (by omega))))) ?_
                     refine hd_neSg rfl rfl rfl rfl rfl rfl rfl rfl rfl (fun g25 => ?_) (fun g25 => ?_)
                     ·first | (exfalso; first | omega | (simp at g25; done) | contradiction | (simp [hT] at g25; done)) | skip
                      all_goals (
                       refine hd_ev rfl rfl rfl rfl (EvG.ofg rfl rfl (ev_move rfl rfl)) ?_
                       refine hd_ev rfl rfl rfl rfl (EvG.pass rfl rfl) ?_
                       refine hd_ev rfl rfl rfl rfl (EvG.pass rfl rfl) ?_
                       refine hd_ev rfl rfl rfl rfl (EvG.pass rfl rfl) ?_
                       refine hd_ev rfl rfl rfl rfl (EvG.pass rfl rfl) ?_
                       refine hd_ev rfl rfl rfl rfl (EvG.pass rfl rfl) ?_
                       refine hd_ev rfl rfl rfl rfl (EvG.pass rfl rfl) ?_
                       refine hd_ev rfl rfl rfl rfl (EvG.ofg rfl rfl (ev_pick_t rfl rfl rfl)) ?_
                       refine hd_ev rfl rfl rfl rfl (EvG.of rfl (ev_pick_t rfl rfl rfl)) ?_
                       refine hd_nil ?_
                       refine hx_then ?_
                       refine ht_then rfl ?_
                       refine ht_seq ?_
                       refine ht_region ?_
                       refine ho_ev rfl rfl rfl (ev_assign rfl rfl) ?_
                       refine ho_nil ?_
                       refine hx_then ?_
                       refine ht_ret ?_
                       refine hx_block_ret ?_
                       refine hx_through trivial ?_
                       refine hx_through trivial ?_
                       refine hx_block_ret ?_
                       refine hx_through trivial ?_
                       exact hx_ret1 (.inl rfl) rfl rfl () rfl (Ent.cons (by (repeat constructor); done) Ent.nil)
                      )
                     ·first | (exfalso; first | omega | (simp at g25; done) | contradiction | (simp [hT] at g25; done)) | skip
                      all_goals (
                       refine hd_ev rfl rfl rfl rfl (EvG.ofg rfl rfl (ev_move rfl rfl)) ?_
                       refine hd_ev rfl rfl rfl rfl (EvG.ofg rfl rfl (ev_move rfl rfl)) ?_
                       refine hd_ev rfl rfl rfl rfl (EvG.ofg rfl rfl (ev_indexAddrA rfl Try.underlying35 Try.ty4 rfl rfl (by omega) (by omega))) ?_
                       refine hd_evb rfl rfl rfl rfl (EvG.ofg rfl rfl (ev_load rfl Try.underlying4 rfl rfl (cell_pt (by (with_reducible repeat constructor); done) (v := .bool (D.view q).isSome) (by rw [(show 0 + ((q : Int)).toNat * 1 = q by omega)]; exact arrC_get _ _ (by omega) (by omega))))) (fun g26 => ?_) (fun g26 => ?_)
                       ·first | (exfalso; first | omega | (simp at g26; done) | contradiction | (simp [hT] at g26; done)) | skip
                        all_goals (
                         refine hd_ev rfl rfl rfl rfl (EvG.ofg rfl rfl (ev_move rfl rfl)) ?_
                         refine hd_eqg rfl rfl rfl rfl rfl rfl rfl rfl rfl (fun g27 => ?_) (fun g27 => ?_)
                         ·first | (exfalso; first | omega | (simp at g27; done) | contradiction | (simp [hT] at g27; done)) | skip
                          all_goals (
                           refine hd_ev rfl rfl rfl rfl (EvG.ofg rfl rfl (ev_cmpB rfl Try.underlying4 rfl rfl rfl)) ?_
                           refine hd_ev rfl rfl rfl rfl (EvG.ofg rfl rfl (ev_pick_f rfl rfl rfl)) ?_
                           refine hd_ev rfl rfl rfl rfl (EvG.of rfl (ev_pick_t rfl rfl rfl)) ?_
                           refine hd_nil ?_
                           refine hx_then ?_
                           refine ht_else rfl ?_
                           refine ht_skip ?_
                           refine hx_block_normal ?_
                           refine hx_joined (I := (fun g : Unit => ([DiskAt b0 E, pt b12 (.cells (arrC (fun i => vS ((D.view i).getD [])) (vS []) 21) 34 (0, 0)), pt b13 (.cells (arrC (fun i => .bool (D.view i).isSome) (.bool false) 21) 35 (0, 0)), pt b17 (.cells (arrC (fun i => .bool (T i)) (.bool false) 21) 35 (0, 0)), F], [(20, .int .i64 q), (17, .pointer (some ⟨b17, 0, none⟩)), (12, .pointer (some ⟨b12, 0, none⟩)), (13, .pointer (some ⟨b13, 0, none⟩)), (9, .pointer (some ⟨b0, 0, none⟩))]))) () ?_ ?_
                           ·repeat (first | exact EnvSub.nil _ | (refine EnvSub.cons rfl ?_))
                           ·(first | dsimp only | skip)
                            exact Ent.cons (by (repeat constructor); done) (Ent.cons (by (repeat constructor); done) (Ent.cons (by (repeat constructor); done) (Ent.cons (by (repeat constructor); done) (Ent.cons (by (repeat constructor); done) Ent.nil))))
                          )
                         ·first | (exfalso; first | omega | (simp at g27; done) | contradiction | (simp [hT] at g27; done)) | skip
                          all_goals (
                           refine hd_ev rfl rfl rfl rfl (EvG.ofg rfl rfl (ev_cmpB rfl Try.underlying4 rfl rfl rfl)) ?_
                           refine hd_ev rfl rfl rfl rfl (EvG.ofg rfl rfl (ev_pick_f rfl rfl rfl)) ?_
                           refine hd_ev rfl rfl rfl rfl (EvG.of rfl (ev_pick_t rfl rfl rfl)) ?_
                           refine hd_nil ?_
                           refine hx_then ?_
                           refine ht_then rfl ?_
                           refine ht_seq ?_
                           refine ht_region ?_
                           refine ho_ev rfl rfl rfl (ev_assign rfl rfl) ?_
                           refine ho_nil ?_
                           refine hx_then ?_
                           refine ht_ret ?_
                           refine hx_block_ret ?_
                           refine hx_through trivial ?_
                           refine hx_through trivial ?_
                           refine hx_block_ret ?_
                           refine hx_through trivial ?_
                           exact hx_ret1 (.inl rfl) rfl rfl () rfl (Ent.cons (by (repeat constructor); done) Ent.nil)
                          )
                        )
                       ·first | (exfalso; first | omega | (simp at g26; done) | contradiction | (simp [hT] at g26; done)) | skip
                        all_goals (
                         refine hd_ev rfl rfl rfl rfl (EvG.ofg rfl rfl (ev_move rfl rfl)) ?_
                         refine hd_eqg rfl rfl rfl rfl rfl rfl rfl rfl rfl (fun g28 => ?_) (fun g28 => ?_)
                         ·first | (exfalso; first | omega | (simp at g28; done) | contradiction | (simp [hT] at g28; done)) | skip
                          all_goals (
                           refine hd_ev rfl rfl rfl rfl (EvG.ofg rfl rfl (ev_cmpB rfl Try.underlying4 rfl rfl rfl)) ?_
                           refine hd_ev rfl rfl rfl rfl (EvG.ofg rfl rfl (ev_pick_f rfl rfl rfl)) ?_
                           refine hd_ev rfl rfl rfl rfl (EvG.of rfl (ev_pick_t rfl rfl rfl)) ?_
                           refine hd_nil ?_
                           refine hx_then ?_
                           refine ht_then rfl ?_
                           refine ht_seq ?_
                           refine ht_region ?_
                           refine ho_ev rfl rfl rfl (ev_assign rfl rfl) ?_
                           refine ho_nil ?_
                           refine hx_then ?_
                           refine ht_ret ?_
                           refine hx_block_ret ?_
                           refine hx_through trivial ?_
                           refine hx_through trivial ?_
                           refine hx_block_ret ?_
                           refine hx_through trivial ?_
                           exact hx_ret1 (.inl rfl) rfl rfl () rfl (Ent.cons (by (repeat constructor); done) Ent.nil)
                          )
                         ·first | (exfalso; first | omega | (simp at g28; done) | contradiction | (simp [hT] at g28; done)) | skip
                          all_goals (
                           refine hd_ev rfl rfl rfl rfl (EvG.ofg rfl rfl (ev_cmpB rfl Try.underlying4 rfl rfl rfl)) ?_
                           refine hd_ev rfl rfl rfl rfl (EvG.ofg rfl rfl (ev_pick_f rfl rfl rfl)) ?_
                           refine hd_ev rfl rfl rfl rfl (EvG.of rfl (ev_pick_t rfl rfl rfl)) ?_
                           refine hd_nil ?_
                           refine hx_then ?_
                           refine ht_else rfl ?_
                           refine ht_skip ?_
                           refine hx_block_normal ?_
                           refine hx_joined (I := (fun g : Unit => ([DiskAt b0 E, pt b12 (.cells (arrC (fun i => vS ((D.view i).getD [])) (vS []) 21) 34 (0, 0)), pt b13 (.cells (arrC (fun i => .bool (D.view i).isSome) (.bool false) 21) 35 (0, 0)), pt b17 (.cells (arrC (fun i => .bool (T i)) (.bool false) 21) 35 (0, 0)), F], [(20, .int .i64 q), (17, .pointer (some ⟨b17, 0, none⟩)), (12, .pointer (some ⟨b12, 0, none⟩)), (13, .pointer (some ⟨b13, 0, none⟩)), (9, .pointer (some ⟨b0, 0, none⟩))]))) () ?_ ?_
                           ·repeat (first | exact EnvSub.nil _ | (refine EnvSub.cons rfl ?_))
                           ·(first | dsimp only | skip)
                            exact Ent.cons (by (repeat constructor); done) (Ent.cons (by (repeat constructor); done) (Ent.cons (by (repeat constructor); done) (Ent.cons (by (repeat constructor); done) (Ent.cons (by (repeat constructor); done) Ent.nil))))
                          )
                        )
                      )
                    )
                 ·skip
                  refine ho_eff rfl rfl rfl (eff_call rfl rfl (.cons rfl (.cons rfl .nil)) rfl (disk_Read b0 E q s hv) (by repeat (first | exact Picks.nil | (apply Picks.ro; focus ((repeat constructor); done)) | (apply Picks.cons; focus ((repeat constructor); done)))) (fun _ => by repeat (first | exact App.nil | apply App.cons))) (fun rd => ?_)
                  refine ho_ev rfl rfl rfl (ev_move rfl rfl) ?_
                  refine ho_ev rfl rfl rfl (ev_extract rfl rfl rfl) ?_
                  refine ho_ev rfl rfl rfl (ev_extract rfl rfl rfl) ?_
                  refine ho_ev rfl rfl rfl (ev_assign rfl rfl) ?_
                  refine ho_ev rfl rfl rfl (ev_assign rfl rfl) ?_
                  refine ho_nil ?_
                  refine hx_then ?_
                  refine ht_seq ?_
                  rcases hT : T q with _ | _
                  ·skip
                   have hDv := (hEv q (by omega) hT).symm.trans hv
                   refine ht_draw (.op 0 (.op 1 (.op 2 (.op 3 (.op 4 (.op 5 (.op 6 (.op 7 (.op 8 (.op 9 (.op 10 (.op 11 (.op 12 (.op 13 (.op 14 (.op 15 (.op 16 (.op 17 (.op 18 (.op 19 .done)))))))))))))))))))) [] Try.mixed rfl ?_
                   refine hd_ev rfl rfl rfl rfl (EvG.of rfl (ev_move rfl rfl)) ?_
                   refine hd_ev rfl rfl rfl rfl (EvG.of rfl (ev_indexAddrA rfl Try.underlying35 Try.ty4 rfl rfl (by omega) (by omega))) ?_
                   refine hd_evb rfl rfl rfl rfl (EvG.of rfl (ev_load rfl Try.underlying4 rfl rfl (cell_pt (by (with_reducible repeat constructor); done) (v := .bool (T q)) (by rw [(show 0 + ((q : Int)).toNat * 1 = q by omega)]; exact arrC_get _ _ (by omega) (by omega))))) (fun g29 => ?_) (fun g29 => ?_)
                   ·first | (exfalso; first | omega | (simp at g29; done) | contradiction | (simp [hT] at g29; done) | (simp [hDv] at g29; done)) | skip
                    all_goals (
                     refine hd_ev rfl rfl rfl rfl (EvG.of rfl (ev_not rfl rfl)) ?_
                     refine hd_ev rfl rfl rfl rfl (EvG.of rfl (ev_move rfl rfl)) ?_
                     refine hd_ev rfl rfl rfl rfl (EvG.pass rfl rfl) ?_
                     refine hd_ev rfl rfl rfl rfl (EvG.pass rfl rfl) ?_
                     refine hd_ev rfl rfl rfl rfl (EvG.pass rfl rfl) ?_
                     refine hd_ev rfl rfl rfl rfl (EvG.pass rfl rfl) ?_
                     refine hd_ev rfl rfl rfl rfl (EvG.pass rfl rfl) ?_
                     refine hd_ev rfl rfl rfl rfl (EvG.pass rfl rfl) ?_
                     refine hd_ev rfl rfl rfl rfl (EvG.pass rfl rfl) ?_
                     refine hd_ev rfl rfl rfl rfl (EvG.passU rfl rfl) ?_
                     refine hd_ev rfl rfl rfl rfl (EvG.passU rfl rfl) ?_
                     refine hd_ev rfl rfl rfl rfl (EvG.passU rfl rfl) ?_
                     refine hd_ev rfl rfl rfl rfl (EvG.passU rfl rfl) ?_
                     refine hd_ev rfl rfl rfl rfl (EvG.passU rfl rfl) ?_
                     refine hd_ev rfl rfl rfl rfl (EvG.passU rfl rfl) ?_
                     refine hd_ev rfl rfl rfl rfl (EvG.pass rfl rfl) ?_
                     refine hd_ev rfl rfl rfl rfl (EvG.of rfl (ev_pick_f rfl rfl rfl)) ?_
                     refine hd_nil ?_
                     refine hx_then ?_
                     refine ht_else rfl ?_
                     refine ht_skip ?_
                     refine hx_block_normal ?_
                     refine hx_joined (I := (fun g : Unit => ([DiskAt b0 E, pt b12 (.cells (arrC (fun i => vS ((D.view i).getD [])) (vS []) 21) 34 (0, 0)), pt b13 (.cells (arrC (fun i => .bool (D.view i).isSome) (.bool false) 21) 35 (0, 0)), pt b17 (.cells (arrC (fun i => .bool (T i)) (.bool false) 21) 35 (0, 0)), F], [(20, .int .i64 q), (17, .pointer (some ⟨b17, 0, none⟩)), (12, .pointer (some ⟨b12, 0, none⟩)), (13, .pointer (some ⟨b13, 0, none⟩)), (9, .pointer (some ⟨b0, 0, none⟩))]))) () ?_ ?_
                     ·repeat (first | exact EnvSub.nil _ | (refine EnvSub.cons rfl ?_))
                     ·(first | dsimp only | skip)
                      exact Ent.cons (by (repeat constructor); done) (Ent.cons (by (repeat constructor); done) (Ent.cons (by (repeat constructor); done) (Ent.cons (by (repeat constructor); done) (Ent.cons (by (repeat constructor); done) Ent.nil))))
                    )
                   ·first | (exfalso; first | omega | (simp at g29; done) | contradiction | (simp [hT] at g29; done) | (simp [hDv] at g29; done)) | skip
                    all_goals (
                     refine hd_ev rfl rfl rfl rfl (EvG.of rfl (ev_not rfl rfl)) ?_
                     refine hd_ev rfl rfl rfl rfl (EvG.of rfl (ev_move rfl rfl)) ?_
                     refine hd_ev rfl rfl rfl rfl (EvG.ofg rfl rfl (ev_move rfl rfl)) ?_
                     refine hd_ev rfl rfl rfl rfl (EvG.ofg rfl rfl (ev_str rfl Try.underlying36 Try.underlying5 Try.underlying9 rfl (by first | exact reads_ro (by (with_reducible repeat constructor); done) | exact reads_own (by (with_reducible repeat constructor); done) | exact reads_nil _))) ?_
                     refine hd_ev rfl rfl rfl rfl (EvG.ofg rfl rfl (ev_move rfl rfl)) ?_
                     refine hd_ev rfl rfl rfl rfl (EvG.ofg rfl rfl (ev_indexAddrA rfl Try.underlying34 Try.ty9 rfl rfl (by omega) (by omega))) ?_
                     refine hd_ev rfl rfl rfl rfl (EvG.ofg rfl rfl (ev_load rfl Try.underlying9 rfl rfl (cell_pt (by (with_reducible repeat constructor); done) (v := vS ((D.view q).getD [])) (by rw [(show 0 + ((q : Int)).toNat * 1 = q by omega)]; exact arrC_get _ _ (by omega) (by omega))))) ?_
                     refine hd_neSg rfl rfl rfl rfl rfl rfl rfl rfl rfl (fun g30 => ?_) (fun g30 => ?_)
                     ·first | (exfalso; first | omega | (simp at g30; done) | contradiction | (simp [hT] at g30; done) | (simp [hDv] at g30; done)) | skip
                      all_goals (
                       refine hd_ev rfl rfl rfl rfl (EvG.ofg rfl rfl (ev_move rfl rfl)) ?_
                       refine hd_ev rfl rfl rfl rfl (EvG.pass rfl rfl) ?_
                       refine hd_ev rfl rfl rfl rfl (EvG.pass rfl rfl) ?_
                       refine hd_ev rfl rfl rfl rfl (EvG.pass rfl rfl) ?_
                       refine hd_ev rfl rfl rfl rfl (EvG.pass rfl rfl) ?_
                       refine hd_ev rfl rfl rfl rfl (EvG.pass rfl rfl) ?_
                       refine hd_ev rfl rfl rfl rfl (EvG.pass rfl rfl) ?_
                       refine hd_ev rfl rfl rfl rfl (EvG.ofg rfl rfl (ev_pick_t rfl rfl rfl)) ?_
                       refine hd_ev rfl rfl rfl rfl (EvG.of rfl (ev_pick_t rfl rfl rfl)) ?_
                       refine hd_nil ?_
                       refine hx_then ?_
                       refine ht_then rfl ?_
                       refine ht_seq ?_
                       refine ht_region ?_
                       refine ho_ev rfl rfl rfl (ev_assign rfl rfl) ?_
                       refine ho_nil ?_
                       refine hx_then ?_
                       refine ht_ret ?_
                       refine hx_block_ret ?_
                       refine hx_through trivial ?_
                       refine hx_through trivial ?_
                       refine hx_block_ret ?_
                       refine hx_through trivial ?_
                       exact hx_ret1 (.inl rfl) rfl rfl () rfl (Ent.cons (by (repeat constructor); done) Ent.nil)
                      )
                     ·first | (exfalso; first | omega | (simp at g30; done) | contradiction | (simp [hT] at g30; done) | (simp [hDv] at g30; done)) | skip
                      all_goals (
                       refine hd_ev rfl rfl rfl rfl (EvG.ofg rfl rfl (ev_move rfl rfl)) ?_
                       refine hd_ev rfl rfl rfl rfl (EvG.ofg rfl rfl (ev_move rfl rfl)) ?_
                       refine hd_ev rfl rfl rfl rfl (EvG.ofg rfl rfl (ev_indexAddrA rfl Try.underlying35 Try.ty4 rfl rfl (by omega) (by omega))) ?_
                       refine hd_evb rfl rfl rfl rfl (EvG.ofg rfl rfl (ev_load rfl Try.underlying4 rfl rfl (cell_pt (by (with_reducible repeat constructor); done) (v := .bool (D.view q).isSome) (by rw [(show 0 + ((q : Int)).toNat * 1 = q by omega)]; exact arrC_get _ _ (by omega) (by omega))))) (fun g31 => ?_) (fun g31 => ?_)
                       ·first | (exfalso; first | omega | (simp at g31; done) | contradiction | (simp [hT] at g31; done) | (simp [hDv] at g31; done)) | skip
                        all_goals (
                         refine hd_ev rfl rfl rfl rfl (EvG.ofg rfl rfl (ev_move rfl rfl)) ?_
                         refine hd_eqg rfl rfl rfl rfl rfl rfl rfl rfl rfl (fun g32 => ?_) (fun g32 => ?_)
                         ·first | (exfalso; first | omega | (simp at g32; done) | contradiction | (simp [hT] at g32; done) | (simp [hDv] at g32; done)) | skip
                          all_goals (
                           refine hd_ev rfl rfl rfl rfl (EvG.ofg rfl rfl (ev_cmpB rfl Try.underlying4 rfl rfl rfl)) ?_
                           refine hd_ev rfl rfl rfl rfl (EvG.ofg rfl rfl (ev_pick_f rfl rfl rfl)) ?_
                           refine hd_ev rfl rfl rfl rfl (EvG.of rfl (ev_pick_t rfl rfl rfl)) ?_
                           refine hd_nil ?_
                           refine hx_then ?_
                           refine ht_else rfl ?_
                           refine ht_skip ?_
                           refine hx_block_normal ?_
                           refine hx_joined (I := (fun g : Unit => ([DiskAt b0 E, pt b12 (.cells (arrC (fun i => vS ((D.view i).getD [])) (vS []) 21) 34 (0, 0)), pt b13 (.cells (arrC (fun i => .bool (D.view i).isSome) (.bool false) 21) 35 (0, 0)), pt b17 (.cells (arrC (fun i => .bool (T i)) (.bool false) 21) 35 (0, 0)), F], [(20, .int .i64 q), (17, .pointer (some ⟨b17, 0, none⟩)), (12, .pointer (some ⟨b12, 0, none⟩)), (13, .pointer (some ⟨b13, 0, none⟩)), (9, .pointer (some ⟨b0, 0, none⟩))]))) () ?_ ?_
                           ·repeat (first | exact EnvSub.nil _ | (refine EnvSub.cons rfl ?_))
                           ·(first | dsimp only | skip)
                            exact Ent.cons (by (repeat constructor); done) (Ent.cons (by (repeat constructor); done) (Ent.cons (by (repeat constructor); done) (Ent.cons (by (repeat constructor); done) (Ent.cons (by (repeat constructor); done) Ent.nil))))
                          )
                         ·first | (exfalso; first | omega | (simp at g32; done) | contradiction | (simp [hT] at g32; done) | (simp [hDv] at g32; done)) | skip
                          all_goals (
                           refine hd_ev rfl rfl rfl rfl (EvG.ofg rfl rfl (ev_cmpB rfl Try.underlying4 rfl rfl rfl)) ?_
                           refine hd_ev rfl rfl rfl rfl (EvG.ofg rfl rfl (ev_pick_f rfl rfl rfl)) ?_
                           refine hd_ev rfl rfl rfl rfl (EvG.of rfl (ev_pick_t rfl rfl rfl)) ?_
                           refine hd_nil ?_
                           refine hx_then ?_
                           refine ht_then rfl ?_
                           refine ht_seq ?_
                           refine ht_region ?_
                           refine ho_ev rfl rfl rfl (ev_assign rfl rfl) ?_
                           refine ho_nil ?_
                           refine hx_then ?_
                           refine ht_ret ?_
                           refine hx_block_ret ?_
                           refine hx_through trivial ?_
                           refine hx_through trivial ?_
                           refine hx_block_ret ?_
                           refine hx_through trivial ?_
                           exact hx_ret1 (.inl rfl) rfl rfl () rfl (Ent.cons (by (repeat constructor); done) Ent.nil)
                          )
                        )
                       ·first | (exfalso; first | omega | (simp at g31; done) | contradiction | (simp [hT] at g31; done) | (simp [hDv] at g31; done)) | skip
                        all_goals (
                         refine hd_ev rfl rfl rfl rfl (EvG.ofg rfl rfl (ev_move rfl rfl)) ?_
                         refine hd_eqg rfl rfl rfl rfl rfl rfl rfl rfl rfl (fun g33 => ?_) (fun g33 => ?_)
                         ·first | (exfalso; first | omega | (simp at g33; done) | contradiction | (simp [hT] at g33; done) | (simp [hDv] at g33; done)) | skip
                          all_goals (
                           refine hd_ev rfl rfl rfl rfl (EvG.ofg rfl rfl (ev_cmpB rfl Try.underlying4 rfl rfl rfl)) ?_
                           refine hd_ev rfl rfl rfl rfl (EvG.ofg rfl rfl (ev_pick_f rfl rfl rfl)) ?_
                           refine hd_ev rfl rfl rfl rfl (EvG.of rfl (ev_pick_t rfl rfl rfl)) ?_
                           refine hd_nil ?_
                           refine hx_then ?_
                           refine ht_then rfl ?_
                           refine ht_seq ?_
                           refine ht_region ?_
                           refine ho_ev rfl rfl rfl (ev_assign rfl rfl) ?_
                           refine ho_nil ?_
                           refine hx_then ?_
                           refine ht_ret ?_
                           refine hx_block_ret ?_
                           refine hx_through trivial ?_
                           refine hx_through trivial ?_
                           refine hx_block_ret ?_
                           refine hx_through trivial ?_
                           exact hx_ret1 (.inl rfl) rfl rfl () rfl (Ent.cons (by (repeat constructor); done) Ent.nil)
                          )
                         ·first | (exfalso; first | omega | (simp at g33; done) | contradiction | (simp [hT] at g33; done) | (simp [hDv] at g33; done)) | skip
                          all_goals (
                           refine hd_ev rfl rfl rfl rfl (EvG.ofg rfl rfl (ev_cmpB rfl Try.underlying4 rfl rfl rfl)) ?_
                           refine hd_ev rfl rfl rfl rfl (EvG.ofg rfl rfl (ev_pick_f rfl rfl rfl)) ?_
                           refine hd_ev rfl rfl rfl rfl (EvG.of rfl (ev_pick_t rfl rfl rfl)) ?_
                           refine hd_nil ?_
                           refine hx_then ?_
                           refine ht_else rfl ?_
                           refine ht_skip ?_
                           refine hx_block_normal ?_
                           refine hx_joined (I := (fun g : Unit => ([DiskAt b0 E, pt b12 (.cells (arrC (fun i => vS ((D.view i).getD [])) (vS []) 21) 34 (0, 0)), pt b13 (.cells (arrC (fun i => .bool (D.view i).isSome) (.bool false) 21) 35 (0, 0)), pt b17 (.cells (arrC (fun i => .bool (T i)) (.bool false) 21) 35 (0, 0)), F], [(20, .int .i64 q), (17, .pointer (some ⟨b17, 0, none⟩)), (12, .pointer (some ⟨b12, 0, none⟩)), (13, .pointer (some ⟨b13, 0, none⟩)), (9, .pointer (some ⟨b0, 0, none⟩))]))) () ?_ ?_
                           ·repeat (first | exact EnvSub.nil _ | (refine EnvSub.cons rfl ?_))
                           ·(first | dsimp only | skip)
                            exact Ent.cons (by (repeat constructor); done) (Ent.cons (by (repeat constructor); done) (Ent.cons (by (repeat constructor); done) (Ent.cons (by (repeat constructor); done) (Ent.cons (by (repeat constructor); done) Ent.nil))))
                          )
                        )
                      )
                    )
                  ·skip
                   refine ht_draw (.op 0 (.op 1 (.op 2 (.op 3 (.op 4 (.op 5 (.op 6 (.op 7 (.op 8 (.op 9 (.op 10 (.op 11 (.op 12 (.op 13 (.op 14 (.op 15 (.op 16 (.op 17 (.op 18 (.op 19 .done)))))))))))))))))))) [] Try.mixed rfl ?_
                   refine hd_ev rfl rfl rfl rfl (EvG.of rfl (ev_move rfl rfl)) ?_
                   refine hd_ev rfl rfl rfl rfl (EvG.of rfl (ev_indexAddrA rfl Try.underlying35 Try.ty4 rfl rfl (by omega) (by omega))) ?_
                   refine hd_evb rfl rfl rfl rfl (EvG.of rfl (ev_load rfl Try.underlying4 rfl rfl (cell_pt (by (with_reducible repeat constructor); done) (v := .bool (T q)) (by rw [(show 0 + ((q : Int)).toNat * 1 = q by omega)]; exact arrC_get _ _ (by omega) (by omega))))) (fun g34 => ?_) (fun g34 => ?_)
                   ·first | (exfalso; first | omega | (simp at g34; done) | contradiction | (simp [hT] at g34; done)) | skip
                    all_goals (
                     refine hd_ev rfl rfl rfl rfl (EvG.of rfl (ev_not rfl rfl)) ?_
                     refine hd_ev rfl rfl rfl rfl (EvG.of rfl (ev_move rfl rfl)) ?_
                     refine hd_ev rfl rfl rfl rfl (EvG.pass rfl rfl) ?_
                     refine hd_ev rfl rfl rfl rfl (EvG.pass rfl rfl) ?_
                     refine hd_ev rfl rfl rfl rfl (EvG.pass rfl rfl) ?_
                     refine hd_ev rfl rfl rfl rfl (EvG.pass rfl rfl) ?_
                     refine hd_ev rfl rfl rfl rfl (EvG.pass rfl rfl) ?_
                     refine hd_ev rfl rfl rfl rfl (EvG.pass rfl rfl) ?_
                     refine hd_ev rfl rfl rfl rfl (EvG.pass rfl rfl) ?_
                     refine hd_ev rfl rfl rfl rfl (EvG.passU rfl rfl) ?_
                     refine hd_ev rfl rfl rfl rfl (EvG.passU rfl rfl) ?_
                     refine hd_ev rfl rfl rfl rfl (EvG.passU rfl rfl) ?_
                     refine hd_ev rfl rfl rfl rfl (EvG.passU rfl rfl) ?_
                     refine hd_ev rfl rfl rfl rfl (EvG.passU rfl rfl) ?_
                     refine hd_ev rfl rfl rfl rfl (EvG.passU rfl rfl) ?_
                     refine hd_ev rfl rfl rfl rfl (EvG.pass rfl rfl) ?_
                     refine hd_ev rfl rfl rfl rfl (EvG.of rfl (ev_pick_f rfl rfl rfl)) ?_
                     refine hd_nil ?_
                     refine hx_then ?_
                     refine ht_else rfl ?_
                     refine ht_skip ?_
                     refine hx_block_normal ?_
                     refine hx_joined (I := (fun g : Unit => ([DiskAt b0 E, pt b12 (.cells (arrC (fun i => vS ((D.view i).getD [])) (vS []) 21) 34 (0, 0)), pt b13 (.cells (arrC (fun i => .bool (D.view i).isSome) (.bool false) 21) 35 (0, 0)), pt b17 (.cells (arrC (fun i => .bool (T i)) (.bool false) 21) 35 (0, 0)), F], [(20, .int .i64 q), (17, .pointer (some ⟨b17, 0, none⟩)), (12, .pointer (some ⟨b12, 0, none⟩)), (13, .pointer (some ⟨b13, 0, none⟩)), (9, .pointer (some ⟨b0, 0, none⟩))]))) () ?_ ?_
                     ·repeat (first | exact EnvSub.nil _ | (refine EnvSub.cons rfl ?_))
                     ·(first | dsimp only | skip)
                      exact Ent.cons (by (repeat constructor); done) (Ent.cons (by (repeat constructor); done) (Ent.cons (by (repeat constructor); done) (Ent.cons (by (repeat constructor); done) (Ent.cons (by (repeat constructor); done) Ent.nil))))
                    )
                   ·first | (exfalso; first | omega | (simp at g34; done) | contradiction | (simp [hT] at g34; done)) | skip
                    all_goals (
                     refine hd_ev rfl rfl rfl rfl (EvG.of rfl (ev_not rfl rfl)) ?_
                     refine hd_ev rfl rfl rfl rfl (EvG.of rfl (ev_move rfl rfl)) ?_
                     refine hd_ev rfl rfl rfl rfl (EvG.ofg rfl rfl (ev_move rfl rfl)) ?_
                     refine hd_ev rfl rfl rfl rfl (EvG.ofg rfl rfl (ev_str rfl Try.underlying36 Try.underlying5 Try.underlying9 rfl (by first | exact reads_ro (by (with_reducible repeat constructor); done) | exact reads_own (by (with_reducible repeat constructor); done) | exact reads_nil _))) ?_
                     refine hd_ev rfl rfl rfl rfl (EvG.ofg rfl rfl (ev_move rfl rfl)) ?_
                     refine hd_ev rfl rfl rfl rfl (EvG.ofg rfl rfl (ev_indexAddrA rfl Try.underlying34 Try.ty9 rfl rfl (by omega) (by omega))) ?_
                     refine hd_ev rfl rfl rfl rfl (EvG.ofg rfl rfl (ev_load rfl Try.underlying9 rfl rfl (cell_pt (by (with_reducible repeat constructor); done) (v := vS ((D.view q).getD [])) (by rw [(show 0 + ((q : Int)).toNat * 1 = q by omega)]; exact arrC_get _ _ (by omega) (by omega))))) ?_
                     refine hd_neSg rfl rfl rfl rfl rfl rfl rfl rfl rfl (fun g35 => ?_) (fun g35 => ?_)
                     ·first | (exfalso; first | omega | (simp at g35; done) | contradiction | (simp [hT] at g35; done)) | skip
                      all_goals (
                       refine hd_ev rfl rfl rfl rfl (EvG.ofg rfl rfl (ev_move rfl rfl)) ?_
                       refine hd_ev rfl rfl rfl rfl (EvG.pass rfl rfl) ?_
                       refine hd_ev rfl rfl rfl rfl (EvG.pass rfl rfl) ?_
                       refine hd_ev rfl rfl rfl rfl (EvG.pass rfl rfl) ?_
                       refine hd_ev rfl rfl rfl rfl (EvG.pass rfl rfl) ?_
                       refine hd_ev rfl rfl rfl rfl (EvG.pass rfl rfl) ?_
                       refine hd_ev rfl rfl rfl rfl (EvG.pass rfl rfl) ?_
                       refine hd_ev rfl rfl rfl rfl (EvG.ofg rfl rfl (ev_pick_t rfl rfl rfl)) ?_
                       refine hd_ev rfl rfl rfl rfl (EvG.of rfl (ev_pick_t rfl rfl rfl)) ?_
                       refine hd_nil ?_
                       refine hx_then ?_
                       refine ht_then rfl ?_
                       refine ht_seq ?_
                       refine ht_region ?_
                       refine ho_ev rfl rfl rfl (ev_assign rfl rfl) ?_
                       refine ho_nil ?_
                       refine hx_then ?_
                       refine ht_ret ?_
                       refine hx_block_ret ?_
                       refine hx_through trivial ?_
                       refine hx_through trivial ?_
                       refine hx_block_ret ?_
                       refine hx_through trivial ?_
                       exact hx_ret1 (.inl rfl) rfl rfl () rfl (Ent.cons (by (repeat constructor); done) Ent.nil)
                      )
                     ·first | (exfalso; first | omega | (simp at g35; done) | contradiction | (simp [hT] at g35; done)) | skip
                      all_goals (
                       refine hd_ev rfl rfl rfl rfl (EvG.ofg rfl rfl (ev_move rfl rfl)) ?_
                       refine hd_ev rfl rfl rfl rfl (EvG.ofg rfl rfl (ev_move rfl rfl)) ?_
                       refine hd_ev rfl rfl rfl rfl (EvG.ofg rfl rfl (ev_indexAddrA rfl Try.underlying35 Try.ty4 rfl rfl (by omega) (by omega))) ?_
                       refine hd_evb rfl rfl rfl rfl (EvG.ofg rfl rfl (ev_load rfl Try.underlying4 rfl rfl (cell_pt (by (with_reducible repeat constructor); done) (v := .bool (D.view q).isSome) (by rw [(show 0 + ((q : Int)).toNat * 1 = q by omega)]; exact arrC_get _ _ (by omega) (by omega))))) (fun g36 => ?_) (fun g36 => ?_)
                       ·first | (exfalso; first | omega | (simp at g36; done) | contradiction | (simp [hT] at g36; done)) | skip
                        all_goals (
                         refine hd_ev rfl rfl rfl rfl (EvG.ofg rfl rfl (ev_move rfl rfl)) ?_
                         refine hd_eqg rfl rfl rfl rfl rfl rfl rfl rfl rfl (fun g37 => ?_) (fun g37 => ?_)
                         ·first | (exfalso; first | omega | (simp at g37; done) | contradiction | (simp [hT] at g37; done)) | skip
                          all_goals (
                           refine hd_ev rfl rfl rfl rfl (EvG.ofg rfl rfl (ev_cmpB rfl Try.underlying4 rfl rfl rfl)) ?_
                           refine hd_ev rfl rfl rfl rfl (EvG.ofg rfl rfl (ev_pick_f rfl rfl rfl)) ?_
                           refine hd_ev rfl rfl rfl rfl (EvG.of rfl (ev_pick_t rfl rfl rfl)) ?_
                           refine hd_nil ?_
                           refine hx_then ?_
                           refine ht_else rfl ?_
                           refine ht_skip ?_
                           refine hx_block_normal ?_
                           refine hx_joined (I := (fun g : Unit => ([DiskAt b0 E, pt b12 (.cells (arrC (fun i => vS ((D.view i).getD [])) (vS []) 21) 34 (0, 0)), pt b13 (.cells (arrC (fun i => .bool (D.view i).isSome) (.bool false) 21) 35 (0, 0)), pt b17 (.cells (arrC (fun i => .bool (T i)) (.bool false) 21) 35 (0, 0)), F], [(20, .int .i64 q), (17, .pointer (some ⟨b17, 0, none⟩)), (12, .pointer (some ⟨b12, 0, none⟩)), (13, .pointer (some ⟨b13, 0, none⟩)), (9, .pointer (some ⟨b0, 0, none⟩))]))) () ?_ ?_
                           ·repeat (first | exact EnvSub.nil _ | (refine EnvSub.cons rfl ?_))
                           ·(first | dsimp only | skip)
                            exact Ent.cons (by (repeat constructor); done) (Ent.cons (by (repeat constructor); done) (Ent.cons (by (repeat constructor); done) (Ent.cons (by (repeat constructor); done) (Ent.cons (by (repeat constructor); done) Ent.nil))))
                          )
                         ·first | (exfalso; first | omega | (simp at g37; done) | contradiction | (simp [hT] at g37; done)) | skip
                          all_goals (
                           refine hd_ev rfl rfl rfl rfl (EvG.ofg rfl rfl (ev_cmpB rfl Try.underlying4 rfl rfl rfl)) ?_
                           refine hd_ev rfl rfl rfl rfl (EvG.ofg rfl rfl (ev_pick_f rfl rfl rfl)) ?_
                           refine hd_ev rfl rfl rfl rfl (EvG.of rfl (ev_pick_t rfl rfl rfl)) ?_
                           refine hd_nil ?_
                           refine hx_then ?_
                           refine ht_then rfl ?_
                           refine ht_seq ?_
                           refine ht_region ?_
                           refine ho_ev rfl rfl rfl (ev_assign rfl rfl) ?_
                           refine ho_nil ?_
                           refine hx_then ?_
                           refine ht_ret ?_
                           refine hx_block_ret ?_
                           refine hx_through trivial ?_
                           refine hx_through trivial ?_
                           refine hx_block_ret ?_
                           refine hx_through trivial ?_
                           exact hx_ret1 (.inl rfl) rfl rfl () rfl (Ent.cons (by (repeat constructor); done) Ent.nil)
                          )
                        )
                       ·first | (exfalso; first | omega | (simp at g36; done) | contradiction | (simp [hT] at g36; done)) | skip
                        all_goals (
                         refine hd_ev rfl rfl rfl rfl (EvG.ofg rfl rfl (ev_move rfl rfl)) ?_
                         refine hd_eqg rfl rfl rfl rfl rfl rfl rfl rfl rfl (fun g38 => ?_) (fun g38 => ?_)
                         ·first | (exfalso; first | omega | (simp at g38; done) | contradiction | (simp [hT] at g38; done)) | skip
                          all_goals (
                           refine hd_ev rfl rfl rfl rfl (EvG.ofg rfl rfl (ev_cmpB rfl Try.underlying4 rfl rfl rfl)) ?_
                           refine hd_ev rfl rfl rfl rfl (EvG.ofg rfl rfl (ev_pick_f rfl rfl rfl)) ?_
                           refine hd_ev rfl rfl rfl rfl (EvG.of rfl (ev_pick_t rfl rfl rfl)) ?_
                           refine hd_nil ?_
                           refine hx_then ?_
                           refine ht_then rfl ?_
                           refine ht_seq ?_
                           refine ht_region ?_
                           refine ho_ev rfl rfl rfl (ev_assign rfl rfl) ?_
                           refine ho_nil ?_
                           refine hx_then ?_
                           refine ht_ret ?_
                           refine hx_block_ret ?_
                           refine hx_through trivial ?_
                           refine hx_through trivial ?_
                           refine hx_block_ret ?_
                           refine hx_through trivial ?_
                           exact hx_ret1 (.inl rfl) rfl rfl () rfl (Ent.cons (by (repeat constructor); done) Ent.nil)
                          )
                         ·first | (exfalso; first | omega | (simp at g38; done) | contradiction | (simp [hT] at g38; done)) | skip
                          all_goals (
                           refine hd_ev rfl rfl rfl rfl (EvG.ofg rfl rfl (ev_cmpB rfl Try.underlying4 rfl rfl rfl)) ?_
                           refine hd_ev rfl rfl rfl rfl (EvG.ofg rfl rfl (ev_pick_f rfl rfl rfl)) ?_
                           refine hd_ev rfl rfl rfl rfl (EvG.of rfl (ev_pick_t rfl rfl rfl)) ?_
                           refine hd_nil ?_
                           refine hx_then ?_
                           refine ht_else rfl ?_
                           refine ht_skip ?_
                           refine hx_block_normal ?_
                           refine hx_joined (I := (fun g : Unit => ([DiskAt b0 E, pt b12 (.cells (arrC (fun i => vS ((D.view i).getD [])) (vS []) 21) 34 (0, 0)), pt b13 (.cells (arrC (fun i => .bool (D.view i).isSome) (.bool false) 21) 35 (0, 0)), pt b17 (.cells (arrC (fun i => .bool (T i)) (.bool false) 21) 35 (0, 0)), F], [(20, .int .i64 q), (17, .pointer (some ⟨b17, 0, none⟩)), (12, .pointer (some ⟨b12, 0, none⟩)), (13, .pointer (some ⟨b13, 0, none⟩)), (9, .pointer (some ⟨b0, 0, none⟩))]))) () ?_ ?_
                           ·repeat (first | exact EnvSub.nil _ | (refine EnvSub.cons rfl ?_))
                           ·(first | dsimp only | skip)
                            exact Ent.cons (by (repeat constructor); done) (Ent.cons (by (repeat constructor); done) (Ent.cons (by (repeat constructor); done) (Ent.cons (by (repeat constructor); done) (Ent.cons (by (repeat constructor); done) Ent.nil))))
                          )
                        )
                      )
                    )
                ·skip
                 (first | dsimp only | skip)
                 refine ht_region ?_
                 refine ho_ev rfl rfl rfl (ev_move rfl rfl) ?_
                 refine ho_ev rfl rfl rfl (ev_add rfl rfl rfl (by first | exact in_i64 (by omega) | rfl)) ?_
                 refine ho_ev rfl rfl rfl (ev_assign rfl rfl) ?_
                 refine ho_nil ?_
                 refine hx_again (I := (fun q : Nat => ([DiskAt b0 E, pt b12 (.cells (arrC (fun i => vS ((D.view i).getD [])) (vS []) 21) 34 (0, 0)), pt b13 (.cells (arrC (fun i => .bool (D.view i).isSome) (.bool false) 21) 35 (0, 0)), pt b17 (.cells (arrC (fun i => .bool (T i)) (.bool false) 21) 35 (0, 0)), pu (q ≤ 21), F], [(20, .int .i64 q), (17, .pointer (some ⟨b17, 0, none⟩)), (12, .pointer (some ⟨b12, 0, none⟩)), (13, .pointer (some ⟨b13, 0, none⟩)), (9, .pointer (some ⟨b0, 0, none⟩))]))) (μ := (fun q : Nat => 21 - q)) (i := q) (q + 1) ?_ ?_ ?_
                 ·(first | dsimp only | skip); omega
                 ·repeat (first | exact EnvSub.nil _ | (refine EnvSub.cons rfl ?_))
                 ·(first | dsimp only | skip)
                  exact Ent.cons (by (repeat constructor); done) (Ent.cons (by (repeat constructor); done) (Ent.cons (by (repeat constructor); done) (Ent.cons (by (repeat constructor); done) (Ent.pu (by omega) (Ent.cons (by (repeat constructor); done) Ent.nil)))))
               )
              ·first | (exfalso; first | omega | (simp at g18; done) | contradiction) | skip
               all_goals (
                refine ho_nil ?_
                refine hx_then ?_
                refine ht_else rfl ?_
                refine ht_exit ?_
                refine hx_through trivial ?_
                refine hx_through trivial ?_
                refine hx_block_here ?_
                refine hx_then ?_
                refine ht_seq ?_
                refine ht_region ?_
                refine ho_ev rfl rfl rfl (ev_move rfl rfl) ?_
                refine ho_eff rfl rfl rfl (eff_call rfl rfl (.cons rfl .nil) rfl (disk_Pending b0 E) (by repeat (first | exact Picks.nil | (apply Picks.ro; focus ((repeat constructor); done)) | (apply Picks.cons; focus ((repeat constructor); done)))) (fun _ => by repeat (first | exact App.nil | apply App.cons))) (fun _ => ?_)
                refine ho_eq rfl rfl rfl rfl rfl rfl (fun g39 => ?_) (fun g39 => ?_)
                ·first | (exfalso; first | omega | (simp at g39; done) | contradiction) | skip
                 all_goals (
                  refine ho_ev rfl rfl rfl (ev_assign rfl rfl) ?_
                  refine ho_nil ?_
                  refine hx_then ?_
                  refine ht_ret ?_
                  exact hx_ret1 (.inl rfl) rfl rfl () rfl (Ent.cons (by (repeat constructor); done) Ent.nil)
                 )
                ·first | (exfalso; first | omega | (simp at g39; done) | contradiction) | skip
                 all_goals (
                  refine ho_ev rfl rfl rfl (ev_assign rfl rfl) ?_
                  refine ho_nil ?_
                  refine hx_then ?_
                  refine ht_ret ?_
                  exact hx_ret1 (.inl rfl) rfl rfl () rfl (Ent.cons (by (repeat constructor); done) Ent.nil)
                 )
               )
            )
         )
       )
     )
   )
  ·first | (exfalso; first | omega | (simp at g1; done) | contradiction) | skip
   all_goals (
    refine ho_ev rfl rfl rfl (ev_not rfl rfl) ?_
    refine ho_ev rfl rfl rfl (ev_move rfl rfl) ?_
    refine ho_pass rfl rfl rfl rfl ?_
    refine ho_pass rfl rfl rfl rfl ?_
    refine ho_ev rfl rfl rfl (ev_pick_t rfl rfl rfl) ?_
    refine ho_ev rfl rfl rfl (ev_move rfl rfl) ?_
    refine ho_pass rfl rfl rfl rfl ?_
    refine ho_pass rfl rfl rfl rfl ?_
    refine ho_ev rfl rfl rfl (ev_pick_t rfl rfl rfl) ?_
    refine ho_ev rfl rfl rfl (ev_move rfl rfl) ?_
    refine ho_pass rfl rfl rfl rfl ?_
    refine ho_pass rfl rfl rfl rfl ?_
    refine ho_pass rfl rfl rfl rfl ?_
    refine ho_ev rfl rfl rfl (ev_pick_t rfl rfl rfl) ?_
    refine ho_nil ?_
    refine hx_then ?_
    refine ht_then rfl ?_
    refine ht_seq ?_
    refine ht_region ?_
    refine ho_eff rfl rfl rfl (eff_call rfl rfl .nil rfl (law_awake) (by repeat (first | exact Picks.nil | (apply Picks.ro; focus ((with_reducible repeat constructor); done)) | (apply Picks.cons; focus ((with_reducible repeat constructor); done)))) (fun _ => by repeat (first | exact App.nil | apply App.cons))) (fun _ => ?_)
    refine ho_ev rfl rfl rfl (ev_assign rfl rfl) ?_
    refine ho_nil ?_
    refine hx_then ?_
    refine ht_ret ?_
    refine hx_through trivial ?_
    exact hx_ret1 (.inl rfl) rfl rfl () rfl (Ent.cons (by (repeat constructor); done) Ent.nil)
   )
 ·skip
  refine ho_eff rfl rfl rfl (eff_call rfl rfl (.cons rfl .nil) rfl (disk_New n (by omega)) (by repeat (first | exact Picks.nil | (apply Picks.ro; focus ((with_reducible repeat constructor); done)) | (apply Picks.cons; focus ((with_reducible repeat constructor); done)))) (fun _ => by repeat (first | exact App.nil | apply App.cons))) (fun b0 => ?_)
  refine ho_ev rfl rfl rfl (ev_move rfl rfl) ?_
  refine ho_ev rfl rfl rfl (ev_extract rfl rfl rfl) ?_
  refine ho_ev rfl rfl rfl (ev_extract rfl rfl rfl) ?_
  refine ho_ev rfl rfl rfl (ev_assign rfl rfl) ?_
  refine ho_ev rfl rfl rfl (ev_assign rfl rfl) ?_
  refine ho_nil ?_
  refine hx_then ?_
  refine ht_seq ?_
  refine ht_seq ?_
  refine ht_region ?_
  refine ho_eff rfl rfl rfl (eff_call rfl rfl .nil rfl (law_awake) (by repeat (first | exact Picks.nil | (apply Picks.ro; focus ((with_reducible repeat constructor); done)) | (apply Picks.cons; focus ((with_reducible repeat constructor); done)))) (fun _ => by repeat (first | exact App.nil | apply App.cons))) (fun _ => ?_)
  refine ho_bool (t := 32) rfl (fun g40 => ?_) (fun g40 => ?_)
  ·first | (exfalso; first | omega | (simp at g40; done) | contradiction) | skip
   all_goals (
    refine ho_ev rfl rfl rfl (ev_not rfl rfl) ?_
    refine ho_ev rfl rfl rfl (ev_move rfl rfl) ?_
    refine ho_evg rfl rfl rfl rfl (ev_move rfl rfl) ?_
    refine ho_neg rfl rfl rfl rfl rfl rfl rfl (fun g41 => ?_) (fun g41 => ?_)
    ·first | (exfalso; first | omega | (simp at g41; done) | contradiction) | skip
     all_goals (
      refine ho_ev rfl rfl rfl (ev_pick_f rfl rfl rfl) ?_
      refine ho_ev rfl rfl rfl (ev_move rfl rfl) ?_
      refine ho_pass rfl rfl rfl rfl ?_
      refine ho_pass rfl rfl rfl rfl ?_
      refine ho_ev rfl rfl rfl (ev_pick_t rfl rfl rfl) ?_
      refine ho_ev rfl rfl rfl (ev_move rfl rfl) ?_
      refine ho_pass rfl rfl rfl rfl ?_
      refine ho_pass rfl rfl rfl rfl ?_
      refine ho_pass rfl rfl rfl rfl ?_
      refine ho_ev rfl rfl rfl (ev_pick_t rfl rfl rfl) ?_
      refine ho_nil ?_
      refine hx_then ?_
      refine ht_then rfl ?_
      refine ht_seq ?_
      refine ht_region ?_
      refine ho_eff rfl rfl rfl (eff_call rfl rfl .nil rfl (law_awake) (by repeat (first | exact Picks.nil | (apply Picks.ro; focus ((with_reducible repeat constructor); done)) | (apply Picks.cons; focus ((with_reducible repeat constructor); done)))) (fun _ => by repeat (first | exact App.nil | apply App.cons))) (fun _ => ?_)
      refine ho_ev rfl rfl rfl (ev_assign rfl rfl) ?_
      refine ho_nil ?_
      refine hx_then ?_
      refine ht_ret ?_
      refine hx_through trivial ?_
      exact hx_ret1 (.inl rfl) rfl rfl () rfl (Ent.cons (by (repeat constructor); done) Ent.nil)
     )
    ·first | (exfalso; first | omega | (simp at g41; done) | contradiction) | skip
     all_goals (
      refine ho_ev rfl rfl rfl (ev_pick_f rfl rfl rfl) ?_
      refine ho_ev rfl rfl rfl (ev_move rfl rfl) ?_
      refine ho_evg rfl rfl rfl rfl (ev_move rfl rfl) ?_
      refine ho_evg rfl rfl rfl rfl (ev_ptrNil rfl Try.underlying25 rfl rfl rfl) ?_
      refine ho_ev rfl rfl rfl (ev_pick_f rfl rfl rfl) ?_
      refine ho_ev rfl rfl rfl (ev_move rfl rfl) ?_
      refine ho_bool (t := 42) rfl (fun g42 => ?_) (fun g42 => ?_)
      ·first | (exfalso; first | omega | (simp at g42; done) | contradiction) | skip
       all_goals (
        refine ho_pass rfl rfl rfl rfl ?_
        refine ho_pass rfl rfl rfl rfl ?_
        refine ho_pass rfl rfl rfl rfl ?_
        refine ho_ev rfl rfl rfl (ev_pick_t rfl rfl rfl) ?_
        refine ho_nil ?_
        refine hx_then ?_
        refine ht_then rfl ?_
        refine ht_seq ?_
        refine ht_region ?_
        refine ho_eff rfl rfl rfl (eff_call rfl rfl .nil rfl (law_awake) (by repeat (first | exact Picks.nil | (apply Picks.ro; focus ((with_reducible repeat constructor); done)) | (apply Picks.cons; focus ((with_reducible repeat constructor); done)))) (fun _ => by repeat (first | exact App.nil | apply App.cons))) (fun _ => ?_)
        refine ho_ev rfl rfl rfl (ev_assign rfl rfl) ?_
        refine ho_nil ?_
        refine hx_then ?_
        refine ht_ret ?_
        refine hx_through trivial ?_
        exact hx_ret1 (.inl rfl) rfl rfl () rfl (Ent.cons (by (repeat constructor); done) Ent.nil)
       )
      ·first | (exfalso; first | omega | (simp at g42; done) | contradiction) | skip
       all_goals (
        refine ho_evg rfl rfl rfl rfl (ev_move rfl rfl) ?_
        refine ho_evg rfl rfl rfl rfl (ev_lenSl rfl Try.underlying24 rfl) ?_
        refine ho_gtg rfl rfl rfl rfl rfl rfl rfl (fun g43 => ?_) (fun g43 => ?_)
        ·first | (exfalso; first | omega | (simp at g43; done) | contradiction) | skip
         all_goals (
          refine ho_ev rfl rfl rfl (ev_pick_f rfl rfl rfl) ?_
          refine ho_nil ?_
          refine hx_then ?_
          refine ht_then rfl ?_
          refine ht_seq ?_
          refine ht_region ?_
          refine ho_eff rfl rfl rfl (eff_call rfl rfl .nil rfl (law_awake) (by repeat (first | exact Picks.nil | (apply Picks.ro; focus ((with_reducible repeat constructor); done)) | (apply Picks.cons; focus ((with_reducible repeat constructor); done)))) (fun _ => by repeat (first | exact App.nil | apply App.cons))) (fun _ => ?_)
          refine ho_ev rfl rfl rfl (ev_assign rfl rfl) ?_
          refine ho_nil ?_
          refine hx_then ?_
          refine ht_ret ?_
          refine hx_through trivial ?_
          exact hx_ret1 (.inl rfl) rfl rfl () rfl (Ent.cons (by (repeat constructor); done) Ent.nil)
         )
        ·first | (exfalso; first | omega | (simp at g43; done) | contradiction) | skip
         all_goals (
          refine ho_ev rfl rfl rfl (ev_pick_f rfl rfl rfl) ?_
          refine ho_nil ?_
          refine hx_then ?_
          refine ht_else rfl ?_
          refine ht_skip ?_
          refine hx_then ?_
          refine ht_join (fun g : Dk.Disk => ([DiskAt b0 g, ro (roS a1 xs1.length xs1), ro (actsR xs1 ms1), ro (roS a2 xs2.length xs2), ro (actsR xs2 ms2), ro (roS a3 cl.length cl), pu (Dk.NN g), F], [(2, .slice a3 cl.length c3), (8, .slice a2 xs2.length c2), (9, .pointer (some ⟨b0, 0, none⟩))])) ?_ (fun g => ?_)
          ·skip
           refine ht_seq ?_
           refine ht_region ?_
           refine ho_ev rfl rfl rfl (ev_assign rfl rfl) ?_
           refine ho_nil ?_
           refine hx_then ?_
           refine ht_block ?_
           refine ht_loop (fun q : Nat => ([DiskAt b0 (Dk.Disk.upto n ms1 q), ro (roS a1 xs1.length xs1), ro (actsR xs1 ms1), ro (roS a2 xs2.length xs2), ro (actsR xs2 ms2), ro (roS a3 cl.length cl), pu (q ≤ 30 ∧ q ≤ xs1.length), F], [(7, .slice a1 xs1.length c1), (11, .int .i64 q), (2, .slice a3 cl.length c3), (8, .slice a2 xs2.length c2), (9, .pointer (some ⟨b0, 0, none⟩))])) (fun q : Nat => 30 - q) 0 ?_ (by repeat (first | exact EnvSub.nil _ | (refine EnvSub.cons rfl ?_))) (fun q => ?_)
           ·(first | dsimp only | skip)
            rw [Dk.upto_zero]
            exact Ent.cons (by (repeat constructor); done) (Ent.cons (by (repeat constructor); done) (Ent.cons (by (repeat constructor); done) (Ent.cons (by (repeat constructor); done) (Ent.cons (by (repeat constructor); done) (Ent.cons (by (repeat constructor); done) (Ent.pu ⟨by omega, by omega⟩ (Ent.cons (by (repeat constructor); done) Ent.nil)))))))
           obtain q := q
           dsimp only
           refine ht_pick (A := pu (q ≤ 30 ∧ q ≤ xs1.length)) (by (repeat constructor); done) (ht_pure fun hq => ?_)
           obtain ⟨hq1, hq2⟩ := hq
           refine ht_seq ?_
           refine ht_seq ?_
           refine ht_region ?_
           refine ho_ev rfl rfl rfl (ev_move rfl rfl) ?_
           refine ho_ev rfl rfl rfl (ev_move rfl rfl) ?_
           refine ho_ev rfl rfl rfl (ev_lenSl rfl Try.underlying22 rfl) ?_
           refine ho_lt rfl rfl rfl rfl rfl rfl (fun g44 => ?_) (fun g44 => ?_)
           ·first | (exfalso; first | omega | (simp at g44; done) | contradiction) | skip
            all_goals (
             refine ho_ev rfl rfl rfl (ev_move rfl rfl) ?_
             refine ho_evg rfl rfl rfl rfl (ev_move rfl rfl) ?_
             refine ho_ltg rfl rfl rfl rfl rfl rfl rfl (fun g45 => ?_) (fun g45 => ?_)
             ·first | (exfalso; first | omega | (simp at g45; done) | contradiction) | skip
              all_goals (
               refine ho_ev rfl rfl rfl (ev_pick_t rfl rfl rfl) ?_
               refine ho_nil ?_
               refine hx_then ?_
               refine ht_then rfl ?_
               refine ht_skip ?_
               refine hx_then ?_
               refine ht_seq ?_
               refine ht_block ?_
               refine ht_actAt (xs := xs1) (ms := ms1) (i := q) (by omega) (by (with_reducible repeat constructor); done) (fun x0 m0 hx0 hm0 => ?_)
               refine ht_someS (α := ActV) (a := a1) (xs := xs1) (reads_ro (by (with_reducible repeat constructor); done)) (by omega) (fun ab ao ha => ?_)
               refine ht_region ?_
               refine ho_ev rfl rfl rfl (ev_move rfl rfl) ?_
               refine ho_ev rfl rfl rfl (ev_move rfl rfl) ?_
               refine ho_ev rfl rfl rfl (ev_move rfl rfl) ?_
               refine ho_ev rfl rfl rfl (ev_indexAddr rfl Try.underlying22 Try.ty32 (congrArg (fun z => some (Value.slice z xs1.length c1)) ha) rfl (by omega) (by omega)) ?_
               refine ho_ev rfl rfl rfl (ev_loadA rfl Try.underlying32 Try.ty32 rfl rfl (cells_Sa ha (reads_ro (by (with_reducible repeat constructor); done)) hx0)) ?_
               refine ho_eff rfl rfl rfl (eff_call rfl rfl (.cons rfl .nil) rfl (law_few x0 m0) (by repeat (first | exact Picks.nil | (apply Picks.ro; focus ((repeat constructor); done)) | (apply Picks.cons; focus ((repeat constructor); done)))) (fun _ => by repeat (first | exact App.nil | apply App.cons))) (fun y => ?_)
               refine ho_eff rfl rfl rfl (eff_call rfl rfl (.cons rfl (.cons rfl .nil)) rfl (law_do b0 (Dk.Disk.upto n ms1 q) y m0.few (Dk.MAct.few_short m0) (by have := Dk.upto_len n ms1 q; omega)) (by repeat (first | exact Picks.nil | (apply Picks.ro; focus ((repeat constructor); done)) | (apply Picks.cons; focus ((repeat constructor); done)))) (fun _ => by repeat (first | exact App.nil | apply App.cons))) (fun _ => ?_)
               refine ho_nil ?_
               refine hx_block_normal ?_
               refine hx_then ?_
               refine ht_region ?_
               refine ho_ev rfl rfl rfl (ev_move rfl rfl) ?_
               refine ho_ev rfl rfl rfl (ev_add rfl rfl rfl (by first | exact in_i64 (by omega) | rfl)) ?_
               refine ho_ev rfl rfl rfl (ev_assign rfl rfl) ?_
               refine ho_nil ?_
               refine hx_again (I := (fun q : Nat => ([DiskAt b0 (Dk.Disk.upto n ms1 q), ro (roS a1 xs1.length xs1), ro (actsR xs1 ms1), ro (roS a2 xs2.length xs2), ro (actsR xs2 ms2), ro (roS a3 cl.length cl), pu (q ≤ 30 ∧ q ≤ xs1.length), F], [(7, .slice a1 xs1.length c1), (11, .int .i64 q), (2, .slice a3 cl.length c3), (8, .slice a2 xs2.length c2), (9, .pointer (some ⟨b0, 0, none⟩))]))) (μ := (fun q : Nat => 30 - q)) (i := q) (q + 1) ?_ ?_ ?_
               ·(first | dsimp only | skip); omega
               ·repeat (first | exact EnvSub.nil _ | (refine EnvSub.cons rfl ?_))
               ·(first | dsimp only | skip)
                rw [Dk.upto_step hm0]
                exact Ent.cons (by (repeat constructor); done) (Ent.cons (by (repeat constructor); done) (Ent.cons (by (repeat constructor); done) (Ent.cons (by (repeat constructor); done) (Ent.cons (by (repeat constructor); done) (Ent.cons (by (repeat constructor); done) (Ent.pu ⟨by omega, by omega⟩ (Ent.cons (by (repeat constructor); done) Ent.nil)))))))
              )
             ·first | (exfalso; first | omega | (simp at g45; done) | contradiction) | skip
              all_goals (
               refine ho_ev rfl rfl rfl (ev_pick_t rfl rfl rfl) ?_
               refine ho_nil ?_
               refine hx_then ?_
               refine ht_else rfl ?_
               refine ht_exit ?_
               refine hx_through trivial ?_
               refine hx_through trivial ?_
               refine hx_block_here ?_
               refine hx_joined (I := (fun g : Dk.Disk => ([DiskAt b0 g, ro (roS a1 xs1.length xs1), ro (actsR xs1 ms1), ro (roS a2 xs2.length xs2), ro (actsR xs2 ms2), ro (roS a3 cl.length cl), pu (Dk.NN g), F], [(2, .slice a3 cl.length c3), (8, .slice a2 xs2.length c2), (9, .pointer (some ⟨b0, 0, none⟩))]))) (Dk.Disk.upto n ms1 q) ?_ ?_
               ·repeat (first | exact EnvSub.nil _ | (refine EnvSub.cons rfl ?_))
               ·(first | dsimp only | skip)
                exact Ent.cons (by (repeat constructor); done) (Ent.cons (by (repeat constructor); done) (Ent.cons (by (repeat constructor); done) (Ent.cons (by (repeat constructor); done) (Ent.cons (by (repeat constructor); done) (Ent.cons (by (repeat constructor); done) (Ent.pu (Dk.nn_acts (Dk.nn_new n) ((ms1.take q).map Dk.MAct.few)) (Ent.cons (by (repeat constructor); done) Ent.nil)))))))
              )
            )
           ·first | (exfalso; first | omega | (simp at g44; done) | contradiction) | skip
            all_goals (
             refine ho_ev rfl rfl rfl (ev_move rfl rfl) ?_
             refine ho_pass rfl rfl rfl rfl ?_
             refine ho_pass rfl rfl rfl rfl ?_
             refine ho_ev rfl rfl rfl (ev_pick_f rfl rfl rfl) ?_
             refine ho_nil ?_
             refine hx_then ?_
             refine ht_else rfl ?_
             refine ht_exit ?_
             refine hx_through trivial ?_
             refine hx_through trivial ?_
             refine hx_block_here ?_
             refine hx_joined (I := (fun g : Dk.Disk => ([DiskAt b0 g, ro (roS a1 xs1.length xs1), ro (actsR xs1 ms1), ro (roS a2 xs2.length xs2), ro (actsR xs2 ms2), ro (roS a3 cl.length cl), pu (Dk.NN g), F], [(2, .slice a3 cl.length c3), (8, .slice a2 xs2.length c2), (9, .pointer (some ⟨b0, 0, none⟩))]))) (Dk.Disk.upto n ms1 q) ?_ ?_
             ·repeat (first | exact EnvSub.nil _ | (refine EnvSub.cons rfl ?_))
             ·(first | dsimp only | skip)
              exact Ent.cons (by (repeat constructor); done) (Ent.cons (by (repeat constructor); done) (Ent.cons (by (repeat constructor); done) (Ent.cons (by (repeat constructor); done) (Ent.cons (by (repeat constructor); done) (Ent.cons (by (repeat constructor); done) (Ent.pu (Dk.nn_acts (Dk.nn_new n) ((ms1.take q).map Dk.MAct.few)) (Ent.cons (by (repeat constructor); done) Ent.nil)))))))
            )
          ·skip
           (first | dsimp only | skip)
           revert g; intro D
           refine ht_pick (A := pu (Dk.NN D)) (by (repeat constructor); done) (ht_pure fun hnn => ?_)
           refine ht_seq ?_
           refine ht_region ?_
           refine ho_ev rfl rfl rfl (ev_move rfl rfl) ?_
           refine ho_eff rfl rfl rfl (eff_call rfl rfl (.cons rfl .nil) rfl (disk_Sync b0 D) (by repeat (first | exact Picks.nil | (apply Picks.ro; focus ((repeat constructor); done)) | (apply Picks.cons; focus ((repeat constructor); done)))) (fun _ => by repeat (first | exact App.nil | apply App.cons))) (fun _ => ?_)
           refine ho_nil ?_
           refine hx_then ?_
           refine ht_seq ?_
           refine ht_region ?_
           refine ho_eff rfl rfl rfl (eff_alloc rfl Try.ty34 (by first | exact cells_agg _ | exact rfl)) (fun b12 => ?_)
           refine ho_nil ?_
           refine hx_then ?_
           refine ht_seq ?_
           refine ht_region ?_
           refine ho_eff rfl rfl rfl (eff_alloc rfl Try.ty35 (by first | exact cells_agg _ | exact rfl)) (fun b13 => ?_)
           refine ho_nil ?_
           refine hx_then ?_
           refine ht_seq ?_
           refine ht_seq ?_
           refine ht_region ?_
           refine ho_ev rfl rfl rfl (ev_assign rfl rfl) ?_
           refine ho_nil ?_
           refine hx_then ?_
           refine ht_block ?_
           refine ht_loop (fun q : Nat => ([DiskAt b0 D.sync, pt b12 (.cells (arrC (fun i => vS ((D.view i).getD [])) (vS []) q) 34 (0, 0)), pt b13 (.cells (arrC (fun i => .bool (D.view i).isSome) (.bool false) q) 35 (0, 0)), ro (roS a1 xs1.length xs1), ro (actsR xs1 ms1), ro (roS a2 xs2.length xs2), ro (actsR xs2 ms2), ro (roS a3 cl.length cl), pu (q ≤ 21), F], [(14, .int .i64 q), (12, .pointer (some ⟨b12, 0, none⟩)), (13, .pointer (some ⟨b13, 0, none⟩)), (2, .slice a3 cl.length c3), (8, .slice a2 xs2.length c2), (9, .pointer (some ⟨b0, 0, none⟩))])) (fun q : Nat => 21 - q) 0 ?_ (by repeat (first | exact EnvSub.nil _ | (refine EnvSub.cons rfl ?_))) (fun q => ?_)
           ·(first | dsimp only | skip)
            exact Ent.cons (by (repeat constructor); done) (Ent.cons (by (repeat constructor); done) (Ent.cons (by (repeat constructor); done) (Ent.cons (by (repeat constructor); done) (Ent.cons (by (repeat constructor); done) (Ent.cons (by (repeat constructor); done) (Ent.cons (by (repeat constructor); done) (Ent.cons (by (repeat constructor); done) (Ent.pu (by omega) (Ent.cons (by (repeat constructor); done) Ent.nil)))))))))
           obtain q := q
           dsimp only
           refine ht_pick (A := pu (q ≤ 21)) (by (repeat constructor); done) (ht_pure fun hq1 => ?_)
           refine ht_seq ?_
           refine ht_seq ?_
           refine ht_region ?_
           refine ho_ev rfl rfl rfl (ev_move rfl rfl) ?_
           refine ho_lt rfl rfl rfl rfl rfl rfl (fun g46 => ?_) (fun g46 => ?_)
           ·first | (exfalso; first | omega | (simp at g46; done) | contradiction) | skip
            all_goals (
             refine ho_nil ?_
             refine hx_then ?_
             refine ht_then rfl ?_
             refine ht_skip ?_
             refine hx_then ?_
             refine ht_seq ?_
             refine ht_block ?_
             refine ht_seq ?_
             refine ht_region ?_
             refine ho_ev rfl rfl rfl (ev_move rfl rfl) ?_
             refine ho_ev rfl rfl rfl (ev_move rfl rfl) ?_
             rcases hv : D.sync.view q with _ | s
             ·skip
              refine ho_eff rfl rfl rfl (eff_call rfl rfl (.cons rfl (.cons rfl .nil)) rfl (disk_Read_no b0 D.sync q hv) (by repeat (first | exact Picks.nil | (apply Picks.ro; focus ((repeat constructor); done)) | (apply Picks.cons; focus ((repeat constructor); done)))) (fun _ => by repeat (first | exact App.nil | apply App.cons))) (fun _ => ?_)
              refine ho_ev rfl rfl rfl (ev_move rfl rfl) ?_
              refine ho_ev rfl rfl rfl (ev_extract rfl rfl rfl) ?_
              refine ho_ev rfl rfl rfl (ev_extract rfl rfl rfl) ?_
              refine ho_ev rfl rfl rfl (ev_assign rfl rfl) ?_
              refine ho_ev rfl rfl rfl (ev_assign rfl rfl) ?_
              refine ho_nil ?_
              refine hx_then ?_
              refine ht_region ?_
              refine ho_ev rfl rfl rfl (ev_move rfl rfl) ?_
              refine ho_ev rfl rfl rfl (ev_move rfl rfl) ?_
              refine ho_ev rfl rfl rfl (ev_move rfl rfl) ?_
              refine ho_ev rfl rfl rfl (ev_str rfl Try.underlying36 Try.underlying5 Try.underlying9 rfl (by first | exact reads_ro (by (with_reducible repeat constructor); done) | exact reads_own (by (with_reducible repeat constructor); done) | exact reads_nil _)) ?_
              refine ho_ev rfl rfl rfl (ev_move rfl rfl) ?_
              refine ho_eq rfl rfl rfl rfl rfl rfl (fun g47 => ?_) (fun g47 => ?_)
              ·first | (exfalso; first | omega | (simp at g47; done) | contradiction) | skip
               all_goals (
                refine ho_ev rfl rfl rfl (ev_indexAddrA rfl Try.underlying34 Try.ty9 rfl rfl (by omega) (by omega)) ?_
                refine ho_eff0 rfl rfl (eff_store1 (c' := arrC (fun i => vS ((D.view i).getD [])) (vS []) (q + 1)) rfl Try.ty9 rfl rfl (by (with_reducible repeat constructor); done) rfl rfl (by rw [arrC_size]; omega) (by rw [(show 0 + ((q : Int)).toNat * 1 = q by omega)]; have hA := arrC_set (fun i => vS ((D.view i).getD [])) (vS []) (j := q) (by omega); have hv1 : D.view q = _ := hv; simp only [hv1, Option.getD_none, Option.getD_some] at hA; exact hA)) (fun _ => ?_)
                refine ho_ev rfl rfl rfl (ev_indexAddrA rfl Try.underlying35 Try.ty4 rfl rfl (by omega) (by omega)) ?_
                refine ho_eff0 rfl rfl (eff_store1 (c' := arrC (fun i => .bool (D.view i).isSome) (.bool false) (q + 1)) rfl Try.ty4 rfl rfl (by (with_reducible repeat constructor); done) rfl rfl (by rw [arrC_size]; omega) (by rw [(show 0 + ((q : Int)).toNat * 1 = q by omega)]; have hA := arrC_set (fun i => .bool (D.view i).isSome) (.bool false) (j := q) (by omega); have hv1 : D.view q = _ := hv; simp only [hv1, Option.isSome_none, Option.isSome_some] at hA; exact hA)) (fun _ => ?_)
                refine ho_nil ?_
                refine hx_block_normal ?_
                refine hx_then ?_
                refine ht_region ?_
                refine ho_ev rfl rfl rfl (ev_move rfl rfl) ?_
                refine ho_ev rfl rfl rfl (ev_add rfl rfl rfl (by first | exact in_i64 (by omega) | rfl)) ?_
                refine ho_ev rfl rfl rfl (ev_assign rfl rfl) ?_
                refine ho_nil ?_
                refine hx_again (I := (fun q : Nat => ([DiskAt b0 D.sync, pt b12 (.cells (arrC (fun i => vS ((D.view i).getD [])) (vS []) q) 34 (0, 0)), pt b13 (.cells (arrC (fun i => .bool (D.view i).isSome) (.bool false) q) 35 (0, 0)), ro (roS a1 xs1.length xs1), ro (actsR xs1 ms1), ro (roS a2 xs2.length xs2), ro (actsR xs2 ms2), ro (roS a3 cl.length cl), pu (q ≤ 21), F], [(14, .int .i64 q), (12, .pointer (some ⟨b12, 0, none⟩)), (13, .pointer (some ⟨b13, 0, none⟩)), (2, .slice a3 cl.length c3), (8, .slice a2 xs2.length c2), (9, .pointer (some ⟨b0, 0, none⟩))]))) (μ := (fun q : Nat => 21 - q)) (i := q) (q + 1) ?_ ?_ ?_
                ·(first | dsimp only | skip); omega
                ·repeat (first | exact EnvSub.nil _ | (refine EnvSub.cons rfl ?_))
                ·(first | dsimp only | skip)
                 exact Ent.cons (by (repeat constructor); done) (Ent.cons (by (repeat constructor); done) (Ent.cons (by (repeat constructor); done) (Ent.cons (by (repeat constructor); done) (Ent.cons (by (repeat constructor); done) (Ent.cons (by (repeat constructor); done) (Ent.cons (by (repeat constructor); done) (Ent.cons (by (repeat constructor); done) (Ent.pu (by omega) (Ent.cons (by (repeat constructor); done) Ent.nil)))))))))
               )
              ·first | (exfalso; first | omega | (simp at g47; done) | contradiction) | skip
               all_goals (
                refine ho_ev rfl rfl rfl (ev_indexAddrA rfl Try.underlying34 Try.ty9 rfl rfl (by omega) (by omega)) ?_
                refine ho_eff0 rfl rfl (eff_store1 (c' := arrC (fun i => vS ((D.view i).getD [])) (vS []) (q + 1)) rfl Try.ty9 rfl rfl (by (with_reducible repeat constructor); done) rfl rfl (by rw [arrC_size]; omega) (by rw [(show 0 + ((q : Int)).toNat * 1 = q by omega)]; have hA := arrC_set (fun i => vS ((D.view i).getD [])) (vS []) (j := q) (by omega); have hv1 : D.view q = _ := hv; simp only [hv1, Option.getD_none, Option.getD_some] at hA; exact hA)) (fun _ => ?_)
                refine ho_ev rfl rfl rfl (ev_indexAddrA rfl Try.underlying35 Try.ty4 rfl rfl (by omega) (by omega)) ?_
                refine ho_eff0 rfl rfl (eff_store1 (c' := arrC (fun i => .bool (D.view i).isSome) (.bool false) (q + 1)) rfl Try.ty4 rfl rfl (by (with_reducible repeat constructor); done) rfl rfl (by rw [arrC_size]; omega) (by rw [(show 0 + ((q : Int)).toNat * 1 = q by omega)]; have hA := arrC_set (fun i => .bool (D.view i).isSome) (.bool false) (j := q) (by omega); have hv1 : D.view q = _ := hv; simp only [hv1, Option.isSome_none, Option.isSome_some] at hA; exact hA)) (fun _ => ?_)
                refine ho_nil ?_
                refine hx_block_normal ?_
                refine hx_then ?_
                refine ht_region ?_
                refine ho_ev rfl rfl rfl (ev_move rfl rfl) ?_
                refine ho_ev rfl rfl rfl (ev_add rfl rfl rfl (by first | exact in_i64 (by omega) | rfl)) ?_
                refine ho_ev rfl rfl rfl (ev_assign rfl rfl) ?_
                refine ho_nil ?_
                refine hx_again (I := (fun q : Nat => ([DiskAt b0 D.sync, pt b12 (.cells (arrC (fun i => vS ((D.view i).getD [])) (vS []) q) 34 (0, 0)), pt b13 (.cells (arrC (fun i => .bool (D.view i).isSome) (.bool false) q) 35 (0, 0)), ro (roS a1 xs1.length xs1), ro (actsR xs1 ms1), ro (roS a2 xs2.length xs2), ro (actsR xs2 ms2), ro (roS a3 cl.length cl), pu (q ≤ 21), F], [(14, .int .i64 q), (12, .pointer (some ⟨b12, 0, none⟩)), (13, .pointer (some ⟨b13, 0, none⟩)), (2, .slice a3 cl.length c3), (8, .slice a2 xs2.length c2), (9, .pointer (some ⟨b0, 0, none⟩))]))) (μ := (fun q : Nat => 21 - q)) (i := q) (q + 1) ?_ ?_ ?_
                ·(first | dsimp only | skip); omega
                ·repeat (first | exact EnvSub.nil _ | (refine EnvSub.cons rfl ?_))
                ·(first | dsimp only | skip)
                 exact Ent.cons (by (repeat constructor); done) (Ent.cons (by (repeat constructor); done) (Ent.cons (by (repeat constructor); done) (Ent.cons (by (repeat constructor); done) (Ent.cons (by (repeat constructor); done) (Ent.cons (by (repeat constructor); done) (Ent.cons (by (repeat constructor); done) (Ent.cons (by (repeat constructor); done) (Ent.pu (by omega) (Ent.cons (by (repeat constructor); done) Ent.nil)))))))))
               )
             ·skip
              refine ho_eff rfl rfl rfl (eff_call rfl rfl (.cons rfl (.cons rfl .nil)) rfl (disk_Read b0 D.sync q s hv) (by repeat (first | exact Picks.nil | (apply Picks.ro; focus ((repeat constructor); done)) | (apply Picks.cons; focus ((repeat constructor); done)))) (fun _ => by repeat (first | exact App.nil | apply App.cons))) (fun rd => ?_)
              refine ho_ev rfl rfl rfl (ev_move rfl rfl) ?_
              refine ho_ev rfl rfl rfl (ev_extract rfl rfl rfl) ?_
              refine ho_ev rfl rfl rfl (ev_extract rfl rfl rfl) ?_
              refine ho_ev rfl rfl rfl (ev_assign rfl rfl) ?_
              refine ho_ev rfl rfl rfl (ev_assign rfl rfl) ?_
              refine ho_nil ?_
              refine hx_then ?_
              refine ht_region ?_
              refine ho_ev rfl rfl rfl (ev_move rfl rfl) ?_
              refine ho_ev rfl rfl rfl (ev_move rfl rfl) ?_
              refine ho_ev rfl rfl rfl (ev_move rfl rfl) ?_
              refine ho_ev rfl rfl rfl (ev_str rfl Try.underlying36 Try.underlying5 Try.underlying9 rfl (by first | exact reads_ro (by (with_reducible repeat constructor); done) | exact reads_own (by (with_reducible repeat constructor); done) | exact reads_nil _)) ?_
              refine ho_ev rfl rfl rfl (ev_move rfl rfl) ?_
              refine ho_eq rfl rfl rfl rfl rfl rfl (fun g48 => ?_) (fun g48 => ?_)
              ·first | (exfalso; first | omega | (simp at g48; done) | contradiction) | skip
               all_goals (
                refine ho_ev rfl rfl rfl (ev_indexAddrA rfl Try.underlying34 Try.ty9 rfl rfl (by omega) (by omega)) ?_
                refine ho_eff0 rfl rfl (eff_store1 (c' := arrC (fun i => vS ((D.view i).getD [])) (vS []) (q + 1)) rfl Try.ty9 rfl rfl (by (with_reducible repeat constructor); done) rfl rfl (by rw [arrC_size]; omega) (by rw [(show 0 + ((q : Int)).toNat * 1 = q by omega)]; have hA := arrC_set (fun i => vS ((D.view i).getD [])) (vS []) (j := q) (by omega); have hv1 : D.view q = _ := hv; simp only [hv1, Option.getD_none, Option.getD_some] at hA; exact hA)) (fun _ => ?_)
                refine ho_ev rfl rfl rfl (ev_indexAddrA rfl Try.underlying35 Try.ty4 rfl rfl (by omega) (by omega)) ?_
                refine ho_eff0 rfl rfl (eff_store1 (c' := arrC (fun i => .bool (D.view i).isSome) (.bool false) (q + 1)) rfl Try.ty4 rfl rfl (by (with_reducible repeat constructor); done) rfl rfl (by rw [arrC_size]; omega) (by rw [(show 0 + ((q : Int)).toNat * 1 = q by omega)]; have hA := arrC_set (fun i => .bool (D.view i).isSome) (.bool false) (j := q) (by omega); have hv1 : D.view q = _ := hv; simp only [hv1, Option.isSome_none, Option.isSome_some] at hA; exact hA)) (fun _ => ?_)
                refine ho_nil ?_
                refine hx_block_normal ?_
                refine hx_then ?_
                refine ht_region ?_
                refine ho_ev rfl rfl rfl (ev_move rfl rfl) ?_
                refine ho_ev rfl rfl rfl (ev_add rfl rfl rfl (by first | exact in_i64 (by omega) | rfl)) ?_
                refine ho_ev rfl rfl rfl (ev_assign rfl rfl) ?_
                refine ho_nil ?_
                refine hx_again (I := (fun q : Nat => ([DiskAt b0 D.sync, pt b12 (.cells (arrC (fun i => vS ((D.view i).getD [])) (vS []) q) 34 (0, 0)), pt b13 (.cells (arrC (fun i => .bool (D.view i).isSome) (.bool false) q) 35 (0, 0)), ro (roS a1 xs1.length xs1), ro (actsR xs1 ms1), ro (roS a2 xs2.length xs2), ro (actsR xs2 ms2), ro (roS a3 cl.length cl), pu (q ≤ 21), F], [(14, .int .i64 q), (12, .pointer (some ⟨b12, 0, none⟩)), (13, .pointer (some ⟨b13, 0, none⟩)), (2, .slice a3 cl.length c3), (8, .slice a2 xs2.length c2), (9, .pointer (some ⟨b0, 0, none⟩))]))) (μ := (fun q : Nat => 21 - q)) (i := q) (q + 1) ?_ ?_ ?_
                ·(first | dsimp only | skip); omega
                ·repeat (first | exact EnvSub.nil _ | (refine EnvSub.cons rfl ?_))
                ·(first | dsimp only | skip)
                 exact Ent.cons (by (repeat constructor); done) (Ent.cons (by (repeat constructor); done) (Ent.cons (by (repeat constructor); done) (Ent.cons (by (repeat constructor); done) (Ent.cons (by (repeat constructor); done) (Ent.cons (by (repeat constructor); done) (Ent.cons (by (repeat constructor); done) (Ent.cons (by (repeat constructor); done) (Ent.pu (by omega) (Ent.cons (by (repeat constructor); done) Ent.nil)))))))))
               )
              ·first | (exfalso; first | omega | (simp at g48; done) | contradiction) | skip
               all_goals (
                refine ho_ev rfl rfl rfl (ev_indexAddrA rfl Try.underlying34 Try.ty9 rfl rfl (by omega) (by omega)) ?_
                refine ho_eff0 rfl rfl (eff_store1 (c' := arrC (fun i => vS ((D.view i).getD [])) (vS []) (q + 1)) rfl Try.ty9 rfl rfl (by (with_reducible repeat constructor); done) rfl rfl (by rw [arrC_size]; omega) (by rw [(show 0 + ((q : Int)).toNat * 1 = q by omega)]; have hA := arrC_set (fun i => vS ((D.view i).getD [])) (vS []) (j := q) (by omega); have hv1 : D.view q = _ := hv; simp only [hv1, Option.getD_none, Option.getD_some] at hA; exact hA)) (fun _ => ?_)
                refine ho_ev rfl rfl rfl (ev_indexAddrA rfl Try.underlying35 Try.ty4 rfl rfl (by omega) (by omega)) ?_
                refine ho_eff0 rfl rfl (eff_store1 (c' := arrC (fun i => .bool (D.view i).isSome) (.bool false) (q + 1)) rfl Try.ty4 rfl rfl (by (with_reducible repeat constructor); done) rfl rfl (by rw [arrC_size]; omega) (by rw [(show 0 + ((q : Int)).toNat * 1 = q by omega)]; have hA := arrC_set (fun i => .bool (D.view i).isSome) (.bool false) (j := q) (by omega); have hv1 : D.view q = _ := hv; simp only [hv1, Option.isSome_none, Option.isSome_some] at hA; exact hA)) (fun _ => ?_)
                refine ho_nil ?_
                refine hx_block_normal ?_
                refine hx_then ?_
                refine ht_region ?_
                refine ho_ev rfl rfl rfl (ev_move rfl rfl) ?_
                refine ho_ev rfl rfl rfl (ev_add rfl rfl rfl (by first | exact in_i64 (by omega) | rfl)) ?_
                refine ho_ev rfl rfl rfl (ev_assign rfl rfl) ?_
                refine ho_nil ?_
                refine hx_again (I := (fun q : Nat => ([DiskAt b0 D.sync, pt b12 (.cells (arrC (fun i => vS ((D.view i).getD [])) (vS []) q) 34 (0, 0)), pt b13 (.cells (arrC (fun i => .bool (D.view i).isSome) (.bool false) q) 35 (0, 0)), ro (roS a1 xs1.length xs1), ro (actsR xs1 ms1), ro (roS a2 xs2.length xs2), ro (actsR xs2 ms2), ro (roS a3 cl.length cl), pu (q ≤ 21), F], [(14, .int .i64 q), (12, .pointer (some ⟨b12, 0, none⟩)), (13, .pointer (some ⟨b13, 0, none⟩)), (2, .slice a3 cl.length c3), (8, .slice a2 xs2.length c2), (9, .pointer (some ⟨b0, 0, none⟩))]))) (μ := (fun q : Nat => 21 - q)) (i := q) (q + 1) ?_ ?_ ?_
                ·(first | dsimp only | skip); omega
                ·repeat (first | exact EnvSub.nil _ | (refine EnvSub.cons rfl ?_))
                ·(first | dsimp only | skip)
                 exact Ent.cons (by (repeat constructor); done) (Ent.cons (by (repeat constructor); done) (Ent.cons (by (repeat constructor); done) (Ent.cons (by (repeat constructor); done) (Ent.cons (by (repeat constructor); done) (Ent.cons (by (repeat constructor); done) (Ent.cons (by (repeat constructor); done) (Ent.cons (by (repeat constructor); done) (Ent.pu (by omega) (Ent.cons (by (repeat constructor); done) Ent.nil)))))))))
               )
            )
           ·first | (exfalso; first | omega | (simp at g46; done) | contradiction) | skip
            all_goals (
             refine ho_nil ?_
             refine hx_then ?_
             refine ht_else rfl ?_
             refine ht_exit ?_
             refine hx_through trivial ?_
             refine hx_through trivial ?_
             refine hx_block_here ?_
             refine hx_then ?_
             refine ht_seq ?_
             obtain rfl : q = 21 := by omega
             refine ht_region ?_
             refine ho_eff rfl rfl rfl (eff_alloc rfl Try.ty35 (by first | exact cells_agg _ | exact rfl)) (fun b17 => ?_)
             refine ho_nil ?_
             refine hx_then ?_
             refine ht_join (fun g : Dk.Disk × (Nat → Bool) => ([DiskAt b0 g.1, pt b12 (.cells (arrC (fun i => vS ((D.view i).getD [])) (vS []) 21) 34 (0, 0)), pt b13 (.cells (arrC (fun i => .bool (D.view i).isSome) (.bool false) 21) 35 (0, 0)), pt b17 (.cells (arrC (fun i => .bool (g.2 i)) (.bool false) 21) 35 (0, 0)), ro (roS a1 xs1.length xs1), ro (actsR xs1 ms1), ro (roS a2 xs2.length xs2), ro (actsR xs2 ms2), ro (roS a3 cl.length cl), pu (Dk.Keep D.view g.1 g.2 ∧ g.1.pend.length ≤ 30), F], [(17, .pointer (some ⟨b17, 0, none⟩)), (12, .pointer (some ⟨b12, 0, none⟩)), (13, .pointer (some ⟨b13, 0, none⟩)), (2, .slice a3 cl.length c3), (8, .slice a2 xs2.length c2), (9, .pointer (some ⟨b0, 0, none⟩))])) ?_ (fun g => ?_)
             ·skip
              refine ht_seq ?_
              refine ht_region ?_
              refine ho_ev rfl rfl rfl (ev_assign rfl rfl) ?_
              refine ho_nil ?_
              refine hx_then ?_
              refine ht_block ?_
              refine ht_loop (fun q : Nat × Dk.Disk × (Nat → Bool) => ([DiskAt b0 q.2.1, pt b12 (.cells (arrC (fun i => vS ((D.view i).getD [])) (vS []) 21) 34 (0, 0)), pt b13 (.cells (arrC (fun i => .bool (D.view i).isSome) (.bool false) 21) 35 (0, 0)), pt b17 (.cells (arrC (fun i => .bool (q.2.2 i)) (.bool false) 21) 35 (0, 0)), ro (roS a1 xs1.length xs1), ro (actsR xs1 ms1), ro (roS a2 xs2.length xs2), ro (actsR xs2 ms2), ro (roS a3 cl.length cl), pu (Dk.Keep D.view q.2.1 q.2.2 ∧ q.2.1.pend.length ≤ q.1 ∧ q.1 ≤ 30 ∧ q.1 ≤ xs2.length), F], [(18, .int .i64 q.1), (17, .pointer (some ⟨b17, 0, none⟩)), (12, .pointer (some ⟨b12, 0, none⟩)), (13, .pointer (some ⟨b13, 0, none⟩)), (2, .slice a3 cl.length c3), (8, .slice a2 xs2.length c2), (9, .pointer (some ⟨b0, 0, none⟩))])) (fun q : Nat × Dk.Disk × (Nat → Bool) => 30 - q.1) (0, D.sync, fun _ => false) ?_ (by repeat (first | exact EnvSub.nil _ | (refine EnvSub.cons rfl ?_))) (fun q => ?_)
              ·(first | dsimp only | skip)
               exact Ent.cons (by (repeat constructor); done) (Ent.cons (by (repeat constructor); done) (Ent.cons (by (repeat constructor); done) (Ent.cons (by (repeat constructor); done) (Ent.cons (by (repeat constructor); done) (Ent.cons (by (repeat constructor); done) (Ent.cons (by (repeat constructor); done) (Ent.cons (by (repeat constructor); done) (Ent.cons (by (repeat constructor); done) (Ent.pu ⟨Dk.keep_start hnn, by simp [Dk.Disk.sync], by omega, by omega⟩ (Ent.cons (by (repeat constructor); done) Ent.nil))))))))))
              obtain ⟨q, d, T⟩ := q
              dsimp only
              refine ht_pick (A := pu (Dk.Keep D.view d T ∧ d.pend.length ≤ q ∧ q ≤ 30 ∧ q ≤ xs2.length)) (by (repeat constructor); done) (ht_pure fun hq => ?_)
              obtain ⟨hkeep, hpl2, hq1, hq2⟩ := hq
              refine ht_seq ?_
              refine ht_seq ?_
              refine ht_region ?_
              refine ho_ev rfl rfl rfl (ev_move rfl rfl) ?_
              refine ho_ev rfl rfl rfl (ev_move rfl rfl) ?_
              refine ho_ev rfl rfl rfl (ev_lenSl rfl Try.underlying22 rfl) ?_
              refine ho_lt rfl rfl rfl rfl rfl rfl (fun g49 => ?_) (fun g49 => ?_)
              ·first | (exfalso; first | omega | (simp at g49; done) | contradiction) | skip
               all_goals (
                refine ho_ev rfl rfl rfl (ev_move rfl rfl) ?_
                refine ho_evg rfl rfl rfl rfl (ev_move rfl rfl) ?_
                refine ho_ltg rfl rfl rfl rfl rfl rfl rfl (fun g50 => ?_) (fun g50 => ?_)
                ·first | (exfalso; first | omega | (simp at g50; done) | contradiction) | skip
                 all_goals (
                  refine ho_ev rfl rfl rfl (ev_pick_t rfl rfl rfl) ?_
                  refine ho_nil ?_
                  refine hx_then ?_
                  refine ht_then rfl ?_
                  refine ht_skip ?_
                  refine hx_then ?_
                  refine ht_join (fun g : Dk.Disk × (Nat → Bool) => ([DiskAt b0 g.1, pt b12 (.cells (arrC (fun i => vS ((D.view i).getD [])) (vS []) 21) 34 (0, 0)), pt b13 (.cells (arrC (fun i => .bool (D.view i).isSome) (.bool false) 21) 35 (0, 0)), pt b17 (.cells (arrC (fun i => .bool (g.2 i)) (.bool false) 21) 35 (0, 0)), ro (roS a1 xs1.length xs1), ro (actsR xs1 ms1), ro (roS a2 xs2.length xs2), ro (actsR xs2 ms2), ro (roS a3 cl.length cl), pu (Dk.Keep D.view g.1 g.2 ∧ g.1.pend.length ≤ q + 1), F], [(18, .int .i64 q), (17, .pointer (some ⟨b17, 0, none⟩)), (12, .pointer (some ⟨b12, 0, none⟩)), (13, .pointer (some ⟨b13, 0, none⟩)), (2, .slice a3 cl.length c3), (8, .slice a2 xs2.length c2), (9, .pointer (some ⟨b0, 0, none⟩))])) ?_ (fun g => ?_)
                  ·skip
                   refine ht_block ?_
                   refine ht_seq ?_
                   refine ht_actAt (xs := xs2) (ms := ms2) (i := q) (by omega) (by (with_reducible repeat constructor); done) (fun x0 m0 hx0 hm0 => ?_)
                   refine ht_someS (α := ActV) (a := a2) (xs := xs2) (reads_ro (by (with_reducible repeat constructor); done)) (by omega) (fun ab ao ha => ?_)
                   refine ht_region ?_
                   refine ho_ev rfl rfl rfl (ev_move rfl rfl) ?_
                   refine ho_ev rfl rfl rfl (ev_move rfl rfl) ?_
                   refine ho_ev rfl rfl rfl (ev_indexAddr rfl Try.underlying22 Try.ty32 (congrArg (fun z => some (Value.slice z xs2.length c2)) ha) rfl (by omega) (by omega)) ?_
                   refine ho_ev rfl rfl rfl (ev_loadA rfl Try.underlying32 Try.ty32 rfl rfl (cells_Sa ha (reads_ro (by (with_reducible repeat constructor); done)) hx0)) ?_
                   refine ho_eff rfl rfl rfl (eff_call rfl rfl (.cons rfl .nil) rfl (law_few x0 m0) (by repeat (first | exact Picks.nil | (apply Picks.ro; focus ((repeat constructor); done)) | (apply Picks.cons; focus ((repeat constructor); done)))) (fun _ => by repeat (first | exact App.nil | apply App.cons))) (fun y => ?_)
                   refine ho_eff rfl rfl rfl (eff_alloc rfl Try.ty32 (by first | exact cells_agg _ | exact rfl)) (fun b19 => ?_)
                   refine ho_eff0 rfl rfl (eff_storeA rfl Try.ty32 rfl rfl (by (with_reducible repeat constructor); done) rfl rfl rfl (by simp only [setRange, List.setIfInBounds_toArray, List.set_cons_zero, List.set_cons_succ, Nat.zero_add]; rfl)) (fun _ => ?_)
                   refine ho_nil ?_
                   refine hx_then ?_
                   refine ht_seq ?_
                   refine ht_seq ?_
                   refine ht_act (x := y) (m := m0.few) (by (with_reducible repeat constructor); done) (fun hyk hyp hyb hyl hyc => ?_)
                   refine ht_region ?_
                   refine ho_ev rfl rfl rfl (by first | exact ev_fieldAddr0 rfl Try.fld32_0 rfl | exact ev_fieldAddr rfl Try.fld32_0 rfl) ?_
                   refine ho_ev rfl rfl rfl (ev_load rfl Try.underlying3 rfl rfl (by first | exact cell_pt (by (with_reducible repeat constructor); done) rfl | exact cell_ro (by (with_reducible repeat constructor); done) rfl)) ?_
                   refine ho_ne rfl rfl rfl rfl rfl rfl (fun g51 => ?_) (fun g51 => ?_)
                   ·first | (exfalso; first | omega | (simp at g51; done) | contradiction) | skip
                    all_goals (
                     refine ho_ev rfl rfl rfl (ev_move rfl rfl) ?_
                     refine ho_evg rfl rfl rfl rfl (by first | exact ev_fieldAddr0 rfl Try.fld32_0 rfl | exact ev_fieldAddr rfl Try.fld32_0 rfl) ?_
                     refine ho_evg rfl rfl rfl rfl (ev_load rfl Try.underlying3 rfl rfl (by first | exact cell_pt (by (with_reducible repeat constructor); done) rfl | exact cell_ro (by (with_reducible repeat constructor); done) rfl)) ?_
                     refine ho_neg rfl rfl rfl rfl rfl rfl rfl (fun g52 => ?_) (fun g52 => ?_)
                     ·first | (exfalso; first | omega | (simp at g52; done) | contradiction) | skip
                      all_goals (
                       refine ho_ev rfl rfl rfl (ev_pick_t rfl rfl rfl) ?_
                       refine ho_nil ?_
                       refine hx_then ?_
                       refine ht_then rfl ?_
                       refine ht_exit ?_
                       refine hx_through trivial ?_
                       refine hx_block_here ?_
                       refine hx_joined (I := (fun g : Dk.Disk × (Nat → Bool) => ([DiskAt b0 g.1, pt b12 (.cells (arrC (fun i => vS ((D.view i).getD [])) (vS []) 21) 34 (0, 0)), pt b13 (.cells (arrC (fun i => .bool (D.view i).isSome) (.bool false) 21) 35 (0, 0)), pt b17 (.cells (arrC (fun i => .bool (g.2 i)) (.bool false) 21) 35 (0, 0)), ro (roS a1 xs1.length xs1), ro (actsR xs1 ms1), ro (roS a2 xs2.length xs2), ro (actsR xs2 ms2), ro (roS a3 cl.length cl), pu (Dk.Keep D.view g.1 g.2 ∧ g.1.pend.length ≤ q + 1), F], [(18, .int .i64 q), (17, .pointer (some ⟨b17, 0, none⟩)), (12, .pointer (some ⟨b12, 0, none⟩)), (13, .pointer (some ⟨b13, 0, none⟩)), (2, .slice a3 cl.length c3), (8, .slice a2 xs2.length c2), (9, .pointer (some ⟨b0, 0, none⟩))]))) (d, T) ?_ ?_
                       ·repeat (first | exact EnvSub.nil _ | (refine EnvSub.cons rfl ?_))
                       ·(first | dsimp only | skip)
                        exact Ent.cons (by (repeat constructor); done) (Ent.cons (by (repeat constructor); done) (Ent.cons (by (repeat constructor); done) (Ent.cons (by (repeat constructor); done) (Ent.cons (by (repeat constructor); done) (Ent.cons (by (repeat constructor); done) (Ent.cons (by (repeat constructor); done) (Ent.cons (by (repeat constructor); done) (Ent.cons (by (repeat constructor); done) (Ent.pu ⟨hkeep, by omega⟩ (Ent.cons (by (repeat constructor); done) Ent.nil))))))))))
                      )
                     ·first | (exfalso; first | omega | (simp at g52; done) | contradiction) | skip
                      all_goals (
                       refine ho_ev rfl rfl rfl (ev_pick_t rfl rfl rfl) ?_
                       refine ho_nil ?_
                       refine hx_then ?_
                       refine ht_else rfl ?_
                       refine ht_skip ?_
                       refine hx_then ?_
                       refine ht_seq ?_
                       have hkd : m0.few.kind = 0 ∨ m0.few.kind = 1 := by omega
                       refine ht_region ?_
                       refine ho_ev rfl rfl rfl (ev_move rfl rfl) ?_
                       refine ho_ev rfl rfl rfl (ev_loadA rfl Try.underlying32 Try.ty32 rfl rfl (by first | exact cells_pt (by (with_reducible repeat constructor); done) (Nat.le_of_ble_eq_true rfl) (by simp only [List.extract_toArray, List.extract_eq_take_drop, Nat.zero_add, Nat.sub_zero, Nat.add_sub_cancel_left, List.drop_zero, List.take_succ_cons, List.take_zero, List.drop_succ_cons]; rfl) | exact cells_ro (by (with_reducible repeat constructor); done) (Nat.le_of_ble_eq_true rfl) (by simp only [List.extract_toArray, List.extract_eq_take_drop, Nat.zero_add, Nat.sub_zero, Nat.add_sub_cancel_left, List.drop_zero, List.take_succ_cons, List.take_zero, List.drop_succ_cons]; rfl))) ?_
                       refine ho_eff rfl rfl rfl (eff_call rfl rfl (.cons rfl (.cons rfl .nil)) rfl (law_do b0 d y m0.few (Dk.MAct.few_short m0) (by omega)) (by repeat (first | exact Picks.nil | (apply Picks.ro; focus ((repeat constructor); done)) | (apply Picks.cons; focus ((repeat constructor); done)))) (fun _ => by repeat (first | exact App.nil | apply App.cons))) (fun _ => ?_)
                       refine ho_eq rfl rfl rfl rfl rfl rfl (fun g53 => ?_) (fun g53 => ?_)
                       ·first | (exfalso; first | omega | (simp at g53; done) | contradiction) | skip
                        all_goals (
                         refine ho_ev rfl rfl rfl (ev_move rfl rfl) ?_
                         refine ho_evg rfl rfl rfl rfl (by first | exact ev_fieldAddr0 rfl Try.fld32_1 rfl | exact ev_fieldAddr rfl Try.fld32_1 rfl) ?_
                         refine ho_evg rfl rfl rfl rfl (ev_load rfl Try.underlying3 rfl rfl (by first | exact cell_pt (by (with_reducible repeat constructor); done) rfl | exact cell_ro (by (with_reducible repeat constructor); done) rfl)) ?_
                         refine ho_ltg rfl rfl rfl rfl rfl rfl rfl (fun g54 => ?_) (fun g54 => ?_)
                         ·first | (exfalso; first | omega | (simp at g54; done) | contradiction) | skip
                          all_goals (
                           refine ho_ev rfl rfl rfl (ev_pick_t rfl rfl rfl) ?_
                           refine ho_nil ?_
                           refine hx_then ?_
                           refine ht_then rfl ?_
                           have hpl0 := Dk.aerr_place hkeep.nn hkd (by omega)
                           refine ht_region ?_
                           refine ho_ev rfl rfl rfl (by first | exact ev_fieldAddr0 rfl Try.fld32_1 rfl | exact ev_fieldAddr rfl Try.fld32_1 rfl) ?_
                           refine ho_ev rfl rfl rfl (ev_load rfl Try.underlying3 rfl rfl (by first | exact cell_pt (by (with_reducible repeat constructor); done) rfl | exact cell_ro (by (with_reducible repeat constructor); done) rfl)) ?_
                           refine ho_ev rfl rfl rfl (ev_indexAddrA rfl Try.underlying35 Try.ty4 rfl rfl (by omega) (by omega)) ?_
                           refine ho_eff0 rfl rfl (eff_store1 (c' := arrC (fun i => .bool (Dk.touch T m0.few.place i)) (.bool false) 21) rfl Try.ty4 rfl rfl (by (with_reducible repeat constructor); done) rfl rfl (by rw [arrC_size]; omega) (by rw [show 0 + y.place.toNat * 1 = m0.few.place.toNat by omega]; exact arrC_touch T _ hpl0 (by omega))) (fun _ => ?_)
                           refine ho_nil ?_
                           refine hx_block_normal ?_
                           refine hx_joined (I := (fun g : Dk.Disk × (Nat → Bool) => ([DiskAt b0 g.1, pt b12 (.cells (arrC (fun i => vS ((D.view i).getD [])) (vS []) 21) 34 (0, 0)), pt b13 (.cells (arrC (fun i => .bool (D.view i).isSome) (.bool false) 21) 35 (0, 0)), pt b17 (.cells (arrC (fun i => .bool (g.2 i)) (.bool false) 21) 35 (0, 0)), ro (roS a1 xs1.length xs1), ro (actsR xs1 ms1), ro (roS a2 xs2.length xs2), ro (actsR xs2 ms2), ro (roS a3 cl.length cl), pu (Dk.Keep D.view g.1 g.2 ∧ g.1.pend.length ≤ q + 1), F], [(18, .int .i64 q), (17, .pointer (some ⟨b17, 0, none⟩)), (12, .pointer (some ⟨b12, 0, none⟩)), (13, .pointer (some ⟨b13, 0, none⟩)), (2, .slice a3 cl.length c3), (8, .slice a2 xs2.length c2), (9, .pointer (some ⟨b0, 0, none⟩))]))) (d.act m0.few, Dk.touch T m0.few.place) ?_ ?_
                           ·repeat (first | exact EnvSub.nil _ | (refine EnvSub.cons rfl ?_))
                           ·(first | dsimp only | skip)
                            exact Ent.cons (by (repeat constructor); done) (Ent.cons (by (repeat constructor); done) (Ent.cons (by (repeat constructor); done) (Ent.cons (by (repeat constructor); done) (Ent.cons (by (repeat constructor); done) (Ent.cons (by (repeat constructor); done) (Ent.cons (by (repeat constructor); done) (Ent.cons (by (repeat constructor); done) (Ent.cons (by (repeat constructor); done) (Ent.pu ⟨Dk.keep_yes hkeep hkd (by omega), by have := Dk.act_len d m0.few; omega⟩ (Ent.cons (by (repeat constructor); done) Ent.nil))))))))))
                          )
                         ·first | (exfalso; first | omega | (simp at g54; done) | contradiction) | skip
                          all_goals (
                           refine ho_ev rfl rfl rfl (ev_pick_t rfl rfl rfl) ?_
                           refine ho_nil ?_
                           refine hx_then ?_
                           refine ht_else rfl ?_
                           refine ht_skip ?_
                           refine hx_block_normal ?_
                           refine hx_joined (I := (fun g : Dk.Disk × (Nat → Bool) => ([DiskAt b0 g.1, pt b12 (.cells (arrC (fun i => vS ((D.view i).getD [])) (vS []) 21) 34 (0, 0)), pt b13 (.cells (arrC (fun i => .bool (D.view i).isSome) (.bool false) 21) 35 (0, 0)), pt b17 (.cells (arrC (fun i => .bool (g.2 i)) (.bool false) 21) 35 (0, 0)), ro (roS a1 xs1.length xs1), ro (actsR xs1 ms1), ro (roS a2 xs2.length xs2), ro (actsR xs2 ms2), ro (roS a3 cl.length cl), pu (Dk.Keep D.view g.1 g.2 ∧ g.1.pend.length ≤ q + 1), F], [(18, .int .i64 q), (17, .pointer (some ⟨b17, 0, none⟩)), (12, .pointer (some ⟨b12, 0, none⟩)), (13, .pointer (some ⟨b13, 0, none⟩)), (2, .slice a3 cl.length c3), (8, .slice a2 xs2.length c2), (9, .pointer (some ⟨b0, 0, none⟩))]))) (d.act m0.few, T) ?_ ?_
                           ·repeat (first | exact EnvSub.nil _ | (refine EnvSub.cons rfl ?_))
                           ·(first | dsimp only | skip)
                            exact Ent.cons (by (repeat constructor); done) (Ent.cons (by (repeat constructor); done) (Ent.cons (by (repeat constructor); done) (Ent.cons (by (repeat constructor); done) (Ent.cons (by (repeat constructor); done) (Ent.cons (by (repeat constructor); done) (Ent.cons (by (repeat constructor); done) (Ent.cons (by (repeat constructor); done) (Ent.cons (by (repeat constructor); done) (Ent.pu ⟨Dk.keep_far hkeep hkd (by omega) (by omega), by have := Dk.act_len d m0.few; omega⟩ (Ent.cons (by (repeat constructor); done) Ent.nil))))))))))
                          )
                        )
                       ·first | (exfalso; first | omega | (simp at g53; done) | contradiction) | skip
                        all_goals (
                         refine ho_ev rfl rfl rfl (ev_move rfl rfl) ?_
                         refine ho_pass rfl rfl rfl rfl ?_
                         refine ho_pass rfl rfl rfl rfl ?_
                         refine ho_pass rfl rfl rfl rfl ?_
                         refine ho_ev rfl rfl rfl (ev_pick_f rfl rfl rfl) ?_
                         refine ho_nil ?_
                         refine hx_then ?_
                         refine ht_else rfl ?_
                         refine ht_skip ?_
                         refine hx_block_normal ?_
                         refine hx_joined (I := (fun g : Dk.Disk × (Nat → Bool) => ([DiskAt b0 g.1, pt b12 (.cells (arrC (fun i => vS ((D.view i).getD [])) (vS []) 21) 34 (0, 0)), pt b13 (.cells (arrC (fun i => .bool (D.view i).isSome) (.bool false) 21) 35 (0, 0)), pt b17 (.cells (arrC (fun i => .bool (g.2 i)) (.bool false) 21) 35 (0, 0)), ro (roS a1 xs1.length xs1), ro (actsR xs1 ms1), ro (roS a2 xs2.length xs2), ro (actsR xs2 ms2), ro (roS a3 cl.length cl), pu (Dk.Keep D.view g.1 g.2 ∧ g.1.pend.length ≤ q + 1), F], [(18, .int .i64 q), (17, .pointer (some ⟨b17, 0, none⟩)), (12, .pointer (some ⟨b12, 0, none⟩)), (13, .pointer (some ⟨b13, 0, none⟩)), (2, .slice a3 cl.length c3), (8, .slice a2 xs2.length c2), (9, .pointer (some ⟨b0, 0, none⟩))]))) (d.act m0.few, T) ?_ ?_
                         ·repeat (first | exact EnvSub.nil _ | (refine EnvSub.cons rfl ?_))
                         ·(first | dsimp only | skip)
                          exact Ent.cons (by (repeat constructor); done) (Ent.cons (by (repeat constructor); done) (Ent.cons (by (repeat constructor); done) (Ent.cons (by (repeat constructor); done) (Ent.cons (by (repeat constructor); done) (Ent.cons (by (repeat constructor); done) (Ent.cons (by (repeat constructor); done) (Ent.cons (by (repeat constructor); done) (Ent.cons (by (repeat constructor); done) (Ent.pu ⟨Dk.keep_no hkeep hkd (by omega), by have := Dk.act_len d m0.few; omega⟩ (Ent.cons (by (repeat constructor); done) Ent.nil))))))))))
                        )
                      )
                    )
                   ·first | (exfalso; first | omega | (simp at g51; done) | contradiction) | skip
                    all_goals (
                     refine ho_ev rfl rfl rfl (ev_move rfl rfl) ?_
                     refine ho_pass rfl rfl rfl rfl ?_
                     refine ho_pass rfl rfl rfl rfl ?_
                     refine ho_pass rfl rfl rfl rfl ?_
                     refine ho_ev rfl rfl rfl (ev_pick_f rfl rfl rfl) ?_
                     refine ho_nil ?_
                     refine hx_then ?_
                     refine ht_else rfl ?_
                     refine ht_skip ?_
                     refine hx_then ?_
                     refine ht_seq ?_
                     have hkd : m0.few.kind = 0 ∨ m0.few.kind = 1 := by omega
                     refine ht_region ?_
                     refine ho_ev rfl rfl rfl (ev_move rfl rfl) ?_
                     refine ho_ev rfl rfl rfl (ev_loadA rfl Try.underlying32 Try.ty32 rfl rfl (by first | exact cells_pt (by (with_reducible repeat constructor); done) (Nat.le_of_ble_eq_true rfl) (by simp only [List.extract_toArray, List.extract_eq_take_drop, Nat.zero_add, Nat.sub_zero, Nat.add_sub_cancel_left, List.drop_zero, List.take_succ_cons, List.take_zero, List.drop_succ_cons]; rfl) | exact cells_ro (by (with_reducible repeat constructor); done) (Nat.le_of_ble_eq_true rfl) (by simp only [List.extract_toArray, List.extract_eq_take_drop, Nat.zero_add, Nat.sub_zero, Nat.add_sub_cancel_left, List.drop_zero, List.take_succ_cons, List.take_zero, List.drop_succ_cons]; rfl))) ?_
                     refine ho_eff rfl rfl rfl (eff_call rfl rfl (.cons rfl (.cons rfl .nil)) rfl (law_do b0 d y m0.few (Dk.MAct.few_short m0) (by omega)) (by repeat (first | exact Picks.nil | (apply Picks.ro; focus ((repeat constructor); done)) | (apply Picks.cons; focus ((repeat constructor); done)))) (fun _ => by repeat (first | exact App.nil | apply App.cons))) (fun _ => ?_)
                     refine ho_eq rfl rfl rfl rfl rfl rfl (fun g55 => ?_) (fun g55 => ?_)
                     ·first | (exfalso; first | omega | (simp at g55; done) | contradiction) | skip
                      all_goals (
                       refine ho_ev rfl rfl rfl (ev_move rfl rfl) ?_
                       refine ho_evg rfl rfl rfl rfl (by first | exact ev_fieldAddr0 rfl Try.fld32_1 rfl | exact ev_fieldAddr rfl Try.fld32_1 rfl) ?_
                       refine ho_evg rfl rfl rfl rfl (ev_load rfl Try.underlying3 rfl rfl (by first | exact cell_pt (by (with_reducible repeat constructor); done) rfl | exact cell_ro (by (with_reducible repeat constructor); done) rfl)) ?_
                       refine ho_ltg rfl rfl rfl rfl rfl rfl rfl (fun g56 => ?_) (fun g56 => ?_)
                       ·first | (exfalso; first | omega | (simp at g56; done) | contradiction) | skip
                        all_goals (
                         refine ho_ev rfl rfl rfl (ev_pick_t rfl rfl rfl) ?_
                         refine ho_nil ?_
                         refine hx_then ?_
                         refine ht_then rfl ?_
                         have hpl0 := Dk.aerr_place hkeep.nn hkd (by omega)
                         refine ht_region ?_
                         refine ho_ev rfl rfl rfl (by first | exact ev_fieldAddr0 rfl Try.fld32_1 rfl | exact ev_fieldAddr rfl Try.fld32_1 rfl) ?_
                         refine ho_ev rfl rfl rfl (ev_load rfl Try.underlying3 rfl rfl (by first | exact cell_pt (by (with_reducible repeat constructor); done) rfl | exact cell_ro (by (with_reducible repeat constructor); done) rfl)) ?_
                         refine ho_ev rfl rfl rfl (ev_indexAddrA rfl Try.underlying35 Try.ty4 rfl rfl (by omega) (by omega)) ?_
                         refine ho_eff0 rfl rfl (eff_store1 (c' := arrC (fun i => .bool (Dk.touch T m0.few.place i)) (.bool false) 21) rfl Try.ty4 rfl rfl (by (with_reducible repeat constructor); done) rfl rfl (by rw [arrC_size]; omega) (by rw [show 0 + y.place.toNat * 1 = m0.few.place.toNat by omega]; exact arrC_touch T _ hpl0 (by omega))) (fun _ => ?_)
                         refine ho_nil ?_
                         refine hx_block_normal ?_
                         refine hx_joined (I := (fun g : Dk.Disk × (Nat → Bool) => ([DiskAt b0 g.1, pt b12 (.cells (arrC (fun i => vS ((D.view i).getD [])) (vS []) 21) 34 (0, 0)), pt b13 (.cells (arrC (fun i => .bool (D.view i).isSome) (.bool false) 21) 35 (0, 0)), pt b17 (.cells (arrC (fun i => .bool (g.2 i)) (.bool false) 21) 35 (0, 0)), ro (roS a1 xs1.length xs1), ro (actsR xs1 ms1), ro (roS a2 xs2.length xs2), ro (actsR xs2 ms2), ro (roS a3 cl.length cl), pu (Dk.Keep D.view g.1 g.2 ∧ g.1.pend.length ≤ q + 1), F], [(18, .int .i64 q), (17, .pointer (some ⟨b17, 0, none⟩)), (12, .pointer (some ⟨b12, 0, none⟩)), (13, .pointer (some ⟨b13, 0, none⟩)), (2, .slice a3 cl.length c3), (8, .slice a2 xs2.length c2), (9, .pointer (some ⟨b0, 0, none⟩))]))) (d.act m0.few, Dk.touch T m0.few.place) ?_ ?_
                         ·repeat (first | exact EnvSub.nil _ | (refine EnvSub.cons rfl ?_))
                         ·(first | dsimp only | skip)
                          exact Ent.cons (by (repeat constructor); done) (Ent.cons (by (repeat constructor); done) (Ent.cons (by (repeat constructor); done) (Ent.cons (by (repeat constructor); done) (Ent.cons (by (repeat constructor); done) (Ent.cons (by (repeat constructor); done) (Ent.cons (by (repeat constructor); done) (Ent.cons (by (repeat constructor); done) (Ent.cons (by (repeat constructor); done) (Ent.pu ⟨Dk.keep_yes hkeep hkd (by omega), by have := Dk.act_len d m0.few; omega⟩ (Ent.cons (by (repeat constructor); done) Ent.nil))))))))))
                        )
                       ·first | (exfalso; first | omega | (simp at g56; done) | contradiction) | skip
                        all_goals (
                         refine ho_ev rfl rfl rfl (ev_pick_t rfl rfl rfl) ?_
                         refine ho_nil ?_
                         refine hx_then ?_
                         refine ht_else rfl ?_
                         refine ht_skip ?_
                         refine hx_block_normal ?_
                         refine hx_joined (I := (fun g : Dk.Disk × (Nat → Bool) => ([DiskAt b0 g.1, pt b12 (.cells (arrC (fun i => vS ((D.view i).getD [])) (vS []) 21) 34 (0, 0)), pt b13 (.cells (arrC (fun i => .bool (D.view i).isSome) (.bool false) 21) 35 (0, 0)), pt b17 (.cells (arrC (fun i => .bool (g.2 i)) (.bool false) 21) 35 (0, 0)), ro (roS a1 xs1.length xs1), ro (actsR xs1 ms1), ro (roS a2 xs2.length xs2), ro (actsR xs2 ms2), ro (roS a3 cl.length cl), pu (Dk.Keep D.view g.1 g.2 ∧ g.1.pend.length ≤ q + 1), F], [(18, .int .i64 q), (17, .pointer (some ⟨b17, 0, none⟩)), (12, .pointer (some ⟨b12, 0, none⟩)), (13, .pointer (some ⟨b13, 0, none⟩)), (2, .slice a3 cl.length c3), (8, .slice a2 xs2.length c2), (9, .pointer (some ⟨b0, 0, none⟩))]))) (d.act m0.few, T) ?_ ?_
                         ·repeat (first | exact EnvSub.nil _ | (refine EnvSub.cons rfl ?_))
                         ·(first | dsimp only | skip)
                          exact Ent.cons (by (repeat constructor); done) (Ent.cons (by (repeat constructor); done) (Ent.cons (by (repeat constructor); done) (Ent.cons (by (repeat constructor); done) (Ent.cons (by (repeat constructor); done) (Ent.cons (by (repeat constructor); done) (Ent.cons (by (repeat constructor); done) (Ent.cons (by (repeat constructor); done) (Ent.cons (by (repeat constructor); done) (Ent.pu ⟨Dk.keep_far hkeep hkd (by omega) (by omega), by have := Dk.act_len d m0.few; omega⟩ (Ent.cons (by (repeat constructor); done) Ent.nil))))))))))
                        )
                      )
                     ·first | (exfalso; first | omega | (simp at g55; done) | contradiction) | skip
                      all_goals (
                       refine ho_ev rfl rfl rfl (ev_move rfl rfl) ?_
                       refine ho_pass rfl rfl rfl rfl ?_
                       refine ho_pass rfl rfl rfl rfl ?_
                       refine ho_pass rfl rfl rfl rfl ?_
                       refine ho_ev rfl rfl rfl (ev_pick_f rfl rfl rfl) ?_
                       refine ho_nil ?_
                       refine hx_then ?_
                       refine ht_else rfl ?_
                       refine ht_skip ?_
                       refine hx_block_normal ?_
                       refine hx_joined (I := (fun g : Dk.Disk × (Nat → Bool) => ([DiskAt b0 g.1, pt b12 (.cells (arrC (fun i => vS ((D.view i).getD [])) (vS []) 21) 34 (0, 0)), pt b13 (.cells (arrC (fun i => .bool (D.view i).isSome) (.bool false) 21) 35 (0, 0)), pt b17 (.cells (arrC (fun i => .bool (g.2 i)) (.bool false) 21) 35 (0, 0)), ro (roS a1 xs1.length xs1), ro (actsR xs1 ms1), ro (roS a2 xs2.length xs2), ro (actsR xs2 ms2), ro (roS a3 cl.length cl), pu (Dk.Keep D.view g.1 g.2 ∧ g.1.pend.length ≤ q + 1), F], [(18, .int .i64 q), (17, .pointer (some ⟨b17, 0, none⟩)), (12, .pointer (some ⟨b12, 0, none⟩)), (13, .pointer (some ⟨b13, 0, none⟩)), (2, .slice a3 cl.length c3), (8, .slice a2 xs2.length c2), (9, .pointer (some ⟨b0, 0, none⟩))]))) (d.act m0.few, T) ?_ ?_
                       ·repeat (first | exact EnvSub.nil _ | (refine EnvSub.cons rfl ?_))
                       ·(first | dsimp only | skip)
                        exact Ent.cons (by (repeat constructor); done) (Ent.cons (by (repeat constructor); done) (Ent.cons (by (repeat constructor); done) (Ent.cons (by (repeat constructor); done) (Ent.cons (by (repeat constructor); done) (Ent.cons (by (repeat constructor); done) (Ent.cons (by (repeat constructor); done) (Ent.cons (by (repeat constructor); done) (Ent.cons (by (repeat constructor); done) (Ent.pu ⟨Dk.keep_no hkeep hkd (by omega), by have := Dk.act_len d m0.few; omega⟩ (Ent.cons (by (repeat constructor); done) Ent.nil))))))))))
                      )
                    )
                  ·skip
                   obtain ⟨d, T⟩ := g
                   (first | dsimp only | skip)
                   refine ht_pick (A := pu (Dk.Keep D.view d T ∧ d.pend.length ≤ q + 1)) (by (repeat constructor); done) (ht_pure fun hq => ?_)
                   obtain ⟨hkeep, hpl2⟩ := hq
                   refine ht_region ?_
                   refine ho_ev rfl rfl rfl (ev_move rfl rfl) ?_
                   refine ho_ev rfl rfl rfl (ev_add rfl rfl rfl (by first | exact in_i64 (by omega) | rfl)) ?_
                   refine ho_ev rfl rfl rfl (ev_assign rfl rfl) ?_
                   refine ho_nil ?_
                   refine hx_again (I := (fun q : Nat × Dk.Disk × (Nat → Bool) => ([DiskAt b0 q.2.1, pt b12 (.cells (arrC (fun i => vS ((D.view i).getD [])) (vS []) 21) 34 (0, 0)), pt b13 (.cells (arrC (fun i => .bool (D.view i).isSome) (.bool false) 21) 35 (0, 0)), pt b17 (.cells (arrC (fun i => .bool (q.2.2 i)) (.bool false) 21) 35 (0, 0)), ro (roS a1 xs1.length xs1), ro (actsR xs1 ms1), ro (roS a2 xs2.length xs2), ro (actsR xs2 ms2), ro (roS a3 cl.length cl), pu (Dk.Keep D.view q.2.1 q.2.2 ∧ q.2.1.pend.length ≤ q.1 ∧ q.1 ≤ 30 ∧ q.1 ≤ xs2.length), F], [(18, .int .i64 q.1), (17, .pointer (some ⟨b17, 0, none⟩)), (12, .pointer (some ⟨b12, 0, none⟩)), (13, .pointer (some ⟨b13, 0, none⟩)), (2, .slice a3 cl.length c3), (8, .slice a2 xs2.length c2), (9, .pointer (some ⟨b0, 0, none⟩))]))) (μ := (fun q : Nat × Dk.Disk × (Nat → Bool) => 30 - q.1)) (i := (q, d, T)) (q + 1, d, T) ?_ ?_ ?_
                   ·(first | dsimp only | skip); omega
                   ·repeat (first | exact EnvSub.nil _ | (refine EnvSub.cons rfl ?_))
                   ·(first | dsimp only | skip)
                    exact Ent.cons (by (repeat constructor); done) (Ent.cons (by (repeat constructor); done) (Ent.cons (by (repeat constructor); done) (Ent.cons (by (repeat constructor); done) (Ent.cons (by (repeat constructor); done) (Ent.cons (by (repeat constructor); done) (Ent.cons (by (repeat constructor); done) (Ent.cons (by (repeat constructor); done) (Ent.cons (by (repeat constructor); done) (Ent.pu ⟨hkeep, by omega, by omega, by omega⟩ (Ent.cons (by (repeat constructor); done) Ent.nil))))))))))
                 )
                ·first | (exfalso; first | omega | (simp at g50; done) | contradiction) | skip
                 all_goals (
                  refine ho_ev rfl rfl rfl (ev_pick_t rfl rfl rfl) ?_
                  refine ho_nil ?_
                  refine hx_then ?_
                  refine ht_else rfl ?_
                  refine ht_exit ?_
                  refine hx_through trivial ?_
                  refine hx_through trivial ?_
                  refine hx_block_here ?_
                  refine hx_joined (I := (fun g : Dk.Disk × (Nat → Bool) => ([DiskAt b0 g.1, pt b12 (.cells (arrC (fun i => vS ((D.view i).getD [])) (vS []) 21) 34 (0, 0)), pt b13 (.cells (arrC (fun i => .bool (D.view i).isSome) (.bool false) 21) 35 (0, 0)), pt b17 (.cells (arrC (fun i => .bool (g.2 i)) (.bool false) 21) 35 (0, 0)), ro (roS a1 xs1.length xs1), ro (actsR xs1 ms1), ro (roS a2 xs2.length xs2), ro (actsR xs2 ms2), ro (roS a3 cl.length cl), pu (Dk.Keep D.view g.1 g.2 ∧ g.1.pend.length ≤ 30), F], [(17, .pointer (some ⟨b17, 0, none⟩)), (12, .pointer (some ⟨b12, 0, none⟩)), (13, .pointer (some ⟨b13, 0, none⟩)), (2, .slice a3 cl.length c3), (8, .slice a2 xs2.length c2), (9, .pointer (some ⟨b0, 0, none⟩))]))) (d, T) ?_ ?_
                  ·repeat (first | exact EnvSub.nil _ | (refine EnvSub.cons rfl ?_))
                  ·(first | dsimp only | skip)
                   exact Ent.cons (by (repeat constructor); done) (Ent.cons (by (repeat constructor); done) (Ent.cons (by (repeat constructor); done) (Ent.cons (by (repeat constructor); done) (Ent.cons (by (repeat constructor); done) (Ent.cons (by (repeat constructor); done) (Ent.cons (by (repeat constructor); done) (Ent.cons (by (repeat constructor); done) (Ent.cons (by (repeat constructor); done) (Ent.pu ⟨hkeep, by omega⟩ (Ent.cons (by (repeat constructor); done) Ent.nil))))))))))
                 )
               )
              ·first | (exfalso; first | omega | (simp at g49; done) | contradiction) | skip
               all_goals (
                refine ho_ev rfl rfl rfl (ev_move rfl rfl) ?_
                refine ho_pass rfl rfl rfl rfl ?_
                refine ho_pass rfl rfl rfl rfl ?_
                refine ho_ev rfl rfl rfl (ev_pick_f rfl rfl rfl) ?_
                refine ho_nil ?_
                refine hx_then ?_
                refine ht_else rfl ?_
                refine ht_exit ?_
                refine hx_through trivial ?_
                refine hx_through trivial ?_
                refine hx_block_here ?_
                refine hx_joined (I := (fun g : Dk.Disk × (Nat → Bool) => ([DiskAt b0 g.1, pt b12 (.cells (arrC (fun i => vS ((D.view i).getD [])) (vS []) 21) 34 (0, 0)), pt b13 (.cells (arrC (fun i => .bool (D.view i).isSome) (.bool false) 21) 35 (0, 0)), pt b17 (.cells (arrC (fun i => .bool (g.2 i)) (.bool false) 21) 35 (0, 0)), ro (roS a1 xs1.length xs1), ro (actsR xs1 ms1), ro (roS a2 xs2.length xs2), ro (actsR xs2 ms2), ro (roS a3 cl.length cl), pu (Dk.Keep D.view g.1 g.2 ∧ g.1.pend.length ≤ 30), F], [(17, .pointer (some ⟨b17, 0, none⟩)), (12, .pointer (some ⟨b12, 0, none⟩)), (13, .pointer (some ⟨b13, 0, none⟩)), (2, .slice a3 cl.length c3), (8, .slice a2 xs2.length c2), (9, .pointer (some ⟨b0, 0, none⟩))]))) (d, T) ?_ ?_
                ·repeat (first | exact EnvSub.nil _ | (refine EnvSub.cons rfl ?_))
                ·(first | dsimp only | skip)
                 exact Ent.cons (by (repeat constructor); done) (Ent.cons (by (repeat constructor); done) (Ent.cons (by (repeat constructor); done) (Ent.cons (by (repeat constructor); done) (Ent.cons (by (repeat constructor); done) (Ent.cons (by (repeat constructor); done) (Ent.cons (by (repeat constructor); done) (Ent.cons (by (repeat constructor); done) (Ent.cons (by (repeat constructor); done) (Ent.pu ⟨hkeep, by omega⟩ (Ent.cons (by (repeat constructor); done) Ent.nil))))))))))
               )
             ·skip
              obtain ⟨d, T⟩ := g
              (first | dsimp only | skip)
              refine ht_pick (A := pu (Dk.Keep D.view d T ∧ d.pend.length ≤ 30)) (by (repeat constructor); done) (ht_pure fun hq => ?_)
              obtain ⟨hkeep, hpl2⟩ := hq
              refine ht_seq ?_
              refine ht_region ?_
              refine ho_ev rfl rfl rfl (ev_move rfl rfl) ?_
              refine ho_eff rfl rfl rfl (eff_buildAll (α := (Int × Int)) [] rfl Try.underlying24 Try.ty44 .nil .nil rfl (Nat.le_of_ble_eq_true rfl)) (fun b121 => ?_)
              refine ho_ev rfl rfl rfl (ev_move rfl rfl) ?_
              refine ho_eff rfl rfl rfl (eff_append (α := (Int × Int)) rfl Try.underlying24 Try.ty44 rfl (by decide) Try.underlying24 rfl rfl (by (with_reducible repeat constructor); done) (by first | exact reads_ro (by (with_reducible repeat constructor); done) | exact reads_own (by (with_reducible repeat constructor); done) | exact reads_nil _) (by first | omega | (simp only [List.length_append, List.length_cons, List.length_nil, List.length_drop, List.length_take]; omega) | (simp; omega))) (fun p123 => ?_)
              refine ho_freezeS (α := Int × Int) (by (with_reducible repeat constructor); done) ?_
              rw [show ([] : List (Int × Int)) ++ cl = cl from rfl]
              refine ho_eff rfl rfl rfl (eff_call rfl rfl (.cons rfl (.cons rfl .nil)) rfl (disk_Crash b0 d _ _ cl (by omega) (by omega)) (by repeat (first | exact Picks.nil | (apply Picks.ro; focus ((repeat constructor); done)) | (apply Picks.cons; focus ((repeat constructor); done)))) (fun _ => by repeat (first | exact App.nil | apply App.cons))) (fun _ => ?_)
              refine ho_nil ?_
              refine hx_then ?_
              refine ht_seq ?_
              refine ht_seq ?_
              generalize hE : d.crash cl = E at *
              have hEv : ∀ i : Nat, i < 21 → T i = false → E.view i = D.view i := fun i hi hT => by rw [← hE]; exact Dk.keeps hkeep cl hi hT
              have hEp : E.pend.length = 0 := by rw [← hE]; rfl
              refine ht_region ?_
              refine ho_ev rfl rfl rfl (ev_assign rfl rfl) ?_
              refine ho_nil ?_
              refine hx_then ?_
              refine ht_block ?_
              refine ht_loop (fun q : Nat => ([DiskAt b0 E, pt b12 (.cells (arrC (fun i => vS ((D.view i).getD [])) (vS []) 21) 34 (0, 0)), pt b13 (.cells (arrC (fun i => .bool (D.view i).isSome) (.bool false) 21) 35 (0, 0)), pt b17 (.cells (arrC (fun i => .bool (T i)) (.bool false) 21) 35 (0, 0)), pu (q ≤ 21), F], [(20, .int .i64 q), (17, .pointer (some ⟨b17, 0, none⟩)), (12, .pointer (some ⟨b12, 0, none⟩)), (13, .pointer (some ⟨b13, 0, none⟩)), (9, .pointer (some ⟨b0, 0, none⟩))])) (fun q : Nat => 21 - q) 0 ?_ (by repeat (first | exact EnvSub.nil _ | (refine EnvSub.cons rfl ?_))) (fun q => ?_)
              ·(first | dsimp only | skip)
               exact Ent.cons (by (repeat constructor); done) (Ent.cons (by (repeat constructor); done) (Ent.cons (by (repeat constructor); done) (Ent.cons (by (repeat constructor); done) (Ent.pu (by omega) (Ent.cons (by (repeat constructor); done) Ent.nil)))))
              obtain q := q
              dsimp only
              refine ht_pick (A := pu (q ≤ 21)) (by (repeat constructor); done) (ht_pure fun hq1 => ?_)
              refine ht_seq ?_
              refine ht_seq ?_
              refine ht_region ?_
              refine ho_ev rfl rfl rfl (ev_move rfl rfl) ?_
              refine ho_lt rfl rfl rfl rfl rfl rfl (fun g57 => ?_) (fun g57 => ?_)
              ·first | (exfalso; first | omega | (simp at g57; done) | contradiction) | skip
               all_goals (
                refine ho_nil ?_
                refine hx_then ?_
                refine ht_then rfl ?_
                refine ht_skip ?_
                refine hx_then ?_
                refine ht_join (fun g : Unit => ([DiskAt b0 E, pt b12 (.cells (arrC (fun i => vS ((D.view i).getD [])) (vS []) 21) 34 (0, 0)), pt b13 (.cells (arrC (fun i => .bool (D.view i).isSome) (.bool false) 21) 35 (0, 0)), pt b17 (.cells (arrC (fun i => .bool (T i)) (.bool false) 21) 35 (0, 0)), F], [(20, .int .i64 q), (17, .pointer (some ⟨b17, 0, none⟩)), (12, .pointer (some ⟨b12, 0, none⟩)), (13, .pointer (some ⟨b13, 0, none⟩)), (9, .pointer (some ⟨b0, 0, none⟩))])) ?_ (fun g => ?_)
                ·skip
                 refine ht_block ?_
                 refine ht_seq ?_
                 refine ht_region ?_
                 refine ho_ev rfl rfl rfl (ev_move rfl rfl) ?_
                 refine ho_ev rfl rfl rfl (ev_move rfl rfl) ?_
                 rcases hv : E.view q with _ | s
                 ·skip
                  refine ho_eff rfl rfl rfl (eff_call rfl rfl (.cons rfl (.cons rfl .nil)) rfl (disk_Read_no b0 E q hv) (by repeat (first | exact Picks.nil | (apply Picks.ro; focus ((repeat constructor); done)) | (apply Picks.cons; focus ((repeat constructor); done)))) (fun _ => by repeat (first | exact App.nil | apply App.cons))) (fun _ => ?_)
                  refine ho_ev rfl rfl rfl (ev_move rfl rfl) ?_
                  refine ho_ev rfl rfl rfl (ev_extract rfl rfl rfl) ?_
                  refine ho_ev rfl rfl rfl (ev_extract rfl rfl rfl) ?_
                  refine ho_ev rfl rfl rfl (ev_assign rfl rfl) ?_
                  refine ho_ev rfl rfl rfl (ev_assign rfl rfl) ?_
                  refine ho_nil ?_
                  refine hx_then ?_
                  refine ht_seq ?_
                  rcases hT : T q with _ | _
                  ·skip
                   have hDv := (hEv q (by omega) hT).symm.trans hv
                   refine ht_draw (.op 0 (.op 1 (.op 2 (.op 3 (.op 4 (.op 5 (.op 6 (.op 7 (.op 8 (.op 9 (.op 10 (.op 11 (.op 12 (.op 13 (.op 14 (.op 15 (.op 16 (.op 17 (.op 18 (.op 19 .done)))))))))))))))))))) [] Try.mixed rfl ?_
                   refine hd_ev rfl rfl rfl rfl (EvG.of rfl (ev_move rfl rfl)) ?_
                   refine hd_ev rfl rfl rfl rfl (EvG.of rfl (ev_indexAddrA rfl Try.underlying35 Try.ty4 rfl rfl (by omega) (by omega))) ?_
                   refine hd_evb rfl rfl rfl rfl (EvG.of rfl (ev_load rfl Try.underlying4 rfl rfl (cell_pt (by (with_reducible repeat constructor); done) (v := .bool (T q)) (by rw [(show 0 + ((q : Int)).toNat * 1 = q by omega)]; exact arrC_get _ _ (by omega) (by omega))))) (fun g58 => ?_) (fun g58 => ?_)
                   ·first | (exfalso; first | omega | (simp at g58; done) | contradiction | (simp [hT] at g58; done) | (simp [hDv] at g58; done)) | skip
                    all_goals (
                     refine hd_ev rfl rfl rfl rfl (EvG.of rfl (ev_not rfl rfl)) ?_
                     refine hd_ev rfl rfl rfl rfl (EvG.of rfl (ev_move rfl rfl)) ?_
                     refine hd_ev rfl rfl rfl rfl (EvG.pass rfl rfl) ?_
                     refine hd_ev rfl rfl rfl rfl (EvG.pass rfl rfl) ?_
                     refine hd_ev rfl rfl rfl rfl (EvG.pass rfl rfl) ?_
                     refine hd_ev rfl rfl rfl rfl (EvG.pass rfl rfl) ?_
                     refine hd_ev rfl rfl rfl rfl (EvG.pass rfl rfl) ?_
                     refine hd_ev rfl rfl rfl rfl (EvG.pass rfl rfl) ?_
                     refine hd_ev rfl rfl rfl rfl (EvG.pass rfl rfl) ?_
                     refine hd_ev rfl rfl rfl rfl (EvG.passU rfl rfl) ?_
                     refine hd_ev rfl rfl rfl rfl (EvG.passU rfl rfl) ?_
                     refine hd_ev rfl rfl rfl rfl (EvG.passU rfl rfl) ?_
                     refine hd_ev rfl rfl rfl rfl (EvG.passU rfl rfl) ?_
                     refine hd_ev rfl rfl rfl rfl (EvG.passU rfl rfl) ?_
                     refine hd_ev rfl rfl rfl rfl (EvG.passU rfl rfl) ?_
                     refine hd_ev rfl rfl rfl rfl (EvG.pass rfl rfl) ?_
                     refine hd_ev rfl rfl rfl rfl (EvG.of rfl (ev_pick_f rfl rfl rfl)) ?_
                     refine hd_nil ?_
                     refine hx_then ?_
                     refine ht_else rfl ?_
                     refine ht_skip ?_
                     refine hx_block_normal ?_
                     refine hx_joined (I := (fun g : Unit => ([DiskAt b0 E, pt b12 (.cells (arrC (fun i => vS ((D.view i).getD [])) (vS []) 21) 34 (0, 0)), pt b13 (.cells (arrC (fun i => .bool (D.view i).isSome) (.bool false) 21) 35 (0, 0)), pt b17 (.cells (arrC (fun i => .bool (T i)) (.bool false) 21) 35 (0, 0)), F], [(20, .int .i64 q), (17, .pointer (some ⟨b17, 0, none⟩)), (12, .pointer (some ⟨b12, 0, none⟩)), (13, .pointer (some ⟨b13, 0, none⟩)), (9, .pointer (some ⟨b0, 0, none⟩))]))) () ?_ ?_
                     ·repeat (first | exact EnvSub.nil _ | (refine EnvSub.cons rfl ?_))
                     ·(first | dsimp only | skip)
                      exact Ent.cons (by (repeat constructor); done) (Ent.cons (by (repeat constructor); done) (Ent.cons (by (repeat constructor); done) (Ent.cons (by (repeat constructor); done) (Ent.cons (by (repeat constructor); done) Ent.nil))))
                    )
                   ·first | (exfalso; first | omega | (simp at g58; done) | contradiction | (simp [hT] at g58; done) | (simp [hDv] at g58; done)) | skip
                    all_goals (
                     refine hd_ev rfl rfl rfl rfl (EvG.of rfl (ev_not rfl rfl)) ?_
                     refine hd_ev rfl rfl rfl rfl (EvG.of rfl (ev_move rfl rfl)) ?_
                     refine hd_ev rfl rfl rfl rfl (EvG.ofg rfl rfl (ev_move rfl rfl)) ?_
                     refine hd_ev rfl rfl rfl rfl (EvG.ofg rfl rfl (ev_str rfl Try.underlying36 Try.underlying5 Try.underlying9 rfl (by first | exact reads_ro (by (with_reducible repeat constructor); done) | exact reads_own (by (with_reducible repeat constructor); done) | exact reads_nil _))) ?_
                     refine hd_ev rfl rfl rfl rfl (EvG.ofg rfl rfl (ev_move rfl rfl)) ?_
                     refine hd_ev rfl rfl rfl rfl (EvG.ofg rfl rfl (ev_indexAddrA rfl Try.underlying34 Try.ty9 rfl rfl (by omega) (by omega))) ?_
                     refine hd_ev rfl rfl rfl rfl (EvG.ofg rfl rfl (ev_load rfl Try.underlying9 rfl rfl (cell_pt (by (with_reducible repeat constructor); done) (v := vS ((D.view q).getD [])) (by rw [(show 0 + ((q : Int)).toNat * 1 = q by omega)]; exact arrC_get _ _ (by omega) (by omega))))) ?_
                     refine hd_neSg rfl rfl rfl rfl rfl rfl rfl rfl rfl (fun g59 => ?_) (fun g59 => ?_)
                     ·first | (exfalso; first | omega | (simp at g59; done) | contradiction | (simp [hT] at g59; done) | (simp [hDv] at g59; done)) | skip
                      all_goals (
                       refine hd_ev rfl rfl rfl rfl (EvG.ofg rfl rfl (ev_move rfl rfl)) ?_
                       refine hd_ev rfl rfl rfl rfl (EvG.pass rfl rfl) ?_
                       refine hd_ev rfl rfl rfl rfl (EvG.pass rfl rfl) ?_
                       refine hd_ev rfl rfl rfl rfl (EvG.pass rfl rfl) ?_
                       refine hd_ev rfl rfl rfl rfl (EvG.pass rfl rfl) ?_
                       refine hd_ev rfl rfl rfl rfl (EvG.pass rfl rfl) ?_
                       refine hd_ev rfl rfl rfl rfl (EvG.pass rfl rfl) ?_
                       refine hd_ev rfl rfl rfl rfl (EvG.ofg rfl rfl (ev_pick_t rfl rfl rfl)) ?_
                       refine hd_ev rfl rfl rfl rfl (EvG.of rfl (ev_pick_t rfl rfl rfl)) ?_
                       refine hd_nil ?_
                       refine hx_then ?_
                       refine ht_then rfl ?_
                       refine ht_seq ?_
                       refine ht_region ?_
                       refine ho_ev rfl rfl rfl (ev_assign rfl rfl) ?_
                       refine ho_nil ?_
                       refine hx_then ?_
                       refine ht_ret ?_
                       refine hx_block_ret ?_
                       refine hx_through trivial ?_
                       refine hx_through trivial ?_
                       refine hx_block_ret ?_
                       refine hx_through trivial ?_
                       exact hx_ret1 (.inl rfl) rfl rfl () rfl (Ent.cons (by (repeat constructor); done) Ent.nil)
                      )
                     ·first | (exfalso; first | omega | (simp at g59; done) | contradiction | (simp [hT] at g59; done) | (simp [hDv] at g59; done)) | skip
                      all_goals (
                       refine hd_ev rfl rfl rfl rfl (EvG.ofg rfl rfl (ev_move rfl rfl)) ?_
                       refine hd_ev rfl rfl rfl rfl (EvG.ofg rfl rfl (ev_move rfl rfl)) ?_
                       refine hd_ev rfl rfl rfl rfl (EvG.ofg rfl rfl (ev_indexAddrA rfl Try.underlying35 Try.ty4 rfl rfl (by omega) (by omega))) ?_
                       refine hd_evb rfl rfl rfl rfl (EvG.ofg rfl rfl (ev_load rfl Try.underlying4 rfl rfl (cell_pt (by (with_reducible repeat constructor); done) (v := .bool (D.view q).isSome) (by rw [(show 0 + ((q : Int)).toNat * 1 = q by omega)]; exact arrC_get _ _ (by omega) (by omega))))) (fun g60 => ?_) (fun g60 => ?_)
                       ·first | (exfalso; first | omega | (simp at g60; done) | contradiction | (simp [hT] at g60; done) | (simp [hDv] at g60; done)) | skip
                        all_goals (
                         refine hd_ev rfl rfl rfl rfl (EvG.ofg rfl rfl (ev_move rfl rfl)) ?_
                         refine hd_eqg rfl rfl rfl rfl rfl rfl rfl rfl rfl (fun g61 => ?_) (fun g61 => ?_)
                         ·first | (exfalso; first | omega | (simp at g61; done) | contradiction | (simp [hT] at g61; done) | (simp [hDv] at g61; done)) | skip
                          all_goals (
                           refine hd_ev rfl rfl rfl rfl (EvG.ofg rfl rfl (ev_cmpB rfl Try.underlying4 rfl rfl rfl)) ?_
                           refine hd_ev rfl rfl rfl rfl (EvG.ofg rfl rfl (ev_pick_f rfl rfl rfl)) ?_
                           refine hd_ev rfl rfl rfl rfl (EvG.of rfl (ev_pick_t rfl rfl rfl)) ?_
                           refine hd_nil ?_
                           refine hx_then ?_
                           refine ht_else rfl ?_
                           refine ht_skip ?_
                           refine hx_block_normal ?_
                           refine hx_joined (I := (fun g : Unit => ([DiskAt b0 E, pt b12 (.cells (arrC (fun i => vS ((D.view i).getD [])) (vS []) 21) 34 (0, 0)), pt b13 (.cells (arrC (fun i => .bool (D.view i).isSome) (.bool false) 21) 35 (0, 0)), pt b17 (.cells (arrC (fun i => .bool (T i)) (.bool false) 21) 35 (0, 0)), F], [(20, .int .i64 q), (17, .pointer (some ⟨b17, 0, none⟩)), (12, .pointer (some ⟨b12, 0, none⟩)), (13, .pointer (some ⟨b13, 0, none⟩)), (9, .pointer (some ⟨b0, 0, none⟩))]))) () ?_ ?_
                           ·repeat (first | exact EnvSub.nil _ | (refine EnvSub.cons rfl ?_))
                           ·(first | dsimp only | skip)
                            exact Ent.cons (by (repeat constructor); done) (Ent.cons (by (repeat constructor); done) (Ent.cons (by (repeat constructor); done) (Ent.cons (by (repeat constructor); done) (Ent.cons (by (repeat constructor); done) Ent.nil))))
                          )
                         ·first | (exfalso; first | omega | (simp at g61; done) | contradiction | (simp [hT] at g61; done) | (simp [hDv] at g61; done)) | skip
                          all_goals (
                           refine hd_ev rfl rfl rfl rfl (EvG.ofg rfl rfl (ev_cmpB rfl Try.underlying4 rfl rfl rfl)) ?_
                           refine hd_ev rfl rfl rfl rfl (EvG.ofg rfl rfl (ev_pick_f rfl rfl rfl)) ?_
                           refine hd_ev rfl rfl rfl rfl (EvG.of rfl (ev_pick_t rfl rfl rfl)) ?_
                           refine hd_nil ?_
                           refine hx_then ?_
                           refine ht_then rfl ?_
                           refine ht_seq ?_
                           refine ht_region ?_
                           refine ho_ev rfl rfl rfl (ev_assign rfl rfl) ?_
                           refine ho_nil ?_
                           refine hx_then ?_
                           refine ht_ret ?_
                           refine hx_block_ret ?_
                           refine hx_through trivial ?_
                           refine hx_through trivial ?_
                           refine hx_block_ret ?_
                           refine hx_through trivial ?_
                           exact hx_ret1 (.inl rfl) rfl rfl () rfl (Ent.cons (by (repeat constructor); done) Ent.nil)
                          )
                        )
                       ·first | (exfalso; first | omega | (simp at g60; done) | contradiction | (simp [hT] at g60; done) | (simp [hDv] at g60; done)) | skip
                        all_goals (
                         refine hd_ev rfl rfl rfl rfl (EvG.ofg rfl rfl (ev_move rfl rfl)) ?_
                         refine hd_eqg rfl rfl rfl rfl rfl rfl rfl rfl rfl (fun g62 => ?_) (fun g62 => ?_)
                         ·first | (exfalso; first | omega | (simp at g62; done) | contradiction | (simp [hT] at g62; done) | (simp [hDv] at g62; done)) | skip
                          all_goals (
                           refine hd_ev rfl rfl rfl rfl (EvG.ofg rfl rfl (ev_cmpB rfl Try.underlying4 rfl rfl rfl)) ?_
                           refine hd_ev rfl rfl rfl rfl (EvG.ofg rfl rfl (ev_pick_f rfl rfl rfl)) ?_
                           refine hd_ev rfl rfl rfl rfl (EvG.of rfl (ev_pick_t rfl rfl rfl)) ?_
                           refine hd_nil ?_
                           refine hx_then ?_
                           refine ht_then rfl ?_
                           refine ht_seq ?_
                           refine ht_region ?_
                           refine ho_ev rfl rfl rfl (ev_assign rfl rfl) ?_
                           refine ho_nil ?_
                           refine hx_then ?_
                           refine ht_ret ?_
                           refine hx_block_ret ?_
                           refine hx_through trivial ?_
                           refine hx_through trivial ?_
                           refine hx_block_ret ?_
                           refine hx_through trivial ?_
                           exact hx_ret1 (.inl rfl) rfl rfl () rfl (Ent.cons (by (repeat constructor); done) Ent.nil)
                          )
                         ·first | (exfalso; first | omega | (simp at g62; done) | contradiction | (simp [hT] at g62; done) | (simp [hDv] at g62; done)) | skip
                          all_goals (
                           refine hd_ev rfl rfl rfl rfl (EvG.ofg rfl rfl (ev_cmpB rfl Try.underlying4 rfl rfl rfl)) ?_
                           refine hd_ev rfl rfl rfl rfl (EvG.ofg rfl rfl (ev_pick_f rfl rfl rfl)) ?_
                           refine hd_ev rfl rfl rfl rfl (EvG.of rfl (ev_pick_t rfl rfl rfl)) ?_
                           refine hd_nil ?_
                           refine hx_then ?_
                           refine ht_else rfl ?_
                           refine ht_skip ?_
                           refine hx_block_normal ?_
                           refine hx_joined (I := (fun g : Unit => ([DiskAt b0 E, pt b12 (.cells (arrC (fun i => vS ((D.view i).getD [])) (vS []) 21) 34 (0, 0)), pt b13 (.cells (arrC (fun i => .bool (D.view i).isSome) (.bool false) 21) 35 (0, 0)), pt b17 (.cells (arrC (fun i => .bool (T i)) (.bool false) 21) 35 (0, 0)), F], [(20, .int .i64 q), (17, .pointer (some ⟨b17, 0, none⟩)), (12, .pointer (some ⟨b12, 0, none⟩)), (13, .pointer (some ⟨b13, 0, none⟩)), (9, .pointer (some ⟨b0, 0, none⟩))]))) () ?_ ?_
                           ·repeat (first | exact EnvSub.nil _ | (refine EnvSub.cons rfl ?_))
                           ·(first | dsimp only | skip)
                            exact Ent.cons (by (repeat constructor); done) (Ent.cons (by (repeat constructor); done) (Ent.cons (by (repeat constructor); done) (Ent.cons (by (repeat constructor); done) (Ent.cons (by (repeat constructor); done) Ent.nil))))
                          )
                        )
                      )
                    )
                  ·skip
                   refine ht_draw (.op 0 (.op 1 (.op 2 (.op 3 (.op 4 (.op 5 (.op 6 (.op 7 (.op 8 (.op 9 (.op 10 (.op 11 (.op 12 (.op 13 (.op 14 (.op 15 (.op 16 (.op 17 (.op 18 (.op 19 .done)))))))))))))))))))) [] Try.mixed rfl ?_
                   refine hd_ev rfl rfl rfl rfl (EvG.of rfl (ev_move rfl rfl)) ?_
                   refine hd_ev rfl rfl rfl rfl (EvG.of rfl (ev_indexAddrA rfl Try.underlying35 Try.ty4 rfl rfl (by omega) (by omega))) ?_
                   refine hd_evb rfl rfl rfl rfl (EvG.of rfl (ev_load rfl Try.underlying4 rfl rfl (cell_pt (by (with_reducible repeat constructor); done) (v := .bool (T q)) (by rw [(show 0 + ((q : Int)).toNat * 1 = q by omega)]; exact arrC_get _ _ (by omega) (by omega))))) (fun g63 => ?_) (fun g63 => ?_)
                   ·first | (exfalso; first | omega | (simp at g63; done) | contradiction | (simp [hT] at g63; done)) | skip
                    all_goals (
                     refine hd_ev rfl rfl rfl rfl (EvG.of rfl (ev_not rfl rfl)) ?_
                     refine hd_ev rfl rfl rfl rfl (EvG.of rfl (ev_move rfl rfl)) ?_
                     refine hd_ev rfl rfl rfl rfl (EvG.pass rfl rfl) ?_
                     refine hd_ev rfl rfl rfl rfl (EvG.pass rfl rfl) ?_
                     refine hd_ev rfl rfl rfl rfl (EvG.pass rfl rfl) ?_
                     refine hd_ev rfl rfl rfl rfl (EvG.pass rfl rfl) ?_
                     refine hd_ev rfl rfl rfl rfl (EvG.pass rfl rfl) ?_
                     refine hd_ev rfl rfl rfl rfl (EvG.pass rfl rfl) ?_
                     refine hd_ev rfl rfl rfl rfl (EvG.pass rfl rfl) ?_
                     refine hd_ev rfl rfl rfl rfl (EvG.passU rfl rfl) ?_
                     refine hd_ev rfl rfl rfl rfl (EvG.passU rfl rfl) ?_
                     refine hd_ev rfl rfl rfl rfl (EvG.passU rfl rfl) ?_
                     refine hd_ev rfl rfl rfl rfl (EvG.passU rfl rfl) ?_
                     refine hd_ev rfl rfl rfl rfl (EvG.passU rfl rfl) ?_
                     refine hd_ev rfl rfl rfl rfl (EvG.passU rfl rfl) ?_
                     refine hd_ev rfl rfl rfl rfl (EvG.pass rfl rfl) ?_
                     refine hd_ev rfl rfl rfl rfl (EvG.of rfl (ev_pick_f rfl rfl rfl)) ?_
                     refine hd_nil ?_
                     refine hx_then ?_
                     refine ht_else rfl ?_
                     refine ht_skip ?_
                     refine hx_block_normal ?_
                     refine hx_joined (I := (fun g : Unit => ([DiskAt b0 E, pt b12 (.cells (arrC (fun i => vS ((D.view i).getD [])) (vS []) 21) 34 (0, 0)), pt b13 (.cells (arrC (fun i => .bool (D.view i).isSome) (.bool false) 21) 35 (0, 0)), pt b17 (.cells (arrC (fun i => .bool (T i)) (.bool false) 21) 35 (0, 0)), F], [(20, .int .i64 q), (17, .pointer (some ⟨b17, 0, none⟩)), (12, .pointer (some ⟨b12, 0, none⟩)), (13, .pointer (some ⟨b13, 0, none⟩)), (9, .pointer (some ⟨b0, 0, none⟩))]))) () ?_ ?_
                     ·repeat (first | exact EnvSub.nil _ | (refine EnvSub.cons rfl ?_))
                     ·(first | dsimp only | skip)
                      exact Ent.cons (by (repeat constructor); done) (Ent.cons (by (repeat constructor); done) (Ent.cons (by (repeat constructor); done) (Ent.cons (by (repeat constructor); done) (Ent.cons (by (repeat constructor); done) Ent.nil))))
                    )
                   ·first | (exfalso; first | omega | (simp at g63; done) | contradiction | (simp [hT] at g63; done)) | skip
                    all_goals (
                     refine hd_ev rfl rfl rfl rfl (EvG.of rfl (ev_not rfl rfl)) ?_
                     refine hd_ev rfl rfl rfl rfl (EvG.of rfl (ev_move rfl rfl)) ?_
                     refine hd_ev rfl rfl rfl rfl (EvG.ofg rfl rfl (ev_move rfl rfl)) ?_
                     refine hd_ev rfl rfl rfl rfl (EvG.ofg rfl rfl (ev_str rfl Try.underlying36 Try.underlying5 Try.underlying9 rfl (by first | exact reads_ro (by (with_reducible repeat constructor); done) | exact reads_own (by (with_reducible repeat constructor); done) | exact reads_nil _))) ?_
                     refine hd_ev rfl rfl rfl rfl (EvG.ofg rfl rfl (ev_move rfl rfl)) ?_
                     refine hd_ev rfl rfl rfl rfl (EvG.ofg rfl rfl (ev_indexAddrA rfl Try.underlying34 Try.ty9 rfl rfl (by omega) (by omega))) ?_
                     refine hd_ev rfl rfl rfl rfl (EvG.ofg rfl rfl (ev_load rfl Try.underlying9 rfl rfl (cell_pt (by (with_reducible repeat constructor); done) (v := vS ((D.view q).getD [])) (by rw [(show 0 + ((q : Int)).toNat * 1 = q by omega)]; exact arrC_get _ _ (by omega) (by omega))))) ?_
                     refine hd_neSg rfl rfl rfl rfl rfl rfl rfl rfl rfl (fun g64 => ?_) (fun g64 => ?_)
                     ·first | (exfalso; first | omega | (simp at g64; done) | contradiction | (simp [hT] at g64; done)) | skip
                      all_goals (
                       refine hd_ev rfl rfl rfl rfl (EvG.ofg rfl rfl (ev_move rfl rfl)) ?_
                       refine hd_ev rfl rfl rfl rfl (EvG.pass rfl rfl) ?_
                       refine hd_ev rfl rfl rfl rfl (EvG.pass rfl rfl) ?_
                       refine hd_ev rfl rfl rfl rfl (EvG.pass rfl rfl) ?_
                       refine hd_ev rfl rfl rfl rfl (EvG.pass rfl rfl) ?_
                       refine hd_ev rfl rfl rfl rfl (EvG.pass rfl rfl) ?_
                       refine hd_ev rfl rfl rfl rfl (EvG.pass rfl rfl) ?_
                       refine hd_ev rfl rfl rfl rfl (EvG.ofg rfl rfl (ev_pick_t rfl rfl rfl)) ?_
                       refine hd_ev rfl rfl rfl rfl (EvG.of rfl (ev_pick_t rfl rfl rfl)) ?_
                       refine hd_nil ?_
                       refine hx_then ?_
                       refine ht_then rfl ?_
                       refine ht_seq ?_
                       refine ht_region ?_
                       refine ho_ev rfl rfl rfl (ev_assign rfl rfl) ?_
                       refine ho_nil ?_
                       refine hx_then ?_
                       refine ht_ret ?_
                       refine hx_block_ret ?_
                       refine hx_through trivial ?_
                       refine hx_through trivial ?_
                       refine hx_block_ret ?_
                       refine hx_through trivial ?_
                       exact hx_ret1 (.inl rfl) rfl rfl () rfl (Ent.cons (by (repeat constructor); done) Ent.nil)
                      )
                     ·first | (exfalso; first | omega | (simp at g64; done) | contradiction | (simp [hT] at g64; done)) | skip
                      all_goals (
                       refine hd_ev rfl rfl rfl rfl (EvG.ofg rfl rfl (ev_move rfl rfl)) ?_
                       refine hd_ev rfl rfl rfl rfl (EvG.ofg rfl rfl (ev_move rfl rfl)) ?_
                       refine hd_ev rfl rfl rfl rfl (EvG.ofg rfl rfl (ev_indexAddrA rfl Try.underlying35 Try.ty4 rfl rfl (by omega) (by omega))) ?_
                       refine hd_evb rfl rfl rfl rfl (EvG.ofg rfl rfl (ev_load rfl Try.underlying4 rfl rfl (cell_pt (by (with_reducible repeat constructor); done) (v := .bool (D.view q).isSome) (by rw [(show 0 + ((q : Int)).toNat * 1 = q by omega)]; exact arrC_get _ _ (by omega) (by omega))))) (fun g65 => ?_) (fun g65 => ?_)
                       ·first | (exfalso; first | omega | (simp at g65; done) | contradiction | (simp [hT] at g65; done)) | skip
                        all_goals (
                         refine hd_ev rfl rfl rfl rfl (EvG.ofg rfl rfl (ev_move rfl rfl)) ?_
                         refine hd_eqg rfl rfl rfl rfl rfl rfl rfl rfl rfl (fun g66 => ?_) (fun g66 => ?_)
                         ·first | (exfalso; first | omega | (simp at g66; done) | contradiction | (simp [hT] at g66; done)) | skip
                          all_goals (
                           refine hd_ev rfl rfl rfl rfl (EvG.ofg rfl rfl (ev_cmpB rfl Try.underlying4 rfl rfl rfl)) ?_
                           refine hd_ev rfl rfl rfl rfl (EvG.ofg rfl rfl (ev_pick_f rfl rfl rfl)) ?_
                           refine hd_ev rfl rfl rfl rfl (EvG.of rfl (ev_pick_t rfl rfl rfl)) ?_
                           refine hd_nil ?_
                           refine hx_then ?_
                           refine ht_else rfl ?_
                           refine ht_skip ?_
                           refine hx_block_normal ?_
                           refine hx_joined (I := (fun g : Unit => ([DiskAt b0 E, pt b12 (.cells (arrC (fun i => vS ((D.view i).getD [])) (vS []) 21) 34 (0, 0)), pt b13 (.cells (arrC (fun i => .bool (D.view i).isSome) (.bool false) 21) 35 (0, 0)), pt b17 (.cells (arrC (fun i => .bool (T i)) (.bool false) 21) 35 (0, 0)), F], [(20, .int .i64 q), (17, .pointer (some ⟨b17, 0, none⟩)), (12, .pointer (some ⟨b12, 0, none⟩)), (13, .pointer (some ⟨b13, 0, none⟩)), (9, .pointer (some ⟨b0, 0, none⟩))]))) () ?_ ?_
                           ·repeat (first | exact EnvSub.nil _ | (refine EnvSub.cons rfl ?_))
                           ·(first | dsimp only | skip)
                            exact Ent.cons (by (repeat constructor); done) (Ent.cons (by (repeat constructor); done) (Ent.cons (by (repeat constructor); done) (Ent.cons (by (repeat constructor); done) (Ent.cons (by (repeat constructor); done) Ent.nil))))
                          )
                         ·first | (exfalso; first | omega | (simp at g66; done) | contradiction | (simp [hT] at g66; done)) | skip
                          all_goals (
                           refine hd_ev rfl rfl rfl rfl (EvG.ofg rfl rfl (ev_cmpB rfl Try.underlying4 rfl rfl rfl)) ?_
                           refine hd_ev rfl rfl rfl rfl (EvG.ofg rfl rfl (ev_pick_f rfl rfl rfl)) ?_
                           refine hd_ev rfl rfl rfl rfl (EvG.of rfl (ev_pick_t rfl rfl rfl)) ?_
                           refine hd_nil ?_
                           refine hx_then ?_
                           refine ht_then rfl ?_
                           refine ht_seq ?_
                           refine ht_region ?_
                           refine ho_ev rfl rfl rfl (ev_assign rfl rfl) ?_
                           refine ho_nil ?_
                           refine hx_then ?_
                           refine ht_ret ?_
                           refine hx_block_ret ?_
                           refine hx_through trivial ?_
                           refine hx_through trivial ?_
                           refine hx_block_ret ?_
                           refine hx_through trivial ?_
                           exact hx_ret1 (.inl rfl) rfl rfl () rfl (Ent.cons (by (repeat constructor); done) Ent.nil)
                          )
                        )
                       ·first | (exfalso; first | omega | (simp at g65; done) | contradiction | (simp [hT] at g65; done)) | skip
                        all_goals (
                         refine hd_ev rfl rfl rfl rfl (EvG.ofg rfl rfl (ev_move rfl rfl)) ?_
                         refine hd_eqg rfl rfl rfl rfl rfl rfl rfl rfl rfl (fun g67 => ?_) (fun g67 => ?_)
                         ·first | (exfalso; first | omega | (simp at g67; done) | contradiction | (simp [hT] at g67; done)) | skip
                          all_goals (
                           refine hd_ev rfl rfl rfl rfl (EvG.ofg rfl rfl (ev_cmpB rfl Try.underlying4 rfl rfl rfl)) ?_
                           refine hd_ev rfl rfl rfl rfl (EvG.ofg rfl rfl (ev_pick_f rfl rfl rfl)) ?_
                           refine hd_ev rfl rfl rfl rfl (EvG.of rfl (ev_pick_t rfl rfl rfl)) ?_
                           refine hd_nil ?_
                           refine hx_then ?_
                           refine ht_then rfl ?_
                           refine ht_seq ?_
                           refine ht_region ?_
                           refine ho_ev rfl rfl rfl (ev_assign rfl rfl) ?_
                           refine ho_nil ?_
                           refine hx_then ?_
                           refine ht_ret ?_
                           refine hx_block_ret ?_
                           refine hx_through trivial ?_
                           refine hx_through trivial ?_
                           refine hx_block_ret ?_
                           refine hx_through trivial ?_
                           exact hx_ret1 (.inl rfl) rfl rfl () rfl (Ent.cons (by (repeat constructor); done) Ent.nil)
                          )
                         ·first | (exfalso; first | omega | (simp at g67; done) | contradiction | (simp [hT] at g67; done)) | skip
                          all_goals (
                           refine hd_ev rfl rfl rfl rfl (EvG.ofg rfl rfl (ev_cmpB rfl Try.underlying4 rfl rfl rfl)) ?_
                           refine hd_ev rfl rfl rfl rfl (EvG.ofg rfl rfl (ev_pick_f rfl rfl rfl)) ?_
                           refine hd_ev rfl rfl rfl rfl (EvG.of rfl (ev_pick_t rfl rfl rfl)) ?_
                           refine hd_nil ?_
                           refine hx_then ?_
                           refine ht_else rfl ?_
                           refine ht_skip ?_
                           refine hx_block_normal ?_
                           refine hx_joined (I := (fun g : Unit => ([DiskAt b0 E, pt b12 (.cells (arrC (fun i => vS ((D.view i).getD [])) (vS []) 21) 34 (0, 0)), pt b13 (.cells (arrC (fun i => .bool (D.view i).isSome) (.bool false) 21) 35 (0, 0)), pt b17 (.cells (arrC (fun i => .bool (T i)) (.bool false) 21) 35 (0, 0)), F], [(20, .int .i64 q), (17, .pointer (some ⟨b17, 0, none⟩)), (12, .pointer (some ⟨b12, 0, none⟩)), (13, .pointer (some ⟨b13, 0, none⟩)), (9, .pointer (some ⟨b0, 0, none⟩))]))) () ?_ ?_
                           ·repeat (first | exact EnvSub.nil _ | (refine EnvSub.cons rfl ?_))
                           ·(first | dsimp only | skip)
                            exact Ent.cons (by (repeat constructor); done) (Ent.cons (by (repeat constructor); done) (Ent.cons (by (repeat constructor); done) (Ent.cons (by (repeat constructor); done) (Ent.cons (by (repeat constructor); done) Ent.nil))))
                          )
                        )
                      )
                    )
                 ·skip
                  refine ho_eff rfl rfl rfl (eff_call rfl rfl (.cons rfl (.cons rfl .nil)) rfl (disk_Read b0 E q s hv) (by repeat (first | exact Picks.nil | (apply Picks.ro; focus ((repeat constructor); done)) | (apply Picks.cons; focus ((repeat constructor); done)))) (fun _ => by repeat (first | exact App.nil | apply App.cons))) (fun rd => ?_)
                  refine ho_ev rfl rfl rfl (ev_move rfl rfl) ?_
                  refine ho_ev rfl rfl rfl (ev_extract rfl rfl rfl) ?_
                  refine ho_ev rfl rfl rfl (ev_extract rfl rfl rfl) ?_
                  refine ho_ev rfl rfl rfl (ev_assign rfl rfl) ?_
                  refine ho_ev rfl rfl rfl (ev_assign rfl rfl) ?_
                  refine ho_nil ?_
                  refine hx_then ?_
                  refine ht_seq ?_
                  rcases hT : T q with _ | _
                  ·skip
                   have hDv := (hEv q (by omega) hT).symm.trans hv
                   refine ht_draw (.op 0 (.op 1 (.op 2 (.op 3 (.op 4 (.op 5 (.op 6 (.op 7 (.op 8 (.op 9 (.op 10 (.op 11 (.op 12 (.op 13 (.op 14 (.op 15 (.op 16 (.op 17 (.op 18 (.op 19 .done)))))))))))))))))))) [] Try.mixed rfl ?_
                   refine hd_ev rfl rfl rfl rfl (EvG.of rfl (ev_move rfl rfl)) ?_
                   refine hd_ev rfl rfl rfl rfl (EvG.of rfl (ev_indexAddrA rfl Try.underlying35 Try.ty4 rfl rfl (by omega) (by omega))) ?_
                   refine hd_evb rfl rfl rfl rfl (EvG.of rfl (ev_load rfl Try.underlying4 rfl rfl (cell_pt (by (with_reducible repeat constructor); done) (v := .bool (T q)) (by rw [(show 0 + ((q : Int)).toNat * 1 = q by omega)]; exact arrC_get _ _ (by omega) (by omega))))) (fun g68 => ?_) (fun g68 => ?_)
                   ·first | (exfalso; first | omega | (simp at g68; done) | contradiction | (simp [hT] at g68; done) | (simp [hDv] at g68; done)) | skip
                    all_goals (
                     refine hd_ev rfl rfl rfl rfl (EvG.of rfl (ev_not rfl rfl)) ?_
                     refine hd_ev rfl rfl rfl rfl (EvG.of rfl (ev_move rfl rfl)) ?_
                     refine hd_ev rfl rfl rfl rfl (EvG.pass rfl rfl) ?_
                     refine hd_ev rfl rfl rfl rfl (EvG.pass rfl rfl) ?_
                     refine hd_ev rfl rfl rfl rfl (EvG.pass rfl rfl) ?_
                     refine hd_ev rfl rfl rfl rfl (EvG.pass rfl rfl) ?_
                     refine hd_ev rfl rfl rfl rfl (EvG.pass rfl rfl) ?_
                     refine hd_ev rfl rfl rfl rfl (EvG.pass rfl rfl) ?_
                     refine hd_ev rfl rfl rfl rfl (EvG.pass rfl rfl) ?_
                     refine hd_ev rfl rfl rfl rfl (EvG.passU rfl rfl) ?_
                     refine hd_ev rfl rfl rfl rfl (EvG.passU rfl rfl) ?_
                     refine hd_ev rfl rfl rfl rfl (EvG.passU rfl rfl) ?_
                     refine hd_ev rfl rfl rfl rfl (EvG.passU rfl rfl) ?_
                     refine hd_ev rfl rfl rfl rfl (EvG.passU rfl rfl) ?_
                     refine hd_ev rfl rfl rfl rfl (EvG.passU rfl rfl) ?_
                     refine hd_ev rfl rfl rfl rfl (EvG.pass rfl rfl) ?_
                     refine hd_ev rfl rfl rfl rfl (EvG.of rfl (ev_pick_f rfl rfl rfl)) ?_
                     refine hd_nil ?_
                     refine hx_then ?_
                     refine ht_else rfl ?_
                     refine ht_skip ?_
                     refine hx_block_normal ?_
                     refine hx_joined (I := (fun g : Unit => ([DiskAt b0 E, pt b12 (.cells (arrC (fun i => vS ((D.view i).getD [])) (vS []) 21) 34 (0, 0)), pt b13 (.cells (arrC (fun i => .bool (D.view i).isSome) (.bool false) 21) 35 (0, 0)), pt b17 (.cells (arrC (fun i => .bool (T i)) (.bool false) 21) 35 (0, 0)), F], [(20, .int .i64 q), (17, .pointer (some ⟨b17, 0, none⟩)), (12, .pointer (some ⟨b12, 0, none⟩)), (13, .pointer (some ⟨b13, 0, none⟩)), (9, .pointer (some ⟨b0, 0, none⟩))]))) () ?_ ?_
                     ·repeat (first | exact EnvSub.nil _ | (refine EnvSub.cons rfl ?_))
                     ·(first | dsimp only | skip)
                      exact Ent.cons (by (repeat constructor); done) (Ent.cons (by (repeat constructor); done) (Ent.cons (by (repeat constructor); done) (Ent.cons (by (repeat constructor); done) (Ent.cons (by (repeat constructor); done) Ent.nil))))
                    )
                   ·first | (exfalso; first | omega | (simp at g68; done) | contradiction | (simp [hT] at g68; done) | (simp [hDv] at g68; done)) | skip
                    all_goals (
                     refine hd_ev rfl rfl rfl rfl (EvG.of rfl (ev_not rfl rfl)) ?_
                     refine hd_ev rfl rfl rfl rfl (EvG.of rfl (ev_move rfl rfl)) ?_
                     refine hd_ev rfl rfl rfl rfl (EvG.ofg rfl rfl (ev_move rfl rfl)) ?_
                     refine hd_ev rfl rfl rfl rfl (EvG.ofg rfl rfl (ev_str rfl Try.underlying36 Try.underlying5 Try.underlying9 rfl (by first | exact reads_ro (by (with_reducible repeat constructor); done) | exact reads_own (by (with_reducible repeat constructor); done) | exact reads_nil _))) ?_
                     refine hd_ev rfl rfl rfl rfl (EvG.ofg rfl rfl (ev_move rfl rfl)) ?_
                     refine hd_ev rfl rfl rfl rfl (EvG.ofg rfl rfl (ev_indexAddrA rfl Try.underlying34 Try.ty9 rfl rfl (by omega) (by omega))) ?_
                     refine hd_ev rfl rfl rfl rfl (EvG.ofg rfl rfl (ev_load rfl Try.underlying9 rfl rfl (cell_pt (by (with_reducible repeat constructor); done) (v := vS ((D.view q).getD [])) (by rw [(show 0 + ((q : Int)).toNat * 1 = q by omega)]; exact arrC_get _ _ (by omega) (by omega))))) ?_
                     refine hd_neSg rfl rfl rfl rfl rfl rfl rfl rfl rfl (fun g69 => ?_) (fun g69 => ?_)
                     ·first | (exfalso; first | omega | (simp at g69; done) | contradiction | (simp [hT] at g69; done) | (simp [hDv] at g69; done)) | skip
                      all_goals (
                       refine hd_ev rfl rfl rfl rfl (EvG.ofg rfl rfl (ev_move rfl rfl)) ?_
                       refine hd_ev rfl rfl rfl rfl (EvG.pass rfl rfl) ?_
                       refine hd_ev rfl rfl rfl rfl (EvG.pass rfl rfl) ?_
                       refine hd_ev rfl rfl rfl rfl (EvG.pass rfl rfl) ?_
                       refine hd_ev rfl rfl rfl rfl (EvG.pass rfl rfl) ?_
                       refine hd_ev rfl rfl rfl rfl (EvG.pass rfl rfl) ?_
                       refine hd_ev rfl rfl rfl rfl (EvG.pass rfl rfl) ?_
                       refine hd_ev rfl rfl rfl rfl (EvG.ofg rfl rfl (ev_pick_t rfl rfl rfl)) ?_
                       refine hd_ev rfl rfl rfl rfl (EvG.of rfl (ev_pick_t rfl rfl rfl)) ?_
                       refine hd_nil ?_
                       refine hx_then ?_
                       refine ht_then rfl ?_
                       refine ht_seq ?_
                       refine ht_region ?_
                       refine ho_ev rfl rfl rfl (ev_assign rfl rfl) ?_
                       refine ho_nil ?_
                       refine hx_then ?_
                       refine ht_ret ?_
                       refine hx_block_ret ?_
                       refine hx_through trivial ?_
                       refine hx_through trivial ?_
                       refine hx_block_ret ?_
                       refine hx_through trivial ?_
                       exact hx_ret1 (.inl rfl) rfl rfl () rfl (Ent.cons (by (repeat constructor); done) Ent.nil)
                      )
                     ·first | (exfalso; first | omega | (simp at g69; done) | contradiction | (simp [hT] at g69; done) | (simp [hDv] at g69; done)) | skip
                      all_goals (
                       refine hd_ev rfl rfl rfl rfl (EvG.ofg rfl rfl (ev_move rfl rfl)) ?_
                       refine hd_ev rfl rfl rfl rfl (EvG.ofg rfl rfl (ev_move rfl rfl)) ?_
                       refine hd_ev rfl rfl rfl rfl (EvG.ofg rfl rfl (ev_indexAddrA rfl Try.underlying35 Try.ty4 rfl rfl (by omega) (by omega))) ?_
                       refine hd_evb rfl rfl rfl rfl (EvG.ofg rfl rfl (ev_load rfl Try.underlying4 rfl rfl (cell_pt (by (with_reducible repeat constructor); done) (v := .bool (D.view q).isSome) (by rw [(show 0 + ((q : Int)).toNat * 1 = q by omega)]; exact arrC_get _ _ (by omega) (by omega))))) (fun g70 => ?_) (fun g70 => ?_)
                       ·first | (exfalso; first | omega | (simp at g70; done) | contradiction | (simp [hT] at g70; done) | (simp [hDv] at g70; done)) | skip
                        all_goals (
                         refine hd_ev rfl rfl rfl rfl (EvG.ofg rfl rfl (ev_move rfl rfl)) ?_
                         refine hd_eqg rfl rfl rfl rfl rfl rfl rfl rfl rfl (fun g71 => ?_) (fun g71 => ?_)
                         ·first | (exfalso; first | omega | (simp at g71; done) | contradiction | (simp [hT] at g71; done) | (simp [hDv] at g71; done)) | skip
                          all_goals (
                           refine hd_ev rfl rfl rfl rfl (EvG.ofg rfl rfl (ev_cmpB rfl Try.underlying4 rfl rfl rfl)) ?_
                           refine hd_ev rfl rfl rfl rfl (EvG.ofg rfl rfl (ev_pick_f rfl rfl rfl)) ?_
                           refine hd_ev rfl rfl rfl rfl (EvG.of rfl (ev_pick_t rfl rfl rfl)) ?_
                           refine hd_nil ?_
                           refine hx_then ?_
                           refine ht_else rfl ?_
                           refine ht_skip ?_
                           refine hx_block_normal ?_
                           refine hx_joined (I := (fun g : Unit => ([DiskAt b0 E, pt b12 (.cells (arrC (fun i => vS ((D.view i).getD [])) (vS []) 21) 34 (0, 0)), pt b13 (.cells (arrC (fun i => .bool (D.view i).isSome) (.bool false) 21) 35 (0, 0)), pt b17 (.cells (arrC (fun i => .bool (T i)) (.bool false) 21) 35 (0, 0)), F], [(20, .int .i64 q), (17, .pointer (some ⟨b17, 0, none⟩)), (12, .pointer (some ⟨b12, 0, none⟩)), (13, .pointer (some ⟨b13, 0, none⟩)), (9, .pointer (some ⟨b0, 0, none⟩))]))) () ?_ ?_
                           ·repeat (first | exact EnvSub.nil _ | (refine EnvSub.cons rfl ?_))
                           ·(first | dsimp only | skip)
                            exact Ent.cons (by (repeat constructor); done) (Ent.cons (by (repeat constructor); done) (Ent.cons (by (repeat constructor); done) (Ent.cons (by (repeat constructor); done) (Ent.cons (by (repeat constructor); done) Ent.nil))))
                          )
                         ·first | (exfalso; first | omega | (simp at g71; done) | contradiction | (simp [hT] at g71; done) | (simp [hDv] at g71; done)) | skip
                          all_goals (
                           refine hd_ev rfl rfl rfl rfl (EvG.ofg rfl rfl (ev_cmpB rfl Try.underlying4 rfl rfl rfl)) ?_
                           refine hd_ev rfl rfl rfl rfl (EvG.ofg rfl rfl (ev_pick_f rfl rfl rfl)) ?_
                           refine hd_ev rfl rfl rfl rfl (EvG.of rfl (ev_pick_t rfl rfl rfl)) ?_
                           refine hd_nil ?_
                           refine hx_then ?_
                           refine ht_then rfl ?_
                           refine ht_seq ?_
                           refine ht_region ?_
                           refine ho_ev rfl rfl rfl (ev_assign rfl rfl) ?_
                           refine ho_nil ?_
                           refine hx_then ?_
                           refine ht_ret ?_
                           refine hx_block_ret ?_
                           refine hx_through trivial ?_
                           refine hx_through trivial ?_
                           refine hx_block_ret ?_
                           refine hx_through trivial ?_
                           exact hx_ret1 (.inl rfl) rfl rfl () rfl (Ent.cons (by (repeat constructor); done) Ent.nil)
                          )
                        )
                       ·first | (exfalso; first | omega | (simp at g70; done) | contradiction | (simp [hT] at g70; done) | (simp [hDv] at g70; done)) | skip
                        all_goals (
                         refine hd_ev rfl rfl rfl rfl (EvG.ofg rfl rfl (ev_move rfl rfl)) ?_
                         refine hd_eqg rfl rfl rfl rfl rfl rfl rfl rfl rfl (fun g72 => ?_) (fun g72 => ?_)
                         ·first | (exfalso; first | omega | (simp at g72; done) | contradiction | (simp [hT] at g72; done) | (simp [hDv] at g72; done)) | skip
                          all_goals (
                           refine hd_ev rfl rfl rfl rfl (EvG.ofg rfl rfl (ev_cmpB rfl Try.underlying4 rfl rfl rfl)) ?_
                           refine hd_ev rfl rfl rfl rfl (EvG.ofg rfl rfl (ev_pick_f rfl rfl rfl)) ?_
                           refine hd_ev rfl rfl rfl rfl (EvG.of rfl (ev_pick_t rfl rfl rfl)) ?_
                           refine hd_nil ?_
                           refine hx_then ?_
                           refine ht_then rfl ?_
                           refine ht_seq ?_
                           refine ht_region ?_
                           refine ho_ev rfl rfl rfl (ev_assign rfl rfl) ?_
                           refine ho_nil ?_
                           refine hx_then ?_
                           refine ht_ret ?_
                           refine hx_block_ret ?_
                           refine hx_through trivial ?_
                           refine hx_through trivial ?_
                           refine hx_block_ret ?_
                           refine hx_through trivial ?_
                           exact hx_ret1 (.inl rfl) rfl rfl () rfl (Ent.cons (by (repeat constructor); done) Ent.nil)
                          )
                         ·first | (exfalso; first | omega | (simp at g72; done) | contradiction | (simp [hT] at g72; done) | (simp [hDv] at g72; done)) | skip
                          all_goals (
                           refine hd_ev rfl rfl rfl rfl (EvG.ofg rfl rfl (ev_cmpB rfl Try.underlying4 rfl rfl rfl)) ?_
                           refine hd_ev rfl rfl rfl rfl (EvG.ofg rfl rfl (ev_pick_f rfl rfl rfl)) ?_
                           refine hd_ev rfl rfl rfl rfl (EvG.of rfl (ev_pick_t rfl rfl rfl)) ?_
                           refine hd_nil ?_
                           refine hx_then ?_
                           refine ht_else rfl ?_
                           refine ht_skip ?_
                           refine hx_block_normal ?_
                           refine hx_joined (I := (fun g : Unit => ([DiskAt b0 E, pt b12 (.cells (arrC (fun i => vS ((D.view i).getD [])) (vS []) 21) 34 (0, 0)), pt b13 (.cells (arrC (fun i => .bool (D.view i).isSome) (.bool false) 21) 35 (0, 0)), pt b17 (.cells (arrC (fun i => .bool (T i)) (.bool false) 21) 35 (0, 0)), F], [(20, .int .i64 q), (17, .pointer (some ⟨b17, 0, none⟩)), (12, .pointer (some ⟨b12, 0, none⟩)), (13, .pointer (some ⟨b13, 0, none⟩)), (9, .pointer (some ⟨b0, 0, none⟩))]))) () ?_ ?_
                           ·repeat (first | exact EnvSub.nil _ | (refine EnvSub.cons rfl ?_))
                           ·(first | dsimp only | skip)
                            exact Ent.cons (by (repeat constructor); done) (Ent.cons (by (repeat constructor); done) (Ent.cons (by (repeat constructor); done) (Ent.cons (by (repeat constructor); done) (Ent.cons (by (repeat constructor); done) Ent.nil))))
                          )
                        )
                      )
                    )
                  ·skip
                   refine ht_draw (.op 0 (.op 1 (.op 2 (.op 3 (.op 4 (.op 5 (.op 6 (.op 7 (.op 8 (.op 9 (.op 10 (.op 11 (.op 12 (.op 13 (.op 14 (.op 15 (.op 16 (.op 17 (.op 18 (.op 19 .done)))))))))))))))))))) [] Try.mixed rfl ?_
                   refine hd_ev rfl rfl rfl rfl (EvG.of rfl (ev_move rfl rfl)) ?_
                   refine hd_ev rfl rfl rfl rfl (EvG.of rfl (ev_indexAddrA rfl Try.underlying35 Try.ty4 rfl rfl (by omega) (by omega))) ?_
                   refine hd_evb rfl rfl rfl rfl (EvG.of rfl (ev_load rfl Try.underlying4 rfl rfl (cell_pt (by (with_reducible repeat constructor); done) (v := .bool (T q)) (by rw [(show 0 + ((q : Int)).toNat * 1 = q by omega)]; exact arrC_get _ _ (by omega) (by omega))))) (fun g73 => ?_) (fun g73 => ?_)
                   ·first | (exfalso; first | omega | (simp at g73; done) | contradiction | (simp [hT] at g73; done)) | skip
                    all_goals (
                     refine hd_ev rfl rfl rfl rfl (EvG.of rfl (ev_not rfl rfl)) ?_
                     refine hd_ev rfl rfl rfl rfl (EvG.of rfl (ev_move rfl rfl)) ?_
                     refine hd_ev rfl rfl rfl rfl (EvG.pass rfl rfl) ?_
                     refine hd_ev rfl rfl rfl rfl (EvG.pass rfl rfl) ?_
                     refine hd_ev rfl rfl rfl rfl (EvG.pass rfl rfl) ?_
                     refine hd_ev rfl rfl rfl rfl (EvG.pass rfl rfl) ?_
                     refine hd_ev rfl rfl rfl rfl (EvG.pass rfl rfl) ?_
                     refine hd_ev rfl rfl rfl rfl (EvG.pass rfl rfl) ?_
                     refine hd_ev rfl rfl rfl rfl (EvG.pass rfl rfl) ?_
                     refine hd_ev rfl rfl rfl rfl (EvG.passU rfl rfl) ?_
                     refine hd_ev rfl rfl rfl rfl (EvG.passU rfl rfl) ?_
                     refine hd_ev rfl rfl rfl rfl (EvG.passU rfl rfl) ?_
                     refine hd_ev rfl rfl rfl rfl (EvG.passU rfl rfl) ?_
                     refine hd_ev rfl rfl rfl rfl (EvG.passU rfl rfl) ?_
                     refine hd_ev rfl rfl rfl rfl (EvG.passU rfl rfl) ?_
                     refine hd_ev rfl rfl rfl rfl (EvG.pass rfl rfl) ?_
                     refine hd_ev rfl rfl rfl rfl (EvG.of rfl (ev_pick_f rfl rfl rfl)) ?_
                     refine hd_nil ?_
                     refine hx_then ?_
                     refine ht_else rfl ?_
                     refine ht_skip ?_
                     refine hx_block_normal ?_
                     refine hx_joined (I := (fun g : Unit => ([DiskAt b0 E, pt b12 (.cells (arrC (fun i => vS ((D.view i).getD [])) (vS []) 21) 34 (0, 0)), pt b13 (.cells (arrC (fun i => .bool (D.view i).isSome) (.bool false) 21) 35 (0, 0)), pt b17 (.cells (arrC (fun i => .bool (T i)) (.bool false) 21) 35 (0, 0)), F], [(20, .int .i64 q), (17, .pointer (some ⟨b17, 0, none⟩)), (12, .pointer (some ⟨b12, 0, none⟩)), (13, .pointer (some ⟨b13, 0, none⟩)), (9, .pointer (some ⟨b0, 0, none⟩))]))) () ?_ ?_
                     ·repeat (first | exact EnvSub.nil _ | (refine EnvSub.cons rfl ?_))
                     ·(first | dsimp only | skip)
                      exact Ent.cons (by (repeat constructor); done) (Ent.cons (by (repeat constructor); done) (Ent.cons (by (repeat constructor); done) (Ent.cons (by (repeat constructor); done) (Ent.cons (by (repeat constructor); done) Ent.nil))))
                    )
                   ·first | (exfalso; first | omega | (simp at g73; done) | contradiction | (simp [hT] at g73; done)) | skip
                    all_goals (
                     refine hd_ev rfl rfl rfl rfl (EvG.of rfl (ev_not rfl rfl)) ?_
                     refine hd_ev rfl rfl rfl rfl (EvG.of rfl (ev_move rfl rfl)) ?_
                     refine hd_ev rfl rfl rfl rfl (EvG.ofg rfl rfl (ev_move rfl rfl)) ?_
                     refine hd_ev rfl rfl rfl rfl (EvG.ofg rfl rfl (ev_str rfl Try.underlying36 Try.underlying5 Try.underlying9 rfl (by first | exact reads_ro (by (with_reducible repeat constructor); done) | exact reads_own (by (with_reducible repeat constructor); done) | exact reads_nil _))) ?_
                     refine hd_ev rfl rfl rfl rfl (EvG.ofg rfl rfl (ev_move rfl rfl)) ?_
                     refine hd_ev rfl rfl rfl rfl (EvG.ofg rfl rfl (ev_indexAddrA rfl Try.underlying34 Try.ty9 rfl rfl (by omega) (by omega))) ?_
                     refine hd_ev rfl rfl rfl rfl (EvG.ofg rfl rfl (ev_load rfl Try.underlying9 rfl rfl (cell_pt (by (with_reducible repeat constructor); done) (v := vS ((D.view q).getD [])) (by rw [(show 0 + ((q : Int)).toNat * 1 = q by omega)]; exact arrC_get _ _ (by omega) (by omega))))) ?_
                     refine hd_neSg rfl rfl rfl rfl rfl rfl rfl rfl rfl (fun g74 => ?_) (fun g74 => ?_)
                     ·first | (exfalso; first | omega | (simp at g74; done) | contradiction | (simp [hT] at g74; done)) | skip
                      all_goals (
                       refine hd_ev rfl rfl rfl rfl (EvG.ofg rfl rfl (ev_move rfl rfl)) ?_
                       refine hd_ev rfl rfl rfl rfl (EvG.pass rfl rfl) ?_
                       refine hd_ev rfl rfl rfl rfl (EvG.pass rfl rfl) ?_
                       refine hd_ev rfl rfl rfl rfl (EvG.pass rfl rfl) ?_
                       refine hd_ev rfl rfl rfl rfl (EvG.pass rfl rfl) ?_
                       refine hd_ev rfl rfl rfl rfl (EvG.pass rfl rfl) ?_
                       refine hd_ev rfl rfl rfl rfl (EvG.pass rfl rfl) ?_
                       refine hd_ev rfl rfl rfl rfl (EvG.ofg rfl rfl (ev_pick_t rfl rfl rfl)) ?_
                       refine hd_ev rfl rfl rfl rfl (EvG.of rfl (ev_pick_t rfl rfl rfl)) ?_
                       refine hd_nil ?_
                       refine hx_then ?_
                       refine ht_then rfl ?_
                       refine ht_seq ?_
                       refine ht_region ?_
                       refine ho_ev rfl rfl rfl (ev_assign rfl rfl) ?_
                       refine ho_nil ?_
                       refine hx_then ?_
                       refine ht_ret ?_
                       refine hx_block_ret ?_
                       refine hx_through trivial ?_
                       refine hx_through trivial ?_
                       refine hx_block_ret ?_
                       refine hx_through trivial ?_
                       exact hx_ret1 (.inl rfl) rfl rfl () rfl (Ent.cons (by (repeat constructor); done) Ent.nil)
                      )
                     ·first | (exfalso; first | omega | (simp at g74; done) | contradiction | (simp [hT] at g74; done)) | skip
                      all_goals (
                       refine hd_ev rfl rfl rfl rfl (EvG.ofg rfl rfl (ev_move rfl rfl)) ?_
                       refine hd_ev rfl rfl rfl rfl (EvG.ofg rfl rfl (ev_move rfl rfl)) ?_
                       refine hd_ev rfl rfl rfl rfl (EvG.ofg rfl rfl (ev_indexAddrA rfl Try.underlying35 Try.ty4 rfl rfl (by omega) (by omega))) ?_
                       refine hd_evb rfl rfl rfl rfl (EvG.ofg rfl rfl (ev_load rfl Try.underlying4 rfl rfl (cell_pt (by (with_reducible repeat constructor); done) (v := .bool (D.view q).isSome) (by rw [(show 0 + ((q : Int)).toNat * 1 = q by omega)]; exact arrC_get _ _ (by omega) (by omega))))) (fun g75 => ?_) (fun g75 => ?_)
                       ·first | (exfalso; first | omega | (simp at g75; done) | contradiction | (simp [hT] at g75; done)) | skip
                        all_goals (
                         refine hd_ev rfl rfl rfl rfl (EvG.ofg rfl rfl (ev_move rfl rfl)) ?_
                         refine hd_eqg rfl rfl rfl rfl rfl rfl rfl rfl rfl (fun g76 => ?_) (fun g76 => ?_)
                         ·first | (exfalso; first | omega | (simp at g76; done) | contradiction | (simp [hT] at g76; done)) | skip
                          all_goals (
                           refine hd_ev rfl rfl rfl rfl (EvG.ofg rfl rfl (ev_cmpB rfl Try.underlying4 rfl rfl rfl)) ?_
                           refine hd_ev rfl rfl rfl rfl (EvG.ofg rfl rfl (ev_pick_f rfl rfl rfl)) ?_
                           refine hd_ev rfl rfl rfl rfl (EvG.of rfl (ev_pick_t rfl rfl rfl)) ?_
                           refine hd_nil ?_
                           refine hx_then ?_
                           refine ht_else rfl ?_
                           refine ht_skip ?_
                           refine hx_block_normal ?_
                           refine hx_joined (I := (fun g : Unit => ([DiskAt b0 E, pt b12 (.cells (arrC (fun i => vS ((D.view i).getD [])) (vS []) 21) 34 (0, 0)), pt b13 (.cells (arrC (fun i => .bool (D.view i).isSome) (.bool false) 21) 35 (0, 0)), pt b17 (.cells (arrC (fun i => .bool (T i)) (.bool false) 21) 35 (0, 0)), F], [(20, .int .i64 q), (17, .pointer (some ⟨b17, 0, none⟩)), (12, .pointer (some ⟨b12, 0, none⟩)), (13, .pointer (some ⟨b13, 0, none⟩)), (9, .pointer (some ⟨b0, 0, none⟩))]))) () ?_ ?_
                           ·repeat (first | exact EnvSub.nil _ | (refine EnvSub.cons rfl ?_))
                           ·(first | dsimp only | skip)
                            exact Ent.cons (by (repeat constructor); done) (Ent.cons (by (repeat constructor); done) (Ent.cons (by (repeat constructor); done) (Ent.cons (by (repeat constructor); done) (Ent.cons (by (repeat constructor); done) Ent.nil))))
                          )
                         ·first | (exfalso; first | omega | (simp at g76; done) | contradiction | (simp [hT] at g76; done)) | skip
                          all_goals (
                           refine hd_ev rfl rfl rfl rfl (EvG.ofg rfl rfl (ev_cmpB rfl Try.underlying4 rfl rfl rfl)) ?_
                           refine hd_ev rfl rfl rfl rfl (EvG.ofg rfl rfl (ev_pick_f rfl rfl rfl)) ?_
                           refine hd_ev rfl rfl rfl rfl (EvG.of rfl (ev_pick_t rfl rfl rfl)) ?_
                           refine hd_nil ?_
                           refine hx_then ?_
                           refine ht_then rfl ?_
                           refine ht_seq ?_
                           refine ht_region ?_
                           refine ho_ev rfl rfl rfl (ev_assign rfl rfl) ?_
                           refine ho_nil ?_
                           refine hx_then ?_
                           refine ht_ret ?_
                           refine hx_block_ret ?_
                           refine hx_through trivial ?_
                           refine hx_through trivial ?_
                           refine hx_block_ret ?_
                           refine hx_through trivial ?_
                           exact hx_ret1 (.inl rfl) rfl rfl () rfl (Ent.cons (by (repeat constructor); done) Ent.nil)
                          )
                        )
                       ·first | (exfalso; first | omega | (simp at g75; done) | contradiction | (simp [hT] at g75; done)) | skip
                        all_goals (
                         refine hd_ev rfl rfl rfl rfl (EvG.ofg rfl rfl (ev_move rfl rfl)) ?_
                         refine hd_eqg rfl rfl rfl rfl rfl rfl rfl rfl rfl (fun g77 => ?_) (fun g77 => ?_)
                         ·first | (exfalso; first | omega | (simp at g77; done) | contradiction | (simp [hT] at g77; done)) | skip
                          all_goals (
                           refine hd_ev rfl rfl rfl rfl (EvG.ofg rfl rfl (ev_cmpB rfl Try.underlying4 rfl rfl rfl)) ?_
                           refine hd_ev rfl rfl rfl rfl (EvG.ofg rfl rfl (ev_pick_f rfl rfl rfl)) ?_
                           refine hd_ev rfl rfl rfl rfl (EvG.of rfl (ev_pick_t rfl rfl rfl)) ?_
                           refine hd_nil ?_
                           refine hx_then ?_
                           refine ht_then rfl ?_
                           refine ht_seq ?_
                           refine ht_region ?_
                           refine ho_ev rfl rfl rfl (ev_assign rfl rfl) ?_
                           refine ho_nil ?_
                           refine hx_then ?_
                           refine ht_ret ?_
                           refine hx_block_ret ?_
                           refine hx_through trivial ?_
                           refine hx_through trivial ?_
                           refine hx_block_ret ?_
                           refine hx_through trivial ?_
                           exact hx_ret1 (.inl rfl) rfl rfl () rfl (Ent.cons (by (repeat constructor); done) Ent.nil)
                          )
                         ·first | (exfalso; first | omega | (simp at g77; done) | contradiction | (simp [hT] at g77; done)) | skip
                          all_goals (
                           refine hd_ev rfl rfl rfl rfl (EvG.ofg rfl rfl (ev_cmpB rfl Try.underlying4 rfl rfl rfl)) ?_
                           refine hd_ev rfl rfl rfl rfl (EvG.ofg rfl rfl (ev_pick_f rfl rfl rfl)) ?_
                           refine hd_ev rfl rfl rfl rfl (EvG.of rfl (ev_pick_t rfl rfl rfl)) ?_
                           refine hd_nil ?_
                           refine hx_then ?_
                           refine ht_else rfl ?_
                           refine ht_skip ?_
                           refine hx_block_normal ?_
                           refine hx_joined (I := (fun g : Unit => ([DiskAt b0 E, pt b12 (.cells (arrC (fun i => vS ((D.view i).getD [])) (vS []) 21) 34 (0, 0)), pt b13 (.cells (arrC (fun i => .bool (D.view i).isSome) (.bool false) 21) 35 (0, 0)), pt b17 (.cells (arrC (fun i => .bool (T i)) (.bool false) 21) 35 (0, 0)), F], [(20, .int .i64 q), (17, .pointer (some ⟨b17, 0, none⟩)), (12, .pointer (some ⟨b12, 0, none⟩)), (13, .pointer (some ⟨b13, 0, none⟩)), (9, .pointer (some ⟨b0, 0, none⟩))]))) () ?_ ?_
                           ·repeat (first | exact EnvSub.nil _ | (refine EnvSub.cons rfl ?_))
                           ·(first | dsimp only | skip)
                            exact Ent.cons (by (repeat constructor); done) (Ent.cons (by (repeat constructor); done) (Ent.cons (by (repeat constructor); done) (Ent.cons (by (repeat constructor); done) (Ent.cons (by (repeat constructor); done) Ent.nil))))
                          )
                        )
                      )
                    )
                ·skip
                 (first | dsimp only | skip)
                 refine ht_region ?_
                 refine ho_ev rfl rfl rfl (ev_move rfl rfl) ?_
                 refine ho_ev rfl rfl rfl (ev_add rfl rfl rfl (by first | exact in_i64 (by omega) | rfl)) ?_
                 refine ho_ev rfl rfl rfl (ev_assign rfl rfl) ?_
                 refine ho_nil ?_
                 refine hx_again (I := (fun q : Nat => ([DiskAt b0 E, pt b12 (.cells (arrC (fun i => vS ((D.view i).getD [])) (vS []) 21) 34 (0, 0)), pt b13 (.cells (arrC (fun i => .bool (D.view i).isSome) (.bool false) 21) 35 (0, 0)), pt b17 (.cells (arrC (fun i => .bool (T i)) (.bool false) 21) 35 (0, 0)), pu (q ≤ 21), F], [(20, .int .i64 q), (17, .pointer (some ⟨b17, 0, none⟩)), (12, .pointer (some ⟨b12, 0, none⟩)), (13, .pointer (some ⟨b13, 0, none⟩)), (9, .pointer (some ⟨b0, 0, none⟩))]))) (μ := (fun q : Nat => 21 - q)) (i := q) (q + 1) ?_ ?_ ?_
                 ·(first | dsimp only | skip); omega
                 ·repeat (first | exact EnvSub.nil _ | (refine EnvSub.cons rfl ?_))
                 ·(first | dsimp only | skip)
                  exact Ent.cons (by (repeat constructor); done) (Ent.cons (by (repeat constructor); done) (Ent.cons (by (repeat constructor); done) (Ent.cons (by (repeat constructor); done) (Ent.pu (by omega) (Ent.cons (by (repeat constructor); done) Ent.nil)))))
               )
              ·first | (exfalso; first | omega | (simp at g57; done) | contradiction) | skip
               all_goals (
                refine ho_nil ?_
                refine hx_then ?_
                refine ht_else rfl ?_
                refine ht_exit ?_
                refine hx_through trivial ?_
                refine hx_through trivial ?_
                refine hx_block_here ?_
                refine hx_then ?_
                refine ht_seq ?_
                refine ht_region ?_
                refine ho_ev rfl rfl rfl (ev_move rfl rfl) ?_
                refine ho_eff rfl rfl rfl (eff_call rfl rfl (.cons rfl .nil) rfl (disk_Pending b0 E) (by repeat (first | exact Picks.nil | (apply Picks.ro; focus ((repeat constructor); done)) | (apply Picks.cons; focus ((repeat constructor); done)))) (fun _ => by repeat (first | exact App.nil | apply App.cons))) (fun _ => ?_)
                refine ho_eq rfl rfl rfl rfl rfl rfl (fun g78 => ?_) (fun g78 => ?_)
                ·first | (exfalso; first | omega | (simp at g78; done) | contradiction) | skip
                 all_goals (
                  refine ho_ev rfl rfl rfl (ev_assign rfl rfl) ?_
                  refine ho_nil ?_
                  refine hx_then ?_
                  refine ht_ret ?_
                  exact hx_ret1 (.inl rfl) rfl rfl () rfl (Ent.cons (by (repeat constructor); done) Ent.nil)
                 )
                ·first | (exfalso; first | omega | (simp at g78; done) | contradiction) | skip
                 all_goals (
                  refine ho_ev rfl rfl rfl (ev_assign rfl rfl) ?_
                  refine ho_nil ?_
                  refine hx_then ?_
                  refine ht_ret ?_
                  exact hx_ret1 (.inl rfl) rfl rfl () rfl (Ent.cons (by (repeat constructor); done) Ent.nil)
                 )
               )
            )
         )
       )
     )
   )
  ·first | (exfalso; first | omega | (simp at g40; done) | contradiction) | skip
   all_goals (
    refine ho_ev rfl rfl rfl (ev_not rfl rfl) ?_
    refine ho_ev rfl rfl rfl (ev_move rfl rfl) ?_
    refine ho_pass rfl rfl rfl rfl ?_
    refine ho_pass rfl rfl rfl rfl ?_
    refine ho_ev rfl rfl rfl (ev_pick_t rfl rfl rfl) ?_
    refine ho_ev rfl rfl rfl (ev_move rfl rfl) ?_
    refine ho_pass rfl rfl rfl rfl ?_
    refine ho_pass rfl rfl rfl rfl ?_
    refine ho_ev rfl rfl rfl (ev_pick_t rfl rfl rfl) ?_
    refine ho_ev rfl rfl rfl (ev_move rfl rfl) ?_
    refine ho_pass rfl rfl rfl rfl ?_
    refine ho_pass rfl rfl rfl rfl ?_
    refine ho_pass rfl rfl rfl rfl ?_
    refine ho_ev rfl rfl rfl (ev_pick_t rfl rfl rfl) ?_
    refine ho_nil ?_
    refine hx_then ?_
    refine ht_then rfl ?_
    refine ht_seq ?_
    refine ht_region ?_
    refine ho_eff rfl rfl rfl (eff_call rfl rfl .nil rfl (law_awake) (by repeat (first | exact Picks.nil | (apply Picks.ro; focus ((with_reducible repeat constructor); done)) | (apply Picks.cons; focus ((with_reducible repeat constructor); done)))) (fun _ => by repeat (first | exact App.nil | apply App.cons))) (fun _ => ?_)
    refine ho_ev rfl rfl rfl (ev_assign rfl rfl) ?_
    refine ho_nil ?_
    refine hx_then ?_
    refine ht_ret ?_
    refine hx_through trivial ?_
    exact hx_ret1 (.inl rfl) rfl rfl () rfl (Ent.cons (by (repeat constructor); done) Ent.nil)
   )
end Go.Proofs.Ytlejcepbcfijiaa
