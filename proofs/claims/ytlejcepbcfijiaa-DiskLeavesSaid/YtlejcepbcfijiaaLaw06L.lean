/-
  LAW 06 (disk): the walk of DiskLeaves. Conditions: as the contract says.
-/
import Derived.Test.YtlejcepbcfijiaaLaw06
set_option maxRecDepth 100000
set_option linter.unusedVariables false
set_option linter.unusedSimpArgs false
namespace Go.Proofs.Ytlejcepbcfijiaa
open Go Go.SL

theorem law_DiskLeaves (n : Int) (a : Option Addr) (c : Nat) (xs : List ActV) (ms : List Dk.MAct) : Ctr Try.prog 4 #[.int .i64 n, .slice a xs.length c] [ro (roS a xs.length xs), ro (actsR xs ms)] (fun _ : Unit => .bool true) (fun _ => []) := by
  refine fn_intro Try.func4 rfl rfl Try.ntmps4 (Nat.le_of_ble_eq_true rfl) (fun _ => by repeat (first | exact App.nil | apply App.cons)) (fun κ F => ?_)
  refine ht_actsLen (by (repeat (first | with_reducible exact Pick.here | with_reducible apply Pick.there)); done) (fun hlen => ?_)
  refine ht_seq ?_
  refine ht_region ?_
  refine ho_ev rfl rfl rfl (ev_assign rfl rfl) ?_
  refine ho_nil ?_
  refine hx_then ?_
  refine ht_seq ?_
  refine ht_region ?_
  refine ho_ev rfl rfl rfl (ev_move rfl rfl) ?_
  by_cases hn : n < 1 ∨ 65536 < n
  · skip
    refine ho_eff rfl rfl rfl (eff_call rfl rfl (.cons rfl .nil) rfl (disk_New_no n hn) (by repeat (first | exact Picks.nil | (apply Picks.ro; focus ((repeat (first | with_reducible exact Pick.here | with_reducible apply Pick.there)); done)) | (apply Picks.cons; focus ((repeat (first | with_reducible exact Pick.here | with_reducible apply Pick.there)); done)))) (fun _ => by repeat (first | exact App.nil | apply App.cons))) (fun _ => ?_)
    refine ho_ev rfl rfl rfl (ev_move rfl rfl) ?_
    refine ho_ev rfl rfl rfl (ev_extract rfl rfl rfl) ?_
    refine ho_ev rfl rfl rfl (ev_extract rfl rfl rfl) ?_
    refine ho_ev rfl rfl rfl (ev_assign rfl rfl) ?_
    refine ho_ev rfl rfl rfl (ev_assign rfl rfl) ?_
    refine ho_nil ?_
    refine hx_then ?_
    refine ht_seq ?_
    refine ht_seq ?_
    refine ht_region ?_
    refine ho_eff rfl rfl rfl (eff_call rfl rfl .nil rfl (law_awake) (by repeat (first | exact Picks.nil | (apply Picks.ro; focus ((repeat (first | with_reducible exact Pick.here | with_reducible apply Pick.there)); done)) | (apply Picks.cons; focus ((repeat (first | with_reducible exact Pick.here | with_reducible apply Pick.there)); done)))) (fun _ => by repeat (first | exact App.nil | apply App.cons))) (fun _ => ?_)
    refine ho_bool (t := 21) rfl (fun g1 => ?_) (fun g1 => ?_)
    · first | (exfalso; first | omega | (simp at g1; done) | contradiction) | skip
      all_goals (
        refine ho_ev rfl rfl rfl (ev_not rfl rfl) ?_
        refine ho_ev rfl rfl rfl (ev_move rfl rfl) ?_
        refine ho_evg rfl rfl rfl rfl (ev_move rfl rfl) ?_
        refine ho_neg rfl rfl rfl rfl rfl rfl rfl (fun g2 => ?_) (fun g2 => ?_)
        · first | (exfalso; first | omega | (simp at g2; done) | contradiction) | skip
          all_goals (
            refine ho_ev rfl rfl rfl (ev_pick_f rfl rfl rfl) ?_
            refine ho_ev rfl rfl rfl (ev_move rfl rfl) ?_
            refine ho_pass rfl rfl rfl rfl ?_
            refine ho_pass rfl rfl rfl rfl ?_
            refine ho_ev rfl rfl rfl (ev_pick_t rfl rfl rfl) ?_
            refine ho_nil ?_
            refine hx_then ?_
            refine ht_then rfl ?_
            refine ht_seq ?_
            refine ht_region ?_
            refine ho_eff rfl rfl rfl (eff_call rfl rfl .nil rfl (law_awake) (by repeat (first | exact Picks.nil | (apply Picks.ro; focus ((repeat (first | with_reducible exact Pick.here | with_reducible apply Pick.there)); done)) | (apply Picks.cons; focus ((repeat (first | with_reducible exact Pick.here | with_reducible apply Pick.there)); done)))) (fun _ => by repeat (first | exact App.nil | apply App.cons))) (fun _ => ?_)
            refine ho_ev rfl rfl rfl (ev_assign rfl rfl) ?_
            refine ho_nil ?_
            refine hx_then ?_
            refine ht_ret ?_
            refine hx_through trivial ?_
            exact hx_ret1 (.inl rfl) rfl rfl () rfl (Ent.cons (by (repeat (first | exact Pick.here | apply Pick.there)); done) Ent.nil)
          )
        · first | (exfalso; first | omega | (simp at g2; done) | contradiction) | skip
          all_goals (
            refine ho_ev rfl rfl rfl (ev_pick_f rfl rfl rfl) ?_
            refine ho_ev rfl rfl rfl (ev_move rfl rfl) ?_
            refine ho_evg rfl rfl rfl rfl (ev_move rfl rfl) ?_
            refine ho_evg rfl rfl rfl rfl (ev_ptrNil rfl Try.underlying25 rfl rfl rfl) ?_
            refine ho_ev rfl rfl rfl (ev_pick_f rfl rfl rfl) ?_
            refine ho_nil ?_
            refine hx_then ?_
            refine ht_bool (t := 30) rfl (fun g3 => ?_) (fun g3 => ?_)
            · first | (exfalso; first | omega | (simp at g3; done) | contradiction) | skip
              all_goals (
                refine ht_then rfl ?_
                refine ht_seq ?_
                refine ht_region ?_
                refine ho_eff rfl rfl rfl (eff_call rfl rfl .nil rfl (law_awake) (by repeat (first | exact Picks.nil | (apply Picks.ro; focus ((repeat (first | with_reducible exact Pick.here | with_reducible apply Pick.there)); done)) | (apply Picks.cons; focus ((repeat (first | with_reducible exact Pick.here | with_reducible apply Pick.there)); done)))) (fun _ => by repeat (first | exact App.nil | apply App.cons))) (fun _ => ?_)
                refine ho_ev rfl rfl rfl (ev_assign rfl rfl) ?_
                refine ho_nil ?_
                refine hx_then ?_
                refine ht_ret ?_
                refine hx_through trivial ?_
                exact hx_ret1 (.inl rfl) rfl rfl () rfl (Ent.cons (by (repeat (first | exact Pick.here | apply Pick.there)); done) Ent.nil)
              )
            · first | (exfalso; first | omega | (simp at g3; done) | contradiction) | skip
              all_goals (
                refine ht_else rfl ?_
                refine ht_skip ?_
                refine hx_then ?_
                refine ht_seq ?_
                refine ht_seq ?_
                refine ht_region ?_
                refine ho_ev rfl rfl rfl (ev_assign rfl rfl) ?_
                refine ho_nil ?_
                refine hx_then ?_
                refine ht_block ?_
                refine ht_loop (fun q : Nat => ([DiskAt b0 (Dk.Disk.upto n ms q), ro (roS a xs.length xs), ro (actsR xs ms), pu (q ≤ 40 ∧ q ≤ xs.length), F], [(1, .slice a xs.length c), (5, .pointer (some ⟨b0, 0, none⟩)), (7, .int .i64 q)])) (fun q : Nat => 40 - q) 0 ?_ (by repeat (first | exact EnvSub.nil _ | (refine EnvSub.cons rfl ?_))) (fun q => ?_)
                · (first | dsimp only | skip)
                  rw [Dk.upto_zero]
                  exact Ent.cons (by (repeat (first | exact Pick.here | apply Pick.there)); done) (Ent.cons (by (repeat (first | exact Pick.here | apply Pick.there)); done) (Ent.cons (by (repeat (first | exact Pick.here | apply Pick.there)); done) (Ent.pu ⟨by omega, by omega⟩ (Ent.cons (by (repeat (first | exact Pick.here | apply Pick.there)); done) Ent.nil))))
                obtain q := q
                dsimp only
                refine ht_pick (A := pu (q ≤ 40 ∧ q ≤ xs.length)) (by (repeat (first | exact Pick.here | apply Pick.there)); done) (ht_pure fun hq => ?_)
                obtain ⟨hq1, hq2⟩ := hq
                refine ht_seq ?_
                refine ht_seq ?_
                refine ht_region ?_
                refine ho_ev rfl rfl rfl (ev_move rfl rfl) ?_
                refine ho_ev rfl rfl rfl (ev_move rfl rfl) ?_
                refine ho_ev rfl rfl rfl (ev_lenSl rfl Try.underlying22 rfl) ?_
                refine ho_lt rfl rfl rfl rfl rfl rfl (fun g4 => ?_) (fun g4 => ?_)
                · first | (exfalso; first | omega | (simp at g4; done) | contradiction) | skip
                  all_goals (
                    refine ho_ev rfl rfl rfl (ev_move rfl rfl) ?_
                    refine ho_evg rfl rfl rfl rfl (ev_move rfl rfl) ?_
                    refine ho_ltg rfl rfl rfl rfl rfl rfl rfl (fun g5 => ?_) (fun g5 => ?_)
                    · first | (exfalso; first | omega | (simp at g5; done) | contradiction) | skip
                      all_goals (
                        refine ho_ev rfl rfl rfl (ev_pick_t rfl rfl rfl) ?_
                        refine ho_nil ?_
                        refine hx_then ?_
                        refine ht_then rfl ?_
                        refine ht_skip ?_
                        refine hx_then ?_
                        refine ht_seq ?_
                        refine ht_block ?_
                        refine ht_actAt (xs := xs) (ms := ms) (i := q) (by omega) (by (repeat (first | with_reducible exact Pick.here | with_reducible apply Pick.there)); done) (fun x0 m0 hx0 hm0 => ?_)
                        refine ht_someS (α := ActV) (reads_ro (by (repeat (first | with_reducible exact Pick.here | with_reducible apply Pick.there)); done)) (by omega) (fun ab ao ha => ?_)
                        refine ht_region ?_
                        refine ho_ev rfl rfl rfl (ev_move rfl rfl) ?_
                        refine ho_ev rfl rfl rfl (ev_move rfl rfl) ?_
                        refine ho_ev rfl rfl rfl (ev_move rfl rfl) ?_
                        refine ho_ev rfl rfl rfl (ev_indexAddr rfl Try.underlying22 Try.ty32 (congrArg (fun z => some (Value.slice z xs.length c)) ha) rfl (by omega) (by omega)) ?_
                        refine ho_ev rfl rfl rfl (ev_loadA rfl Try.underlying32 Try.ty32 rfl rfl (cells_Sa ha (reads_ro (by (repeat (first | with_reducible exact Pick.here | with_reducible apply Pick.there)); done)) hx0)) ?_
                        refine ho_eff rfl rfl rfl (eff_call rfl rfl (.cons rfl .nil) rfl (law_few x0 m0) (by repeat (first | exact Picks.nil | (apply Picks.ro; focus ((repeat (first | exact Pick.here | apply Pick.there)); done)) | (apply Picks.cons; focus ((repeat (first | exact Pick.here | apply Pick.there)); done)))) (fun _ => by repeat (first | exact App.nil | apply App.cons))) (fun y => ?_)
                        refine ho_eff rfl rfl rfl (eff_call rfl rfl (.cons rfl (.cons rfl .nil)) rfl (law_do b0 (Dk.Disk.upto n ms q) y m0.few (Dk.MAct.few_short m0) (by have := Dk.upto_len n ms q; omega)) (by repeat (first | exact Picks.nil | (apply Picks.ro; focus ((repeat (first | exact Pick.here | apply Pick.there)); done)) | (apply Picks.cons; focus ((repeat (first | exact Pick.here | apply Pick.there)); done)))) (fun _ => by repeat (first | exact App.nil | apply App.cons))) (fun _ => ?_)
                        refine ho_nil ?_
                        refine hx_block_normal ?_
                        refine hx_then ?_
                        refine ht_region ?_
                        refine ho_ev rfl rfl rfl (ev_move rfl rfl) ?_
                        refine ho_ev rfl rfl rfl (ev_add rfl rfl rfl (by first | exact in_i64 (by omega) | rfl)) ?_
                        refine ho_ev rfl rfl rfl (ev_assign rfl rfl) ?_
                        refine ho_nil ?_
                        refine hx_again (I := (fun q : Nat => ([DiskAt b0 (Dk.Disk.upto n ms q), ro (roS a xs.length xs), ro (actsR xs ms), pu (q ≤ 40 ∧ q ≤ xs.length), F], [(1, .slice a xs.length c), (5, .pointer (some ⟨b0, 0, none⟩)), (7, .int .i64 q)]))) (μ := (fun q : Nat => 40 - q)) (i := q) (q + 1) ?_ ?_ ?_
                        · (first | dsimp only | skip); omega
                        · repeat (first | exact EnvSub.nil _ | (refine EnvSub.cons rfl ?_))
                        · (first | dsimp only | skip)
                          rw [Dk.upto_step hm0]
                          exact Ent.cons (by (repeat (first | exact Pick.here | apply Pick.there)); done) (Ent.cons (by (repeat (first | exact Pick.here | apply Pick.there)); done) (Ent.cons (by (repeat (first | exact Pick.here | apply Pick.there)); done) (Ent.pu ⟨by omega, by omega⟩ (Ent.cons (by (repeat (first | exact Pick.here | apply Pick.there)); done) Ent.nil))))
                      )
                    · first | (exfalso; first | omega | (simp at g5; done) | contradiction) | skip
                      all_goals (
                        refine ho_ev rfl rfl rfl (ev_pick_t rfl rfl rfl) ?_
                        refine ho_nil ?_
                        refine hx_then ?_
                        refine ht_else rfl ?_
                        refine ht_exit ?_
                        refine hx_through trivial ?_
                        refine hx_through trivial ?_
                        refine hx_block_here ?_
                        refine hx_then ?_
                        refine ht_seq ?_
                        have hinv := Dk.upto_inv n ms q
                        have hpl := Dk.upto_len n ms q
                        generalize Dk.Disk.upto n ms q = D at *
                        refine ht_region ?_
                        refine ho_ev rfl rfl rfl (ev_move rfl rfl) ?_
                        refine ho_eff rfl rfl rfl (eff_call rfl rfl (.cons rfl .nil) rfl (disk_Copy b0 D (by omega)) (by repeat (first | exact Picks.nil | (apply Picks.ro; focus ((repeat (first | exact Pick.here | apply Pick.there)); done)) | (apply Picks.cons; focus ((repeat (first | exact Pick.here | apply Pick.there)); done)))) (fun _ => by repeat (first | exact App.nil | apply App.cons))) (fun qc => ?_)
                        refine ho_ev rfl rfl rfl (ev_assign rfl rfl) ?_
                        refine ho_nil ?_
                        refine hx_then ?_
                        refine ht_seq ?_
                        refine ht_seq ?_
                        refine ht_region ?_
                        refine ho_ev rfl rfl rfl (ev_move rfl rfl) ?_
                        refine ho_ev rfl rfl rfl (ev_ptrNil rfl Try.underlying25 rfl rfl rfl) ?_
                        refine ho_nil ?_
                        refine hx_then ?_
                        refine ht_bool (t := 52) rfl (fun g6 => ?_) (fun g6 => ?_)
                        · first | (exfalso; first | omega | (simp at g6; done) | contradiction) | skip
                          all_goals (
                            refine ht_then rfl ?_
                            refine ht_seq ?_
                            refine ht_region ?_
                            refine ho_ev rfl rfl rfl (ev_assign rfl rfl) ?_
                            refine ho_nil ?_
                            refine hx_then ?_
                            refine ht_ret ?_
                            refine hx_through trivial ?_
                            exact hx_ret1 (.inl rfl) rfl rfl () rfl (Ent.cons (by (repeat (first | exact Pick.here | apply Pick.there)); done) Ent.nil)
                          )
                        · first | (exfalso; first | omega | (simp at g6; done) | contradiction) | skip
                          all_goals (
                            refine ht_else rfl ?_
                            refine ht_skip ?_
                            refine hx_then ?_
                            refine ht_seq ?_
                            refine ht_region ?_
                            refine ho_eff rfl rfl rfl (eff_buildAll (α := (Int × Int)) [] rfl Try.underlying24 Try.ty44 .nil .nil rfl (Nat.le_of_ble_eq_true rfl)) (fun b53 => ?_)
                            refine ho_ev rfl rfl rfl (ev_assign rfl rfl) ?_
                            refine ho_nil ?_
                            refine hx_then ?_
                            refine ht_seq ?_
                            refine ht_seq ?_
                            refine ht_region ?_
                            refine ho_ev rfl rfl rfl (ev_assign rfl rfl) ?_
                            refine ho_nil ?_
                            refine hx_then ?_
                            refine ht_block ?_
                            refine ht_loop (fun q : Nat × Option Addr × Nat => ([DiskAt b0 D, DiskAt qc D, ownS 44 q.2.1 (Dk.allL q.1).length q.2.2 (Dk.allL q.1), pu (q.1 ≤ D.pend.length), F], [(5, .pointer (some ⟨b0, 0, none⟩)), (8, .pointer (some ⟨qc, 0, none⟩)), (9, .slice q.2.1 (Dk.allL q.1).length q.2.2), (10, .int .i64 q.1)])) (fun q : Nat × Option Addr × Nat => D.pend.length - q.1) (0, _, _) ?_ (by repeat (first | exact EnvSub.nil _ | (refine EnvSub.cons rfl ?_))) (fun q => ?_)
                            · (first | dsimp only | skip)
                              exact Ent.cons (by (repeat (first | exact Pick.here | apply Pick.there)); done) (Ent.cons (by (repeat (first | exact Pick.here | apply Pick.there)); done) (Ent.cons (by (repeat (first | exact Pick.here | apply Pick.there)); done) (Ent.pu (by omega) (Ent.cons (by (repeat (first | exact Pick.here | apply Pick.there)); done) Ent.nil))))
                            obtain ⟨q, ad, cp⟩ := q
                            dsimp only
                            refine ht_pick (A := pu (q ≤ D.pend.length)) (by (repeat (first | exact Pick.here | apply Pick.there)); done) (ht_pure fun hq => ?_)
                            have hal := Dk.allL_len q
                            refine ht_seq ?_
                            refine ht_seq ?_
                            refine ht_region ?_
                            refine ho_ev rfl rfl rfl (ev_move rfl rfl) ?_
                            refine ho_ev rfl rfl rfl (ev_move rfl rfl) ?_
                            refine ho_eff rfl rfl rfl (eff_call rfl rfl (.cons rfl .nil) rfl (disk_Pending b0 D) (by repeat (first | exact Picks.nil | (apply Picks.ro; focus ((repeat (first | exact Pick.here | apply Pick.there)); done)) | (apply Picks.cons; focus ((repeat (first | exact Pick.here | apply Pick.there)); done)))) (fun _ => by repeat (first | exact App.nil | apply App.cons))) (fun _ => ?_)
                            refine ho_lt rfl rfl rfl rfl rfl rfl (fun g7 => ?_) (fun g7 => ?_)
                            · first | (exfalso; first | omega | (simp at g7; done) | contradiction) | skip
                              all_goals (
                                refine ho_nil ?_
                                refine hx_then ?_
                                refine ht_then rfl ?_
                                refine ht_skip ?_
                                refine hx_then ?_
                                refine ht_seq ?_
                                refine ht_block ?_
                                refine ht_region ?_
                                refine ho_ev rfl rfl rfl (ev_move rfl rfl) ?_
                                refine ho_ev rfl rfl rfl (ev_move rfl rfl) ?_
                                refine ho_ev rfl rfl rfl (ev_build1 (csl := [_, _]) rfl Try.st44 (.cons rfl (.cons rfl .nil)) (.cons rfl (.cons rfl .nil)) rfl rfl) ?_
                                refine ho_eff rfl rfl rfl (eff_buildAll (α := (Int × Int)) [((q : Int), (600 : Int))] rfl Try.underlying24 Try.ty44 (.cons rfl .nil) (.cons rfl .nil) rfl (Nat.le_of_ble_eq_true rfl)) (fun b63 => ?_)
                                refine ho_eff rfl rfl rfl (eff_append (α := (Int × Int)) rfl Try.underlying24 Try.ty44 rfl (by decide) Try.underlying24 rfl rfl (by (repeat (first | with_reducible exact Pick.here | with_reducible apply Pick.there)); done) (by first | exact reads_ro (by (repeat (first | with_reducible exact Pick.here | with_reducible apply Pick.there)); done) | exact reads_own (by (repeat (first | with_reducible exact Pick.here | with_reducible apply Pick.there)); done) | exact reads_nil _) (by first | omega | (simp only [List.length_append, List.length_cons, List.length_nil, List.length_drop, List.length_take]; omega) | (simp; omega))) (fun p64 => ?_)
                                refine ho_ev rfl rfl rfl (ev_assign rfl rfl) ?_
                                refine ho_nil ?_
                                refine hx_block_normal ?_
                                refine hx_then ?_
                                refine ht_region ?_
                                refine ho_ev rfl rfl rfl (ev_move rfl rfl) ?_
                                refine ho_ev rfl rfl rfl (ev_add rfl rfl rfl (by first | exact in_i64 (by omega) | rfl)) ?_
                                refine ho_ev rfl rfl rfl (ev_assign rfl rfl) ?_
                                refine ho_nil ?_
                                rw [Dk.allL_succ]
                                refine hx_again (I := (fun q : Nat × Option Addr × Nat => ([DiskAt b0 D, DiskAt qc D, ownS 44 q.2.1 (Dk.allL q.1).length q.2.2 (Dk.allL q.1), pu (q.1 ≤ D.pend.length), F], [(5, .pointer (some ⟨b0, 0, none⟩)), (8, .pointer (some ⟨qc, 0, none⟩)), (9, .slice q.2.1 (Dk.allL q.1).length q.2.2), (10, .int .i64 q.1)]))) (μ := (fun q : Nat × Option Addr × Nat => D.pend.length - q.1)) (i := (q, ad, cp)) (q + 1, p64.1, p64.2) ?_ ?_ ?_
                                · (first | dsimp only | skip); omega
                                · repeat (first | exact EnvSub.nil _ | (refine EnvSub.cons rfl ?_))
                                · (first | dsimp only | skip)
                                  exact Ent.cons (by (repeat (first | exact Pick.here | apply Pick.there)); done) (Ent.cons (by (repeat (first | exact Pick.here | apply Pick.there)); done) (Ent.cons (by (repeat (first | exact Pick.here | apply Pick.there)); done) (Ent.pu (by omega) (Ent.cons (by (repeat (first | exact Pick.here | apply Pick.there)); done) Ent.nil))))
                              )
                            · first | (exfalso; first | omega | (simp at g7; done) | contradiction) | skip
                              all_goals (
                                refine ho_nil ?_
                                refine hx_then ?_
                                refine ht_else rfl ?_
                                refine ht_exit ?_
                                refine hx_through trivial ?_
                                refine hx_through trivial ?_
                                refine hx_block_here ?_
                                refine hx_then ?_
                                refine ht_seq ?_
                                refine ht_region ?_
                                refine ho_ev rfl rfl rfl (ev_move rfl rfl) ?_
                                refine ho_ev rfl rfl rfl (ev_move rfl rfl) ?_
                                refine ho_freezeS (α := Int × Int) (by (repeat (first | with_reducible exact Pick.here | with_reducible apply Pick.there)); done) ?_
                                obtain rfl : q = D.pend.length := by omega
                                refine ho_eff rfl rfl rfl (eff_call rfl rfl (.cons rfl (.cons rfl .nil)) rfl (disk_Crash b0 D _ _ (Dk.allL D.pend.length) (by omega) (by omega)) (by repeat (first | exact Picks.nil | (apply Picks.ro; focus ((repeat (first | exact Pick.here | apply Pick.there)); done)) | (apply Picks.cons; focus ((repeat (first | exact Pick.here | apply Pick.there)); done)))) (fun _ => by repeat (first | exact App.nil | apply App.cons))) (fun _ => ?_)
                                rw [Dk.leaves hinv]
                                refine ho_nil ?_
                                refine hx_then ?_
                                refine ht_seq ?_
                                refine ht_region ?_
                                refine ho_ev rfl rfl rfl (ev_move rfl rfl) ?_
                                refine ho_eff rfl rfl rfl (eff_call rfl rfl (.cons rfl .nil) rfl (disk_Sync qc D) (by repeat (first | exact Picks.nil | (apply Picks.ro; focus ((repeat (first | exact Pick.here | apply Pick.there)); done)) | (apply Picks.cons; focus ((repeat (first | exact Pick.here | apply Pick.there)); done)))) (fun _ => by repeat (first | exact App.nil | apply App.cons))) (fun _ => ?_)
                                refine ho_nil ?_
                                refine hx_then ?_
                                refine ht_seq ?_
                                refine ht_region ?_
                                refine ho_ev rfl rfl rfl (ev_move rfl rfl) ?_
                                refine ho_ent (Ent.roTrue (ψ := roS (α := Int × Int) none 0 []) (fun r => SliceIn.empty _ _) (Ent.refl _)) ?_
                                refine ho_eff rfl rfl rfl (eff_call rfl rfl (.cons rfl (.cons rfl .nil)) rfl (disk_Crash qc D.sync none 0 [] (by simp) (by simp [Dk.Disk.sync])) (by repeat (first | exact Picks.nil | (apply Picks.ro; focus ((repeat (first | exact Pick.here | apply Pick.there)); done)) | (apply Picks.cons; focus ((repeat (first | exact Pick.here | apply Pick.there)); done)))) (fun _ => by repeat (first | exact App.nil | apply App.cons))) (fun _ => ?_)
                                rw [Dk.sync_crash]
                                refine ho_nil ?_
                                refine hx_then ?_
                                refine ht_seq ?_
                                refine ht_seq ?_
                                refine ht_region ?_
                                refine ho_ev rfl rfl rfl (ev_assign rfl rfl) ?_
                                refine ho_nil ?_
                                refine hx_then ?_
                                refine ht_block ?_
                                refine ht_loop (fun q : Nat => ([DiskAt b0 D.sync, DiskAt qc D.sync, pu (q ≤ 21), F], [(5, .pointer (some ⟨b0, 0, none⟩)), (8, .pointer (some ⟨qc, 0, none⟩)), (11, .int .i64 q)])) (fun q : Nat => 21 - q) 0 ?_ (by repeat (first | exact EnvSub.nil _ | (refine EnvSub.cons rfl ?_))) (fun q => ?_)
                                · (first | dsimp only | skip)
                                  exact Ent.cons (by (repeat (first | exact Pick.here | apply Pick.there)); done) (Ent.cons (by (repeat (first | exact Pick.here | apply Pick.there)); done) (Ent.pu (by omega) (Ent.cons (by (repeat (first | exact Pick.here | apply Pick.there)); done) Ent.nil)))
                                obtain q := q
                                dsimp only
                                refine ht_pick (A := pu (q ≤ 21)) (by (repeat (first | exact Pick.here | apply Pick.there)); done) (ht_pure fun hq4 => ?_)
                                refine ht_seq ?_
                                refine ht_seq ?_
                                refine ht_region ?_
                                refine ho_ev rfl rfl rfl (ev_move rfl rfl) ?_
                                refine ho_lt rfl rfl rfl rfl rfl rfl (fun g8 => ?_) (fun g8 => ?_)
                                · first | (exfalso; first | omega | (simp at g8; done) | contradiction) | skip
                                  all_goals (
                                    refine ho_nil ?_
                                    refine hx_then ?_
                                    refine ht_then rfl ?_
                                    refine ht_skip ?_
                                    refine hx_then ?_
                                    refine ht_seq ?_
                                    refine ht_block ?_
                                    refine ht_seq ?_
                                    refine ht_region ?_
                                    refine ho_ev rfl rfl rfl (ev_move rfl rfl) ?_
                                    refine ho_ev rfl rfl rfl (ev_move rfl rfl) ?_
                                    rcases hv : D.sync.view q with _ | s
                                    · skip
                                      refine ho_eff rfl rfl rfl (eff_call rfl rfl (.cons rfl (.cons rfl .nil)) rfl (disk_Read_no b0 D.sync q hv) (by repeat (first | exact Picks.nil | (apply Picks.ro; focus ((repeat (first | exact Pick.here | apply Pick.there)); done)) | (apply Picks.cons; focus ((repeat (first | exact Pick.here | apply Pick.there)); done)))) (fun _ => by repeat (first | exact App.nil | apply App.cons))) (fun _ => ?_)
                                      refine ho_ev rfl rfl rfl (ev_move rfl rfl) ?_
                                      refine ho_ev rfl rfl rfl (ev_extract rfl rfl rfl) ?_
                                      refine ho_ev rfl rfl rfl (ev_extract rfl rfl rfl) ?_
                                      refine ho_ev rfl rfl rfl (ev_assign rfl rfl) ?_
                                      refine ho_ev rfl rfl rfl (ev_assign rfl rfl) ?_
                                      refine ho_nil ?_
                                      refine hx_then ?_
                                      refine ht_seq ?_
                                      refine ht_region ?_
                                      refine ho_ev rfl rfl rfl (ev_move rfl rfl) ?_
                                      refine ho_ev rfl rfl rfl (ev_move rfl rfl) ?_
                                      rcases hv2 : D.sync.view q with _ | s2
                                      · first | (exfalso; rw [hv] at hv2; cases hv2; done) | skip
                                        all_goals (
                                          refine ho_eff rfl rfl rfl (eff_call rfl rfl (.cons rfl (.cons rfl .nil)) rfl (disk_Read_no qc D.sync q hv2) (by repeat (first | exact Picks.nil | (apply Picks.ro; focus ((repeat (first | exact Pick.here | apply Pick.there)); done)) | (apply Picks.cons; focus ((repeat (first | exact Pick.here | apply Pick.there)); done)))) (fun _ => by repeat (first | exact App.nil | apply App.cons))) (fun _ => ?_)
                                          refine ho_ev rfl rfl rfl (ev_move rfl rfl) ?_
                                          refine ho_ev rfl rfl rfl (ev_extract rfl rfl rfl) ?_
                                          refine ho_ev rfl rfl rfl (ev_extract rfl rfl rfl) ?_
                                          refine ho_ev rfl rfl rfl (ev_assign rfl rfl) ?_
                                          refine ho_ev rfl rfl rfl (ev_assign rfl rfl) ?_
                                          refine ho_nil ?_
                                          refine hx_then ?_
                                          refine ht_seq ?_
                                          refine ht_region ?_
                                          refine ho_ev rfl rfl rfl (ev_move rfl rfl) ?_
                                          refine ho_ev rfl rfl rfl (ev_str rfl Try.underlying36 Try.underlying5 Try.underlying9 rfl (by first | exact reads_ro (by (repeat (first | with_reducible exact Pick.here | with_reducible apply Pick.there)); done) | exact reads_own (by (repeat (first | with_reducible exact Pick.here | with_reducible apply Pick.there)); done) | exact reads_nil _)) ?_
                                          refine ho_ev rfl rfl rfl (ev_move rfl rfl) ?_
                                          refine ho_ev rfl rfl rfl (ev_str rfl Try.underlying36 Try.underlying5 Try.underlying9 rfl (by first | exact reads_ro (by (repeat (first | with_reducible exact Pick.here | with_reducible apply Pick.there)); done) | exact reads_own (by (repeat (first | with_reducible exact Pick.here | with_reducible apply Pick.there)); done) | exact reads_nil _)) ?_
                                          refine ho_neS rfl rfl rfl rfl rfl rfl (fun g9 => ?_) (fun g9 => ?_)
                                          · first | (exfalso; first | omega | (simp at g9; done) | contradiction) | skip
                                            all_goals (
                                              refine ho_ev rfl rfl rfl (ev_move rfl rfl) ?_
                                              refine ho_pass rfl rfl rfl rfl ?_
                                              refine ho_pass rfl rfl rfl rfl ?_
                                              refine ho_pass rfl rfl rfl rfl ?_
                                              refine ho_ev rfl rfl rfl (ev_pick_t rfl rfl rfl) ?_
                                              refine ho_nil ?_
                                              refine hx_then ?_
                                              refine ht_then rfl ?_
                                              refine ht_seq ?_
                                              refine ht_region ?_
                                              refine ho_ev rfl rfl rfl (ev_assign rfl rfl) ?_
                                              refine ho_nil ?_
                                              refine hx_then ?_
                                              refine ht_ret ?_
                                              refine hx_block_ret ?_
                                              refine hx_through trivial ?_
                                              refine hx_through trivial ?_
                                              refine hx_block_ret ?_
                                              refine hx_through trivial ?_
                                              exact hx_ret1 (.inl rfl) rfl rfl () rfl (Ent.cons (by (repeat (first | exact Pick.here | apply Pick.there)); done) Ent.nil)
                                            )
                                          · first | (exfalso; first | omega | (simp at g9; done) | contradiction) | skip
                                            all_goals (
                                              refine ho_ev rfl rfl rfl (ev_move rfl rfl) ?_
                                              refine ho_evg rfl rfl rfl rfl (ev_move rfl rfl) ?_
                                              refine ho_evg rfl rfl rfl rfl (ev_move rfl rfl) ?_
                                              refine ho_neg rfl rfl rfl rfl rfl rfl rfl (fun g10 => ?_) (fun g10 => ?_)
                                              · first | (exfalso; first | omega | (simp at g10; done) | contradiction) | skip
                                                all_goals (
                                                  refine ho_ev rfl rfl rfl (ev_pick_f rfl rfl rfl) ?_
                                                  refine ho_nil ?_
                                                  refine hx_then ?_
                                                  refine ht_then rfl ?_
                                                  refine ht_seq ?_
                                                  refine ht_region ?_
                                                  refine ho_ev rfl rfl rfl (ev_assign rfl rfl) ?_
                                                  refine ho_nil ?_
                                                  refine hx_then ?_
                                                  refine ht_ret ?_
                                                  refine hx_block_ret ?_
                                                  refine hx_through trivial ?_
                                                  refine hx_through trivial ?_
                                                  refine hx_block_ret ?_
                                                  refine hx_through trivial ?_
                                                  exact hx_ret1 (.inl rfl) rfl rfl () rfl (Ent.cons (by (repeat (first | exact Pick.here | apply Pick.there)); done) Ent.nil)
                                                )
                                              · first | (exfalso; first | omega | (simp at g10; done) | contradiction) | skip
                                                all_goals (
                                                  refine ho_ev rfl rfl rfl (ev_pick_f rfl rfl rfl) ?_
                                                  refine ho_nil ?_
                                                  refine hx_then ?_
                                                  refine ht_else rfl ?_
                                                  refine ht_skip ?_
                                                  refine hx_block_normal ?_
                                                  refine hx_then ?_
                                                  refine ht_region ?_
                                                  refine ho_ev rfl rfl rfl (ev_move rfl rfl) ?_
                                                  refine ho_ev rfl rfl rfl (ev_add rfl rfl rfl (by first | exact in_i64 (by omega) | rfl)) ?_
                                                  refine ho_ev rfl rfl rfl (ev_assign rfl rfl) ?_
                                                  refine ho_nil ?_
                                                  refine hx_again (I := (fun q : Nat => ([DiskAt b0 D.sync, DiskAt qc D.sync, pu (q ≤ 21), F], [(5, .pointer (some ⟨b0, 0, none⟩)), (8, .pointer (some ⟨qc, 0, none⟩)), (11, .int .i64 q)]))) (μ := (fun q : Nat => 21 - q)) (i := q) (q + 1) ?_ ?_ ?_
                                                  · (first | dsimp only | skip); omega
                                                  · repeat (first | exact EnvSub.nil _ | (refine EnvSub.cons rfl ?_))
                                                  · (first | dsimp only | skip)
                                                    exact Ent.cons (by (repeat (first | exact Pick.here | apply Pick.there)); done) (Ent.cons (by (repeat (first | exact Pick.here | apply Pick.there)); done) (Ent.pu (by omega) (Ent.cons (by (repeat (first | exact Pick.here | apply Pick.there)); done) Ent.nil)))
                                                )
                                            )
                                        )
                                      · first | (exfalso; rw [hv] at hv2; cases hv2; done) | skip
                                        all_goals (
                                          obtain rfl : s2 = s := by rw [hv] at hv2; exact (Option.some.inj hv2).symm
                                          refine ho_eff rfl rfl rfl (eff_call rfl rfl (.cons rfl (.cons rfl .nil)) rfl (disk_Read qc D.sync q s2 hv2) (by repeat (first | exact Picks.nil | (apply Picks.ro; focus ((repeat (first | exact Pick.here | apply Pick.there)); done)) | (apply Picks.cons; focus ((repeat (first | exact Pick.here | apply Pick.there)); done)))) (fun _ => by repeat (first | exact App.nil | apply App.cons))) (fun rd2 => ?_)
                                          refine ho_ev rfl rfl rfl (ev_move rfl rfl) ?_
                                          refine ho_ev rfl rfl rfl (ev_extract rfl rfl rfl) ?_
                                          refine ho_ev rfl rfl rfl (ev_extract rfl rfl rfl) ?_
                                          refine ho_ev rfl rfl rfl (ev_assign rfl rfl) ?_
                                          refine ho_ev rfl rfl rfl (ev_assign rfl rfl) ?_
                                          refine ho_nil ?_
                                          refine hx_then ?_
                                          refine ht_seq ?_
                                          refine ht_region ?_
                                          refine ho_ev rfl rfl rfl (ev_move rfl rfl) ?_
                                          refine ho_ev rfl rfl rfl (ev_str rfl Try.underlying36 Try.underlying5 Try.underlying9 rfl (by first | exact reads_ro (by (repeat (first | with_reducible exact Pick.here | with_reducible apply Pick.there)); done) | exact reads_own (by (repeat (first | with_reducible exact Pick.here | with_reducible apply Pick.there)); done) | exact reads_nil _)) ?_
                                          refine ho_ev rfl rfl rfl (ev_move rfl rfl) ?_
                                          refine ho_ev rfl rfl rfl (ev_str rfl Try.underlying36 Try.underlying5 Try.underlying9 rfl (by first | exact reads_ro (by (repeat (first | with_reducible exact Pick.here | with_reducible apply Pick.there)); done) | exact reads_own (by (repeat (first | with_reducible exact Pick.here | with_reducible apply Pick.there)); done) | exact reads_nil _)) ?_
                                          refine ho_neS rfl rfl rfl rfl rfl rfl (fun g11 => ?_) (fun g11 => ?_)
                                          · first | (exfalso; first | omega | (simp at g11; done) | contradiction) | skip
                                            all_goals (
                                              refine ho_ev rfl rfl rfl (ev_move rfl rfl) ?_
                                              refine ho_pass rfl rfl rfl rfl ?_
                                              refine ho_pass rfl rfl rfl rfl ?_
                                              refine ho_pass rfl rfl rfl rfl ?_
                                              refine ho_ev rfl rfl rfl (ev_pick_t rfl rfl rfl) ?_
                                              refine ho_nil ?_
                                              refine hx_then ?_
                                              refine ht_then rfl ?_
                                              refine ht_seq ?_
                                              refine ht_region ?_
                                              refine ho_ev rfl rfl rfl (ev_assign rfl rfl) ?_
                                              refine ho_nil ?_
                                              refine hx_then ?_
                                              refine ht_ret ?_
                                              refine hx_block_ret ?_
                                              refine hx_through trivial ?_
                                              refine hx_through trivial ?_
                                              refine hx_block_ret ?_
                                              refine hx_through trivial ?_
                                              exact hx_ret1 (.inl rfl) rfl rfl () rfl (Ent.cons (by (repeat (first | exact Pick.here | apply Pick.there)); done) Ent.nil)
                                            )
                                          · first | (exfalso; first | omega | (simp at g11; done) | contradiction) | skip
                                            all_goals (
                                              refine ho_ev rfl rfl rfl (ev_move rfl rfl) ?_
                                              refine ho_evg rfl rfl rfl rfl (ev_move rfl rfl) ?_
                                              refine ho_evg rfl rfl rfl rfl (ev_move rfl rfl) ?_
                                              refine ho_neg rfl rfl rfl rfl rfl rfl rfl (fun g12 => ?_) (fun g12 => ?_)
                                              · first | (exfalso; first | omega | (simp at g12; done) | contradiction) | skip
                                                all_goals (
                                                  refine ho_ev rfl rfl rfl (ev_pick_f rfl rfl rfl) ?_
                                                  refine ho_nil ?_
                                                  refine hx_then ?_
                                                  refine ht_then rfl ?_
                                                  refine ht_seq ?_
                                                  refine ht_region ?_
                                                  refine ho_ev rfl rfl rfl (ev_assign rfl rfl) ?_
                                                  refine ho_nil ?_
                                                  refine hx_then ?_
                                                  refine ht_ret ?_
                                                  refine hx_block_ret ?_
                                                  refine hx_through trivial ?_
                                                  refine hx_through trivial ?_
                                                  refine hx_block_ret ?_
                                                  refine hx_through trivial ?_
                                                  exact hx_ret1 (.inl rfl) rfl rfl () rfl (Ent.cons (by (repeat (first | exact Pick.here | apply Pick.there)); done) Ent.nil)
                                                )
                                              · first | (exfalso; first | omega | (simp at g12; done) | contradiction) | skip
                                                all_goals (
                                                  refine ho_ev rfl rfl rfl (ev_pick_f rfl rfl rfl) ?_
                                                  refine ho_nil ?_
                                                  refine hx_then ?_
                                                  refine ht_else rfl ?_
                                                  refine ht_skip ?_
                                                  refine hx_block_normal ?_
                                                  refine hx_then ?_
                                                  refine ht_region ?_
                                                  refine ho_ev rfl rfl rfl (ev_move rfl rfl) ?_
                                                  refine ho_ev rfl rfl rfl (ev_add rfl rfl rfl (by first | exact in_i64 (by omega) | rfl)) ?_
                                                  refine ho_ev rfl rfl rfl (ev_assign rfl rfl) ?_
                                                  refine ho_nil ?_
                                                  refine hx_again (I := (fun q : Nat => ([DiskAt b0 D.sync, DiskAt qc D.sync, pu (q ≤ 21), F], [(5, .pointer (some ⟨b0, 0, none⟩)), (8, .pointer (some ⟨qc, 0, none⟩)), (11, .int .i64 q)]))) (μ := (fun q : Nat => 21 - q)) (i := q) (q + 1) ?_ ?_ ?_
                                                  · (first | dsimp only | skip); omega
                                                  · repeat (first | exact EnvSub.nil _ | (refine EnvSub.cons rfl ?_))
                                                  · (first | dsimp only | skip)
                                                    exact Ent.cons (by (repeat (first | exact Pick.here | apply Pick.there)); done) (Ent.cons (by (repeat (first | exact Pick.here | apply Pick.there)); done) (Ent.pu (by omega) (Ent.cons (by (repeat (first | exact Pick.here | apply Pick.there)); done) Ent.nil)))
                                                )
                                            )
                                        )
                                    · skip
                                      refine ho_eff rfl rfl rfl (eff_call rfl rfl (.cons rfl (.cons rfl .nil)) rfl (disk_Read b0 D.sync q s hv) (by repeat (first | exact Picks.nil | (apply Picks.ro; focus ((repeat (first | exact Pick.here | apply Pick.there)); done)) | (apply Picks.cons; focus ((repeat (first | exact Pick.here | apply Pick.there)); done)))) (fun _ => by repeat (first | exact App.nil | apply App.cons))) (fun rd => ?_)
                                      refine ho_ev rfl rfl rfl (ev_move rfl rfl) ?_
                                      refine ho_ev rfl rfl rfl (ev_extract rfl rfl rfl) ?_
                                      refine ho_ev rfl rfl rfl (ev_extract rfl rfl rfl) ?_
                                      refine ho_ev rfl rfl rfl (ev_assign rfl rfl) ?_
                                      refine ho_ev rfl rfl rfl (ev_assign rfl rfl) ?_
                                      refine ho_nil ?_
                                      refine hx_then ?_
                                      refine ht_seq ?_
                                      refine ht_region ?_
                                      refine ho_ev rfl rfl rfl (ev_move rfl rfl) ?_
                                      refine ho_ev rfl rfl rfl (ev_move rfl rfl) ?_
                                      rcases hv2 : D.sync.view q with _ | s2
                                      · first | (exfalso; rw [hv] at hv2; cases hv2; done) | skip
                                        all_goals (
                                          refine ho_eff rfl rfl rfl (eff_call rfl rfl (.cons rfl (.cons rfl .nil)) rfl (disk_Read_no qc D.sync q hv2) (by repeat (first | exact Picks.nil | (apply Picks.ro; focus ((repeat (first | exact Pick.here | apply Pick.there)); done)) | (apply Picks.cons; focus ((repeat (first | exact Pick.here | apply Pick.there)); done)))) (fun _ => by repeat (first | exact App.nil | apply App.cons))) (fun _ => ?_)
                                          refine ho_ev rfl rfl rfl (ev_move rfl rfl) ?_
                                          refine ho_ev rfl rfl rfl (ev_extract rfl rfl rfl) ?_
                                          refine ho_ev rfl rfl rfl (ev_extract rfl rfl rfl) ?_
                                          refine ho_ev rfl rfl rfl (ev_assign rfl rfl) ?_
                                          refine ho_ev rfl rfl rfl (ev_assign rfl rfl) ?_
                                          refine ho_nil ?_
                                          refine hx_then ?_
                                          refine ht_seq ?_
                                          refine ht_region ?_
                                          refine ho_ev rfl rfl rfl (ev_move rfl rfl) ?_
                                          refine ho_ev rfl rfl rfl (ev_str rfl Try.underlying36 Try.underlying5 Try.underlying9 rfl (by first | exact reads_ro (by (repeat (first | with_reducible exact Pick.here | with_reducible apply Pick.there)); done) | exact reads_own (by (repeat (first | with_reducible exact Pick.here | with_reducible apply Pick.there)); done) | exact reads_nil _)) ?_
                                          refine ho_ev rfl rfl rfl (ev_move rfl rfl) ?_
                                          refine ho_ev rfl rfl rfl (ev_str rfl Try.underlying36 Try.underlying5 Try.underlying9 rfl (by first | exact reads_ro (by (repeat (first | with_reducible exact Pick.here | with_reducible apply Pick.there)); done) | exact reads_own (by (repeat (first | with_reducible exact Pick.here | with_reducible apply Pick.there)); done) | exact reads_nil _)) ?_
                                          refine ho_neS rfl rfl rfl rfl rfl rfl (fun g13 => ?_) (fun g13 => ?_)
                                          · first | (exfalso; first | omega | (simp at g13; done) | contradiction) | skip
                                            all_goals (
                                              refine ho_ev rfl rfl rfl (ev_move rfl rfl) ?_
                                              refine ho_pass rfl rfl rfl rfl ?_
                                              refine ho_pass rfl rfl rfl rfl ?_
                                              refine ho_pass rfl rfl rfl rfl ?_
                                              refine ho_ev rfl rfl rfl (ev_pick_t rfl rfl rfl) ?_
                                              refine ho_nil ?_
                                              refine hx_then ?_
                                              refine ht_then rfl ?_
                                              refine ht_seq ?_
                                              refine ht_region ?_
                                              refine ho_ev rfl rfl rfl (ev_assign rfl rfl) ?_
                                              refine ho_nil ?_
                                              refine hx_then ?_
                                              refine ht_ret ?_
                                              refine hx_block_ret ?_
                                              refine hx_through trivial ?_
                                              refine hx_through trivial ?_
                                              refine hx_block_ret ?_
                                              refine hx_through trivial ?_
                                              exact hx_ret1 (.inl rfl) rfl rfl () rfl (Ent.cons (by (repeat (first | exact Pick.here | apply Pick.there)); done) Ent.nil)
                                            )
                                          · first | (exfalso; first | omega | (simp at g13; done) | contradiction) | skip
                                            all_goals (
                                              refine ho_ev rfl rfl rfl (ev_move rfl rfl) ?_
                                              refine ho_evg rfl rfl rfl rfl (ev_move rfl rfl) ?_
                                              refine ho_evg rfl rfl rfl rfl (ev_move rfl rfl) ?_
                                              refine ho_neg rfl rfl rfl rfl rfl rfl rfl (fun g14 => ?_) (fun g14 => ?_)
                                              · first | (exfalso; first | omega | (simp at g14; done) | contradiction) | skip
                                                all_goals (
                                                  refine ho_ev rfl rfl rfl (ev_pick_f rfl rfl rfl) ?_
                                                  refine ho_nil ?_
                                                  refine hx_then ?_
                                                  refine ht_then rfl ?_
                                                  refine ht_seq ?_
                                                  refine ht_region ?_
                                                  refine ho_ev rfl rfl rfl (ev_assign rfl rfl) ?_
                                                  refine ho_nil ?_
                                                  refine hx_then ?_
                                                  refine ht_ret ?_
                                                  refine hx_block_ret ?_
                                                  refine hx_through trivial ?_
                                                  refine hx_through trivial ?_
                                                  refine hx_block_ret ?_
                                                  refine hx_through trivial ?_
                                                  exact hx_ret1 (.inl rfl) rfl rfl () rfl (Ent.cons (by (repeat (first | exact Pick.here | apply Pick.there)); done) Ent.nil)
                                                )
                                              · first | (exfalso; first | omega | (simp at g14; done) | contradiction) | skip
                                                all_goals (
                                                  refine ho_ev rfl rfl rfl (ev_pick_f rfl rfl rfl) ?_
                                                  refine ho_nil ?_
                                                  refine hx_then ?_
                                                  refine ht_else rfl ?_
                                                  refine ht_skip ?_
                                                  refine hx_block_normal ?_
                                                  refine hx_then ?_
                                                  refine ht_region ?_
                                                  refine ho_ev rfl rfl rfl (ev_move rfl rfl) ?_
                                                  refine ho_ev rfl rfl rfl (ev_add rfl rfl rfl (by first | exact in_i64 (by omega) | rfl)) ?_
                                                  refine ho_ev rfl rfl rfl (ev_assign rfl rfl) ?_
                                                  refine ho_nil ?_
                                                  refine hx_again (I := (fun q : Nat => ([DiskAt b0 D.sync, DiskAt qc D.sync, pu (q ≤ 21), F], [(5, .pointer (some ⟨b0, 0, none⟩)), (8, .pointer (some ⟨qc, 0, none⟩)), (11, .int .i64 q)]))) (μ := (fun q : Nat => 21 - q)) (i := q) (q + 1) ?_ ?_ ?_
                                                  · (first | dsimp only | skip); omega
                                                  · repeat (first | exact EnvSub.nil _ | (refine EnvSub.cons rfl ?_))
                                                  · (first | dsimp only | skip)
                                                    exact Ent.cons (by (repeat (first | exact Pick.here | apply Pick.there)); done) (Ent.cons (by (repeat (first | exact Pick.here | apply Pick.there)); done) (Ent.pu (by omega) (Ent.cons (by (repeat (first | exact Pick.here | apply Pick.there)); done) Ent.nil)))
                                                )
                                            )
                                        )
                                      · first | (exfalso; rw [hv] at hv2; cases hv2; done) | skip
                                        all_goals (
                                          obtain rfl : s2 = s := by rw [hv] at hv2; exact (Option.some.inj hv2).symm
                                          refine ho_eff rfl rfl rfl (eff_call rfl rfl (.cons rfl (.cons rfl .nil)) rfl (disk_Read qc D.sync q s2 hv2) (by repeat (first | exact Picks.nil | (apply Picks.ro; focus ((repeat (first | exact Pick.here | apply Pick.there)); done)) | (apply Picks.cons; focus ((repeat (first | exact Pick.here | apply Pick.there)); done)))) (fun _ => by repeat (first | exact App.nil | apply App.cons))) (fun rd2 => ?_)
                                          refine ho_ev rfl rfl rfl (ev_move rfl rfl) ?_
                                          refine ho_ev rfl rfl rfl (ev_extract rfl rfl rfl) ?_
                                          refine ho_ev rfl rfl rfl (ev_extract rfl rfl rfl) ?_
                                          refine ho_ev rfl rfl rfl (ev_assign rfl rfl) ?_
                                          refine ho_ev rfl rfl rfl (ev_assign rfl rfl) ?_
                                          refine ho_nil ?_
                                          refine hx_then ?_
                                          refine ht_seq ?_
                                          refine ht_region ?_
                                          refine ho_ev rfl rfl rfl (ev_move rfl rfl) ?_
                                          refine ho_ev rfl rfl rfl (ev_str rfl Try.underlying36 Try.underlying5 Try.underlying9 rfl (by first | exact reads_ro (by (repeat (first | with_reducible exact Pick.here | with_reducible apply Pick.there)); done) | exact reads_own (by (repeat (first | with_reducible exact Pick.here | with_reducible apply Pick.there)); done) | exact reads_nil _)) ?_
                                          refine ho_ev rfl rfl rfl (ev_move rfl rfl) ?_
                                          refine ho_ev rfl rfl rfl (ev_str rfl Try.underlying36 Try.underlying5 Try.underlying9 rfl (by first | exact reads_ro (by (repeat (first | with_reducible exact Pick.here | with_reducible apply Pick.there)); done) | exact reads_own (by (repeat (first | with_reducible exact Pick.here | with_reducible apply Pick.there)); done) | exact reads_nil _)) ?_
                                          refine ho_neS rfl rfl rfl rfl rfl rfl (fun g15 => ?_) (fun g15 => ?_)
                                          · first | (exfalso; first | omega | (simp at g15; done) | contradiction) | skip
                                            all_goals (
                                              refine ho_ev rfl rfl rfl (ev_move rfl rfl) ?_
                                              refine ho_pass rfl rfl rfl rfl ?_
                                              refine ho_pass rfl rfl rfl rfl ?_
                                              refine ho_pass rfl rfl rfl rfl ?_
                                              refine ho_ev rfl rfl rfl (ev_pick_t rfl rfl rfl) ?_
                                              refine ho_nil ?_
                                              refine hx_then ?_
                                              refine ht_then rfl ?_
                                              refine ht_seq ?_
                                              refine ht_region ?_
                                              refine ho_ev rfl rfl rfl (ev_assign rfl rfl) ?_
                                              refine ho_nil ?_
                                              refine hx_then ?_
                                              refine ht_ret ?_
                                              refine hx_block_ret ?_
                                              refine hx_through trivial ?_
                                              refine hx_through trivial ?_
                                              refine hx_block_ret ?_
                                              refine hx_through trivial ?_
                                              exact hx_ret1 (.inl rfl) rfl rfl () rfl (Ent.cons (by (repeat (first | exact Pick.here | apply Pick.there)); done) Ent.nil)
                                            )
                                          · first | (exfalso; first | omega | (simp at g15; done) | contradiction) | skip
                                            all_goals (
                                              refine ho_ev rfl rfl rfl (ev_move rfl rfl) ?_
                                              refine ho_evg rfl rfl rfl rfl (ev_move rfl rfl) ?_
                                              refine ho_evg rfl rfl rfl rfl (ev_move rfl rfl) ?_
                                              refine ho_neg rfl rfl rfl rfl rfl rfl rfl (fun g16 => ?_) (fun g16 => ?_)
                                              · first | (exfalso; first | omega | (simp at g16; done) | contradiction) | skip
                                                all_goals (
                                                  refine ho_ev rfl rfl rfl (ev_pick_f rfl rfl rfl) ?_
                                                  refine ho_nil ?_
                                                  refine hx_then ?_
                                                  refine ht_then rfl ?_
                                                  refine ht_seq ?_
                                                  refine ht_region ?_
                                                  refine ho_ev rfl rfl rfl (ev_assign rfl rfl) ?_
                                                  refine ho_nil ?_
                                                  refine hx_then ?_
                                                  refine ht_ret ?_
                                                  refine hx_block_ret ?_
                                                  refine hx_through trivial ?_
                                                  refine hx_through trivial ?_
                                                  refine hx_block_ret ?_
                                                  refine hx_through trivial ?_
                                                  exact hx_ret1 (.inl rfl) rfl rfl () rfl (Ent.cons (by (repeat (first | exact Pick.here | apply Pick.there)); done) Ent.nil)
                                                )
                                              · first | (exfalso; first | omega | (simp at g16; done) | contradiction) | skip
                                                all_goals (
                                                  refine ho_ev rfl rfl rfl (ev_pick_f rfl rfl rfl) ?_
                                                  refine ho_nil ?_
                                                  refine hx_then ?_
                                                  refine ht_else rfl ?_
                                                  refine ht_skip ?_
                                                  refine hx_block_normal ?_
                                                  refine hx_then ?_
                                                  refine ht_region ?_
                                                  refine ho_ev rfl rfl rfl (ev_move rfl rfl) ?_
                                                  refine ho_ev rfl rfl rfl (ev_add rfl rfl rfl (by first | exact in_i64 (by omega) | rfl)) ?_
                                                  refine ho_ev rfl rfl rfl (ev_assign rfl rfl) ?_
                                                  refine ho_nil ?_
                                                  refine hx_again (I := (fun q : Nat => ([DiskAt b0 D.sync, DiskAt qc D.sync, pu (q ≤ 21), F], [(5, .pointer (some ⟨b0, 0, none⟩)), (8, .pointer (some ⟨qc, 0, none⟩)), (11, .int .i64 q)]))) (μ := (fun q : Nat => 21 - q)) (i := q) (q + 1) ?_ ?_ ?_
                                                  · (first | dsimp only | skip); omega
                                                  · repeat (first | exact EnvSub.nil _ | (refine EnvSub.cons rfl ?_))
                                                  · (first | dsimp only | skip)
                                                    exact Ent.cons (by (repeat (first | exact Pick.here | apply Pick.there)); done) (Ent.cons (by (repeat (first | exact Pick.here | apply Pick.there)); done) (Ent.pu (by omega) (Ent.cons (by (repeat (first | exact Pick.here | apply Pick.there)); done) Ent.nil)))
                                                )
                                            )
                                        )
                                  )
                                · first | (exfalso; first | omega | (simp at g8; done) | contradiction) | skip
                                  all_goals (
                                    refine ho_nil ?_
                                    refine hx_then ?_
                                    refine ht_else rfl ?_
                                    refine ht_exit ?_
                                    refine hx_through trivial ?_
                                    refine hx_through trivial ?_
                                    refine hx_block_here ?_
                                    refine hx_then ?_
                                    refine ht_seq ?_
                                    have hp0 : D.sync.pend.length = 0 := rfl
                                    refine ht_region ?_
                                    refine ho_ev rfl rfl rfl (ev_move rfl rfl) ?_
                                    refine ho_eff rfl rfl rfl (eff_call rfl rfl (.cons rfl .nil) rfl (disk_Used b0 D.sync) (by repeat (first | exact Picks.nil | (apply Picks.ro; focus ((repeat (first | exact Pick.here | apply Pick.there)); done)) | (apply Picks.cons; focus ((repeat (first | exact Pick.here | apply Pick.there)); done)))) (fun _ => by repeat (first | exact App.nil | apply App.cons))) (fun _ => ?_)
                                    refine ho_ev rfl rfl rfl (ev_move rfl rfl) ?_
                                    refine ho_eff rfl rfl rfl (eff_call rfl rfl (.cons rfl .nil) rfl (disk_Used qc D.sync) (by repeat (first | exact Picks.nil | (apply Picks.ro; focus ((repeat (first | exact Pick.here | apply Pick.there)); done)) | (apply Picks.cons; focus ((repeat (first | exact Pick.here | apply Pick.there)); done)))) (fun _ => by repeat (first | exact App.nil | apply App.cons))) (fun _ => ?_)
                                    refine ho_eq rfl rfl rfl rfl rfl rfl (fun g17 => ?_) (fun g17 => ?_)
                                    · first | (exfalso; first | omega | (simp at g17; done) | contradiction) | skip
                                      all_goals (
                                        refine ho_ev rfl rfl rfl (ev_move rfl rfl) ?_
                                        refine ho_evg rfl rfl rfl rfl (ev_move rfl rfl) ?_
                                        refine ho_effg rfl rfl rfl rfl (eff_call rfl rfl (.cons rfl .nil) rfl (disk_Pending b0 D.sync) (by repeat (first | exact Picks.nil | (apply Picks.ro; focus ((repeat (first | exact Pick.here | apply Pick.there)); done)) | (apply Picks.cons; focus ((repeat (first | exact Pick.here | apply Pick.there)); done)))) (fun _ => by repeat (first | exact App.nil | apply App.cons))) (fun _ => ?_)
                                        refine ho_eqg rfl rfl rfl rfl rfl rfl rfl (fun g18 => ?_) (fun g18 => ?_)
                                        · first | (exfalso; first | omega | (simp at g18; done) | contradiction) | skip
                                          all_goals (
                                            refine ho_ev rfl rfl rfl (ev_pick_t rfl rfl rfl) ?_
                                            refine ho_ev rfl rfl rfl (ev_move rfl rfl) ?_
                                            refine ho_evg rfl rfl rfl rfl (ev_move rfl rfl) ?_
                                            refine ho_effg rfl rfl rfl rfl (eff_call rfl rfl (.cons rfl .nil) rfl (disk_Pending qc D.sync) (by repeat (first | exact Picks.nil | (apply Picks.ro; focus ((repeat (first | exact Pick.here | apply Pick.there)); done)) | (apply Picks.cons; focus ((repeat (first | exact Pick.here | apply Pick.there)); done)))) (fun _ => by repeat (first | exact App.nil | apply App.cons))) (fun _ => ?_)
                                            refine ho_eqg rfl rfl rfl rfl rfl rfl rfl (fun g19 => ?_) (fun g19 => ?_)
                                            · first | (exfalso; first | omega | (simp at g19; done) | contradiction) | skip
                                              all_goals (
                                                refine ho_ev rfl rfl rfl (ev_pick_t rfl rfl rfl) ?_
                                                refine ho_ev rfl rfl rfl (ev_assign rfl rfl) ?_
                                                refine ho_nil ?_
                                                refine hx_then ?_
                                                refine ht_ret ?_
                                                exact hx_ret1 (.inl rfl) rfl rfl () rfl (Ent.cons (by (repeat (first | exact Pick.here | apply Pick.there)); done) Ent.nil)
                                              )
                                            · first | (exfalso; first | omega | (simp at g19; done) | contradiction) | skip
                                              all_goals (
                                                refine ho_ev rfl rfl rfl (ev_pick_t rfl rfl rfl) ?_
                                                refine ho_ev rfl rfl rfl (ev_assign rfl rfl) ?_
                                                refine ho_nil ?_
                                                refine hx_then ?_
                                                refine ht_ret ?_
                                                exact hx_ret1 (.inl rfl) rfl rfl () rfl (Ent.cons (by (repeat (first | exact Pick.here | apply Pick.there)); done) Ent.nil)
                                              )
                                          )
                                        · first | (exfalso; first | omega | (simp at g18; done) | contradiction) | skip
                                          all_goals (
                                            refine ho_ev rfl rfl rfl (ev_pick_t rfl rfl rfl) ?_
                                            refine ho_ev rfl rfl rfl (ev_move rfl rfl) ?_
                                            refine ho_pass rfl rfl rfl rfl ?_
                                            refine ho_pass rfl rfl rfl rfl ?_
                                            refine ho_pass rfl rfl rfl rfl ?_
                                            refine ho_ev rfl rfl rfl (ev_pick_f rfl rfl rfl) ?_
                                            refine ho_ev rfl rfl rfl (ev_assign rfl rfl) ?_
                                            refine ho_nil ?_
                                            refine hx_then ?_
                                            refine ht_ret ?_
                                            exact hx_ret1 (.inl rfl) rfl rfl () rfl (Ent.cons (by (repeat (first | exact Pick.here | apply Pick.there)); done) Ent.nil)
                                          )
                                      )
                                    · first | (exfalso; first | omega | (simp at g17; done) | contradiction) | skip
                                      all_goals (
                                        refine ho_ev rfl rfl rfl (ev_move rfl rfl) ?_
                                        refine ho_pass rfl rfl rfl rfl ?_
                                        refine ho_pass rfl rfl rfl rfl ?_
                                        refine ho_pass rfl rfl rfl rfl ?_
                                        refine ho_ev rfl rfl rfl (ev_pick_f rfl rfl rfl) ?_
                                        refine ho_ev rfl rfl rfl (ev_move rfl rfl) ?_
                                        refine ho_pass rfl rfl rfl rfl ?_
                                        refine ho_pass rfl rfl rfl rfl ?_
                                        refine ho_pass rfl rfl rfl rfl ?_
                                        refine ho_ev rfl rfl rfl (ev_pick_f rfl rfl rfl) ?_
                                        refine ho_ev rfl rfl rfl (ev_assign rfl rfl) ?_
                                        refine ho_nil ?_
                                        refine hx_then ?_
                                        refine ht_ret ?_
                                        exact hx_ret1 (.inl rfl) rfl rfl () rfl (Ent.cons (by (repeat (first | exact Pick.here | apply Pick.there)); done) Ent.nil)
                                      )
                                  )
                              )
                          )
                      )
                  )
                · first | (exfalso; first | omega | (simp at g4; done) | contradiction) | skip
                  all_goals (
                    refine ho_ev rfl rfl rfl (ev_move rfl rfl) ?_
                    refine ho_pass rfl rfl rfl rfl ?_
                    refine ho_pass rfl rfl rfl rfl ?_
                    refine ho_ev rfl rfl rfl (ev_pick_f rfl rfl rfl) ?_
                    refine ho_nil ?_
                    refine hx_then ?_
                    refine ht_else rfl ?_
                    refine ht_exit ?_
                    refine hx_through trivial ?_
                    refine hx_through trivial ?_
                    refine hx_block_here ?_
                    refine hx_then ?_
                    refine ht_seq ?_
                    have hinv := Dk.upto_inv n ms q
                    have hpl := Dk.upto_len n ms q
                    generalize Dk.Disk.upto n ms q = D at *
                    refine ht_region ?_
                    refine ho_ev rfl rfl rfl (ev_move rfl rfl) ?_
                    refine ho_eff rfl rfl rfl (eff_call rfl rfl (.cons rfl .nil) rfl (disk_Copy b0 D (by omega)) (by repeat (first | exact Picks.nil | (apply Picks.ro; focus ((repeat (first | exact Pick.here | apply Pick.there)); done)) | (apply Picks.cons; focus ((repeat (first | exact Pick.here | apply Pick.there)); done)))) (fun _ => by repeat (first | exact App.nil | apply App.cons))) (fun qc => ?_)
                    refine ho_ev rfl rfl rfl (ev_assign rfl rfl) ?_
                    refine ho_nil ?_
                    refine hx_then ?_
                    refine ht_seq ?_
                    refine ht_seq ?_
                    refine ht_region ?_
                    refine ho_ev rfl rfl rfl (ev_move rfl rfl) ?_
                    refine ho_ev rfl rfl rfl (ev_ptrNil rfl Try.underlying25 rfl rfl rfl) ?_
                    refine ho_nil ?_
                    refine hx_then ?_
                    refine ht_bool (t := 52) rfl (fun g20 => ?_) (fun g20 => ?_)
                    · first | (exfalso; first | omega | (simp at g20; done) | contradiction) | skip
                      all_goals (
                        refine ht_then rfl ?_
                        refine ht_seq ?_
                        refine ht_region ?_
                        refine ho_ev rfl rfl rfl (ev_assign rfl rfl) ?_
                        refine ho_nil ?_
                        refine hx_then ?_
                        refine ht_ret ?_
                        refine hx_through trivial ?_
                        exact hx_ret1 (.inl rfl) rfl rfl () rfl (Ent.cons (by (repeat (first | exact Pick.here | apply Pick.there)); done) Ent.nil)
                      )
                    · first | (exfalso; first | omega | (simp at g20; done) | contradiction) | skip
                      all_goals (
                        refine ht_else rfl ?_
                        refine ht_skip ?_
                        refine hx_then ?_
                        refine ht_seq ?_
                        refine ht_region ?_
                        refine ho_eff rfl rfl rfl (eff_buildAll (α := (Int × Int)) [] rfl Try.underlying24 Try.ty44 .nil .nil rfl (Nat.le_of_ble_eq_true rfl)) (fun b53 => ?_)
                        refine ho_ev rfl rfl rfl (ev_assign rfl rfl) ?_
                        refine ho_nil ?_
                        refine hx_then ?_
                        refine ht_seq ?_
                        refine ht_seq ?_
                        refine ht_region ?_
                        refine ho_ev rfl rfl rfl (ev_assign rfl rfl) ?_
                        refine ho_nil ?_
                        refine hx_then ?_
                        refine ht_block ?_
                        refine ht_loop (fun q : Nat × Option Addr × Nat => ([DiskAt b0 D, DiskAt qc D, ownS 44 q.2.1 (Dk.allL q.1).length q.2.2 (Dk.allL q.1), pu (q.1 ≤ D.pend.length), F], [(5, .pointer (some ⟨b0, 0, none⟩)), (8, .pointer (some ⟨qc, 0, none⟩)), (9, .slice q.2.1 (Dk.allL q.1).length q.2.2), (10, .int .i64 q.1)])) (fun q : Nat × Option Addr × Nat => D.pend.length - q.1) (0, _, _) ?_ (by repeat (first | exact EnvSub.nil _ | (refine EnvSub.cons rfl ?_))) (fun q => ?_)
                        · (first | dsimp only | skip)
                          exact Ent.cons (by (repeat (first | exact Pick.here | apply Pick.there)); done) (Ent.cons (by (repeat (first | exact Pick.here | apply Pick.there)); done) (Ent.cons (by (repeat (first | exact Pick.here | apply Pick.there)); done) (Ent.pu (by omega) (Ent.cons (by (repeat (first | exact Pick.here | apply Pick.there)); done) Ent.nil))))
                        obtain ⟨q, ad, cp⟩ := q
                        dsimp only
                        refine ht_pick (A := pu (q ≤ D.pend.length)) (by (repeat (first | exact Pick.here | apply Pick.there)); done) (ht_pure fun hq => ?_)
                        have hal := Dk.allL_len q
                        refine ht_seq ?_
                        refine ht_seq ?_
                        refine ht_region ?_
                        refine ho_ev rfl rfl rfl (ev_move rfl rfl) ?_
                        refine ho_ev rfl rfl rfl (ev_move rfl rfl) ?_
                        refine ho_eff rfl rfl rfl (eff_call rfl rfl (.cons rfl .nil) rfl (disk_Pending b0 D) (by repeat (first | exact Picks.nil | (apply Picks.ro; focus ((repeat (first | exact Pick.here | apply Pick.there)); done)) | (apply Picks.cons; focus ((repeat (first | exact Pick.here | apply Pick.there)); done)))) (fun _ => by repeat (first | exact App.nil | apply App.cons))) (fun _ => ?_)
                        refine ho_lt rfl rfl rfl rfl rfl rfl (fun g21 => ?_) (fun g21 => ?_)
                        · first | (exfalso; first | omega | (simp at g21; done) | contradiction) | skip
                          all_goals (
                            refine ho_nil ?_
                            refine hx_then ?_
                            refine ht_then rfl ?_
                            refine ht_skip ?_
                            refine hx_then ?_
                            refine ht_seq ?_
                            refine ht_block ?_
                            refine ht_region ?_
                            refine ho_ev rfl rfl rfl (ev_move rfl rfl) ?_
                            refine ho_ev rfl rfl rfl (ev_move rfl rfl) ?_
                            refine ho_ev rfl rfl rfl (ev_build1 (csl := [_, _]) rfl Try.st44 (.cons rfl (.cons rfl .nil)) (.cons rfl (.cons rfl .nil)) rfl rfl) ?_
                            refine ho_eff rfl rfl rfl (eff_buildAll (α := (Int × Int)) [((q : Int), (600 : Int))] rfl Try.underlying24 Try.ty44 (.cons rfl .nil) (.cons rfl .nil) rfl (Nat.le_of_ble_eq_true rfl)) (fun b63 => ?_)
                            refine ho_eff rfl rfl rfl (eff_append (α := (Int × Int)) rfl Try.underlying24 Try.ty44 rfl (by decide) Try.underlying24 rfl rfl (by (repeat (first | with_reducible exact Pick.here | with_reducible apply Pick.there)); done) (by first | exact reads_ro (by (repeat (first | with_reducible exact Pick.here | with_reducible apply Pick.there)); done) | exact reads_own (by (repeat (first | with_reducible exact Pick.here | with_reducible apply Pick.there)); done) | exact reads_nil _) (by first | omega | (simp only [List.length_append, List.length_cons, List.length_nil, List.length_drop, List.length_take]; omega) | (simp; omega))) (fun p64 => ?_)
                            refine ho_ev rfl rfl rfl (ev_assign rfl rfl) ?_
                            refine ho_nil ?_
                            refine hx_block_normal ?_
                            refine hx_then ?_
                            refine ht_region ?_
                            refine ho_ev rfl rfl rfl (ev_move rfl rfl) ?_
                            refine ho_ev rfl rfl rfl (ev_add rfl rfl rfl (by first | exact in_i64 (by omega) | rfl)) ?_
                            refine ho_ev rfl rfl rfl (ev_assign rfl rfl) ?_
                            refine ho_nil ?_
                            rw [Dk.allL_succ]
                            refine hx_again (I := (fun q : Nat × Option Addr × Nat => ([DiskAt b0 D, DiskAt qc D, ownS 44 q.2.1 (Dk.allL q.1).length q.2.2 (Dk.allL q.1), pu (q.1 ≤ D.pend.length), F], [(5, .pointer (some ⟨b0, 0, none⟩)), (8, .pointer (some ⟨qc, 0, none⟩)), (9, .slice q.2.1 (Dk.allL q.1).length q.2.2), (10, .int .i64 q.1)]))) (μ := (fun q : Nat × Option Addr × Nat => D.pend.length - q.1)) (i := (q, ad, cp)) (q + 1, p64.1, p64.2) ?_ ?_ ?_
                            · (first | dsimp only | skip); omega
                            · repeat (first | exact EnvSub.nil _ | (refine EnvSub.cons rfl ?_))
                            · (first | dsimp only | skip)
                              exact Ent.cons (by (repeat (first | exact Pick.here | apply Pick.there)); done) (Ent.cons (by (repeat (first | exact Pick.here | apply Pick.there)); done) (Ent.cons (by (repeat (first | exact Pick.here | apply Pick.there)); done) (Ent.pu (by omega) (Ent.cons (by (repeat (first | exact Pick.here | apply Pick.there)); done) Ent.nil))))
                          )
                        · first | (exfalso; first | omega | (simp at g21; done) | contradiction) | skip
                          all_goals (
                            refine ho_nil ?_
                            refine hx_then ?_
                            refine ht_else rfl ?_
                            refine ht_exit ?_
                            refine hx_through trivial ?_
                            refine hx_through trivial ?_
                            refine hx_block_here ?_
                            refine hx_then ?_
                            refine ht_seq ?_
                            refine ht_region ?_
                            refine ho_ev rfl rfl rfl (ev_move rfl rfl) ?_
                            refine ho_ev rfl rfl rfl (ev_move rfl rfl) ?_
                            refine ho_freezeS (α := Int × Int) (by (repeat (first | with_reducible exact Pick.here | with_reducible apply Pick.there)); done) ?_
                            obtain rfl : q = D.pend.length := by omega
                            refine ho_eff rfl rfl rfl (eff_call rfl rfl (.cons rfl (.cons rfl .nil)) rfl (disk_Crash b0 D _ _ (Dk.allL D.pend.length) (by omega) (by omega)) (by repeat (first | exact Picks.nil | (apply Picks.ro; focus ((repeat (first | exact Pick.here | apply Pick.there)); done)) | (apply Picks.cons; focus ((repeat (first | exact Pick.here | apply Pick.there)); done)))) (fun _ => by repeat (first | exact App.nil | apply App.cons))) (fun _ => ?_)
                            rw [Dk.leaves hinv]
                            refine ho_nil ?_
                            refine hx_then ?_
                            refine ht_seq ?_
                            refine ht_region ?_
                            refine ho_ev rfl rfl rfl (ev_move rfl rfl) ?_
                            refine ho_eff rfl rfl rfl (eff_call rfl rfl (.cons rfl .nil) rfl (disk_Sync qc D) (by repeat (first | exact Picks.nil | (apply Picks.ro; focus ((repeat (first | exact Pick.here | apply Pick.there)); done)) | (apply Picks.cons; focus ((repeat (first | exact Pick.here | apply Pick.there)); done)))) (fun _ => by repeat (first | exact App.nil | apply App.cons))) (fun _ => ?_)
                            refine ho_nil ?_
                            refine hx_then ?_
                            refine ht_seq ?_
                            refine ht_region ?_
                            refine ho_ev rfl rfl rfl (ev_move rfl rfl) ?_
                            refine ho_ent (Ent.roTrue (ψ := roS (α := Int × Int) none 0 []) (fun r => SliceIn.empty _ _) (Ent.refl _)) ?_
                            refine ho_eff rfl rfl rfl (eff_call rfl rfl (.cons rfl (.cons rfl .nil)) rfl (disk_Crash qc D.sync none 0 [] (by simp) (by simp [Dk.Disk.sync])) (by repeat (first | exact Picks.nil | (apply Picks.ro; focus ((repeat (first | exact Pick.here | apply Pick.there)); done)) | (apply Picks.cons; focus ((repeat (first | exact Pick.here | apply Pick.there)); done)))) (fun _ => by repeat (first | exact App.nil | apply App.cons))) (fun _ => ?_)
                            rw [Dk.sync_crash]
                            refine ho_nil ?_
                            refine hx_then ?_
                            refine ht_seq ?_
                            refine ht_seq ?_
                            refine ht_region ?_
                            refine ho_ev rfl rfl rfl (ev_assign rfl rfl) ?_
                            refine ho_nil ?_
                            refine hx_then ?_
                            refine ht_block ?_
                            refine ht_loop (fun q : Nat => ([DiskAt b0 D.sync, DiskAt qc D.sync, pu (q ≤ 21), F], [(5, .pointer (some ⟨b0, 0, none⟩)), (8, .pointer (some ⟨qc, 0, none⟩)), (11, .int .i64 q)])) (fun q : Nat => 21 - q) 0 ?_ (by repeat (first | exact EnvSub.nil _ | (refine EnvSub.cons rfl ?_))) (fun q => ?_)
                            · (first | dsimp only | skip)
                              exact Ent.cons (by (repeat (first | exact Pick.here | apply Pick.there)); done) (Ent.cons (by (repeat (first | exact Pick.here | apply Pick.there)); done) (Ent.pu (by omega) (Ent.cons (by (repeat (first | exact Pick.here | apply Pick.there)); done) Ent.nil)))
                            obtain q := q
                            dsimp only
                            refine ht_pick (A := pu (q ≤ 21)) (by (repeat (first | exact Pick.here | apply Pick.there)); done) (ht_pure fun hq4 => ?_)
                            refine ht_seq ?_
                            refine ht_seq ?_
                            refine ht_region ?_
                            refine ho_ev rfl rfl rfl (ev_move rfl rfl) ?_
                            refine ho_lt rfl rfl rfl rfl rfl rfl (fun g22 => ?_) (fun g22 => ?_)
                            · first | (exfalso; first | omega | (simp at g22; done) | contradiction) | skip
                              all_goals (
                                refine ho_nil ?_
                                refine hx_then ?_
                                refine ht_then rfl ?_
                                refine ht_skip ?_
                                refine hx_then ?_
                                refine ht_seq ?_
                                refine ht_block ?_
                                refine ht_seq ?_
                                refine ht_region ?_
                                refine ho_ev rfl rfl rfl (ev_move rfl rfl) ?_
                                refine ho_ev rfl rfl rfl (ev_move rfl rfl) ?_
                                rcases hv : D.sync.view q with _ | s
                                · skip
                                  refine ho_eff rfl rfl rfl (eff_call rfl rfl (.cons rfl (.cons rfl .nil)) rfl (disk_Read_no b0 D.sync q hv) (by repeat (first | exact Picks.nil | (apply Picks.ro; focus ((repeat (first | exact Pick.here | apply Pick.there)); done)) | (apply Picks.cons; focus ((repeat (first | exact Pick.here | apply Pick.there)); done)))) (fun _ => by repeat (first | exact App.nil | apply App.cons))) (fun _ => ?_)
                                  refine ho_ev rfl rfl rfl (ev_move rfl rfl) ?_
                                  refine ho_ev rfl rfl rfl (ev_extract rfl rfl rfl) ?_
                                  refine ho_ev rfl rfl rfl (ev_extract rfl rfl rfl) ?_
                                  refine ho_ev rfl rfl rfl (ev_assign rfl rfl) ?_
                                  refine ho_ev rfl rfl rfl (ev_assign rfl rfl) ?_
                                  refine ho_nil ?_
                                  refine hx_then ?_
                                  refine ht_seq ?_
                                  refine ht_region ?_
                                  refine ho_ev rfl rfl rfl (ev_move rfl rfl) ?_
                                  refine ho_ev rfl rfl rfl (ev_move rfl rfl) ?_
                                  rcases hv2 : D.sync.view q with _ | s2
                                  · first | (exfalso; rw [hv] at hv2; cases hv2; done) | skip
                                    all_goals (
                                      refine ho_eff rfl rfl rfl (eff_call rfl rfl (.cons rfl (.cons rfl .nil)) rfl (disk_Read_no qc D.sync q hv2) (by repeat (first | exact Picks.nil | (apply Picks.ro; focus ((repeat (first | exact Pick.here | apply Pick.there)); done)) | (apply Picks.cons; focus ((repeat (first | exact Pick.here | apply Pick.there)); done)))) (fun _ => by repeat (first | exact App.nil | apply App.cons))) (fun _ => ?_)
                                      refine ho_ev rfl rfl rfl (ev_move rfl rfl) ?_
                                      refine ho_ev rfl rfl rfl (ev_extract rfl rfl rfl) ?_
                                      refine ho_ev rfl rfl rfl (ev_extract rfl rfl rfl) ?_
                                      refine ho_ev rfl rfl rfl (ev_assign rfl rfl) ?_
                                      refine ho_ev rfl rfl rfl (ev_assign rfl rfl) ?_
                                      refine ho_nil ?_
                                      refine hx_then ?_
                                      refine ht_seq ?_
                                      refine ht_region ?_
                                      refine ho_ev rfl rfl rfl (ev_move rfl rfl) ?_
                                      refine ho_ev rfl rfl rfl (ev_str rfl Try.underlying36 Try.underlying5 Try.underlying9 rfl (by first | exact reads_ro (by (repeat (first | with_reducible exact Pick.here | with_reducible apply Pick.there)); done) | exact reads_own (by (repeat (first | with_reducible exact Pick.here | with_reducible apply Pick.there)); done) | exact reads_nil _)) ?_
                                      refine ho_ev rfl rfl rfl (ev_move rfl rfl) ?_
                                      refine ho_ev rfl rfl rfl (ev_str rfl Try.underlying36 Try.underlying5 Try.underlying9 rfl (by first | exact reads_ro (by (repeat (first | with_reducible exact Pick.here | with_reducible apply Pick.there)); done) | exact reads_own (by (repeat (first | with_reducible exact Pick.here | with_reducible apply Pick.there)); done) | exact reads_nil _)) ?_
                                      refine ho_neS rfl rfl rfl rfl rfl rfl (fun g23 => ?_) (fun g23 => ?_)
                                      · first | (exfalso; first | omega | (simp at g23; done) | contradiction) | skip
                                        all_goals (
                                          refine ho_ev rfl rfl rfl (ev_move rfl rfl) ?_
                                          refine ho_pass rfl rfl rfl rfl ?_
                                          refine ho_pass rfl rfl rfl rfl ?_
                                          refine ho_pass rfl rfl rfl rfl ?_
                                          refine ho_ev rfl rfl rfl (ev_pick_t rfl rfl rfl) ?_
                                          refine ho_nil ?_
                                          refine hx_then ?_
                                          refine ht_then rfl ?_
                                          refine ht_seq ?_
                                          refine ht_region ?_
                                          refine ho_ev rfl rfl rfl (ev_assign rfl rfl) ?_
                                          refine ho_nil ?_
                                          refine hx_then ?_
                                          refine ht_ret ?_
                                          refine hx_block_ret ?_
                                          refine hx_through trivial ?_
                                          refine hx_through trivial ?_
                                          refine hx_block_ret ?_
                                          refine hx_through trivial ?_
                                          exact hx_ret1 (.inl rfl) rfl rfl () rfl (Ent.cons (by (repeat (first | exact Pick.here | apply Pick.there)); done) Ent.nil)
                                        )
                                      · first | (exfalso; first | omega | (simp at g23; done) | contradiction) | skip
                                        all_goals (
                                          refine ho_ev rfl rfl rfl (ev_move rfl rfl) ?_
                                          refine ho_evg rfl rfl rfl rfl (ev_move rfl rfl) ?_
                                          refine ho_evg rfl rfl rfl rfl (ev_move rfl rfl) ?_
                                          refine ho_neg rfl rfl rfl rfl rfl rfl rfl (fun g24 => ?_) (fun g24 => ?_)
                                          · first | (exfalso; first | omega | (simp at g24; done) | contradiction) | skip
                                            all_goals (
                                              refine ho_ev rfl rfl rfl (ev_pick_f rfl rfl rfl) ?_
                                              refine ho_nil ?_
                                              refine hx_then ?_
                                              refine ht_then rfl ?_
                                              refine ht_seq ?_
                                              refine ht_region ?_
                                              refine ho_ev rfl rfl rfl (ev_assign rfl rfl) ?_
                                              refine ho_nil ?_
                                              refine hx_then ?_
                                              refine ht_ret ?_
                                              refine hx_block_ret ?_
                                              refine hx_through trivial ?_
                                              refine hx_through trivial ?_
                                              refine hx_block_ret ?_
                                              refine hx_through trivial ?_
                                              exact hx_ret1 (.inl rfl) rfl rfl () rfl (Ent.cons (by (repeat (first | exact Pick.here | apply Pick.there)); done) Ent.nil)
                                            )
                                          · first | (exfalso; first | omega | (simp at g24; done) | contradiction) | skip
                                            all_goals (
                                              refine ho_ev rfl rfl rfl (ev_pick_f rfl rfl rfl) ?_
                                              refine ho_nil ?_
                                              refine hx_then ?_
                                              refine ht_else rfl ?_
                                              refine ht_skip ?_
                                              refine hx_block_normal ?_
                                              refine hx_then ?_
                                              refine ht_region ?_
                                              refine ho_ev rfl rfl rfl (ev_move rfl rfl) ?_
                                              refine ho_ev rfl rfl rfl (ev_add rfl rfl rfl (by first | exact in_i64 (by omega) | rfl)) ?_
                                              refine ho_ev rfl rfl rfl (ev_assign rfl rfl) ?_
                                              refine ho_nil ?_
                                              refine hx_again (I := (fun q : Nat => ([DiskAt b0 D.sync, DiskAt qc D.sync, pu (q ≤ 21), F], [(5, .pointer (some ⟨b0, 0, none⟩)), (8, .pointer (some ⟨qc, 0, none⟩)), (11, .int .i64 q)]))) (μ := (fun q : Nat => 21 - q)) (i := q) (q + 1) ?_ ?_ ?_
                                              · (first | dsimp only | skip); omega
                                              · repeat (first | exact EnvSub.nil _ | (refine EnvSub.cons rfl ?_))
                                              · (first | dsimp only | skip)
                                                exact Ent.cons (by (repeat (first | exact Pick.here | apply Pick.there)); done) (Ent.cons (by (repeat (first | exact Pick.here | apply Pick.there)); done) (Ent.pu (by omega) (Ent.cons (by (repeat (first | exact Pick.here | apply Pick.there)); done) Ent.nil)))
                                            )
                                        )
                                    )
                                  · first | (exfalso; rw [hv] at hv2; cases hv2; done) | skip
                                    all_goals (
                                      obtain rfl : s2 = s := by rw [hv] at hv2; exact (Option.some.inj hv2).symm
                                      refine ho_eff rfl rfl rfl (eff_call rfl rfl (.cons rfl (.cons rfl .nil)) rfl (disk_Read qc D.sync q s2 hv2) (by repeat (first | exact Picks.nil | (apply Picks.ro; focus ((repeat (first | exact Pick.here | apply Pick.there)); done)) | (apply Picks.cons; focus ((repeat (first | exact Pick.here | apply Pick.there)); done)))) (fun _ => by repeat (first | exact App.nil | apply App.cons))) (fun rd2 => ?_)
                                      refine ho_ev rfl rfl rfl (ev_move rfl rfl) ?_
                                      refine ho_ev rfl rfl rfl (ev_extract rfl rfl rfl) ?_
                                      refine ho_ev rfl rfl rfl (ev_extract rfl rfl rfl) ?_
                                      refine ho_ev rfl rfl rfl (ev_assign rfl rfl) ?_
                                      refine ho_ev rfl rfl rfl (ev_assign rfl rfl) ?_
                                      refine ho_nil ?_
                                      refine hx_then ?_
                                      refine ht_seq ?_
                                      refine ht_region ?_
                                      refine ho_ev rfl rfl rfl (ev_move rfl rfl) ?_
                                      refine ho_ev rfl rfl rfl (ev_str rfl Try.underlying36 Try.underlying5 Try.underlying9 rfl (by first | exact reads_ro (by (repeat (first | with_reducible exact Pick.here | with_reducible apply Pick.there)); done) | exact reads_own (by (repeat (first | with_reducible exact Pick.here | with_reducible apply Pick.there)); done) | exact reads_nil _)) ?_
                                      refine ho_ev rfl rfl rfl (ev_move rfl rfl) ?_
                                      refine ho_ev rfl rfl rfl (ev_str rfl Try.underlying36 Try.underlying5 Try.underlying9 rfl (by first | exact reads_ro (by (repeat (first | with_reducible exact Pick.here | with_reducible apply Pick.there)); done) | exact reads_own (by (repeat (first | with_reducible exact Pick.here | with_reducible apply Pick.there)); done) | exact reads_nil _)) ?_
                                      refine ho_neS rfl rfl rfl rfl rfl rfl (fun g25 => ?_) (fun g25 => ?_)
                                      · first | (exfalso; first | omega | (simp at g25; done) | contradiction) | skip
                                        all_goals (
                                          refine ho_ev rfl rfl rfl (ev_move rfl rfl) ?_
                                          refine ho_pass rfl rfl rfl rfl ?_
                                          refine ho_pass rfl rfl rfl rfl ?_
                                          refine ho_pass rfl rfl rfl rfl ?_
                                          refine ho_ev rfl rfl rfl (ev_pick_t rfl rfl rfl) ?_
                                          refine ho_nil ?_
                                          refine hx_then ?_
                                          refine ht_then rfl ?_
                                          refine ht_seq ?_
                                          refine ht_region ?_
                                          refine ho_ev rfl rfl rfl (ev_assign rfl rfl) ?_
                                          refine ho_nil ?_
                                          refine hx_then ?_
                                          refine ht_ret ?_
                                          refine hx_block_ret ?_
                                          refine hx_through trivial ?_
                                          refine hx_through trivial ?_
                                          refine hx_block_ret ?_
                                          refine hx_through trivial ?_
                                          exact hx_ret1 (.inl rfl) rfl rfl () rfl (Ent.cons (by (repeat (first | exact Pick.here | apply Pick.there)); done) Ent.nil)
                                        )
                                      · first | (exfalso; first | omega | (simp at g25; done) | contradiction) | skip
                                        all_goals (
                                          refine ho_ev rfl rfl rfl (ev_move rfl rfl) ?_
                                          refine ho_evg rfl rfl rfl rfl (ev_move rfl rfl) ?_
                                          refine ho_evg rfl rfl rfl rfl (ev_move rfl rfl) ?_
                                          refine ho_neg rfl rfl rfl rfl rfl rfl rfl (fun g26 => ?_) (fun g26 => ?_)
                                          · first | (exfalso; first | omega | (simp at g26; done) | contradiction) | skip
                                            all_goals (
                                              refine ho_ev rfl rfl rfl (ev_pick_f rfl rfl rfl) ?_
                                              refine ho_nil ?_
                                              refine hx_then ?_
                                              refine ht_then rfl ?_
                                              refine ht_seq ?_
                                              refine ht_region ?_
                                              refine ho_ev rfl rfl rfl (ev_assign rfl rfl) ?_
                                              refine ho_nil ?_
                                              refine hx_then ?_
                                              refine ht_ret ?_
                                              refine hx_block_ret ?_
                                              refine hx_through trivial ?_
                                              refine hx_through trivial ?_
                                              refine hx_block_ret ?_
                                              refine hx_through trivial ?_
                                              exact hx_ret1 (.inl rfl) rfl rfl () rfl (Ent.cons (by (repeat (first | exact Pick.here | apply Pick.there)); done) Ent.nil)
                                            )
                                          · first | (exfalso; first | omega | (simp at g26; done) | contradiction) | skip
                                            all_goals (
                                              refine ho_ev rfl rfl rfl (ev_pick_f rfl rfl rfl) ?_
                                              refine ho_nil ?_
                                              refine hx_then ?_
                                              refine ht_else rfl ?_
                                              refine ht_skip ?_
                                              refine hx_block_normal ?_
                                              refine hx_then ?_
                                              refine ht_region ?_
                                              refine ho_ev rfl rfl rfl (ev_move rfl rfl) ?_
                                              refine ho_ev rfl rfl rfl (ev_add rfl rfl rfl (by first | exact in_i64 (by omega) | rfl)) ?_
                                              refine ho_ev rfl rfl rfl (ev_assign rfl rfl) ?_
                                              refine ho_nil ?_
                                              refine hx_again (I := (fun q : Nat => ([DiskAt b0 D.sync, DiskAt qc D.sync, pu (q ≤ 21), F], [(5, .pointer (some ⟨b0, 0, none⟩)), (8, .pointer (some ⟨qc, 0, none⟩)), (11, .int .i64 q)]))) (μ := (fun q : Nat => 21 - q)) (i := q) (q + 1) ?_ ?_ ?_
                                              · (first | dsimp only | skip); omega
                                              · repeat (first | exact EnvSub.nil _ | (refine EnvSub.cons rfl ?_))
                                              · (first | dsimp only | skip)
                                                exact Ent.cons (by (repeat (first | exact Pick.here | apply Pick.there)); done) (Ent.cons (by (repeat (first | exact Pick.here | apply Pick.there)); done) (Ent.pu (by omega) (Ent.cons (by (repeat (first | exact Pick.here | apply Pick.there)); done) Ent.nil)))
                                            )
                                        )
                                    )
                                · skip
                                  refine ho_eff rfl rfl rfl (eff_call rfl rfl (.cons rfl (.cons rfl .nil)) rfl (disk_Read b0 D.sync q s hv) (by repeat (first | exact Picks.nil | (apply Picks.ro; focus ((repeat (first | exact Pick.here | apply Pick.there)); done)) | (apply Picks.cons; focus ((repeat (first | exact Pick.here | apply Pick.there)); done)))) (fun _ => by repeat (first | exact App.nil | apply App.cons))) (fun rd => ?_)
                                  refine ho_ev rfl rfl rfl (ev_move rfl rfl) ?_
                                  refine ho_ev rfl rfl rfl (ev_extract rfl rfl rfl) ?_
                                  refine ho_ev rfl rfl rfl (ev_extract rfl rfl rfl) ?_
                                  refine ho_ev rfl rfl rfl (ev_assign rfl rfl) ?_
                                  refine ho_ev rfl rfl rfl (ev_assign rfl rfl) ?_
                                  refine ho_nil ?_
                                  refine hx_then ?_
                                  refine ht_seq ?_
                                  refine ht_region ?_
                                  refine ho_ev rfl rfl rfl (ev_move rfl rfl) ?_
                                  refine ho_ev rfl rfl rfl (ev_move rfl rfl) ?_
                                  rcases hv2 : D.sync.view q with _ | s2
                                  · first | (exfalso; rw [hv] at hv2; cases hv2; done) | skip
                                    all_goals (
                                      refine ho_eff rfl rfl rfl (eff_call rfl rfl (.cons rfl (.cons rfl .nil)) rfl (disk_Read_no qc D.sync q hv2) (by repeat (first | exact Picks.nil | (apply Picks.ro; focus ((repeat (first | exact Pick.here | apply Pick.there)); done)) | (apply Picks.cons; focus ((repeat (first | exact Pick.here | apply Pick.there)); done)))) (fun _ => by repeat (first | exact App.nil | apply App.cons))) (fun _ => ?_)
                                      refine ho_ev rfl rfl rfl (ev_move rfl rfl) ?_
                                      refine ho_ev rfl rfl rfl (ev_extract rfl rfl rfl) ?_
                                      refine ho_ev rfl rfl rfl (ev_extract rfl rfl rfl) ?_
                                      refine ho_ev rfl rfl rfl (ev_assign rfl rfl) ?_
                                      refine ho_ev rfl rfl rfl (ev_assign rfl rfl) ?_
                                      refine ho_nil ?_
                                      refine hx_then ?_
                                      refine ht_seq ?_
                                      refine ht_region ?_
                                      refine ho_ev rfl rfl rfl (ev_move rfl rfl) ?_
                                      refine ho_ev rfl rfl rfl (ev_str rfl Try.underlying36 Try.underlying5 Try.underlying9 rfl (by first | exact reads_ro (by (repeat (first | with_reducible exact Pick.here | with_reducible apply Pick.there)); done) | exact reads_own (by (repeat (first | with_reducible exact Pick.here | with_reducible apply Pick.there)); done) | exact reads_nil _)) ?_
                                      refine ho_ev rfl rfl rfl (ev_move rfl rfl) ?_
                                      refine ho_ev rfl rfl rfl (ev_str rfl Try.underlying36 Try.underlying5 Try.underlying9 rfl (by first | exact reads_ro (by (repeat (first | with_reducible exact Pick.here | with_reducible apply Pick.there)); done) | exact reads_own (by (repeat (first | with_reducible exact Pick.here | with_reducible apply Pick.there)); done) | exact reads_nil _)) ?_
                                      refine ho_neS rfl rfl rfl rfl rfl rfl (fun g27 => ?_) (fun g27 => ?_)
                                      · first | (exfalso; first | omega | (simp at g27; done) | contradiction) | skip
                                        all_goals (
                                          refine ho_ev rfl rfl rfl (ev_move rfl rfl) ?_
                                          refine ho_pass rfl rfl rfl rfl ?_
                                          refine ho_pass rfl rfl rfl rfl ?_
                                          refine ho_pass rfl rfl rfl rfl ?_
                                          refine ho_ev rfl rfl rfl (ev_pick_t rfl rfl rfl) ?_
                                          refine ho_nil ?_
                                          refine hx_then ?_
                                          refine ht_then rfl ?_
                                          refine ht_seq ?_
                                          refine ht_region ?_
                                          refine ho_ev rfl rfl rfl (ev_assign rfl rfl) ?_
                                          refine ho_nil ?_
                                          refine hx_then ?_
                                          refine ht_ret ?_
                                          refine hx_block_ret ?_
                                          refine hx_through trivial ?_
                                          refine hx_through trivial ?_
                                          refine hx_block_ret ?_
                                          refine hx_through trivial ?_
                                          exact hx_ret1 (.inl rfl) rfl rfl () rfl (Ent.cons (by (repeat (first | exact Pick.here | apply Pick.there)); done) Ent.nil)
                                        )
                                      · first | (exfalso; first | omega | (simp at g27; done) | contradiction) | skip
                                        all_goals (
                                          refine ho_ev rfl rfl rfl (ev_move rfl rfl) ?_
                                          refine ho_evg rfl rfl rfl rfl (ev_move rfl rfl) ?_
                                          refine ho_evg rfl rfl rfl rfl (ev_move rfl rfl) ?_
                                          refine ho_neg rfl rfl rfl rfl rfl rfl rfl (fun g28 => ?_) (fun g28 => ?_)
                                          · first | (exfalso; first | omega | (simp at g28; done) | contradiction) | skip
                                            all_goals (
                                              refine ho_ev rfl rfl rfl (ev_pick_f rfl rfl rfl) ?_
                                              refine ho_nil ?_
                                              refine hx_then ?_
                                              refine ht_then rfl ?_
                                              refine ht_seq ?_
                                              refine ht_region ?_
                                              refine ho_ev rfl rfl rfl (ev_assign rfl rfl) ?_
                                              refine ho_nil ?_
                                              refine hx_then ?_
                                              refine ht_ret ?_
                                              refine hx_block_ret ?_
                                              refine hx_through trivial ?_
                                              refine hx_through trivial ?_
                                              refine hx_block_ret ?_
                                              refine hx_through trivial ?_
                                              exact hx_ret1 (.inl rfl) rfl rfl () rfl (Ent.cons (by (repeat (first | exact Pick.here | apply Pick.there)); done) Ent.nil)
                                            )
                                          · first | (exfalso; first | omega | (simp at g28; done) | contradiction) | skip
                                            all_goals (
                                              refine ho_ev rfl rfl rfl (ev_pick_f rfl rfl rfl) ?_
                                              refine ho_nil ?_
                                              refine hx_then ?_
                                              refine ht_else rfl ?_
                                              refine ht_skip ?_
                                              refine hx_block_normal ?_
                                              refine hx_then ?_
                                              refine ht_region ?_
                                              refine ho_ev rfl rfl rfl (ev_move rfl rfl) ?_
                                              refine ho_ev rfl rfl rfl (ev_add rfl rfl rfl (by first | exact in_i64 (by omega) | rfl)) ?_
                                              refine ho_ev rfl rfl rfl (ev_assign rfl rfl) ?_
                                              refine ho_nil ?_
                                              refine hx_again (I := (fun q : Nat => ([DiskAt b0 D.sync, DiskAt qc D.sync, pu (q ≤ 21), F], [(5, .pointer (some ⟨b0, 0, none⟩)), (8, .pointer (some ⟨qc, 0, none⟩)), (11, .int .i64 q)]))) (μ := (fun q : Nat => 21 - q)) (i := q) (q + 1) ?_ ?_ ?_
                                              · (first | dsimp only | skip); omega
                                              · repeat (first | exact EnvSub.nil _ | (refine EnvSub.cons rfl ?_))
                                              · (first | dsimp only | skip)
                                                exact Ent.cons (by (repeat (first | exact Pick.here | apply Pick.there)); done) (Ent.cons (by (repeat (first | exact Pick.here | apply Pick.there)); done) (Ent.pu (by omega) (Ent.cons (by (repeat (first | exact Pick.here | apply Pick.there)); done) Ent.nil)))
                                            )
                                        )
                                    )
                                  · first | (exfalso; rw [hv] at hv2; cases hv2; done) | skip
                                    all_goals (
                                      obtain rfl : s2 = s := by rw [hv] at hv2; exact (Option.some.inj hv2).symm
                                      refine ho_eff rfl rfl rfl (eff_call rfl rfl (.cons rfl (.cons rfl .nil)) rfl (disk_Read qc D.sync q s2 hv2) (by repeat (first | exact Picks.nil | (apply Picks.ro; focus ((repeat (first | exact Pick.here | apply Pick.there)); done)) | (apply Picks.cons; focus ((repeat (first | exact Pick.here | apply Pick.there)); done)))) (fun _ => by repeat (first | exact App.nil | apply App.cons))) (fun rd2 => ?_)
                                      refine ho_ev rfl rfl rfl (ev_move rfl rfl) ?_
                                      refine ho_ev rfl rfl rfl (ev_extract rfl rfl rfl) ?_
                                      refine ho_ev rfl rfl rfl (ev_extract rfl rfl rfl) ?_
                                      refine ho_ev rfl rfl rfl (ev_assign rfl rfl) ?_
                                      refine ho_ev rfl rfl rfl (ev_assign rfl rfl) ?_
                                      refine ho_nil ?_
                                      refine hx_then ?_
                                      refine ht_seq ?_
                                      refine ht_region ?_
                                      refine ho_ev rfl rfl rfl (ev_move rfl rfl) ?_
                                      refine ho_ev rfl rfl rfl (ev_str rfl Try.underlying36 Try.underlying5 Try.underlying9 rfl (by first | exact reads_ro (by (repeat (first | with_reducible exact Pick.here | with_reducible apply Pick.there)); done) | exact reads_own (by (repeat (first | with_reducible exact Pick.here | with_reducible apply Pick.there)); done) | exact reads_nil _)) ?_
                                      refine ho_ev rfl rfl rfl (ev_move rfl rfl) ?_
                                      refine ho_ev rfl rfl rfl (ev_str rfl Try.underlying36 Try.underlying5 Try.underlying9 rfl (by first | exact reads_ro (by (repeat (first | with_reducible exact Pick.here | with_reducible apply Pick.there)); done) | exact reads_own (by (repeat (first | with_reducible exact Pick.here | with_reducible apply Pick.there)); done) | exact reads_nil _)) ?_
                                      refine ho_neS rfl rfl rfl rfl rfl rfl (fun g29 => ?_) (fun g29 => ?_)
                                      · first | (exfalso; first | omega | (simp at g29; done) | contradiction) | skip
                                        all_goals (
                                          refine ho_ev rfl rfl rfl (ev_move rfl rfl) ?_
                                          refine ho_pass rfl rfl rfl rfl ?_
                                          refine ho_pass rfl rfl rfl rfl ?_
                                          refine ho_pass rfl rfl rfl rfl ?_
                                          refine ho_ev rfl rfl rfl (ev_pick_t rfl rfl rfl) ?_
                                          refine ho_nil ?_
                                          refine hx_then ?_
                                          refine ht_then rfl ?_
                                          refine ht_seq ?_
                                          refine ht_region ?_
                                          refine ho_ev rfl rfl rfl (ev_assign rfl rfl) ?_
                                          refine ho_nil ?_
                                          refine hx_then ?_
                                          refine ht_ret ?_
                                          refine hx_block_ret ?_
                                          refine hx_through trivial ?_
                                          refine hx_through trivial ?_
                                          refine hx_block_ret ?_
                                          refine hx_through trivial ?_
                                          exact hx_ret1 (.inl rfl) rfl rfl () rfl (Ent.cons (by (repeat (first | exact Pick.here | apply Pick.there)); done) Ent.nil)
                                        )
                                      · first | (exfalso; first | omega | (simp at g29; done) | contradiction) | skip
                                        all_goals (
                                          refine ho_ev rfl rfl rfl (ev_move rfl rfl) ?_
                                          refine ho_evg rfl rfl rfl rfl (ev_move rfl rfl) ?_
                                          refine ho_evg rfl rfl rfl rfl (ev_move rfl rfl) ?_
                                          refine ho_neg rfl rfl rfl rfl rfl rfl rfl (fun g30 => ?_) (fun g30 => ?_)
                                          · first | (exfalso; first | omega | (simp at g30; done) | contradiction) | skip
                                            all_goals (
                                              refine ho_ev rfl rfl rfl (ev_pick_f rfl rfl rfl) ?_
                                              refine ho_nil ?_
                                              refine hx_then ?_
                                              refine ht_then rfl ?_
                                              refine ht_seq ?_
                                              refine ht_region ?_
                                              refine ho_ev rfl rfl rfl (ev_assign rfl rfl) ?_
                                              refine ho_nil ?_
                                              refine hx_then ?_
                                              refine ht_ret ?_
                                              refine hx_block_ret ?_
                                              refine hx_through trivial ?_
                                              refine hx_through trivial ?_
                                              refine hx_block_ret ?_
                                              refine hx_through trivial ?_
                                              exact hx_ret1 (.inl rfl) rfl rfl () rfl (Ent.cons (by (repeat (first | exact Pick.here | apply Pick.there)); done) Ent.nil)
                                            )
                                          · first | (exfalso; first | omega | (simp at g30; done) | contradiction) | skip
                                            all_goals (
                                              refine ho_ev rfl rfl rfl (ev_pick_f rfl rfl rfl) ?_
                                              refine ho_nil ?_
                                              refine hx_then ?_
                                              refine ht_else rfl ?_
                                              refine ht_skip ?_
                                              refine hx_block_normal ?_
                                              refine hx_then ?_
                                              refine ht_region ?_
                                              refine ho_ev rfl rfl rfl (ev_move rfl rfl) ?_
                                              refine ho_ev rfl rfl rfl (ev_add rfl rfl rfl (by first | exact in_i64 (by omega) | rfl)) ?_
                                              refine ho_ev rfl rfl rfl (ev_assign rfl rfl) ?_
                                              refine ho_nil ?_
                                              refine hx_again (I := (fun q : Nat => ([DiskAt b0 D.sync, DiskAt qc D.sync, pu (q ≤ 21), F], [(5, .pointer (some ⟨b0, 0, none⟩)), (8, .pointer (some ⟨qc, 0, none⟩)), (11, .int .i64 q)]))) (μ := (fun q : Nat => 21 - q)) (i := q) (q + 1) ?_ ?_ ?_
                                              · (first | dsimp only | skip); omega
                                              · repeat (first | exact EnvSub.nil _ | (refine EnvSub.cons rfl ?_))
                                              · (first | dsimp only | skip)
                                                exact Ent.cons (by (repeat (first | exact Pick.here | apply Pick.there)); done) (Ent.cons (by (repeat (first | exact Pick.here | apply Pick.there)); done) (Ent.pu (by omega) (Ent.cons (by (repeat (first | exact Pick.here | apply Pick.there)); done) Ent.nil)))
                                            )
                                        )
                                    )
                              )
                            · first | (exfalso; first | omega | (simp at g22; done) | contradiction) | skip
                              all_goals (
                                refine ho_nil ?_
                                refine hx_then ?_
                                refine ht_else rfl ?_
                                refine ht_exit ?_
                                refine hx_through trivial ?_
                                refine hx_through trivial ?_
                                refine hx_block_here ?_
                                refine hx_then ?_
                                refine ht_seq ?_
                                have hp0 : D.sync.pend.length = 0 := rfl
                                refine ht_region ?_
                                refine ho_ev rfl rfl rfl (ev_move rfl rfl) ?_
                                refine ho_eff rfl rfl rfl (eff_call rfl rfl (.cons rfl .nil) rfl (disk_Used b0 D.sync) (by repeat (first | exact Picks.nil | (apply Picks.ro; focus ((repeat (first | exact Pick.here | apply Pick.there)); done)) | (apply Picks.cons; focus ((repeat (first | exact Pick.here | apply Pick.there)); done)))) (fun _ => by repeat (first | exact App.nil | apply App.cons))) (fun _ => ?_)
                                refine ho_ev rfl rfl rfl (ev_move rfl rfl) ?_
                                refine ho_eff rfl rfl rfl (eff_call rfl rfl (.cons rfl .nil) rfl (disk_Used qc D.sync) (by repeat (first | exact Picks.nil | (apply Picks.ro; focus ((repeat (first | exact Pick.here | apply Pick.there)); done)) | (apply Picks.cons; focus ((repeat (first | exact Pick.here | apply Pick.there)); done)))) (fun _ => by repeat (first | exact App.nil | apply App.cons))) (fun _ => ?_)
                                refine ho_eq rfl rfl rfl rfl rfl rfl (fun g31 => ?_) (fun g31 => ?_)
                                · first | (exfalso; first | omega | (simp at g31; done) | contradiction) | skip
                                  all_goals (
                                    refine ho_ev rfl rfl rfl (ev_move rfl rfl) ?_
                                    refine ho_evg rfl rfl rfl rfl (ev_move rfl rfl) ?_
                                    refine ho_effg rfl rfl rfl rfl (eff_call rfl rfl (.cons rfl .nil) rfl (disk_Pending b0 D.sync) (by repeat (first | exact Picks.nil | (apply Picks.ro; focus ((repeat (first | exact Pick.here | apply Pick.there)); done)) | (apply Picks.cons; focus ((repeat (first | exact Pick.here | apply Pick.there)); done)))) (fun _ => by repeat (first | exact App.nil | apply App.cons))) (fun _ => ?_)
                                    refine ho_eqg rfl rfl rfl rfl rfl rfl rfl (fun g32 => ?_) (fun g32 => ?_)
                                    · first | (exfalso; first | omega | (simp at g32; done) | contradiction) | skip
                                      all_goals (
                                        refine ho_ev rfl rfl rfl (ev_pick_t rfl rfl rfl) ?_
                                        refine ho_ev rfl rfl rfl (ev_move rfl rfl) ?_
                                        refine ho_evg rfl rfl rfl rfl (ev_move rfl rfl) ?_
                                        refine ho_effg rfl rfl rfl rfl (eff_call rfl rfl (.cons rfl .nil) rfl (disk_Pending qc D.sync) (by repeat (first | exact Picks.nil | (apply Picks.ro; focus ((repeat (first | exact Pick.here | apply Pick.there)); done)) | (apply Picks.cons; focus ((repeat (first | exact Pick.here | apply Pick.there)); done)))) (fun _ => by repeat (first | exact App.nil | apply App.cons))) (fun _ => ?_)
                                        refine ho_eqg rfl rfl rfl rfl rfl rfl rfl (fun g33 => ?_) (fun g33 => ?_)
                                        · first | (exfalso; first | omega | (simp at g33; done) | contradiction) | skip
                                          all_goals (
                                            refine ho_ev rfl rfl rfl (ev_pick_t rfl rfl rfl) ?_
                                            refine ho_ev rfl rfl rfl (ev_assign rfl rfl) ?_
                                            refine ho_nil ?_
                                            refine hx_then ?_
                                            refine ht_ret ?_
                                            exact hx_ret1 (.inl rfl) rfl rfl () rfl (Ent.cons (by (repeat (first | exact Pick.here | apply Pick.there)); done) Ent.nil)
                                          )
                                        · first | (exfalso; first | omega | (simp at g33; done) | contradiction) | skip
                                          all_goals (
                                            refine ho_ev rfl rfl rfl (ev_pick_t rfl rfl rfl) ?_
                                            refine ho_ev rfl rfl rfl (ev_assign rfl rfl) ?_
                                            refine ho_nil ?_
                                            refine hx_then ?_
                                            refine ht_ret ?_
                                            exact hx_ret1 (.inl rfl) rfl rfl () rfl (Ent.cons (by (repeat (first | exact Pick.here | apply Pick.there)); done) Ent.nil)
                                          )
                                      )
                                    · first | (exfalso; first | omega | (simp at g32; done) | contradiction) | skip
                                      all_goals (
                                        refine ho_ev rfl rfl rfl (ev_pick_t rfl rfl rfl) ?_
                                        refine ho_ev rfl rfl rfl (ev_move rfl rfl) ?_
                                        refine ho_pass rfl rfl rfl rfl ?_
                                        refine ho_pass rfl rfl rfl rfl ?_
                                        refine ho_pass rfl rfl rfl rfl ?_
                                        refine ho_ev rfl rfl rfl (ev_pick_f rfl rfl rfl) ?_
                                        refine ho_ev rfl rfl rfl (ev_assign rfl rfl) ?_
                                        refine ho_nil ?_
                                        refine hx_then ?_
                                        refine ht_ret ?_
                                        exact hx_ret1 (.inl rfl) rfl rfl () rfl (Ent.cons (by (repeat (first | exact Pick.here | apply Pick.there)); done) Ent.nil)
                                      )
                                  )
                                · first | (exfalso; first | omega | (simp at g31; done) | contradiction) | skip
                                  all_goals (
                                    refine ho_ev rfl rfl rfl (ev_move rfl rfl) ?_
                                    refine ho_pass rfl rfl rfl rfl ?_
                                    refine ho_pass rfl rfl rfl rfl ?_
                                    refine ho_pass rfl rfl rfl rfl ?_
                                    refine ho_ev rfl rfl rfl (ev_pick_f rfl rfl rfl) ?_
                                    refine ho_ev rfl rfl rfl (ev_move rfl rfl) ?_
                                    refine ho_pass rfl rfl rfl rfl ?_
                                    refine ho_pass rfl rfl rfl rfl ?_
                                    refine ho_pass rfl rfl rfl rfl ?_
                                    refine ho_ev rfl rfl rfl (ev_pick_f rfl rfl rfl) ?_
                                    refine ho_ev rfl rfl rfl (ev_assign rfl rfl) ?_
                                    refine ho_nil ?_
                                    refine hx_then ?_
                                    refine ht_ret ?_
                                    exact hx_ret1 (.inl rfl) rfl rfl () rfl (Ent.cons (by (repeat (first | exact Pick.here | apply Pick.there)); done) Ent.nil)
                                  )
                              )
                          )
                      )
                  )
              )
          )
      )
    · first | (exfalso; first | omega | (simp at g1; done) | contradiction) | skip
      all_goals (
        refine ho_ev rfl rfl rfl (ev_not rfl rfl) ?_
        refine ho_ev rfl rfl rfl (ev_move rfl rfl) ?_
        refine ho_pass rfl rfl rfl rfl ?_
        refine ho_pass rfl rfl rfl rfl ?_
        refine ho_ev rfl rfl rfl (ev_pick_t rfl rfl rfl) ?_
        refine ho_ev rfl rfl rfl (ev_move rfl rfl) ?_
        refine ho_pass rfl rfl rfl rfl ?_
        refine ho_pass rfl rfl rfl rfl ?_
        refine ho_ev rfl rfl rfl (ev_pick_t rfl rfl rfl) ?_
        refine ho_nil ?_
        refine hx_then ?_
        refine ht_then rfl ?_
        refine ht_seq ?_
        refine ht_region ?_
        refine ho_eff rfl rfl rfl (eff_call rfl rfl .nil rfl (law_awake) (by repeat (first | exact Picks.nil | (apply Picks.ro; focus ((repeat (first | with_reducible exact Pick.here | with_reducible apply Pick.there)); done)) | (apply Picks.cons; focus ((repeat (first | with_reducible exact Pick.here | with_reducible apply Pick.there)); done)))) (fun _ => by repeat (first | exact App.nil | apply App.cons))) (fun _ => ?_)
        refine ho_ev rfl rfl rfl (ev_assign rfl rfl) ?_
        refine ho_nil ?_
        refine hx_then ?_
        refine ht_ret ?_
        refine hx_through trivial ?_
        exact hx_ret1 (.inl rfl) rfl rfl () rfl (Ent.cons (by (repeat (first | exact Pick.here | apply Pick.there)); done) Ent.nil)
      )
  · skip
    refine ho_eff rfl rfl rfl (eff_call rfl rfl (.cons rfl .nil) rfl (disk_New n (by omega)) (by repeat (first | exact Picks.nil | (apply Picks.ro; focus ((repeat (first | with_reducible exact Pick.here | with_reducible apply Pick.there)); done)) | (apply Picks.cons; focus ((repeat (first | with_reducible exact Pick.here | with_reducible apply Pick.there)); done)))) (fun _ => by repeat (first | exact App.nil | apply App.cons))) (fun b0 => ?_)
    refine ho_ev rfl rfl rfl (ev_move rfl rfl) ?_
    refine ho_ev rfl rfl rfl (ev_extract rfl rfl rfl) ?_
    refine ho_ev rfl rfl rfl (ev_extract rfl rfl rfl) ?_
    refine ho_ev rfl rfl rfl (ev_assign rfl rfl) ?_
    refine ho_ev rfl rfl rfl (ev_assign rfl rfl) ?_
    refine ho_nil ?_
    refine hx_then ?_
    refine ht_seq ?_
    refine ht_seq ?_
    refine ht_region ?_
    refine ho_eff rfl rfl rfl (eff_call rfl rfl .nil rfl (law_awake) (by repeat (first | exact Picks.nil | (apply Picks.ro; focus ((repeat (first | with_reducible exact Pick.here | with_reducible apply Pick.there)); done)) | (apply Picks.cons; focus ((repeat (first | with_reducible exact Pick.here | with_reducible apply Pick.there)); done)))) (fun _ => by repeat (first | exact App.nil | apply App.cons))) (fun _ => ?_)
    refine ho_bool (t := 21) rfl (fun g34 => ?_) (fun g34 => ?_)
    · first | (exfalso; first | omega | (simp at g34; done) | contradiction) | skip
      all_goals (
        refine ho_ev rfl rfl rfl (ev_not rfl rfl) ?_
        refine ho_ev rfl rfl rfl (ev_move rfl rfl) ?_
        refine ho_evg rfl rfl rfl rfl (ev_move rfl rfl) ?_
        refine ho_neg rfl rfl rfl rfl rfl rfl rfl (fun g35 => ?_) (fun g35 => ?_)
        · first | (exfalso; first | omega | (simp at g35; done) | contradiction) | skip
          all_goals (
            refine ho_ev rfl rfl rfl (ev_pick_f rfl rfl rfl) ?_
            refine ho_ev rfl rfl rfl (ev_move rfl rfl) ?_
            refine ho_pass rfl rfl rfl rfl ?_
            refine ho_pass rfl rfl rfl rfl ?_
            refine ho_ev rfl rfl rfl (ev_pick_t rfl rfl rfl) ?_
            refine ho_nil ?_
            refine hx_then ?_
            refine ht_then rfl ?_
            refine ht_seq ?_
            refine ht_region ?_
            refine ho_eff rfl rfl rfl (eff_call rfl rfl .nil rfl (law_awake) (by repeat (first | exact Picks.nil | (apply Picks.ro; focus ((repeat (first | with_reducible exact Pick.here | with_reducible apply Pick.there)); done)) | (apply Picks.cons; focus ((repeat (first | with_reducible exact Pick.here | with_reducible apply Pick.there)); done)))) (fun _ => by repeat (first | exact App.nil | apply App.cons))) (fun _ => ?_)
            refine ho_ev rfl rfl rfl (ev_assign rfl rfl) ?_
            refine ho_nil ?_
            refine hx_then ?_
            refine ht_ret ?_
            refine hx_through trivial ?_
            exact hx_ret1 (.inl rfl) rfl rfl () rfl (Ent.cons (by (repeat (first | exact Pick.here | apply Pick.there)); done) Ent.nil)
          )
        · first | (exfalso; first | omega | (simp at g35; done) | contradiction) | skip
          all_goals (
            refine ho_ev rfl rfl rfl (ev_pick_f rfl rfl rfl) ?_
            refine ho_ev rfl rfl rfl (ev_move rfl rfl) ?_
            refine ho_evg rfl rfl rfl rfl (ev_move rfl rfl) ?_
            refine ho_evg rfl rfl rfl rfl (ev_ptrNil rfl Try.underlying25 rfl rfl rfl) ?_
            refine ho_ev rfl rfl rfl (ev_pick_f rfl rfl rfl) ?_
            refine ho_nil ?_
            refine hx_then ?_
            refine ht_bool (t := 30) rfl (fun g36 => ?_) (fun g36 => ?_)
            · first | (exfalso; first | omega | (simp at g36; done) | contradiction) | skip
              all_goals (
                refine ht_then rfl ?_
                refine ht_seq ?_
                refine ht_region ?_
                refine ho_eff rfl rfl rfl (eff_call rfl rfl .nil rfl (law_awake) (by repeat (first | exact Picks.nil | (apply Picks.ro; focus ((repeat (first | with_reducible exact Pick.here | with_reducible apply Pick.there)); done)) | (apply Picks.cons; focus ((repeat (first | with_reducible exact Pick.here | with_reducible apply Pick.there)); done)))) (fun _ => by repeat (first | exact App.nil | apply App.cons))) (fun _ => ?_)
                refine ho_ev rfl rfl rfl (ev_assign rfl rfl) ?_
                refine ho_nil ?_
                refine hx_then ?_
                refine ht_ret ?_
                refine hx_through trivial ?_
                exact hx_ret1 (.inl rfl) rfl rfl () rfl (Ent.cons (by (repeat (first | exact Pick.here | apply Pick.there)); done) Ent.nil)
              )
            · first | (exfalso; first | omega | (simp at g36; done) | contradiction) | skip
              all_goals (
                refine ht_else rfl ?_
                refine ht_skip ?_
                refine hx_then ?_
                refine ht_seq ?_
                refine ht_seq ?_
                refine ht_region ?_
                refine ho_ev rfl rfl rfl (ev_assign rfl rfl) ?_
                refine ho_nil ?_
                refine hx_then ?_
                refine ht_block ?_
                refine ht_loop (fun q : Nat => ([DiskAt b0 (Dk.Disk.upto n ms q), ro (roS a xs.length xs), ro (actsR xs ms), pu (q ≤ 40 ∧ q ≤ xs.length), F], [(1, .slice a xs.length c), (5, .pointer (some ⟨b0, 0, none⟩)), (7, .int .i64 q)])) (fun q : Nat => 40 - q) 0 ?_ (by repeat (first | exact EnvSub.nil _ | (refine EnvSub.cons rfl ?_))) (fun q => ?_)
                · (first | dsimp only | skip)
                  rw [Dk.upto_zero]
                  exact Ent.cons (by (repeat (first | exact Pick.here | apply Pick.there)); done) (Ent.cons (by (repeat (first | exact Pick.here | apply Pick.there)); done) (Ent.cons (by (repeat (first | exact Pick.here | apply Pick.there)); done) (Ent.pu ⟨by omega, by omega⟩ (Ent.cons (by (repeat (first | exact Pick.here | apply Pick.there)); done) Ent.nil))))
                obtain q := q
                dsimp only
                refine ht_pick (A := pu (q ≤ 40 ∧ q ≤ xs.length)) (by (repeat (first | exact Pick.here | apply Pick.there)); done) (ht_pure fun hq => ?_)
                obtain ⟨hq1, hq2⟩ := hq
                refine ht_seq ?_
                refine ht_seq ?_
                refine ht_region ?_
                refine ho_ev rfl rfl rfl (ev_move rfl rfl) ?_
                refine ho_ev rfl rfl rfl (ev_move rfl rfl) ?_
                refine ho_ev rfl rfl rfl (ev_lenSl rfl Try.underlying22 rfl) ?_
                refine ho_lt rfl rfl rfl rfl rfl rfl (fun g37 => ?_) (fun g37 => ?_)
                · first | (exfalso; first | omega | (simp at g37; done) | contradiction) | skip
                  all_goals (
                    refine ho_ev rfl rfl rfl (ev_move rfl rfl) ?_
                    refine ho_evg rfl rfl rfl rfl (ev_move rfl rfl) ?_
                    refine ho_ltg rfl rfl rfl rfl rfl rfl rfl (fun g38 => ?_) (fun g38 => ?_)
                    · first | (exfalso; first | omega | (simp at g38; done) | contradiction) | skip
                      all_goals (
                        refine ho_ev rfl rfl rfl (ev_pick_t rfl rfl rfl) ?_
                        refine ho_nil ?_
                        refine hx_then ?_
                        refine ht_then rfl ?_
                        refine ht_skip ?_
                        refine hx_then ?_
                        refine ht_seq ?_
                        refine ht_block ?_
                        refine ht_actAt (xs := xs) (ms := ms) (i := q) (by omega) (by (repeat (first | with_reducible exact Pick.here | with_reducible apply Pick.there)); done) (fun x0 m0 hx0 hm0 => ?_)
                        refine ht_someS (α := ActV) (reads_ro (by (repeat (first | with_reducible exact Pick.here | with_reducible apply Pick.there)); done)) (by omega) (fun ab ao ha => ?_)
                        refine ht_region ?_
                        refine ho_ev rfl rfl rfl (ev_move rfl rfl) ?_
                        refine ho_ev rfl rfl rfl (ev_move rfl rfl) ?_
                        refine ho_ev rfl rfl rfl (ev_move rfl rfl) ?_
                        refine ho_ev rfl rfl rfl (ev_indexAddr rfl Try.underlying22 Try.ty32 (congrArg (fun z => some (Value.slice z xs.length c)) ha) rfl (by omega) (by omega)) ?_
                        refine ho_ev rfl rfl rfl (ev_loadA rfl Try.underlying32 Try.ty32 rfl rfl (cells_Sa ha (reads_ro (by (repeat (first | with_reducible exact Pick.here | with_reducible apply Pick.there)); done)) hx0)) ?_
                        refine ho_eff rfl rfl rfl (eff_call rfl rfl (.cons rfl .nil) rfl (law_few x0 m0) (by repeat (first | exact Picks.nil | (apply Picks.ro; focus ((repeat (first | exact Pick.here | apply Pick.there)); done)) | (apply Picks.cons; focus ((repeat (first | exact Pick.here | apply Pick.there)); done)))) (fun _ => by repeat (first | exact App.nil | apply App.cons))) (fun y => ?_)
                        refine ho_eff rfl rfl rfl (eff_call rfl rfl (.cons rfl (.cons rfl .nil)) rfl (law_do b0 (Dk.Disk.upto n ms q) y m0.few (Dk.MAct.few_short m0) (by have := Dk.upto_len n ms q; omega)) (by repeat (first | exact Picks.nil | (apply Picks.ro; focus ((repeat (first | exact Pick.here | apply Pick.there)); done)) | (apply Picks.cons; focus ((repeat (first | exact Pick.here | apply Pick.there)); done)))) (fun _ => by repeat (first | exact App.nil | apply App.cons))) (fun _ => ?_)
                        refine ho_nil ?_
                        refine hx_block_normal ?_
                        refine hx_then ?_
                        refine ht_region ?_
                        refine ho_ev rfl rfl rfl (ev_move rfl rfl) ?_
                        refine ho_ev rfl rfl rfl (ev_add rfl rfl rfl (by first | exact in_i64 (by omega) | rfl)) ?_
                        refine ho_ev rfl rfl rfl (ev_assign rfl rfl) ?_
                        refine ho_nil ?_
                        refine hx_again (I := (fun q : Nat => ([DiskAt b0 (Dk.Disk.upto n ms q), ro (roS a xs.length xs), ro (actsR xs ms), pu (q ≤ 40 ∧ q ≤ xs.length), F], [(1, .slice a xs.length c), (5, .pointer (some ⟨b0, 0, none⟩)), (7, .int .i64 q)]))) (μ := (fun q : Nat => 40 - q)) (i := q) (q + 1) ?_ ?_ ?_
                        · (first | dsimp only | skip); omega
                        · repeat (first | exact EnvSub.nil _ | (refine EnvSub.cons rfl ?_))
                        · (first | dsimp only | skip)
                          rw [Dk.upto_step hm0]
                          exact Ent.cons (by (repeat (first | exact Pick.here | apply Pick.there)); done) (Ent.cons (by (repeat (first | exact Pick.here | apply Pick.there)); done) (Ent.cons (by (repeat (first | exact Pick.here | apply Pick.there)); done) (Ent.pu ⟨by omega, by omega⟩ (Ent.cons (by (repeat (first | exact Pick.here | apply Pick.there)); done) Ent.nil))))
                      )
                    · first | (exfalso; first | omega | (simp at g38; done) | contradiction) | skip
                      all_goals (
                        refine ho_ev rfl rfl rfl (ev_pick_t rfl rfl rfl) ?_
                        refine ho_nil ?_
                        refine hx_then ?_
                        refine ht_else rfl ?_
                        refine ht_exit ?_
                        refine hx_through trivial ?_
                        refine hx_through trivial ?_
                        refine hx_block_here ?_
                        refine hx_then ?_
                        refine ht_seq ?_
                        have hinv := Dk.upto_inv n ms q
                        have hpl := Dk.upto_len n ms q
                        generalize Dk.Disk.upto n ms q = D at *
                        refine ht_region ?_
                        refine ho_ev rfl rfl rfl (ev_move rfl rfl) ?_
                        refine ho_eff rfl rfl rfl (eff_call rfl rfl (.cons rfl .nil) rfl (disk_Copy b0 D (by omega)) (by repeat (first | exact Picks.nil | (apply Picks.ro; focus ((repeat (first | exact Pick.here | apply Pick.there)); done)) | (apply Picks.cons; focus ((repeat (first | exact Pick.here | apply Pick.there)); done)))) (fun _ => by repeat (first | exact App.nil | apply App.cons))) (fun qc => ?_)
                        refine ho_ev rfl rfl rfl (ev_assign rfl rfl) ?_
                        refine ho_nil ?_
                        refine hx_then ?_
                        refine ht_seq ?_
                        refine ht_seq ?_
                        refine ht_region ?_
                        refine ho_ev rfl rfl rfl (ev_move rfl rfl) ?_
                        refine ho_ev rfl rfl rfl (ev_ptrNil rfl Try.underlying25 rfl rfl rfl) ?_
                        refine ho_nil ?_
                        refine hx_then ?_
                        refine ht_bool (t := 52) rfl (fun g39 => ?_) (fun g39 => ?_)
                        · first | (exfalso; first | omega | (simp at g39; done) | contradiction) | skip
                          all_goals (
                            refine ht_then rfl ?_
                            refine ht_seq ?_
                            refine ht_region ?_
                            refine ho_ev rfl rfl rfl (ev_assign rfl rfl) ?_
                            refine ho_nil ?_
                            refine hx_then ?_
                            refine ht_ret ?_
                            refine hx_through trivial ?_
                            exact hx_ret1 (.inl rfl) rfl rfl () rfl (Ent.cons (by (repeat (first | exact Pick.here | apply Pick.there)); done) Ent.nil)
                          )
                        · first | (exfalso; first | omega | (simp at g39; done) | contradiction) | skip
                          all_goals (
                            refine ht_else rfl ?_
                            refine ht_skip ?_
                            refine hx_then ?_
                            refine ht_seq ?_
                            refine ht_region ?_
                            refine ho_eff rfl rfl rfl (eff_buildAll (α := (Int × Int)) [] rfl Try.underlying24 Try.ty44 .nil .nil rfl (Nat.le_of_ble_eq_true rfl)) (fun b53 => ?_)
                            refine ho_ev rfl rfl rfl (ev_assign rfl rfl) ?_
                            refine ho_nil ?_
                            refine hx_then ?_
                            refine ht_seq ?_
                            refine ht_seq ?_
                            refine ht_region ?_
                            refine ho_ev rfl rfl rfl (ev_assign rfl rfl) ?_
                            refine ho_nil ?_
                            refine hx_then ?_
                            refine ht_block ?_
                            refine ht_loop (fun q : Nat × Option Addr × Nat => ([DiskAt b0 D, DiskAt qc D, ownS 44 q.2.1 (Dk.allL q.1).length q.2.2 (Dk.allL q.1), pu (q.1 ≤ D.pend.length), F], [(5, .pointer (some ⟨b0, 0, none⟩)), (8, .pointer (some ⟨qc, 0, none⟩)), (9, .slice q.2.1 (Dk.allL q.1).length q.2.2), (10, .int .i64 q.1)])) (fun q : Nat × Option Addr × Nat => D.pend.length - q.1) (0, _, _) ?_ (by repeat (first | exact EnvSub.nil _ | (refine EnvSub.cons rfl ?_))) (fun q => ?_)
                            · (first | dsimp only | skip)
                              exact Ent.cons (by (repeat (first | exact Pick.here | apply Pick.there)); done) (Ent.cons (by (repeat (first | exact Pick.here | apply Pick.there)); done) (Ent.cons (by (repeat (first | exact Pick.here | apply Pick.there)); done) (Ent.pu (by omega) (Ent.cons (by (repeat (first | exact Pick.here | apply Pick.there)); done) Ent.nil))))
                            obtain ⟨q, ad, cp⟩ := q
                            dsimp only
                            refine ht_pick (A := pu (q ≤ D.pend.length)) (by (repeat (first | exact Pick.here | apply Pick.there)); done) (ht_pure fun hq => ?_)
                            have hal := Dk.allL_len q
                            refine ht_seq ?_
                            refine ht_seq ?_
                            refine ht_region ?_
                            refine ho_ev rfl rfl rfl (ev_move rfl rfl) ?_
                            refine ho_ev rfl rfl rfl (ev_move rfl rfl) ?_
                            refine ho_eff rfl rfl rfl (eff_call rfl rfl (.cons rfl .nil) rfl (disk_Pending b0 D) (by repeat (first | exact Picks.nil | (apply Picks.ro; focus ((repeat (first | exact Pick.here | apply Pick.there)); done)) | (apply Picks.cons; focus ((repeat (first | exact Pick.here | apply Pick.there)); done)))) (fun _ => by repeat (first | exact App.nil | apply App.cons))) (fun _ => ?_)
                            refine ho_lt rfl rfl rfl rfl rfl rfl (fun g40 => ?_) (fun g40 => ?_)
                            · first | (exfalso; first | omega | (simp at g40; done) | contradiction) | skip
                              all_goals (
                                refine ho_nil ?_
                                refine hx_then ?_
                                refine ht_then rfl ?_
                                refine ht_skip ?_
                                refine hx_then ?_
                                refine ht_seq ?_
                                refine ht_block ?_
                                refine ht_region ?_
                                refine ho_ev rfl rfl rfl (ev_move rfl rfl) ?_
                                refine ho_ev rfl rfl rfl (ev_move rfl rfl) ?_
                                refine ho_ev rfl rfl rfl (ev_build1 (csl := [_, _]) rfl Try.st44 (.cons rfl (.cons rfl .nil)) (.cons rfl (.cons rfl .nil)) rfl rfl) ?_
                                refine ho_eff rfl rfl rfl (eff_buildAll (α := (Int × Int)) [((q : Int), (600 : Int))] rfl Try.underlying24 Try.ty44 (.cons rfl .nil) (.cons rfl .nil) rfl (Nat.le_of_ble_eq_true rfl)) (fun b63 => ?_)
                                refine ho_eff rfl rfl rfl (eff_append (α := (Int × Int)) rfl Try.underlying24 Try.ty44 rfl (by decide) Try.underlying24 rfl rfl (by (repeat (first | with_reducible exact Pick.here | with_reducible apply Pick.there)); done) (by first | exact reads_ro (by (repeat (first | with_reducible exact Pick.here | with_reducible apply Pick.there)); done) | exact reads_own (by (repeat (first | with_reducible exact Pick.here | with_reducible apply Pick.there)); done) | exact reads_nil _) (by first | omega | (simp only [List.length_append, List.length_cons, List.length_nil, List.length_drop, List.length_take]; omega) | (simp; omega))) (fun p64 => ?_)
                                refine ho_ev rfl rfl rfl (ev_assign rfl rfl) ?_
                                refine ho_nil ?_
                                refine hx_block_normal ?_
                                refine hx_then ?_
                                refine ht_region ?_
                                refine ho_ev rfl rfl rfl (ev_move rfl rfl) ?_
                                refine ho_ev rfl rfl rfl (ev_add rfl rfl rfl (by first | exact in_i64 (by omega) | rfl)) ?_
                                refine ho_ev rfl rfl rfl (ev_assign rfl rfl) ?_
                                refine ho_nil ?_
                                rw [Dk.allL_succ]
                                refine hx_again (I := (fun q : Nat × Option Addr × Nat => ([DiskAt b0 D, DiskAt qc D, ownS 44 q.2.1 (Dk.allL q.1).length q.2.2 (Dk.allL q.1), pu (q.1 ≤ D.pend.length), F], [(5, .pointer (some ⟨b0, 0, none⟩)), (8, .pointer (some ⟨qc, 0, none⟩)), (9, .slice q.2.1 (Dk.allL q.1).length q.2.2), (10, .int .i64 q.1)]))) (μ := (fun q : Nat × Option Addr × Nat => D.pend.length - q.1)) (i := (q, ad, cp)) (q + 1, p64.1, p64.2) ?_ ?_ ?_
                                · (first | dsimp only | skip); omega
                                · repeat (first | exact EnvSub.nil _ | (refine EnvSub.cons rfl ?_))
                                · (first | dsimp only | skip)
                                  exact Ent.cons (by (repeat (first | exact Pick.here | apply Pick.there)); done) (Ent.cons (by (repeat (first | exact Pick.here | apply Pick.there)); done) (Ent.cons (by (repeat (first | exact Pick.here | apply Pick.there)); done) (Ent.pu (by omega) (Ent.cons (by (repeat (first | exact Pick.here | apply Pick.there)); done) Ent.nil))))
                              )
                            · first | (exfalso; first | omega | (simp at g40; done) | contradiction) | skip
                              all_goals (
                                refine ho_nil ?_
                                refine hx_then ?_
                                refine ht_else rfl ?_
                                refine ht_exit ?_
                                refine hx_through trivial ?_
                                refine hx_through trivial ?_
                                refine hx_block_here ?_
                                refine hx_then ?_
                                refine ht_seq ?_
                                refine ht_region ?_
                                refine ho_ev rfl rfl rfl (ev_move rfl rfl) ?_
                                refine ho_ev rfl rfl rfl (ev_move rfl rfl) ?_
                                refine ho_freezeS (α := Int × Int) (by (repeat (first | with_reducible exact Pick.here | with_reducible apply Pick.there)); done) ?_
                                obtain rfl : q = D.pend.length := by omega
                                refine ho_eff rfl rfl rfl (eff_call rfl rfl (.cons rfl (.cons rfl .nil)) rfl (disk_Crash b0 D _ _ (Dk.allL D.pend.length) (by omega) (by omega)) (by repeat (first | exact Picks.nil | (apply Picks.ro; focus ((repeat (first | exact Pick.here | apply Pick.there)); done)) | (apply Picks.cons; focus ((repeat (first | exact Pick.here | apply Pick.there)); done)))) (fun _ => by repeat (first | exact App.nil | apply App.cons))) (fun _ => ?_)
                                rw [Dk.leaves hinv]
                                refine ho_nil ?_
                                refine hx_then ?_
                                refine ht_seq ?_
                                refine ht_region ?_
                                refine ho_ev rfl rfl rfl (ev_move rfl rfl) ?_
                                refine ho_eff rfl rfl rfl (eff_call rfl rfl (.cons rfl .nil) rfl (disk_Sync qc D) (by repeat (first | exact Picks.nil | (apply Picks.ro; focus ((repeat (first | exact Pick.here | apply Pick.there)); done)) | (apply Picks.cons; focus ((repeat (first | exact Pick.here | apply Pick.there)); done)))) (fun _ => by repeat (first | exact App.nil | apply App.cons))) (fun _ => ?_)
                                refine ho_nil ?_
                                refine hx_then ?_
                                refine ht_seq ?_
                                refine ht_region ?_
                                refine ho_ev rfl rfl rfl (ev_move rfl rfl) ?_
                                refine ho_ent (Ent.roTrue (ψ := roS (α := Int × Int) none 0 []) (fun r => SliceIn.empty _ _) (Ent.refl _)) ?_
                                refine ho_eff rfl rfl rfl (eff_call rfl rfl (.cons rfl (.cons rfl .nil)) rfl (disk_Crash qc D.sync none 0 [] (by simp) (by simp [Dk.Disk.sync])) (by repeat (first | exact Picks.nil | (apply Picks.ro; focus ((repeat (first | exact Pick.here | apply Pick.there)); done)) | (apply Picks.cons; focus ((repeat (first | exact Pick.here | apply Pick.there)); done)))) (fun _ => by repeat (first | exact App.nil | apply App.cons))) (fun _ => ?_)
                                rw [Dk.sync_crash]
                                refine ho_nil ?_
                                refine hx_then ?_
                                refine ht_seq ?_
                                refine ht_seq ?_
                                refine ht_region ?_
                                refine ho_ev rfl rfl rfl (ev_assign rfl rfl) ?_
                                refine ho_nil ?_
                                refine hx_then ?_
                                refine ht_block ?_
                                refine ht_loop (fun q : Nat => ([DiskAt b0 D.sync, DiskAt qc D.sync, pu (q ≤ 21), F], [(5, .pointer (some ⟨b0, 0, none⟩)), (8, .pointer (some ⟨qc, 0, none⟩)), (11, .int .i64 q)])) (fun q : Nat => 21 - q) 0 ?_ (by repeat (first | exact EnvSub.nil _ | (refine EnvSub.cons rfl ?_))) (fun q => ?_)
                                · (first | dsimp only | skip)
                                  exact Ent.cons (by (repeat (first | exact Pick.here | apply Pick.there)); done) (Ent.cons (by (repeat (first | exact Pick.here | apply Pick.there)); done) (Ent.pu (by omega) (Ent.cons (by (repeat (first | exact Pick.here | apply Pick.there)); done) Ent.nil)))
                                obtain q := q
                                dsimp only
                                refine ht_pick (A := pu (q ≤ 21)) (by (repeat (first | exact Pick.here | apply Pick.there)); done) (ht_pure fun hq4 => ?_)
                                refine ht_seq ?_
                                refine ht_seq ?_
                                refine ht_region ?_
                                refine ho_ev rfl rfl rfl (ev_move rfl rfl) ?_
                                refine ho_lt rfl rfl rfl rfl rfl rfl (fun g41 => ?_) (fun g41 => ?_)
                                · first | (exfalso; first | omega | (simp at g41; done) | contradiction) | skip
                                  all_goals (
                                    refine ho_nil ?_
                                    refine hx_then ?_
                                    refine ht_then rfl ?_
                                    refine ht_skip ?_
                                    refine hx_then ?_
                                    refine ht_seq ?_
                                    refine ht_block ?_
                                    refine ht_seq ?_
                                    refine ht_region ?_
                                    refine ho_ev rfl rfl rfl (ev_move rfl rfl) ?_
                                    refine ho_ev rfl rfl rfl (ev_move rfl rfl) ?_
                                    rcases hv : D.sync.view q with _ | s
                                    · skip
                                      refine ho_eff rfl rfl rfl (eff_call rfl rfl (.cons rfl (.cons rfl .nil)) rfl (disk_Read_no b0 D.sync q hv) (by repeat (first | exact Picks.nil | (apply Picks.ro; focus ((repeat (first | exact Pick.here | apply Pick.there)); done)) | (apply Picks.cons; focus ((repeat (first | exact Pick.here | apply Pick.there)); done)))) (fun _ => by repeat (first | exact App.nil | apply App.cons))) (fun _ => ?_)
                                      refine ho_ev rfl rfl rfl (ev_move rfl rfl) ?_
                                      refine ho_ev rfl rfl rfl (ev_extract rfl rfl rfl) ?_
                                      refine ho_ev rfl rfl rfl (ev_extract rfl rfl rfl) ?_
                                      refine ho_ev rfl rfl rfl (ev_assign rfl rfl) ?_
                                      refine ho_ev rfl rfl rfl (ev_assign rfl rfl) ?_
                                      refine ho_nil ?_
                                      refine hx_then ?_
                                      refine ht_seq ?_
                                      refine ht_region ?_
                                      refine ho_ev rfl rfl rfl (ev_move rfl rfl) ?_
                                      refine ho_ev rfl rfl rfl (ev_move rfl rfl) ?_
                                      rcases hv2 : D.sync.view q with _ | s2
                                      · first | (exfalso; rw [hv] at hv2; cases hv2; done) | skip
                                        all_goals (
                                          refine ho_eff rfl rfl rfl (eff_call rfl rfl (.cons rfl (.cons rfl .nil)) rfl (disk_Read_no qc D.sync q hv2) (by repeat (first | exact Picks.nil | (apply Picks.ro; focus ((repeat (first | exact Pick.here | apply Pick.there)); done)) | (apply Picks.cons; focus ((repeat (first | exact Pick.here | apply Pick.there)); done)))) (fun _ => by repeat (first | exact App.nil | apply App.cons))) (fun _ => ?_)
                                          refine ho_ev rfl rfl rfl (ev_move rfl rfl) ?_
                                          refine ho_ev rfl rfl rfl (ev_extract rfl rfl rfl) ?_
                                          refine ho_ev rfl rfl rfl (ev_extract rfl rfl rfl) ?_
                                          refine ho_ev rfl rfl rfl (ev_assign rfl rfl) ?_
                                          refine ho_ev rfl rfl rfl (ev_assign rfl rfl) ?_
                                          refine ho_nil ?_
                                          refine hx_then ?_
                                          refine ht_seq ?_
                                          refine ht_region ?_
                                          refine ho_ev rfl rfl rfl (ev_move rfl rfl) ?_
                                          refine ho_ev rfl rfl rfl (ev_str rfl Try.underlying36 Try.underlying5 Try.underlying9 rfl (by first | exact reads_ro (by (repeat (first | with_reducible exact Pick.here | with_reducible apply Pick.there)); done) | exact reads_own (by (repeat (first | with_reducible exact Pick.here | with_reducible apply Pick.there)); done) | exact reads_nil _)) ?_
                                          refine ho_ev rfl rfl rfl (ev_move rfl rfl) ?_
                                          refine ho_ev rfl rfl rfl (ev_str rfl Try.underlying36 Try.underlying5 Try.underlying9 rfl (by first | exact reads_ro (by (repeat (first | with_reducible exact Pick.here | with_reducible apply Pick.there)); done) | exact reads_own (by (repeat (first | with_reducible exact Pick.here | with_reducible apply Pick.there)); done) | exact reads_nil _)) ?_
                                          refine ho_neS rfl rfl rfl rfl rfl rfl (fun g42 => ?_) (fun g42 => ?_)
                                          · first | (exfalso; first | omega | (simp at g42; done) | contradiction) | skip
                                            all_goals (
                                              refine ho_ev rfl rfl rfl (ev_move rfl rfl) ?_
                                              refine ho_pass rfl rfl rfl rfl ?_
                                              refine ho_pass rfl rfl rfl rfl ?_
                                              refine ho_pass rfl rfl rfl rfl ?_
                                              refine ho_ev rfl rfl rfl (ev_pick_t rfl rfl rfl) ?_
                                              refine ho_nil ?_
                                              refine hx_then ?_
                                              refine ht_then rfl ?_
                                              refine ht_seq ?_
                                              refine ht_region ?_
                                              refine ho_ev rfl rfl rfl (ev_assign rfl rfl) ?_
                                              refine ho_nil ?_
                                              refine hx_then ?_
                                              refine ht_ret ?_
                                              refine hx_block_ret ?_
                                              refine hx_through trivial ?_
                                              refine hx_through trivial ?_
                                              refine hx_block_ret ?_
                                              refine hx_through trivial ?_
                                              exact hx_ret1 (.inl rfl) rfl rfl () rfl (Ent.cons (by (repeat (first | exact Pick.here | apply Pick.there)); done) Ent.nil)
                                            )
                                          · first | (exfalso; first | omega | (simp at g42; done) | contradiction) | skip
                                            all_goals (
                                              refine ho_ev rfl rfl rfl (ev_move rfl rfl) ?_
                                              refine ho_evg rfl rfl rfl rfl (ev_move rfl rfl) ?_
                                              refine ho_evg rfl rfl rfl rfl (ev_move rfl rfl) ?_
                                              refine ho_neg rfl rfl rfl rfl rfl rfl rfl (fun g43 => ?_) (fun g43 => ?_)
                                              · first | (exfalso; first | omega | (simp at g43; done) | contradiction) | skip
                                                all_goals (
                                                  refine ho_ev rfl rfl rfl (ev_pick_f rfl rfl rfl) ?_
                                                  refine ho_nil ?_
                                                  refine hx_then ?_
                                                  refine ht_then rfl ?_
                                                  refine ht_seq ?_
                                                  refine ht_region ?_
                                                  refine ho_ev rfl rfl rfl (ev_assign rfl rfl) ?_
                                                  refine ho_nil ?_
                                                  refine hx_then ?_
                                                  refine ht_ret ?_
                                                  refine hx_block_ret ?_
                                                  refine hx_through trivial ?_
                                                  refine hx_through trivial ?_
                                                  refine hx_block_ret ?_
                                                  refine hx_through trivial ?_
                                                  exact hx_ret1 (.inl rfl) rfl rfl () rfl (Ent.cons (by (repeat (first | exact Pick.here | apply Pick.there)); done) Ent.nil)
                                                )
                                              · first | (exfalso; first | omega | (simp at g43; done) | contradiction) | skip
                                                all_goals (
                                                  refine ho_ev rfl rfl rfl (ev_pick_f rfl rfl rfl) ?_
                                                  refine ho_nil ?_
                                                  refine hx_then ?_
                                                  refine ht_else rfl ?_
                                                  refine ht_skip ?_
                                                  refine hx_block_normal ?_
                                                  refine hx_then ?_
                                                  refine ht_region ?_
                                                  refine ho_ev rfl rfl rfl (ev_move rfl rfl) ?_
                                                  refine ho_ev rfl rfl rfl (ev_add rfl rfl rfl (by first | exact in_i64 (by omega) | rfl)) ?_
                                                  refine ho_ev rfl rfl rfl (ev_assign rfl rfl) ?_
                                                  refine ho_nil ?_
                                                  refine hx_again (I := (fun q : Nat => ([DiskAt b0 D.sync, DiskAt qc D.sync, pu (q ≤ 21), F], [(5, .pointer (some ⟨b0, 0, none⟩)), (8, .pointer (some ⟨qc, 0, none⟩)), (11, .int .i64 q)]))) (μ := (fun q : Nat => 21 - q)) (i := q) (q + 1) ?_ ?_ ?_
                                                  · (first | dsimp only | skip); omega
                                                  · repeat (first | exact EnvSub.nil _ | (refine EnvSub.cons rfl ?_))
                                                  · (first | dsimp only | skip)
                                                    exact Ent.cons (by (repeat (first | exact Pick.here | apply Pick.there)); done) (Ent.cons (by (repeat (first | exact Pick.here | apply Pick.there)); done) (Ent.pu (by omega) (Ent.cons (by (repeat (first | exact Pick.here | apply Pick.there)); done) Ent.nil)))
                                                )
                                            )
                                        )
                                      · first | (exfalso; rw [hv] at hv2; cases hv2; done) | skip
                                        all_goals (
                                          obtain rfl : s2 = s := by rw [hv] at hv2; exact (Option.some.inj hv2).symm
                                          refine ho_eff rfl rfl rfl (eff_call rfl rfl (.cons rfl (.cons rfl .nil)) rfl (disk_Read qc D.sync q s2 hv2) (by repeat (first | exact Picks.nil | (apply Picks.ro; focus ((repeat (first | exact Pick.here | apply Pick.there)); done)) | (apply Picks.cons; focus ((repeat (first | exact Pick.here | apply Pick.there)); done)))) (fun _ => by repeat (first | exact App.nil | apply App.cons))) (fun rd2 => ?_)
                                          refine ho_ev rfl rfl rfl (ev_move rfl rfl) ?_
                                          refine ho_ev rfl rfl rfl (ev_extract rfl rfl rfl) ?_
                                          refine ho_ev rfl rfl rfl (ev_extract rfl rfl rfl) ?_
                                          refine ho_ev rfl rfl rfl (ev_assign rfl rfl) ?_
                                          refine ho_ev rfl rfl rfl (ev_assign rfl rfl) ?_
                                          refine ho_nil ?_
                                          refine hx_then ?_
                                          refine ht_seq ?_
                                          refine ht_region ?_
                                          refine ho_ev rfl rfl rfl (ev_move rfl rfl) ?_
                                          refine ho_ev rfl rfl rfl (ev_str rfl Try.underlying36 Try.underlying5 Try.underlying9 rfl (by first | exact reads_ro (by (repeat (first | with_reducible exact Pick.here | with_reducible apply Pick.there)); done) | exact reads_own (by (repeat (first | with_reducible exact Pick.here | with_reducible apply Pick.there)); done) | exact reads_nil _)) ?_
                                          refine ho_ev rfl rfl rfl (ev_move rfl rfl) ?_
                                          refine ho_ev rfl rfl rfl (ev_str rfl Try.underlying36 Try.underlying5 Try.underlying9 rfl (by first | exact reads_ro (by (repeat (first | with_reducible exact Pick.here | with_reducible apply Pick.there)); done) | exact reads_own (by (repeat (first | with_reducible exact Pick.here | with_reducible apply Pick.there)); done) | exact reads_nil _)) ?_
                                          refine ho_neS rfl rfl rfl rfl rfl rfl (fun g44 => ?_) (fun g44 => ?_)
                                          · first | (exfalso; first | omega | (simp at g44; done) | contradiction) | skip
                                            all_goals (
                                              refine ho_ev rfl rfl rfl (ev_move rfl rfl) ?_
                                              refine ho_pass rfl rfl rfl rfl ?_
                                              refine ho_pass rfl rfl rfl rfl ?_
                                              refine ho_pass rfl rfl rfl rfl ?_
                                              refine ho_ev rfl rfl rfl (ev_pick_t rfl rfl rfl) ?_
                                              refine ho_nil ?_
                                              refine hx_then ?_
                                              refine ht_then rfl ?_
                                              refine ht_seq ?_
                                              refine ht_region ?_
                                              refine ho_ev rfl rfl rfl (ev_assign rfl rfl) ?_
                                              refine ho_nil ?_
                                              refine hx_then ?_
                                              refine ht_ret ?_
                                              refine hx_block_ret ?_
                                              refine hx_through trivial ?_
                                              refine hx_through trivial ?_
                                              refine hx_block_ret ?_
                                              refine hx_through trivial ?_
                                              exact hx_ret1 (.inl rfl) rfl rfl () rfl (Ent.cons (by (repeat (first | exact Pick.here | apply Pick.there)); done) Ent.nil)
                                            )
                                          · first | (exfalso; first | omega | (simp at g44; done) | contradiction) | skip
                                            all_goals (
                                              refine ho_ev rfl rfl rfl (ev_move rfl rfl) ?_
                                              refine ho_evg rfl rfl rfl rfl (ev_move rfl rfl) ?_
                                              refine ho_evg rfl rfl rfl rfl (ev_move rfl rfl) ?_
                                              refine ho_neg rfl rfl rfl rfl rfl rfl rfl (fun g45 => ?_) (fun g45 => ?_)
                                              · first | (exfalso; first | omega | (simp at g45; done) | contradiction) | skip
                                                all_goals (
                                                  refine ho_ev rfl rfl rfl (ev_pick_f rfl rfl rfl) ?_
                                                  refine ho_nil ?_
                                                  refine hx_then ?_
                                                  refine ht_then rfl ?_
                                                  refine ht_seq ?_
                                                  refine ht_region ?_
                                                  refine ho_ev rfl rfl rfl (ev_assign rfl rfl) ?_
                                                  refine ho_nil ?_
                                                  refine hx_then ?_
                                                  refine ht_ret ?_
                                                  refine hx_block_ret ?_
                                                  refine hx_through trivial ?_
                                                  refine hx_through trivial ?_
                                                  refine hx_block_ret ?_
                                                  refine hx_through trivial ?_
                                                  exact hx_ret1 (.inl rfl) rfl rfl () rfl (Ent.cons (by (repeat (first | exact Pick.here | apply Pick.there)); done) Ent.nil)
                                                )
                                              · first | (exfalso; first | omega | (simp at g45; done) | contradiction) | skip
                                                all_goals (
                                                  refine ho_ev rfl rfl rfl (ev_pick_f rfl rfl rfl) ?_
                                                  refine ho_nil ?_
                                                  refine hx_then ?_
                                                  refine ht_else rfl ?_
                                                  refine ht_skip ?_
                                                  refine hx_block_normal ?_
                                                  refine hx_then ?_
                                                  refine ht_region ?_
                                                  refine ho_ev rfl rfl rfl (ev_move rfl rfl) ?_
                                                  refine ho_ev rfl rfl rfl (ev_add rfl rfl rfl (by first | exact in_i64 (by omega) | rfl)) ?_
                                                  refine ho_ev rfl rfl rfl (ev_assign rfl rfl) ?_
                                                  refine ho_nil ?_
                                                  refine hx_again (I := (fun q : Nat => ([DiskAt b0 D.sync, DiskAt qc D.sync, pu (q ≤ 21), F], [(5, .pointer (some ⟨b0, 0, none⟩)), (8, .pointer (some ⟨qc, 0, none⟩)), (11, .int .i64 q)]))) (μ := (fun q : Nat => 21 - q)) (i := q) (q + 1) ?_ ?_ ?_
                                                  · (first | dsimp only | skip); omega
                                                  · repeat (first | exact EnvSub.nil _ | (refine EnvSub.cons rfl ?_))
                                                  · (first | dsimp only | skip)
                                                    exact Ent.cons (by (repeat (first | exact Pick.here | apply Pick.there)); done) (Ent.cons (by (repeat (first | exact Pick.here | apply Pick.there)); done) (Ent.pu (by omega) (Ent.cons (by (repeat (first | exact Pick.here | apply Pick.there)); done) Ent.nil)))
                                                )
                                            )
                                        )
                                    · skip
                                      refine ho_eff rfl rfl rfl (eff_call rfl rfl (.cons rfl (.cons rfl .nil)) rfl (disk_Read b0 D.sync q s hv) (by repeat (first | exact Picks.nil | (apply Picks.ro; focus ((repeat (first | exact Pick.here | apply Pick.there)); done)) | (apply Picks.cons; focus ((repeat (first | exact Pick.here | apply Pick.there)); done)))) (fun _ => by repeat (first | exact App.nil | apply App.cons))) (fun rd => ?_)
                                      refine ho_ev rfl rfl rfl (ev_move rfl rfl) ?_
                                      refine ho_ev rfl rfl rfl (ev_extract rfl rfl rfl) ?_
                                      refine ho_ev rfl rfl rfl (ev_extract rfl rfl rfl) ?_
                                      refine ho_ev rfl rfl rfl (ev_assign rfl rfl) ?_
                                      refine ho_ev rfl rfl rfl (ev_assign rfl rfl) ?_
                                      refine ho_nil ?_
                                      refine hx_then ?_
                                      refine ht_seq ?_
                                      refine ht_region ?_
                                      refine ho_ev rfl rfl rfl (ev_move rfl rfl) ?_
                                      refine ho_ev rfl rfl rfl (ev_move rfl rfl) ?_
                                      rcases hv2 : D.sync.view q with _ | s2
                                      · first | (exfalso; rw [hv] at hv2; cases hv2; done) | skip
                                        all_goals (
                                          refine ho_eff rfl rfl rfl (eff_call rfl rfl (.cons rfl (.cons rfl .nil)) rfl (disk_Read_no qc D.sync q hv2) (by repeat (first | exact Picks.nil | (apply Picks.ro; focus ((repeat (first | exact Pick.here | apply Pick.there)); done)) | (apply Picks.cons; focus ((repeat (first | exact Pick.here | apply Pick.there)); done)))) (fun _ => by repeat (first | exact App.nil | apply App.cons))) (fun _ => ?_)
                                          refine ho_ev rfl rfl rfl (ev_move rfl rfl) ?_
                                          refine ho_ev rfl rfl rfl (ev_extract rfl rfl rfl) ?_
                                          refine ho_ev rfl rfl rfl (ev_extract rfl rfl rfl) ?_
                                          refine ho_ev rfl rfl rfl (ev_assign rfl rfl) ?_
                                          refine ho_ev rfl rfl rfl (ev_assign rfl rfl) ?_
                                          refine ho_nil ?_
                                          refine hx_then ?_
                                          refine ht_seq ?_
                                          refine ht_region ?_
                                          refine ho_ev rfl rfl rfl (ev_move rfl rfl) ?_
                                          refine ho_ev rfl rfl rfl (ev_str rfl Try.underlying36 Try.underlying5 Try.underlying9 rfl (by first | exact reads_ro (by (repeat (first | with_reducible exact Pick.here | with_reducible apply Pick.there)); done) | exact reads_own (by (repeat (first | with_reducible exact Pick.here | with_reducible apply Pick.there)); done) | exact reads_nil _)) ?_
                                          refine ho_ev rfl rfl rfl (ev_move rfl rfl) ?_
                                          refine ho_ev rfl rfl rfl (ev_str rfl Try.underlying36 Try.underlying5 Try.underlying9 rfl (by first | exact reads_ro (by (repeat (first | with_reducible exact Pick.here | with_reducible apply Pick.there)); done) | exact reads_own (by (repeat (first | with_reducible exact Pick.here | with_reducible apply Pick.there)); done) | exact reads_nil _)) ?_
                                          refine ho_neS rfl rfl rfl rfl rfl rfl (fun g46 => ?_) (fun g46 => ?_)
                                          · first | (exfalso; first | omega | (simp at g46; done) | contradiction) | skip
                                            all_goals (
                                              refine ho_ev rfl rfl rfl (ev_move rfl rfl) ?_
                                              refine ho_pass rfl rfl rfl rfl ?_
                                              refine ho_pass rfl rfl rfl rfl ?_
                                              refine ho_pass rfl rfl rfl rfl ?_
                                              refine ho_ev rfl rfl rfl (ev_pick_t rfl rfl rfl) ?_
                                              refine ho_nil ?_
                                              refine hx_then ?_
                                              refine ht_then rfl ?_
                                              refine ht_seq ?_
                                              refine ht_region ?_
                                              refine ho_ev rfl rfl rfl (ev_assign rfl rfl) ?_
                                              refine ho_nil ?_
                                              refine hx_then ?_
                                              refine ht_ret ?_
                                              refine hx_block_ret ?_
                                              refine hx_through trivial ?_
                                              refine hx_through trivial ?_
                                              refine hx_block_ret ?_
                                              refine hx_through trivial ?_
                                              exact hx_ret1 (.inl rfl) rfl rfl () rfl (Ent.cons (by (repeat (first | exact Pick.here | apply Pick.there)); done) Ent.nil)
                                            )
                                          · first | (exfalso; first | omega | (simp at g46; done) | contradiction) | skip
                                            all_goals (
                                              refine ho_ev rfl rfl rfl (ev_move rfl rfl) ?_
                                              refine ho_evg rfl rfl rfl rfl (ev_move rfl rfl) ?_
                                              refine ho_evg rfl rfl rfl rfl (ev_move rfl rfl) ?_
                                              refine ho_neg rfl rfl rfl rfl rfl rfl rfl (fun g47 => ?_) (fun g47 => ?_)
                                              · first | (exfalso; first | omega | (simp at g47; done) | contradiction) | skip
                                                all_goals (
                                                  refine ho_ev rfl rfl rfl (ev_pick_f rfl rfl rfl) ?_
                                                  refine ho_nil ?_
                                                  refine hx_then ?_
                                                  refine ht_then rfl ?_
                                                  refine ht_seq ?_
                                                  refine ht_region ?_
                                                  refine ho_ev rfl rfl rfl (ev_assign rfl rfl) ?_
                                                  refine ho_nil ?_
                                                  refine hx_then ?_
                                                  refine ht_ret ?_
                                                  refine hx_block_ret ?_
                                                  refine hx_through trivial ?_
                                                  refine hx_through trivial ?_
                                                  refine hx_block_ret ?_
                                                  refine hx_through trivial ?_
                                                  exact hx_ret1 (.inl rfl) rfl rfl () rfl (Ent.cons (by (repeat (first | exact Pick.here | apply Pick.there)); done) Ent.nil)
                                                )
                                              · first | (exfalso; first | omega | (simp at g47; done) | contradiction) | skip
                                                all_goals (
                                                  refine ho_ev rfl rfl rfl (ev_pick_f rfl rfl rfl) ?_
                                                  refine ho_nil ?_
                                                  refine hx_then ?_
                                                  refine ht_else rfl ?_
                                                  refine ht_skip ?_
                                                  refine hx_block_normal ?_
                                                  refine hx_then ?_
                                                  refine ht_region ?_
                                                  refine ho_ev rfl rfl rfl (ev_move rfl rfl) ?_
                                                  refine ho_ev rfl rfl rfl (ev_add rfl rfl rfl (by first | exact in_i64 (by omega) | rfl)) ?_
                                                  refine ho_ev rfl rfl rfl (ev_assign rfl rfl) ?_
                                                  refine ho_nil ?_
                                                  refine hx_again (I := (fun q : Nat => ([DiskAt b0 D.sync, DiskAt qc D.sync, pu (q ≤ 21), F], [(5, .pointer (some ⟨b0, 0, none⟩)), (8, .pointer (some ⟨qc, 0, none⟩)), (11, .int .i64 q)]))) (μ := (fun q : Nat => 21 - q)) (i := q) (q + 1) ?_ ?_ ?_
                                                  · (first | dsimp only | skip); omega
                                                  · repeat (first | exact EnvSub.nil _ | (refine EnvSub.cons rfl ?_))
                                                  · (first | dsimp only | skip)
                                                    exact Ent.cons (by (repeat (first | exact Pick.here | apply Pick.there)); done) (Ent.cons (by (repeat (first | exact Pick.here | apply Pick.there)); done) (Ent.pu (by omega) (Ent.cons (by (repeat (first | exact Pick.here | apply Pick.there)); done) Ent.nil)))
                                                )
                                            )
                                        )
                                      · first | (exfalso; rw [hv] at hv2; cases hv2; done) | skip
                                        all_goals (
                                          obtain rfl : s2 = s := by rw [hv] at hv2; exact (Option.some.inj hv2).symm
                                          refine ho_eff rfl rfl rfl (eff_call rfl rfl (.cons rfl (.cons rfl .nil)) rfl (disk_Read qc D.sync q s2 hv2) (by repeat (first | exact Picks.nil | (apply Picks.ro; focus ((repeat (first | exact Pick.here | apply Pick.there)); done)) | (apply Picks.cons; focus ((repeat (first | exact Pick.here | apply Pick.there)); done)))) (fun _ => by repeat (first | exact App.nil | apply App.cons))) (fun rd2 => ?_)
                                          refine ho_ev rfl rfl rfl (ev_move rfl rfl) ?_
                                          refine ho_ev rfl rfl rfl (ev_extract rfl rfl rfl) ?_
                                          refine ho_ev rfl rfl rfl (ev_extract rfl rfl rfl) ?_
                                          refine ho_ev rfl rfl rfl (ev_assign rfl rfl) ?_
                                          refine ho_ev rfl rfl rfl (ev_assign rfl rfl) ?_
                                          refine ho_nil ?_
                                          refine hx_then ?_
                                          refine ht_seq ?_
                                          refine ht_region ?_
                                          refine ho_ev rfl rfl rfl (ev_move rfl rfl) ?_
                                          refine ho_ev rfl rfl rfl (ev_str rfl Try.underlying36 Try.underlying5 Try.underlying9 rfl (by first | exact reads_ro (by (repeat (first | with_reducible exact Pick.here | with_reducible apply Pick.there)); done) | exact reads_own (by (repeat (first | with_reducible exact Pick.here | with_reducible apply Pick.there)); done) | exact reads_nil _)) ?_
                                          refine ho_ev rfl rfl rfl (ev_move rfl rfl) ?_
                                          refine ho_ev rfl rfl rfl (ev_str rfl Try.underlying36 Try.underlying5 Try.underlying9 rfl (by first | exact reads_ro (by (repeat (first | with_reducible exact Pick.here | with_reducible apply Pick.there)); done) | exact reads_own (by (repeat (first | with_reducible exact Pick.here | with_reducible apply Pick.there)); done) | exact reads_nil _)) ?_
                                          refine ho_neS rfl rfl rfl rfl rfl rfl (fun g48 => ?_) (fun g48 => ?_)
                                          · first | (exfalso; first | omega | (simp at g48; done) | contradiction) | skip
                                            all_goals (
                                              refine ho_ev rfl rfl rfl (ev_move rfl rfl) ?_
                                              refine ho_pass rfl rfl rfl rfl ?_
                                              refine ho_pass rfl rfl rfl rfl ?_
                                              refine ho_pass rfl rfl rfl rfl ?_
                                              refine ho_ev rfl rfl rfl (ev_pick_t rfl rfl rfl) ?_
                                              refine ho_nil ?_
                                              refine hx_then ?_
                                              refine ht_then rfl ?_
                                              refine ht_seq ?_
                                              refine ht_region ?_
                                              refine ho_ev rfl rfl rfl (ev_assign rfl rfl) ?_
                                              refine ho_nil ?_
                                              refine hx_then ?_
                                              refine ht_ret ?_
                                              refine hx_block_ret ?_
                                              refine hx_through trivial ?_
                                              refine hx_through trivial ?_
                                              refine hx_block_ret ?_
                                              refine hx_through trivial ?_
                                              exact hx_ret1 (.inl rfl) rfl rfl () rfl (Ent.cons (by (repeat (first | exact Pick.here | apply Pick.there)); done) Ent.nil)
                                            )
                                          · first | (exfalso; first | omega | (simp at g48; done) | contradiction) | skip
                                            all_goals (
                                              refine ho_ev rfl rfl rfl (ev_move rfl rfl) ?_
                                              refine ho_evg rfl rfl rfl rfl (ev_move rfl rfl) ?_
                                              refine ho_evg rfl rfl rfl rfl (ev_move rfl rfl) ?_
                                              refine ho_neg rfl rfl rfl rfl rfl rfl rfl (fun g49 => ?_) (fun g49 => ?_)
                                              · first | (exfalso; first | omega | (simp at g49; done) | contradiction) | skip
                                                all_goals (
                                                  refine ho_ev rfl rfl rfl (ev_pick_f rfl rfl rfl) ?_
                                                  refine ho_nil ?_
                                                  refine hx_then ?_
                                                  refine ht_then rfl ?_
                                                  refine ht_seq ?_
                                                  refine ht_region ?_
                                                  refine ho_ev rfl rfl rfl (ev_assign rfl rfl) ?_
                                                  refine ho_nil ?_
                                                  refine hx_then ?_
                                                  refine ht_ret ?_
                                                  refine hx_block_ret ?_
                                                  refine hx_through trivial ?_
                                                  refine hx_through trivial ?_
                                                  refine hx_block_ret ?_
                                                  refine hx_through trivial ?_
                                                  exact hx_ret1 (.inl rfl) rfl rfl () rfl (Ent.cons (by (repeat (first | exact Pick.here | apply Pick.there)); done) Ent.nil)
                                                )
                                              · first | (exfalso; first | omega | (simp at g49; done) | contradiction) | skip
                                                all_goals (
                                                  refine ho_ev rfl rfl rfl (ev_pick_f rfl rfl rfl) ?_
                                                  refine ho_nil ?_
                                                  refine hx_then ?_
                                                  refine ht_else rfl ?_
                                                  refine ht_skip ?_
                                                  refine hx_block_normal ?_
                                                  refine hx_then ?_
                                                  refine ht_region ?_
                                                  refine ho_ev rfl rfl rfl (ev_move rfl rfl) ?_
                                                  refine ho_ev rfl rfl rfl (ev_add rfl rfl rfl (by first | exact in_i64 (by omega) | rfl)) ?_
                                                  refine ho_ev rfl rfl rfl (ev_assign rfl rfl) ?_
                                                  refine ho_nil ?_
                                                  refine hx_again (I := (fun q : Nat => ([DiskAt b0 D.sync, DiskAt qc D.sync, pu (q ≤ 21), F], [(5, .pointer (some ⟨b0, 0, none⟩)), (8, .pointer (some ⟨qc, 0, none⟩)), (11, .int .i64 q)]))) (μ := (fun q : Nat => 21 - q)) (i := q) (q + 1) ?_ ?_ ?_
                                                  · (first | dsimp only | skip); omega
                                                  · repeat (first | exact EnvSub.nil _ | (refine EnvSub.cons rfl ?_))
                                                  · (first | dsimp only | skip)
                                                    exact Ent.cons (by (repeat (first | exact Pick.here | apply Pick.there)); done) (Ent.cons (by (repeat (first | exact Pick.here | apply Pick.there)); done) (Ent.pu (by omega) (Ent.cons (by (repeat (first | exact Pick.here | apply Pick.there)); done) Ent.nil)))
                                                )
                                            )
                                        )
                                  )
                                · first | (exfalso; first | omega | (simp at g41; done) | contradiction) | skip
                                  all_goals (
                                    refine ho_nil ?_
                                    refine hx_then ?_
                                    refine ht_else rfl ?_
                                    refine ht_exit ?_
                                    refine hx_through trivial ?_
                                    refine hx_through trivial ?_
                                    refine hx_block_here ?_
                                    refine hx_then ?_
                                    refine ht_seq ?_
                                    have hp0 : D.sync.pend.length = 0 := rfl
                                    refine ht_region ?_
                                    refine ho_ev rfl rfl rfl (ev_move rfl rfl) ?_
                                    refine ho_eff rfl rfl rfl (eff_call rfl rfl (.cons rfl .nil) rfl (disk_Used b0 D.sync) (by repeat (first | exact Picks.nil | (apply Picks.ro; focus ((repeat (first | exact Pick.here | apply Pick.there)); done)) | (apply Picks.cons; focus ((repeat (first | exact Pick.here | apply Pick.there)); done)))) (fun _ => by repeat (first | exact App.nil | apply App.cons))) (fun _ => ?_)
                                    refine ho_ev rfl rfl rfl (ev_move rfl rfl) ?_
                                    refine ho_eff rfl rfl rfl (eff_call rfl rfl (.cons rfl .nil) rfl (disk_Used qc D.sync) (by repeat (first | exact Picks.nil | (apply Picks.ro; focus ((repeat (first | exact Pick.here | apply Pick.there)); done)) | (apply Picks.cons; focus ((repeat (first | exact Pick.here | apply Pick.there)); done)))) (fun _ => by repeat (first | exact App.nil | apply App.cons))) (fun _ => ?_)
                                    refine ho_eq rfl rfl rfl rfl rfl rfl (fun g50 => ?_) (fun g50 => ?_)
                                    · first | (exfalso; first | omega | (simp at g50; done) | contradiction) | skip
                                      all_goals (
                                        refine ho_ev rfl rfl rfl (ev_move rfl rfl) ?_
                                        refine ho_evg rfl rfl rfl rfl (ev_move rfl rfl) ?_
                                        refine ho_effg rfl rfl rfl rfl (eff_call rfl rfl (.cons rfl .nil) rfl (disk_Pending b0 D.sync) (by repeat (first | exact Picks.nil | (apply Picks.ro; focus ((repeat (first | exact Pick.here | apply Pick.there)); done)) | (apply Picks.cons; focus ((repeat (first | exact Pick.here | apply Pick.there)); done)))) (fun _ => by repeat (first | exact App.nil | apply App.cons))) (fun _ => ?_)
                                        refine ho_eqg rfl rfl rfl rfl rfl rfl rfl (fun g51 => ?_) (fun g51 => ?_)
                                        · first | (exfalso; first | omega | (simp at g51; done) | contradiction) | skip
                                          all_goals (
                                            refine ho_ev rfl rfl rfl (ev_pick_t rfl rfl rfl) ?_
                                            refine ho_ev rfl rfl rfl (ev_move rfl rfl) ?_
                                            refine ho_evg rfl rfl rfl rfl (ev_move rfl rfl) ?_
                                            refine ho_effg rfl rfl rfl rfl (eff_call rfl rfl (.cons rfl .nil) rfl (disk_Pending qc D.sync) (by repeat (first | exact Picks.nil | (apply Picks.ro; focus ((repeat (first | exact Pick.here | apply Pick.there)); done)) | (apply Picks.cons; focus ((repeat (first | exact Pick.here | apply Pick.there)); done)))) (fun _ => by repeat (first | exact App.nil | apply App.cons))) (fun _ => ?_)
                                            refine ho_eqg rfl rfl rfl rfl rfl rfl rfl (fun g52 => ?_) (fun g52 => ?_)
                                            · first | (exfalso; first | omega | (simp at g52; done) | contradiction) | skip
                                              all_goals (
                                                refine ho_ev rfl rfl rfl (ev_pick_t rfl rfl rfl) ?_
                                                refine ho_ev rfl rfl rfl (ev_assign rfl rfl) ?_
                                                refine ho_nil ?_
                                                refine hx_then ?_
                                                refine ht_ret ?_
                                                exact hx_ret1 (.inl rfl) rfl rfl () rfl (Ent.cons (by (repeat (first | exact Pick.here | apply Pick.there)); done) Ent.nil)
                                              )
                                            · first | (exfalso; first | omega | (simp at g52; done) | contradiction) | skip
                                              all_goals (
                                                refine ho_ev rfl rfl rfl (ev_pick_t rfl rfl rfl) ?_
                                                refine ho_ev rfl rfl rfl (ev_assign rfl rfl) ?_
                                                refine ho_nil ?_
                                                refine hx_then ?_
                                                refine ht_ret ?_
                                                exact hx_ret1 (.inl rfl) rfl rfl () rfl (Ent.cons (by (repeat (first | exact Pick.here | apply Pick.there)); done) Ent.nil)
                                              )
                                          )
                                        · first | (exfalso; first | omega | (simp at g51; done) | contradiction) | skip
                                          all_goals (
                                            refine ho_ev rfl rfl rfl (ev_pick_t rfl rfl rfl) ?_
                                            refine ho_ev rfl rfl rfl (ev_move rfl rfl) ?_
                                            refine ho_pass rfl rfl rfl rfl ?_
                                            refine ho_pass rfl rfl rfl rfl ?_
                                            refine ho_pass rfl rfl rfl rfl ?_
                                            refine ho_ev rfl rfl rfl (ev_pick_f rfl rfl rfl) ?_
                                            refine ho_ev rfl rfl rfl (ev_assign rfl rfl) ?_
                                            refine ho_nil ?_
                                            refine hx_then ?_
                                            refine ht_ret ?_
                                            exact hx_ret1 (.inl rfl) rfl rfl () rfl (Ent.cons (by (repeat (first | exact Pick.here | apply Pick.there)); done) Ent.nil)
                                          )
                                      )
                                    · first | (exfalso; first | omega | (simp at g50; done) | contradiction) | skip
                                      all_goals (
                                        refine ho_ev rfl rfl rfl (ev_move rfl rfl) ?_
                                        refine ho_pass rfl rfl rfl rfl ?_
                                        refine ho_pass rfl rfl rfl rfl ?_
                                        refine ho_pass rfl rfl rfl rfl ?_
                                        refine ho_ev rfl rfl rfl (ev_pick_f rfl rfl rfl) ?_
                                        refine ho_ev rfl rfl rfl (ev_move rfl rfl) ?_
                                        refine ho_pass rfl rfl rfl rfl ?_
                                        refine ho_pass rfl rfl rfl rfl ?_
                                        refine ho_pass rfl rfl rfl rfl ?_
                                        refine ho_ev rfl rfl rfl (ev_pick_f rfl rfl rfl) ?_
                                        refine ho_ev rfl rfl rfl (ev_assign rfl rfl) ?_
                                        refine ho_nil ?_
                                        refine hx_then ?_
                                        refine ht_ret ?_
                                        exact hx_ret1 (.inl rfl) rfl rfl () rfl (Ent.cons (by (repeat (first | exact Pick.here | apply Pick.there)); done) Ent.nil)
                                      )
                                  )
                              )
                          )
                      )
                  )
                · first | (exfalso; first | omega | (simp at g37; done) | contradiction) | skip
                  all_goals (
                    refine ho_ev rfl rfl rfl (ev_move rfl rfl) ?_
                    refine ho_pass rfl rfl rfl rfl ?_
                    refine ho_pass rfl rfl rfl rfl ?_
                    refine ho_ev rfl rfl rfl (ev_pick_f rfl rfl rfl) ?_
                    refine ho_nil ?_
                    refine hx_then ?_
                    refine ht_else rfl ?_
                    refine ht_exit ?_
                    refine hx_through trivial ?_
                    refine hx_through trivial ?_
                    refine hx_block_here ?_
                    refine hx_then ?_
                    refine ht_seq ?_
                    have hinv := Dk.upto_inv n ms q
                    have hpl := Dk.upto_len n ms q
                    generalize Dk.Disk.upto n ms q = D at *
                    refine ht_region ?_
                    refine ho_ev rfl rfl rfl (ev_move rfl rfl) ?_
                    refine ho_eff rfl rfl rfl (eff_call rfl rfl (.cons rfl .nil) rfl (disk_Copy b0 D (by omega)) (by repeat (first | exact Picks.nil | (apply Picks.ro; focus ((repeat (first | exact Pick.here | apply Pick.there)); done)) | (apply Picks.cons; focus ((repeat (first | exact Pick.here | apply Pick.there)); done)))) (fun _ => by repeat (first | exact App.nil | apply App.cons))) (fun qc => ?_)
                    refine ho_ev rfl rfl rfl (ev_assign rfl rfl) ?_
                    refine ho_nil ?_
                    refine hx_then ?_
                    refine ht_seq ?_
                    refine ht_seq ?_
                    refine ht_region ?_
                    refine ho_ev rfl rfl rfl (ev_move rfl rfl) ?_
                    refine ho_ev rfl rfl rfl (ev_ptrNil rfl Try.underlying25 rfl rfl rfl) ?_
                    refine ho_nil ?_
                    refine hx_then ?_
                    refine ht_bool (t := 52) rfl (fun g53 => ?_) (fun g53 => ?_)
                    · first | (exfalso; first | omega | (simp at g53; done) | contradiction) | skip
                      all_goals (
                        refine ht_then rfl ?_
                        refine ht_seq ?_
                        refine ht_region ?_
                        refine ho_ev rfl rfl rfl (ev_assign rfl rfl) ?_
                        refine ho_nil ?_
                        refine hx_then ?_
                        refine ht_ret ?_
                        refine hx_through trivial ?_
                        exact hx_ret1 (.inl rfl) rfl rfl () rfl (Ent.cons (by (repeat (first | exact Pick.here | apply Pick.there)); done) Ent.nil)
                      )
                    · first | (exfalso; first | omega | (simp at g53; done) | contradiction) | skip
                      all_goals (
                        refine ht_else rfl ?_
                        refine ht_skip ?_
                        refine hx_then ?_
                        refine ht_seq ?_
                        refine ht_region ?_
                        refine ho_eff rfl rfl rfl (eff_buildAll (α := (Int × Int)) [] rfl Try.underlying24 Try.ty44 .nil .nil rfl (Nat.le_of_ble_eq_true rfl)) (fun b53 => ?_)
                        refine ho_ev rfl rfl rfl (ev_assign rfl rfl) ?_
                        refine ho_nil ?_
                        refine hx_then ?_
                        refine ht_seq ?_
                        refine ht_seq ?_
                        refine ht_region ?_
                        refine ho_ev rfl rfl rfl (ev_assign rfl rfl) ?_
                        refine ho_nil ?_
                        refine hx_then ?_
                        refine ht_block ?_
                        refine ht_loop (fun q : Nat × Option Addr × Nat => ([DiskAt b0 D, DiskAt qc D, ownS 44 q.2.1 (Dk.allL q.1).length q.2.2 (Dk.allL q.1), pu (q.1 ≤ D.pend.length), F], [(5, .pointer (some ⟨b0, 0, none⟩)), (8, .pointer (some ⟨qc, 0, none⟩)), (9, .slice q.2.1 (Dk.allL q.1).length q.2.2), (10, .int .i64 q.1)])) (fun q : Nat × Option Addr × Nat => D.pend.length - q.1) (0, _, _) ?_ (by repeat (first | exact EnvSub.nil _ | (refine EnvSub.cons rfl ?_))) (fun q => ?_)
                        · (first | dsimp only | skip)
                          exact Ent.cons (by (repeat (first | exact Pick.here | apply Pick.there)); done) (Ent.cons (by (repeat (first | exact Pick.here | apply Pick.there)); done) (Ent.cons (by (repeat (first | exact Pick.here | apply Pick.there)); done) (Ent.pu (by omega) (Ent.cons (by (repeat (first | exact Pick.here | apply Pick.there)); done) Ent.nil))))
                        obtain ⟨q, ad, cp⟩ := q
                        dsimp only
                        refine ht_pick (A := pu (q ≤ D.pend.length)) (by (repeat (first | exact Pick.here | apply Pick.there)); done) (ht_pure fun hq => ?_)
                        have hal := Dk.allL_len q
                        refine ht_seq ?_
                        refine ht_seq ?_
                        refine ht_region ?_
                        refine ho_ev rfl rfl rfl (ev_move rfl rfl) ?_
                        refine ho_ev rfl rfl rfl (ev_move rfl rfl) ?_
                        refine ho_eff rfl rfl rfl (eff_call rfl rfl (.cons rfl .nil) rfl (disk_Pending b0 D) (by repeat (first | exact Picks.nil | (apply Picks.ro; focus ((repeat (first | exact Pick.here | apply Pick.there)); done)) | (apply Picks.cons; focus ((repeat (first | exact Pick.here | apply Pick.there)); done)))) (fun _ => by repeat (first | exact App.nil | apply App.cons))) (fun _ => ?_)
                        refine ho_lt rfl rfl rfl rfl rfl rfl (fun g54 => ?_) (fun g54 => ?_)
                        · first | (exfalso; first | omega | (simp at g54; done) | contradiction) | skip
                          all_goals (
                            refine ho_nil ?_
                            refine hx_then ?_
                            refine ht_then rfl ?_
                            refine ht_skip ?_
                            refine hx_then ?_
                            refine ht_seq ?_
                            refine ht_block ?_
                            refine ht_region ?_
                            refine ho_ev rfl rfl rfl (ev_move rfl rfl) ?_
                            refine ho_ev rfl rfl rfl (ev_move rfl rfl) ?_
                            refine ho_ev rfl rfl rfl (ev_build1 (csl := [_, _]) rfl Try.st44 (.cons rfl (.cons rfl .nil)) (.cons rfl (.cons rfl .nil)) rfl rfl) ?_
                            refine ho_eff rfl rfl rfl (eff_buildAll (α := (Int × Int)) [((q : Int), (600 : Int))] rfl Try.underlying24 Try.ty44 (.cons rfl .nil) (.cons rfl .nil) rfl (Nat.le_of_ble_eq_true rfl)) (fun b63 => ?_)
                            refine ho_eff rfl rfl rfl (eff_append (α := (Int × Int)) rfl Try.underlying24 Try.ty44 rfl (by decide) Try.underlying24 rfl rfl (by (repeat (first | with_reducible exact Pick.here | with_reducible apply Pick.there)); done) (by first | exact reads_ro (by (repeat (first | with_reducible exact Pick.here | with_reducible apply Pick.there)); done) | exact reads_own (by (repeat (first | with_reducible exact Pick.here | with_reducible apply Pick.there)); done) | exact reads_nil _) (by first | omega | (simp only [List.length_append, List.length_cons, List.length_nil, List.length_drop, List.length_take]; omega) | (simp; omega))) (fun p64 => ?_)
                            refine ho_ev rfl rfl rfl (ev_assign rfl rfl) ?_
                            refine ho_nil ?_
                            refine hx_block_normal ?_
                            refine hx_then ?_
                            refine ht_region ?_
                            refine ho_ev rfl rfl rfl (ev_move rfl rfl) ?_
                            refine ho_ev rfl rfl rfl (ev_add rfl rfl rfl (by first | exact in_i64 (by omega) | rfl)) ?_
                            refine ho_ev rfl rfl rfl (ev_assign rfl rfl) ?_
                            refine ho_nil ?_
                            rw [Dk.allL_succ]
                            refine hx_again (I := (fun q : Nat × Option Addr × Nat => ([DiskAt b0 D, DiskAt qc D, ownS 44 q.2.1 (Dk.allL q.1).length q.2.2 (Dk.allL q.1), pu (q.1 ≤ D.pend.length), F], [(5, .pointer (some ⟨b0, 0, none⟩)), (8, .pointer (some ⟨qc, 0, none⟩)), (9, .slice q.2.1 (Dk.allL q.1).length q.2.2), (10, .int .i64 q.1)]))) (μ := (fun q : Nat × Option Addr × Nat => D.pend.length - q.1)) (i := (q, ad, cp)) (q + 1, p64.1, p64.2) ?_ ?_ ?_
                            · (first | dsimp only | skip); omega
                            · repeat (first | exact EnvSub.nil _ | (refine EnvSub.cons rfl ?_))
                            · (first | dsimp only | skip)
                              exact Ent.cons (by (repeat (first | exact Pick.here | apply Pick.there)); done) (Ent.cons (by (repeat (first | exact Pick.here | apply Pick.there)); done) (Ent.cons (by (repeat (first | exact Pick.here | apply Pick.there)); done) (Ent.pu (by omega) (Ent.cons (by (repeat (first | exact Pick.here | apply Pick.there)); done) Ent.nil))))
                          )
                        · first | (exfalso; first | omega | (simp at g54; done) | contradiction) | skip
                          all_goals (
                            refine ho_nil ?_
                            refine hx_then ?_
                            refine ht_else rfl ?_
                            refine ht_exit ?_
                            refine hx_through trivial ?_
                            refine hx_through trivial ?_
                            refine hx_block_here ?_
                            refine hx_then ?_
                            refine ht_seq ?_
                            refine ht_region ?_
                            refine ho_ev rfl rfl rfl (ev_move rfl rfl) ?_
                            refine ho_ev rfl rfl rfl (ev_move rfl rfl) ?_
                            refine ho_freezeS (α := Int × Int) (by (repeat (first | with_reducible exact Pick.here | with_reducible apply Pick.there)); done) ?_
                            obtain rfl : q = D.pend.length := by omega
                            refine ho_eff rfl rfl rfl (eff_call rfl rfl (.cons rfl (.cons rfl .nil)) rfl (disk_Crash b0 D _ _ (Dk.allL D.pend.length) (by omega) (by omega)) (by repeat (first | exact Picks.nil | (apply Picks.ro; focus ((repeat (first | exact Pick.here | apply Pick.there)); done)) | (apply Picks.cons; focus ((repeat (first | exact Pick.here | apply Pick.there)); done)))) (fun _ => by repeat (first | exact App.nil | apply App.cons))) (fun _ => ?_)
                            rw [Dk.leaves hinv]
                            refine ho_nil ?_
                            refine hx_then ?_
                            refine ht_seq ?_
                            refine ht_region ?_
                            refine ho_ev rfl rfl rfl (ev_move rfl rfl) ?_
                            refine ho_eff rfl rfl rfl (eff_call rfl rfl (.cons rfl .nil) rfl (disk_Sync qc D) (by repeat (first | exact Picks.nil | (apply Picks.ro; focus ((repeat (first | exact Pick.here | apply Pick.there)); done)) | (apply Picks.cons; focus ((repeat (first | exact Pick.here | apply Pick.there)); done)))) (fun _ => by repeat (first | exact App.nil | apply App.cons))) (fun _ => ?_)
                            refine ho_nil ?_
                            refine hx_then ?_
                            refine ht_seq ?_
                            refine ht_region ?_
                            refine ho_ev rfl rfl rfl (ev_move rfl rfl) ?_
                            refine ho_ent (Ent.roTrue (ψ := roS (α := Int × Int) none 0 []) (fun r => SliceIn.empty _ _) (Ent.refl _)) ?_
                            refine ho_eff rfl rfl rfl (eff_call rfl rfl (.cons rfl (.cons rfl .nil)) rfl (disk_Crash qc D.sync none 0 [] (by simp) (by simp [Dk.Disk.sync])) (by repeat (first | exact Picks.nil | (apply Picks.ro; focus ((repeat (first | exact Pick.here | apply Pick.there)); done)) | (apply Picks.cons; focus ((repeat (first | exact Pick.here | apply Pick.there)); done)))) (fun _ => by repeat (first | exact App.nil | apply App.cons))) (fun _ => ?_)
                            rw [Dk.sync_crash]
                            refine ho_nil ?_
                            refine hx_then ?_
                            refine ht_seq ?_
                            refine ht_seq ?_
                            refine ht_region ?_
                            refine ho_ev rfl rfl rfl (ev_assign rfl rfl) ?_
                            refine ho_nil ?_
                            refine hx_then ?_
                            refine ht_block ?_
                            refine ht_loop (fun q : Nat => ([DiskAt b0 D.sync, DiskAt qc D.sync, pu (q ≤ 21), F], [(5, .pointer (some ⟨b0, 0, none⟩)), (8, .pointer (some ⟨qc, 0, none⟩)), (11, .int .i64 q)])) (fun q : Nat => 21 - q) 0 ?_ (by repeat (first | exact EnvSub.nil _ | (refine EnvSub.cons rfl ?_))) (fun q => ?_)
                            · (first | dsimp only | skip)
                              exact Ent.cons (by (repeat (first | exact Pick.here | apply Pick.there)); done) (Ent.cons (by (repeat (first | exact Pick.here | apply Pick.there)); done) (Ent.pu (by omega) (Ent.cons (by (repeat (first | exact Pick.here | apply Pick.there)); done) Ent.nil)))
                            obtain q := q
                            dsimp only
                            refine ht_pick (A := pu (q ≤ 21)) (by (repeat (first | exact Pick.here | apply Pick.there)); done) (ht_pure fun hq4 => ?_)
                            refine ht_seq ?_
                            refine ht_seq ?_
                            refine ht_region ?_
                            refine ho_ev rfl rfl rfl (ev_move rfl rfl) ?_
                            refine ho_lt rfl rfl rfl rfl rfl rfl (fun g55 => ?_) (fun g55 => ?_)
                            · first | (exfalso; first | omega | (simp at g55; done) | contradiction) | skip
                              all_goals (
                                refine ho_nil ?_
                                refine hx_then ?_
                                refine ht_then rfl ?_
                                refine ht_skip ?_
                                refine hx_then ?_
                                refine ht_seq ?_
                                refine ht_block ?_
                                refine ht_seq ?_
                                refine ht_region ?_
                                refine ho_ev rfl rfl rfl (ev_move rfl rfl) ?_
                                refine ho_ev rfl rfl rfl (ev_move rfl rfl) ?_
                                rcases hv : D.sync.view q with _ | s
                                · skip
                                  refine ho_eff rfl rfl rfl (eff_call rfl rfl (.cons rfl (.cons rfl .nil)) rfl (disk_Read_no b0 D.sync q hv) (by repeat (first | exact Picks.nil | (apply Picks.ro; focus ((repeat (first | exact Pick.here | apply Pick.there)); done)) | (apply Picks.cons; focus ((repeat (first | exact Pick.here | apply Pick.there)); done)))) (fun _ => by repeat (first | exact App.nil | apply App.cons))) (fun _ => ?_)
                                  refine ho_ev rfl rfl rfl (ev_move rfl rfl) ?_
                                  refine ho_ev rfl rfl rfl (ev_extract rfl rfl rfl) ?_
                                  refine ho_ev rfl rfl rfl (ev_extract rfl rfl rfl) ?_
                                  refine ho_ev rfl rfl rfl (ev_assign rfl rfl) ?_
                                  refine ho_ev rfl rfl rfl (ev_assign rfl rfl) ?_
                                  refine ho_nil ?_
                                  refine hx_then ?_
                                  refine ht_seq ?_
                                  refine ht_region ?_
                                  refine ho_ev rfl rfl rfl (ev_move rfl rfl) ?_
                                  refine ho_ev rfl rfl rfl (ev_move rfl rfl) ?_
                                  rcases hv2 : D.sync.view q with _ | s2
                                  · first | (exfalso; rw [hv] at hv2; cases hv2; done) | skip
                                    all_goals (
                                      refine ho_eff rfl rfl rfl (eff_call rfl rfl (.cons rfl (.cons rfl .nil)) rfl (disk_Read_no qc D.sync q hv2) (by repeat (first | exact Picks.nil | (apply Picks.ro; focus ((repeat (first | exact Pick.here | apply Pick.there)); done)) | (apply Picks.cons; focus ((repeat (first | exact Pick.here | apply Pick.there)); done)))) (fun _ => by repeat (first | exact App.nil | apply App.cons))) (fun _ => ?_)
                                      refine ho_ev rfl rfl rfl (ev_move rfl rfl) ?_
                                      refine ho_ev rfl rfl rfl (ev_extract rfl rfl rfl) ?_
                                      refine ho_ev rfl rfl rfl (ev_extract rfl rfl rfl) ?_
                                      refine ho_ev rfl rfl rfl (ev_assign rfl rfl) ?_
                                      refine ho_ev rfl rfl rfl (ev_assign rfl rfl) ?_
                                      refine ho_nil ?_
                                      refine hx_then ?_
                                      refine ht_seq ?_
                                      refine ht_region ?_
                                      refine ho_ev rfl rfl rfl (ev_move rfl rfl) ?_
                                      refine ho_ev rfl rfl rfl (ev_str rfl Try.underlying36 Try.underlying5 Try.underlying9 rfl (by first | exact reads_ro (by (repeat (first | with_reducible exact Pick.here | with_reducible apply Pick.there)); done) | exact reads_own (by (repeat (first | with_reducible exact Pick.here | with_reducible apply Pick.there)); done) | exact reads_nil _)) ?_
                                      refine ho_ev rfl rfl rfl (ev_move rfl rfl) ?_
                                      refine ho_ev rfl rfl rfl (ev_str rfl Try.underlying36 Try.underlying5 Try.underlying9 rfl (by first | exact reads_ro (by (repeat (first | with_reducible exact Pick.here | with_reducible apply Pick.there)); done) | exact reads_own (by (repeat (first | with_reducible exact Pick.here | with_reducible apply Pick.there)); done) | exact reads_nil _)) ?_
                                      refine ho_neS rfl rfl rfl rfl rfl rfl (fun g56 => ?_) (fun g56 => ?_)
                                      · first | (exfalso; first | omega | (simp at g56; done) | contradiction) | skip
                                        all_goals (
                                          refine ho_ev rfl rfl rfl (ev_move rfl rfl) ?_
                                          refine ho_pass rfl rfl rfl rfl ?_
                                          refine ho_pass rfl rfl rfl rfl ?_
                                          refine ho_pass rfl rfl rfl rfl ?_
                                          refine ho_ev rfl rfl rfl (ev_pick_t rfl rfl rfl) ?_
                                          refine ho_nil ?_
                                          refine hx_then ?_
                                          refine ht_then rfl ?_
                                          refine ht_seq ?_
                                          refine ht_region ?_
                                          refine ho_ev rfl rfl rfl (ev_assign rfl rfl) ?_
                                          refine ho_nil ?_
                                          refine hx_then ?_
                                          refine ht_ret ?_
                                          refine hx_block_ret ?_
                                          refine hx_through trivial ?_
                                          refine hx_through trivial ?_
                                          refine hx_block_ret ?_
                                          refine hx_through trivial ?_
                                          exact hx_ret1 (.inl rfl) rfl rfl () rfl (Ent.cons (by (repeat (first | exact Pick.here | apply Pick.there)); done) Ent.nil)
                                        )
                                      · first | (exfalso; first | omega | (simp at g56; done) | contradiction) | skip
                                        all_goals (
                                          refine ho_ev rfl rfl rfl (ev_move rfl rfl) ?_
                                          refine ho_evg rfl rfl rfl rfl (ev_move rfl rfl) ?_
                                          refine ho_evg rfl rfl rfl rfl (ev_move rfl rfl) ?_
                                          refine ho_neg rfl rfl rfl rfl rfl rfl rfl (fun g57 => ?_) (fun g57 => ?_)
                                          · first | (exfalso; first | omega | (simp at g57; done) | contradiction) | skip
                                            all_goals (
                                              refine ho_ev rfl rfl rfl (ev_pick_f rfl rfl rfl) ?_
                                              refine ho_nil ?_
                                              refine hx_then ?_
                                              refine ht_then rfl ?_
                                              refine ht_seq ?_
                                              refine ht_region ?_
                                              refine ho_ev rfl rfl rfl (ev_assign rfl rfl) ?_
                                              refine ho_nil ?_
                                              refine hx_then ?_
                                              refine ht_ret ?_
                                              refine hx_block_ret ?_
                                              refine hx_through trivial ?_
                                              refine hx_through trivial ?_
                                              refine hx_block_ret ?_
                                              refine hx_through trivial ?_
                                              exact hx_ret1 (.inl rfl) rfl rfl () rfl (Ent.cons (by (repeat (first | exact Pick.here | apply Pick.there)); done) Ent.nil)
                                            )
                                          · first | (exfalso; first | omega | (simp at g57; done) | contradiction) | skip
                                            all_goals (
                                              refine ho_ev rfl rfl rfl (ev_pick_f rfl rfl rfl) ?_
                                              refine ho_nil ?_
                                              refine hx_then ?_
                                              refine ht_else rfl ?_
                                              refine ht_skip ?_
                                              refine hx_block_normal ?_
                                              refine hx_then ?_
                                              refine ht_region ?_
                                              refine ho_ev rfl rfl rfl (ev_move rfl rfl) ?_
                                              refine ho_ev rfl rfl rfl (ev_add rfl rfl rfl (by first | exact in_i64 (by omega) | rfl)) ?_
                                              refine ho_ev rfl rfl rfl (ev_assign rfl rfl) ?_
                                              refine ho_nil ?_
                                              refine hx_again (I := (fun q : Nat => ([DiskAt b0 D.sync, DiskAt qc D.sync, pu (q ≤ 21), F], [(5, .pointer (some ⟨b0, 0, none⟩)), (8, .pointer (some ⟨qc, 0, none⟩)), (11, .int .i64 q)]))) (μ := (fun q : Nat => 21 - q)) (i := q) (q + 1) ?_ ?_ ?_
                                              · (first | dsimp only | skip); omega
                                              · repeat (first | exact EnvSub.nil _ | (refine EnvSub.cons rfl ?_))
                                              · (first | dsimp only | skip)
                                                exact Ent.cons (by (repeat (first | exact Pick.here | apply Pick.there)); done) (Ent.cons (by (repeat (first | exact Pick.here | apply Pick.there)); done) (Ent.pu (by omega) (Ent.cons (by (repeat (first | exact Pick.here | apply Pick.there)); done) Ent.nil)))
                                            )
                                        )
                                    )
                                  · first | (exfalso; rw [hv] at hv2; cases hv2; done) | skip
                                    all_goals (
                                      obtain rfl : s2 = s := by rw [hv] at hv2; exact (Option.some.inj hv2).symm
                                      refine ho_eff rfl rfl rfl (eff_call rfl rfl (.cons rfl (.cons rfl .nil)) rfl (disk_Read qc D.sync q s2 hv2) (by repeat (first | exact Picks.nil | (apply Picks.ro; focus ((repeat (first | exact Pick.here | apply Pick.there)); done)) | (apply Picks.cons; focus ((repeat (first | exact Pick.here | apply Pick.there)); done)))) (fun _ => by repeat (first | exact App.nil | apply App.cons))) (fun rd2 => ?_)
                                      refine ho_ev rfl rfl rfl (ev_move rfl rfl) ?_
                                      refine ho_ev rfl rfl rfl (ev_extract rfl rfl rfl) ?_
                                      refine ho_ev rfl rfl rfl (ev_extract rfl rfl rfl) ?_
                                      refine ho_ev rfl rfl rfl (ev_assign rfl rfl) ?_
                                      refine ho_ev rfl rfl rfl (ev_assign rfl rfl) ?_
                                      refine ho_nil ?_
                                      refine hx_then ?_
                                      refine ht_seq ?_
                                      refine ht_region ?_
                                      refine ho_ev rfl rfl rfl (ev_move rfl rfl) ?_
                                      refine ho_ev rfl rfl rfl (ev_str rfl Try.underlying36 Try.underlying5 Try.underlying9 rfl (by first | exact reads_ro (by (repeat (first | with_reducible exact Pick.here | with_reducible apply Pick.there)); done) | exact reads_own (by (repeat (first | with_reducible exact Pick.here | with_reducible apply Pick.there)); done) | exact reads_nil _)) ?_
                                      refine ho_ev rfl rfl rfl (ev_move rfl rfl) ?_
                                      refine ho_ev rfl rfl rfl (ev_str rfl Try.underlying36 Try.underlying5 Try.underlying9 rfl (by first | exact reads_ro (by (repeat (first | with_reducible exact Pick.here | with_reducible apply Pick.there)); done) | exact reads_own (by (repeat (first | with_reducible exact Pick.here | with_reducible apply Pick.there)); done) | exact reads_nil _)) ?_
                                      refine ho_neS rfl rfl rfl rfl rfl rfl (fun g58 => ?_) (fun g58 => ?_)
                                      · first | (exfalso; first | omega | (simp at g58; done) | contradiction) | skip
                                        all_goals (
                                          refine ho_ev rfl rfl rfl (ev_move rfl rfl) ?_
                                          refine ho_pass rfl rfl rfl rfl ?_
                                          refine ho_pass rfl rfl rfl rfl ?_
                                          refine ho_pass rfl rfl rfl rfl ?_
                                          refine ho_ev rfl rfl rfl (ev_pick_t rfl rfl rfl) ?_
                                          refine ho_nil ?_
                                          refine hx_then ?_
                                          refine ht_then rfl ?_
                                          refine ht_seq ?_
                                          refine ht_region ?_
                                          refine ho_ev rfl rfl rfl (ev_assign rfl rfl) ?_
                                          refine ho_nil ?_
                                          refine hx_then ?_
                                          refine ht_ret ?_
                                          refine hx_block_ret ?_
                                          refine hx_through trivial ?_
                                          refine hx_through trivial ?_
                                          refine hx_block_ret ?_
                                          refine hx_through trivial ?_
                                          exact hx_ret1 (.inl rfl) rfl rfl () rfl (Ent.cons (by (repeat (first | exact Pick.here | apply Pick.there)); done) Ent.nil)
                                        )
                                      · first | (exfalso; first | omega | (simp at g58; done) | contradiction) | skip
                                        all_goals (
                                          refine ho_ev rfl rfl rfl (ev_move rfl rfl) ?_
                                          refine ho_evg rfl rfl rfl rfl (ev_move rfl rfl) ?_
                                          refine ho_evg rfl rfl rfl rfl (ev_move rfl rfl) ?_
                                          refine ho_neg rfl rfl rfl rfl rfl rfl rfl (fun g59 => ?_) (fun g59 => ?_)
                                          · first | (exfalso; first | omega | (simp at g59; done) | contradiction) | skip
                                            all_goals (
                                              refine ho_ev rfl rfl rfl (ev_pick_f rfl rfl rfl) ?_
                                              refine ho_nil ?_
                                              refine hx_then ?_
                                              refine ht_then rfl ?_
                                              refine ht_seq ?_
                                              refine ht_region ?_
                                              refine ho_ev rfl rfl rfl (ev_assign rfl rfl) ?_
                                              refine ho_nil ?_
                                              refine hx_then ?_
                                              refine ht_ret ?_
                                              refine hx_block_ret ?_
                                              refine hx_through trivial ?_
                                              refine hx_through trivial ?_
                                              refine hx_block_ret ?_
                                              refine hx_through trivial ?_
                                              exact hx_ret1 (.inl rfl) rfl rfl () rfl (Ent.cons (by (repeat (first | exact Pick.here | apply Pick.there)); done) Ent.nil)
                                            )
                                          · first | (exfalso; first | omega | (simp at g59; done) | contradiction) | skip
                                            all_goals (
                                              refine ho_ev rfl rfl rfl (ev_pick_f rfl rfl rfl) ?_
                                              refine ho_nil ?_
                                              refine hx_then ?_
                                              refine ht_else rfl ?_
                                              refine ht_skip ?_
                                              refine hx_block_normal ?_
                                              refine hx_then ?_
                                              refine ht_region ?_
                                              refine ho_ev rfl rfl rfl (ev_move rfl rfl) ?_
                                              refine ho_ev rfl rfl rfl (ev_add rfl rfl rfl (by first | exact in_i64 (by omega) | rfl)) ?_
                                              refine ho_ev rfl rfl rfl (ev_assign rfl rfl) ?_
                                              refine ho_nil ?_
                                              refine hx_again (I := (fun q : Nat => ([DiskAt b0 D.sync, DiskAt qc D.sync, pu (q ≤ 21), F], [(5, .pointer (some ⟨b0, 0, none⟩)), (8, .pointer (some ⟨qc, 0, none⟩)), (11, .int .i64 q)]))) (μ := (fun q : Nat => 21 - q)) (i := q) (q + 1) ?_ ?_ ?_
                                              · (first | dsimp only | skip); omega
                                              · repeat (first | exact EnvSub.nil _ | (refine EnvSub.cons rfl ?_))
                                              · (first | dsimp only | skip)
                                                exact Ent.cons (by (repeat (first | exact Pick.here | apply Pick.there)); done) (Ent.cons (by (repeat (first | exact Pick.here | apply Pick.there)); done) (Ent.pu (by omega) (Ent.cons (by (repeat (first | exact Pick.here | apply Pick.there)); done) Ent.nil)))
                                            )
                                        )
                                    )
                                · skip
                                  refine ho_eff rfl rfl rfl (eff_call rfl rfl (.cons rfl (.cons rfl .nil)) rfl (disk_Read b0 D.sync q s hv) (by repeat (first | exact Picks.nil | (apply Picks.ro; focus ((repeat (first | exact Pick.here | apply Pick.there)); done)) | (apply Picks.cons; focus ((repeat (first | exact Pick.here | apply Pick.there)); done)))) (fun _ => by repeat (first | exact App.nil | apply App.cons))) (fun rd => ?_)
                                  refine ho_ev rfl rfl rfl (ev_move rfl rfl) ?_
                                  refine ho_ev rfl rfl rfl (ev_extract rfl rfl rfl) ?_
                                  refine ho_ev rfl rfl rfl (ev_extract rfl rfl rfl) ?_
                                  refine ho_ev rfl rfl rfl (ev_assign rfl rfl) ?_
                                  refine ho_ev rfl rfl rfl (ev_assign rfl rfl) ?_
                                  refine ho_nil ?_
                                  refine hx_then ?_
                                  refine ht_seq ?_
                                  refine ht_region ?_
                                  refine ho_ev rfl rfl rfl (ev_move rfl rfl) ?_
                                  refine ho_ev rfl rfl rfl (ev_move rfl rfl) ?_
                                  rcases hv2 : D.sync.view q with _ | s2
                                  · first | (exfalso; rw [hv] at hv2; cases hv2; done) | skip
                                    all_goals (
                                      refine ho_eff rfl rfl rfl (eff_call rfl rfl (.cons rfl (.cons rfl .nil)) rfl (disk_Read_no qc D.sync q hv2) (by repeat (first | exact Picks.nil | (apply Picks.ro; focus ((repeat (first | exact Pick.here | apply Pick.there)); done)) | (apply Picks.cons; focus ((repeat (first | exact Pick.here | apply Pick.there)); done)))) (fun _ => by repeat (first | exact App.nil | apply App.cons))) (fun _ => ?_)
                                      refine ho_ev rfl rfl rfl (ev_move rfl rfl) ?_
                                      refine ho_ev rfl rfl rfl (ev_extract rfl rfl rfl) ?_
                                      refine ho_ev rfl rfl rfl (ev_extract rfl rfl rfl) ?_
                                      refine ho_ev rfl rfl rfl (ev_assign rfl rfl) ?_
                                      refine ho_ev rfl rfl rfl (ev_assign rfl rfl) ?_
                                      refine ho_nil ?_
                                      refine hx_then ?_
                                      refine ht_seq ?_
                                      refine ht_region ?_
                                      refine ho_ev rfl rfl rfl (ev_move rfl rfl) ?_
                                      refine ho_ev rfl rfl rfl (ev_str rfl Try.underlying36 Try.underlying5 Try.underlying9 rfl (by first | exact reads_ro (by (repeat (first | with_reducible exact Pick.here | with_reducible apply Pick.there)); done) | exact reads_own (by (repeat (first | with_reducible exact Pick.here | with_reducible apply Pick.there)); done) | exact reads_nil _)) ?_
                                      refine ho_ev rfl rfl rfl (ev_move rfl rfl) ?_
                                      refine ho_ev rfl rfl rfl (ev_str rfl Try.underlying36 Try.underlying5 Try.underlying9 rfl (by first | exact reads_ro (by (repeat (first | with_reducible exact Pick.here | with_reducible apply Pick.there)); done) | exact reads_own (by (repeat (first | with_reducible exact Pick.here | with_reducible apply Pick.there)); done) | exact reads_nil _)) ?_
                                      refine ho_neS rfl rfl rfl rfl rfl rfl (fun g60 => ?_) (fun g60 => ?_)
                                      · first | (exfalso; first | omega | (simp at g60; done) | contradiction) | skip
                                        all_goals (
                                          refine ho_ev rfl rfl rfl (ev_move rfl rfl) ?_
                                          refine ho_pass rfl rfl rfl rfl ?_
                                          refine ho_pass rfl rfl rfl rfl ?_
                                          refine ho_pass rfl rfl rfl rfl ?_
                                          refine ho_ev rfl rfl rfl (ev_pick_t rfl rfl rfl) ?_
                                          refine ho_nil ?_
                                          refine hx_then ?_
                                          refine ht_then rfl ?_
                                          refine ht_seq ?_
                                          refine ht_region ?_
                                          refine ho_ev rfl rfl rfl (ev_assign rfl rfl) ?_
                                          refine ho_nil ?_
                                          refine hx_then ?_
                                          refine ht_ret ?_
                                          refine hx_block_ret ?_
                                          refine hx_through trivial ?_
                                          refine hx_through trivial ?_
                                          refine hx_block_ret ?_
                                          refine hx_through trivial ?_
                                          exact hx_ret1 (.inl rfl) rfl rfl () rfl (Ent.cons (by (repeat (first | exact Pick.here | apply Pick.there)); done) Ent.nil)
                                        )
                                      · first | (exfalso; first | omega | (simp at g60; done) | contradiction) | skip
                                        all_goals (
                                          refine ho_ev rfl rfl rfl (ev_move rfl rfl) ?_
                                          refine ho_evg rfl rfl rfl rfl (ev_move rfl rfl) ?_
                                          refine ho_evg rfl rfl rfl rfl (ev_move rfl rfl) ?_
                                          refine ho_neg rfl rfl rfl rfl rfl rfl rfl (fun g61 => ?_) (fun g61 => ?_)
                                          · first | (exfalso; first | omega | (simp at g61; done) | contradiction) | skip
                                            all_goals (
                                              refine ho_ev rfl rfl rfl (ev_pick_f rfl rfl rfl) ?_
                                              refine ho_nil ?_
                                              refine hx_then ?_
                                              refine ht_then rfl ?_
                                              refine ht_seq ?_
                                              refine ht_region ?_
                                              refine ho_ev rfl rfl rfl (ev_assign rfl rfl) ?_
                                              refine ho_nil ?_
                                              refine hx_then ?_
                                              refine ht_ret ?_
                                              refine hx_block_ret ?_
                                              refine hx_through trivial ?_
                                              refine hx_through trivial ?_
                                              refine hx_block_ret ?_
                                              refine hx_through trivial ?_
                                              exact hx_ret1 (.inl rfl) rfl rfl () rfl (Ent.cons (by (repeat (first | exact Pick.here | apply Pick.there)); done) Ent.nil)
                                            )
                                          · first | (exfalso; first | omega | (simp at g61; done) | contradiction) | skip
                                            all_goals (
                                              refine ho_ev rfl rfl rfl (ev_pick_f rfl rfl rfl) ?_
                                              refine ho_nil ?_
                                              refine hx_then ?_
                                              refine ht_else rfl ?_
                                              refine ht_skip ?_
                                              refine hx_block_normal ?_
                                              refine hx_then ?_
                                              refine ht_region ?_
                                              refine ho_ev rfl rfl rfl (ev_move rfl rfl) ?_
                                              refine ho_ev rfl rfl rfl (ev_add rfl rfl rfl (by first | exact in_i64 (by omega) | rfl)) ?_
                                              refine ho_ev rfl rfl rfl (ev_assign rfl rfl) ?_
                                              refine ho_nil ?_
                                              refine hx_again (I := (fun q : Nat => ([DiskAt b0 D.sync, DiskAt qc D.sync, pu (q ≤ 21), F], [(5, .pointer (some ⟨b0, 0, none⟩)), (8, .pointer (some ⟨qc, 0, none⟩)), (11, .int .i64 q)]))) (μ := (fun q : Nat => 21 - q)) (i := q) (q + 1) ?_ ?_ ?_
                                              · (first | dsimp only | skip); omega
                                              · repeat (first | exact EnvSub.nil _ | (refine EnvSub.cons rfl ?_))
                                              · (first | dsimp only | skip)
                                                exact Ent.cons (by (repeat (first | exact Pick.here | apply Pick.there)); done) (Ent.cons (by (repeat (first | exact Pick.here | apply Pick.there)); done) (Ent.pu (by omega) (Ent.cons (by (repeat (first | exact Pick.here | apply Pick.there)); done) Ent.nil)))
                                            )
                                        )
                                    )
                                  · first | (exfalso; rw [hv] at hv2; cases hv2; done) | skip
                                    all_goals (
                                      obtain rfl : s2 = s := by rw [hv] at hv2; exact (Option.some.inj hv2).symm
                                      refine ho_eff rfl rfl rfl (eff_call rfl rfl (.cons rfl (.cons rfl .nil)) rfl (disk_Read qc D.sync q s2 hv2) (by repeat (first | exact Picks.nil | (apply Picks.ro; focus ((repeat (first | exact Pick.here | apply Pick.there)); done)) | (apply Picks.cons; focus ((repeat (first | exact Pick.here | apply Pick.there)); done)))) (fun _ => by repeat (first | exact App.nil | apply App.cons))) (fun rd2 => ?_)
                                      refine ho_ev rfl rfl rfl (ev_move rfl rfl) ?_
                                      refine ho_ev rfl rfl rfl (ev_extract rfl rfl rfl) ?_
                                      refine ho_ev rfl rfl rfl (ev_extract rfl rfl rfl) ?_
                                      refine ho_ev rfl rfl rfl (ev_assign rfl rfl) ?_
                                      refine ho_ev rfl rfl rfl (ev_assign rfl rfl) ?_
                                      refine ho_nil ?_
                                      refine hx_then ?_
                                      refine ht_seq ?_
                                      refine ht_region ?_
                                      refine ho_ev rfl rfl rfl (ev_move rfl rfl) ?_
                                      refine ho_ev rfl rfl rfl (ev_str rfl Try.underlying36 Try.underlying5 Try.underlying9 rfl (by first | exact reads_ro (by (repeat (first | with_reducible exact Pick.here | with_reducible apply Pick.there)); done) | exact reads_own (by (repeat (first | with_reducible exact Pick.here | with_reducible apply Pick.there)); done) | exact reads_nil _)) ?_
                                      refine ho_ev rfl rfl rfl (ev_move rfl rfl) ?_
                                      refine ho_ev rfl rfl rfl (ev_str rfl Try.underlying36 Try.underlying5 Try.underlying9 rfl (by first | exact reads_ro (by (repeat (first | with_reducible exact Pick.here | with_reducible apply Pick.there)); done) | exact reads_own (by (repeat (first | with_reducible exact Pick.here | with_reducible apply Pick.there)); done) | exact reads_nil _)) ?_
                                      refine ho_neS rfl rfl rfl rfl rfl rfl (fun g62 => ?_) (fun g62 => ?_)
                                      · first | (exfalso; first | omega | (simp at g62; done) | contradiction) | skip
                                        all_goals (
                                          refine ho_ev rfl rfl rfl (ev_move rfl rfl) ?_
                                          refine ho_pass rfl rfl rfl rfl ?_
                                          refine ho_pass rfl rfl rfl rfl ?_
                                          refine ho_pass rfl rfl rfl rfl ?_
                                          refine ho_ev rfl rfl rfl (ev_pick_t rfl rfl rfl) ?_
                                          refine ho_nil ?_
                                          refine hx_then ?_
                                          refine ht_then rfl ?_
                                          refine ht_seq ?_
                                          refine ht_region ?_
                                          refine ho_ev rfl rfl rfl (ev_assign rfl rfl) ?_
                                          refine ho_nil ?_
                                          refine hx_then ?_
                                          refine ht_ret ?_
                                          refine hx_block_ret ?_
                                          refine hx_through trivial ?_
                                          refine hx_through trivial ?_
                                          refine hx_block_ret ?_
                                          refine hx_through trivial ?_
                                          exact hx_ret1 (.inl rfl) rfl rfl () rfl (Ent.cons (by (repeat (first | exact Pick.here | apply Pick.there)); done) Ent.nil)
                                        )
                                      · first | (exfalso; first | omega | (simp at g62; done) | contradiction) | skip
                                        all_goals (
                                          refine ho_ev rfl rfl rfl (ev_move rfl rfl) ?_
                                          refine ho_evg rfl rfl rfl rfl (ev_move rfl rfl) ?_
                                          refine ho_evg rfl rfl rfl rfl (ev_move rfl rfl) ?_
                                          refine ho_neg rfl rfl rfl rfl rfl rfl rfl (fun g63 => ?_) (fun g63 => ?_)
                                          · first | (exfalso; first | omega | (simp at g63; done) | contradiction) | skip
                                            all_goals (
                                              refine ho_ev rfl rfl rfl (ev_pick_f rfl rfl rfl) ?_
                                              refine ho_nil ?_
                                              refine hx_then ?_
                                              refine ht_then rfl ?_
                                              refine ht_seq ?_
                                              refine ht_region ?_
                                              refine ho_ev rfl rfl rfl (ev_assign rfl rfl) ?_
                                              refine ho_nil ?_
                                              refine hx_then ?_
                                              refine ht_ret ?_
                                              refine hx_block_ret ?_
                                              refine hx_through trivial ?_
                                              refine hx_through trivial ?_
                                              refine hx_block_ret ?_
                                              refine hx_through trivial ?_
                                              exact hx_ret1 (.inl rfl) rfl rfl () rfl (Ent.cons (by (repeat (first | exact Pick.here | apply Pick.there)); done) Ent.nil)
                                            )
                                          · first | (exfalso; first | omega | (simp at g63; done) | contradiction) | skip
                                            all_goals (
                                              refine ho_ev rfl rfl rfl (ev_pick_f rfl rfl rfl) ?_
                                              refine ho_nil ?_
                                              refine hx_then ?_
                                              refine ht_else rfl ?_
                                              refine ht_skip ?_
                                              refine hx_block_normal ?_
                                              refine hx_then ?_
                                              refine ht_region ?_
                                              refine ho_ev rfl rfl rfl (ev_move rfl rfl) ?_
                                              refine ho_ev rfl rfl rfl (ev_add rfl rfl rfl (by first | exact in_i64 (by omega) | rfl)) ?_
                                              refine ho_ev rfl rfl rfl (ev_assign rfl rfl) ?_
                                              refine ho_nil ?_
                                              refine hx_again (I := (fun q : Nat => ([DiskAt b0 D.sync, DiskAt qc D.sync, pu (q ≤ 21), F], [(5, .pointer (some ⟨b0, 0, none⟩)), (8, .pointer (some ⟨qc, 0, none⟩)), (11, .int .i64 q)]))) (μ := (fun q : Nat => 21 - q)) (i := q) (q + 1) ?_ ?_ ?_
                                              · (first | dsimp only | skip); omega
                                              · repeat (first | exact EnvSub.nil _ | (refine EnvSub.cons rfl ?_))
                                              · (first | dsimp only | skip)
                                                exact Ent.cons (by (repeat (first | exact Pick.here | apply Pick.there)); done) (Ent.cons (by (repeat (first | exact Pick.here | apply Pick.there)); done) (Ent.pu (by omega) (Ent.cons (by (repeat (first | exact Pick.here | apply Pick.there)); done) Ent.nil)))
                                            )
                                        )
                                    )
                              )
                            · first | (exfalso; first | omega | (simp at g55; done) | contradiction) | skip
                              all_goals (
                                refine ho_nil ?_
                                refine hx_then ?_
                                refine ht_else rfl ?_
                                refine ht_exit ?_
                                refine hx_through trivial ?_
                                refine hx_through trivial ?_
                                refine hx_block_here ?_
                                refine hx_then ?_
                                refine ht_seq ?_
                                have hp0 : D.sync.pend.length = 0 := rfl
                                refine ht_region ?_
                                refine ho_ev rfl rfl rfl (ev_move rfl rfl) ?_
                                refine ho_eff rfl rfl rfl (eff_call rfl rfl (.cons rfl .nil) rfl (disk_Used b0 D.sync) (by repeat (first | exact Picks.nil | (apply Picks.ro; focus ((repeat (first | exact Pick.here | apply Pick.there)); done)) | (apply Picks.cons; focus ((repeat (first | exact Pick.here | apply Pick.there)); done)))) (fun _ => by repeat (first | exact App.nil | apply App.cons))) (fun _ => ?_)
                                refine ho_ev rfl rfl rfl (ev_move rfl rfl) ?_
                                refine ho_eff rfl rfl rfl (eff_call rfl rfl (.cons rfl .nil) rfl (disk_Used qc D.sync) (by repeat (first | exact Picks.nil | (apply Picks.ro; focus ((repeat (first | exact Pick.here | apply Pick.there)); done)) | (apply Picks.cons; focus ((repeat (first | exact Pick.here | apply Pick.there)); done)))) (fun _ => by repeat (first | exact App.nil | apply App.cons))) (fun _ => ?_)
                                refine ho_eq rfl rfl rfl rfl rfl rfl (fun g64 => ?_) (fun g64 => ?_)
                                · first | (exfalso; first | omega | (simp at g64; done) | contradiction) | skip
                                  all_goals (
                                    refine ho_ev rfl rfl rfl (ev_move rfl rfl) ?_
                                    refine ho_evg rfl rfl rfl rfl (ev_move rfl rfl) ?_
                                    refine ho_effg rfl rfl rfl rfl (eff_call rfl rfl (.cons rfl .nil) rfl (disk_Pending b0 D.sync) (by repeat (first | exact Picks.nil | (apply Picks.ro; focus ((repeat (first | exact Pick.here | apply Pick.there)); done)) | (apply Picks.cons; focus ((repeat (first | exact Pick.here | apply Pick.there)); done)))) (fun _ => by repeat (first | exact App.nil | apply App.cons))) (fun _ => ?_)
                                    refine ho_eqg rfl rfl rfl rfl rfl rfl rfl (fun g65 => ?_) (fun g65 => ?_)
                                    · first | (exfalso; first | omega | (simp at g65; done) | contradiction) | skip
                                      all_goals (
                                        refine ho_ev rfl rfl rfl (ev_pick_t rfl rfl rfl) ?_
                                        refine ho_ev rfl rfl rfl (ev_move rfl rfl) ?_
                                        refine ho_evg rfl rfl rfl rfl (ev_move rfl rfl) ?_
                                        refine ho_effg rfl rfl rfl rfl (eff_call rfl rfl (.cons rfl .nil) rfl (disk_Pending qc D.sync) (by repeat (first | exact Picks.nil | (apply Picks.ro; focus ((repeat (first | exact Pick.here | apply Pick.there)); done)) | (apply Picks.cons; focus ((repeat (first | exact Pick.here | apply Pick.there)); done)))) (fun _ => by repeat (first | exact App.nil | apply App.cons))) (fun _ => ?_)
                                        refine ho_eqg rfl rfl rfl rfl rfl rfl rfl (fun g66 => ?_) (fun g66 => ?_)
                                        · first | (exfalso; first | omega | (simp at g66; done) | contradiction) | skip
                                          all_goals (
                                            refine ho_ev rfl rfl rfl (ev_pick_t rfl rfl rfl) ?_
                                            refine ho_ev rfl rfl rfl (ev_assign rfl rfl) ?_
                                            refine ho_nil ?_
                                            refine hx_then ?_
                                            refine ht_ret ?_
                                            exact hx_ret1 (.inl rfl) rfl rfl () rfl (Ent.cons (by (repeat (first | exact Pick.here | apply Pick.there)); done) Ent.nil)
                                          )
                                        · first | (exfalso; first | omega | (simp at g66; done) | contradiction) | skip
                                          all_goals (
                                            refine ho_ev rfl rfl rfl (ev_pick_t rfl rfl rfl) ?_
                                            refine ho_ev rfl rfl rfl (ev_assign rfl rfl) ?_
                                            refine ho_nil ?_
                                            refine hx_then ?_
                                            refine ht_ret ?_
                                            exact hx_ret1 (.inl rfl) rfl rfl () rfl (Ent.cons (by (repeat (first | exact Pick.here | apply Pick.there)); done) Ent.nil)
                                          )
                                      )
                                    · first | (exfalso; first | omega | (simp at g65; done) | contradiction) | skip
                                      all_goals (
                                        refine ho_ev rfl rfl rfl (ev_pick_t rfl rfl rfl) ?_
                                        refine ho_ev rfl rfl rfl (ev_move rfl rfl) ?_
                                        refine ho_pass rfl rfl rfl rfl ?_
                                        refine ho_pass rfl rfl rfl rfl ?_
                                        refine ho_pass rfl rfl rfl rfl ?_
                                        refine ho_ev rfl rfl rfl (ev_pick_f rfl rfl rfl) ?_
                                        refine ho_ev rfl rfl rfl (ev_assign rfl rfl) ?_
                                        refine ho_nil ?_
                                        refine hx_then ?_
                                        refine ht_ret ?_
                                        exact hx_ret1 (.inl rfl) rfl rfl () rfl (Ent.cons (by (repeat (first | exact Pick.here | apply Pick.there)); done) Ent.nil)
                                      )
                                  )
                                · first | (exfalso; first | omega | (simp at g64; done) | contradiction) | skip
                                  all_goals (
                                    refine ho_ev rfl rfl rfl (ev_move rfl rfl) ?_
                                    refine ho_pass rfl rfl rfl rfl ?_
                                    refine ho_pass rfl rfl rfl rfl ?_
                                    refine ho_pass rfl rfl rfl rfl ?_
                                    refine ho_ev rfl rfl rfl (ev_pick_f rfl rfl rfl) ?_
                                    refine ho_ev rfl rfl rfl (ev_move rfl rfl) ?_
                                    refine ho_pass rfl rfl rfl rfl ?_
                                    refine ho_pass rfl rfl rfl rfl ?_
                                    refine ho_pass rfl rfl rfl rfl ?_
                                    refine ho_ev rfl rfl rfl (ev_pick_f rfl rfl rfl) ?_
                                    refine ho_ev rfl rfl rfl (ev_assign rfl rfl) ?_
                                    refine ho_nil ?_
                                    refine hx_then ?_
                                    refine ht_ret ?_
                                    exact hx_ret1 (.inl rfl) rfl rfl () rfl (Ent.cons (by (repeat (first | exact Pick.here | apply Pick.there)); done) Ent.nil)
                                  )
                              )
                          )
                      )
                  )
              )
          )
      )
    · first | (exfalso; first | omega | (simp at g34; done) | contradiction) | skip
      all_goals (
        refine ho_ev rfl rfl rfl (ev_not rfl rfl) ?_
        refine ho_ev rfl rfl rfl (ev_move rfl rfl) ?_
        refine ho_pass rfl rfl rfl rfl ?_
        refine ho_pass rfl rfl rfl rfl ?_
        refine ho_ev rfl rfl rfl (ev_pick_t rfl rfl rfl) ?_
        refine ho_ev rfl rfl rfl (ev_move rfl rfl) ?_
        refine ho_pass rfl rfl rfl rfl ?_
        refine ho_pass rfl rfl rfl rfl ?_
        refine ho_ev rfl rfl rfl (ev_pick_t rfl rfl rfl) ?_
        refine ho_nil ?_
        refine hx_then ?_
        refine ht_then rfl ?_
        refine ht_seq ?_
        refine ht_region ?_
        refine ho_eff rfl rfl rfl (eff_call rfl rfl .nil rfl (law_awake) (by repeat (first | exact Picks.nil | (apply Picks.ro; focus ((repeat (first | with_reducible exact Pick.here | with_reducible apply Pick.there)); done)) | (apply Picks.cons; focus ((repeat (first | with_reducible exact Pick.here | with_reducible apply Pick.there)); done)))) (fun _ => by repeat (first | exact App.nil | apply App.cons))) (fun _ => ?_)
        refine ho_ev rfl rfl rfl (ev_assign rfl rfl) ?_
        refine ho_nil ?_
        refine hx_then ?_
        refine ht_ret ?_
        refine hx_through trivial ?_
        exact hx_ret1 (.inl rfl) rfl rfl () rfl (Ent.cons (by (repeat (first | exact Pick.here | apply Pick.there)); done) Ent.nil)
      )
end Go.Proofs.Ytlejcepbcfijiaa
