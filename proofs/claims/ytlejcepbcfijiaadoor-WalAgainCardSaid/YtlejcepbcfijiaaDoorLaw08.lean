/-
  LAW 08 (wal): the walks of awake and WalPlaces. Conditions: as each contract says.
-/
import Derived.Test.YtlejcepbcfijiaaDoorWal2
import Derived.Test.YtlejcepbcfijiaaDoorWalK
set_option maxRecDepth 100000
set_option linter.unusedVariables false
set_option linter.unusedSimpArgs false
namespace Go.Proofs.YtlejcepbcfijiaaDoor
open Go Go.SL

theorem law_awake08 : Ctr Tryd.prog 23 #[] [ro bitsR] (fun _ : Unit => .bool true) (fun _ => []) := by
 refine fn_intro Tryd.func23 rfl rfl Tryd.ntmps23 (Nat.le_of_ble_eq_true rfl) (fun _ => by repeat (first | exact App.nil | apply App.cons)) (fun κ F => ?_)
 obtain ⟨l1, l2, hA1, hA2, hok0, hok1, hlast, hpl, hout, hmx, hlv⟩ := Wl.aw08
 refine ht_seq ?_
 refine ht_region ?_
 refine ho_ev rfl rfl rfl (ev_assign rfl rfl) ?_
 refine ho_nil ?_
 refine hx_then ?_
 refine ht_seq ?_
 refine ht_region ?_
 refine ho_eff rfl rfl rfl (eff_call rfl rfl (.cons rfl .nil) rfl (disk_New 9 (by omega)) (by repeat (first | exact Picks.nil | (apply Picks.ro; focus ((repeat constructor); done)) | (apply Picks.cons; focus ((repeat constructor); done)))) (fun _ => by repeat (first | exact App.nil | apply App.cons))) (fun b0 => ?_)
 refine ho_ev rfl rfl rfl (ev_move rfl rfl) ?_
 refine ho_ev rfl rfl rfl (ev_extract rfl rfl rfl) ?_
 refine ho_ev rfl rfl rfl (ev_extract rfl rfl rfl) ?_
 refine ho_ev rfl rfl rfl (ev_assign rfl rfl) ?_
 refine ho_ev rfl rfl rfl (ev_assign rfl rfl) ?_
 refine ho_nil ?_
 refine hx_then ?_
 refine ht_seq ?_
 refine ht_seq ?_
 refine ht_region ?_
 refine ho_ev rfl rfl rfl (ev_move rfl rfl) ?_
 refine ho_ne rfl rfl rfl rfl rfl rfl (fun g1 => ?_) (fun g1 => ?_)
 ·(exfalso; first | omega | (simp at g1; done) | contradiction)
 ·first | (exfalso; first | omega | (simp at g1; done) | contradiction) | skip
  all_goals (
   refine ho_ev rfl rfl rfl (ev_move rfl rfl) ?_
   refine ho_evg rfl rfl rfl rfl (ev_move rfl rfl) ?_
   refine ho_evg rfl rfl rfl rfl (ev_ptrNil rfl Tryd.underlying23 rfl rfl rfl) ?_
   refine ho_ev rfl rfl rfl (ev_pick_f rfl rfl rfl) ?_
   refine ho_nil ?_
   refine hx_then ?_
   refine ht_bool (t := 22) rfl (fun g2 => ?_) (fun g2 => ?_)
   ·first | (exfalso; first | omega | (simp at g2; done) | contradiction) | skip
    all_goals (
     refine ht_then rfl ?_
     refine ht_seq ?_
     refine ht_region ?_
     refine ho_ev rfl rfl rfl (ev_assign rfl rfl) ?_
     refine ho_nil ?_
     refine hx_then ?_
     refine ht_ret ?_
     refine hx_through trivial ?_
     exact hx_ret1 (.inl rfl) rfl rfl () rfl (Ent.cons (by (repeat constructor); done) Ent.nil)
    )
   ·first | (exfalso; first | omega | (simp at g2; done) | contradiction) | skip
    all_goals (
     refine ht_else rfl ?_
     refine ht_skip ?_
     refine hx_then ?_
     refine ht_seq ?_
     refine ht_region ?_
     refine ho_ev rfl rfl rfl (ev_move rfl rfl) ?_
     refine ho_eff rfl rfl rfl (eff_call rfl rfl (.cons rfl (.cons rfl (.cons rfl (.cons rfl (.cons rfl .nil))))) rfl (wal_Open b0 2 1 0 0 (Dk.Disk.new 9) (by decide) (by decide) (by decide) (by decide) (by decide)) (by repeat (first | exact Picks.nil | (apply Picks.ro; focus ((repeat constructor); done)) | (apply Picks.cons; focus ((repeat constructor); done)))) (fun _ => by repeat (first | exact App.nil | apply App.cons))) (fun y => ?_)
     rw [Wl.found_none rfl, Wl.open_new]
     dsimp only
     rw [show max 0 0 = 0 from rfl]
     refine ho_ev rfl rfl rfl (ev_move rfl rfl) ?_
     refine ho_ev rfl rfl rfl (ev_extract rfl rfl rfl) ?_
     refine ho_ev rfl rfl rfl (ev_extract rfl rfl rfl) ?_
     refine ho_ev rfl rfl rfl (ev_extract rfl rfl rfl) ?_
     refine ho_ev rfl rfl rfl (ev_assign rfl rfl) ?_
     refine ho_ev rfl rfl rfl (ev_assign rfl rfl) ?_
     refine ho_ev rfl rfl rfl (ev_assign rfl rfl) ?_
     refine ho_nil ?_
     refine hx_then ?_
     refine ht_seq ?_
     refine ht_seq ?_
     refine ht_region ?_
     refine ho_ev rfl rfl rfl (ev_move rfl rfl) ?_
     refine ho_ne rfl rfl rfl rfl rfl rfl (fun g3 => ?_) (fun g3 => ?_)
     ·(exfalso; first | omega | (simp at g3; done) | contradiction)
     ·first | (exfalso; first | omega | (simp at g3; done) | contradiction) | skip
      all_goals (
       refine ho_ev rfl rfl rfl (ev_move rfl rfl) ?_
       refine ho_evg rfl rfl rfl rfl (ev_move rfl rfl) ?_
       refine ho_evg rfl rfl rfl rfl (ev_ptrNil rfl Tryd.underlying63 rfl rfl rfl) ?_
       refine ho_ev rfl rfl rfl (ev_pick_f rfl rfl rfl) ?_
       refine ho_ev rfl rfl rfl (ev_move rfl rfl) ?_
       refine ho_bool (t := 35) rfl (fun g4 => ?_) (fun g4 => ?_)
       ·first | (exfalso; first | omega | (simp at g4; done) | contradiction) | skip
        all_goals (
         refine ho_pass rfl rfl rfl rfl ?_
         refine ho_pass rfl rfl rfl rfl ?_
         refine ho_pass rfl rfl rfl rfl ?_
         refine ho_ev rfl rfl rfl (ev_pick_t rfl rfl rfl) ?_
         refine ho_nil ?_
         refine hx_then ?_
         refine ht_then rfl ?_
         refine ht_seq ?_
         refine ht_region ?_
         refine ho_ev rfl rfl rfl (ev_assign rfl rfl) ?_
         refine ho_nil ?_
         refine hx_then ?_
         refine ht_ret ?_
         refine hx_through trivial ?_
         exact hx_ret1 (.inl rfl) rfl rfl () rfl (Ent.cons (by (repeat constructor); done) Ent.nil)
        )
       ·first | (exfalso; first | omega | (simp at g4; done) | contradiction) | skip
        all_goals (
         refine ho_evg rfl rfl rfl rfl (ev_move rfl rfl) ?_
         refine ho_evg rfl rfl rfl rfl (ev_lenSl rfl Tryd.underlying64 rfl) ?_
         refine ho_gtg rfl rfl rfl rfl rfl rfl rfl (fun g5 => ?_) (fun g5 => ?_)
         ·(exfalso; first | omega | (simp at g5; done) | contradiction)
         ·first | (exfalso; first | omega | (simp at g5; done) | contradiction) | skip
          all_goals (
           refine ho_ev rfl rfl rfl (ev_pick_f rfl rfl rfl) ?_
           refine ho_nil ?_
           refine hx_then ?_
           refine ht_else rfl ?_
           refine ht_skip ?_
           refine hx_then ?_
           refine ht_seq ?_
           refine ht_region ?_
           refine ho_ev rfl rfl rfl (ev_move rfl rfl) ?_
           refine ho_eff rfl rfl rfl (eff_call rfl rfl (.cons rfl (.cons rfl .nil)) rfl (wal_Append y.1 b0 Wl.lg0 [97] hok0.1 hok0.2 (by decide)) (by repeat (first | exact Picks.nil | (apply Picks.ro; focus ((repeat constructor); done)) | (apply Picks.cons; focus ((repeat constructor); done)))) (fun _ => by repeat (first | exact App.nil | apply App.cons))) (fun _ => ?_)
           rw [hA1]
           dsimp only
           refine ho_ev rfl rfl rfl (ev_move rfl rfl) ?_
           refine ho_ev rfl rfl rfl (ev_extract rfl rfl rfl) ?_
           refine ho_ev rfl rfl rfl (ev_extract rfl rfl rfl) ?_
           refine ho_ev rfl rfl rfl (ev_assign rfl rfl) ?_
           refine ho_ev rfl rfl rfl (ev_assign rfl rfl) ?_
           refine ho_nil ?_
           refine hx_then ?_
           refine ht_seq ?_
           refine ht_region ?_
           refine ho_ev rfl rfl rfl (ev_move rfl rfl) ?_
           refine ho_eff rfl rfl rfl (eff_call rfl rfl (.cons rfl (.cons rfl .nil)) rfl (wal_Append y.1 b0 l1 [98] hok1.1 hok1.2 (by decide)) (by repeat (first | exact Picks.nil | (apply Picks.ro; focus ((repeat constructor); done)) | (apply Picks.cons; focus ((repeat constructor); done)))) (fun _ => by repeat (first | exact App.nil | apply App.cons))) (fun _ => ?_)
           rw [hA2]
           dsimp only
           refine ho_ev rfl rfl rfl (ev_move rfl rfl) ?_
           refine ho_ev rfl rfl rfl (ev_extract rfl rfl rfl) ?_
           refine ho_ev rfl rfl rfl (ev_extract rfl rfl rfl) ?_
           refine ho_ev rfl rfl rfl (ev_assign rfl rfl) ?_
           refine ho_ev rfl rfl rfl (ev_assign rfl rfl) ?_
           refine ho_nil ?_
           refine hx_then ?_
           refine ht_seq ?_
           refine ht_region ?_
           refine ho_ev rfl rfl rfl (ev_move rfl rfl) ?_
           refine ho_eff rfl rfl rfl (eff_call rfl rfl (.cons rfl .nil) rfl (wal_Sync y.1 (lgOf b0 l2) l2.d) (by repeat (first | exact Picks.nil | (apply Picks.ro; focus ((repeat constructor); done)) | (apply Picks.cons; focus ((repeat constructor); done)))) (fun _ => by repeat (first | exact App.nil | apply App.cons))) (fun _ => ?_)
           dsimp only
           refine ho_nil ?_
           refine hx_then ?_
           refine ht_seq ?_
           refine ht_region ?_
           refine ho_ev rfl rfl rfl (ev_move rfl rfl) ?_
           refine ho_ent (Ent.roTrue (ψ := roS (α := Int × Int) none 0 []) (fun r => SliceIn.empty _ _) (Ent.refl _)) ?_
           refine ho_eff rfl rfl rfl (eff_call rfl rfl (.cons rfl (.cons rfl .nil)) rfl (disk_Crash b0 l2.d.sync none 0 [] (by decide) (by show 0 < 4294967296; decide)) (by repeat (first | exact Picks.nil | (apply Picks.ro; focus ((repeat constructor); done)) | (apply Picks.cons; focus ((repeat constructor); done)))) (fun _ => by repeat (first | exact App.nil | apply App.cons))) (fun _ => ?_)
           refine ho_nil ?_
           refine hx_then ?_
           refine ht_seq ?_
           refine ht_region ?_
           refine ho_ev rfl rfl rfl (ev_move rfl rfl) ?_
           refine ho_eff rfl rfl rfl (eff_call rfl rfl (.cons rfl (.cons rfl (.cons rfl (.cons rfl (.cons rfl .nil))))) rfl (wal_Open b0 2 1 1 0 (l2.d.sync.crash []) (by decide) (by decide) (by decide) (by decide) (by show 0 ≤ 900000; decide)) (by repeat (first | exact Picks.nil | (apply Picks.ro; focus ((repeat constructor); done)) | (apply Picks.cons; focus ((repeat constructor); done)))) (fun _ => by repeat (first | exact App.nil | apply App.cons))) (fun z => ?_)
           rw [hout, hmx]
           refine ho_ev rfl rfl rfl (ev_move rfl rfl) ?_
           refine ho_ev rfl rfl rfl (ev_extract rfl rfl rfl) ?_
           refine ho_ev rfl rfl rfl (ev_extract rfl rfl rfl) ?_
           refine ho_ev rfl rfl rfl (ev_extract rfl rfl rfl) ?_
           refine ho_ev rfl rfl rfl (ev_assign rfl rfl) ?_
           refine ho_ev rfl rfl rfl (ev_assign rfl rfl) ?_
           refine ho_ev rfl rfl rfl (ev_assign rfl rfl) ?_
           refine ho_nil ?_
           refine hx_then ?_
           refine ht_seq ?_
           refine ht_region ?_
           refine ho_ev rfl rfl rfl (ev_move rfl rfl) ?_
           refine ho_eq rfl rfl rfl rfl rfl rfl (fun g6 => ?_) (fun g6 => ?_)
           ·first | (exfalso; first | omega | (simp at g6; done) | contradiction) | skip
            all_goals (
             refine ho_ev rfl rfl rfl (ev_move rfl rfl) ?_
             refine ho_evg rfl rfl rfl rfl (ev_move rfl rfl) ?_
             refine ho_eqg rfl rfl rfl rfl rfl rfl rfl (fun g7 => ?_) (fun g7 => ?_)
             ·first | (exfalso; first | omega | (simp at g7; done) | contradiction) | skip
              all_goals (
               refine ho_ev rfl rfl rfl (ev_pick_t rfl rfl rfl) ?_
               refine ho_ev rfl rfl rfl (ev_move rfl rfl) ?_
               refine ho_evg rfl rfl rfl rfl (ev_move rfl rfl) ?_
               refine ho_eqg rfl rfl rfl rfl rfl rfl rfl (fun g8 => ?_) (fun g8 => ?_)
               ·first | (exfalso; first | omega | (simp at g8; done) | contradiction) | skip
                all_goals (
                 refine ho_ev rfl rfl rfl (ev_pick_t rfl rfl rfl) ?_
                 refine ho_ev rfl rfl rfl (ev_move rfl rfl) ?_
                 refine ho_evg rfl rfl rfl rfl (ev_move rfl rfl) ?_
                 refine ho_eqg rfl rfl rfl rfl rfl rfl rfl (fun g9 => ?_) (fun g9 => ?_)
                 ·first | (exfalso; first | omega | (simp at g9; done) | contradiction) | skip
                  all_goals (
                   refine ho_ev rfl rfl rfl (ev_pick_t rfl rfl rfl) ?_
                   refine ho_ev rfl rfl rfl (ev_move rfl rfl) ?_
                   refine ho_evg rfl rfl rfl rfl (ev_move rfl rfl) ?_
                   refine ho_effg rfl rfl rfl rfl (eff_call rfl rfl (.cons rfl .nil) rfl (wal_Synced y.1 (⟨b0, l2.at_, l2.n, l2.size, l2.live, l2.stream, l2.last, l2.last⟩ : LG)) (by repeat (first | exact Picks.nil | (apply Picks.ro; focus ((repeat constructor); done)) | (apply Picks.cons; focus ((repeat constructor); done)))) (fun _ => by repeat (first | exact App.nil | apply App.cons))) (fun _ => ?_)
                   dsimp only
                   refine ho_eqg rfl rfl rfl rfl rfl rfl rfl (fun g10 => ?_) (fun g10 => ?_)
                   ·first | (exfalso; first | omega | (simp at g10; done) | contradiction) | skip
                    all_goals (
                     refine ho_ev rfl rfl rfl (ev_pick_t rfl rfl rfl) ?_
                     refine ho_ev rfl rfl rfl (ev_move rfl rfl) ?_
                     refine ho_evg rfl rfl rfl rfl (ev_move rfl rfl) ?_
                     refine ho_evg rfl rfl rfl rfl (ev_ptrNil rfl Tryd.underlying63 rfl rfl rfl) ?_
                     refine ho_ev rfl rfl rfl (ev_pick_t rfl rfl rfl) ?_
                     refine ho_ev rfl rfl rfl (ev_move rfl rfl) ?_
                     refine ho_bool (t := 83) rfl (fun g11 => ?_) (fun g11 => ?_)
                     ·first | (exfalso; first | omega | (simp at g11; done) | contradiction) | skip
                      all_goals (
                       refine ho_evg rfl rfl rfl rfl (ev_move rfl rfl) ?_
                       refine ho_evg rfl rfl rfl rfl (ev_build1 (csl := [_, _]) rfl Tryd.st71 (.cons rfl (.cons rfl .nil)) (.cons rfl (.cons rfl .nil)) rfl rfl) ?_
                       refine ho_effg rfl rfl rfl rfl (eff_buildAll (α := Wl.Rec) [(⟨2, [98]⟩ : Wl.Rec)] rfl Tryd.underlying64 Tryd.ty71 (.cons rfl .nil) (.cons rfl .nil) rfl (Nat.le_of_ble_eq_true rfl)) (fun b86 => ?_)
                       refine ho_freezeS (α := Wl.Rec) (by (with_reducible repeat constructor); done) ?_
                       refine ho_effg rfl rfl rfl rfl (eff_call rfl rfl (.cons rfl (.cons rfl .nil)) rfl (wal_Same z.2.1 _ z.2.2 _ [⟨2, [98]⟩] (by decide)) (by repeat (first | exact Picks.nil | (apply Picks.ro; focus ((repeat constructor); done)) | (apply Picks.cons; focus ((repeat constructor); done)))) (fun _ => by repeat (first | exact App.nil | apply App.cons))) (fun _ => ?_)
                       refine ho_ev rfl rfl rfl (ev_pick_t rfl rfl rfl) ?_
                       refine ho_ev rfl rfl rfl (ev_move rfl rfl) ?_
                       refine ho_evg rfl rfl rfl rfl (ev_move rfl rfl) ?_
                       refine ho_eqg rfl rfl rfl rfl rfl rfl rfl (fun g12 => ?_) (fun g12 => ?_)
                       ·first | (exfalso; first | omega | (simp at g12; done) | contradiction) | skip
                        all_goals (
                         refine ho_ev rfl rfl rfl (ev_pick_t rfl rfl rfl) ?_
                         refine ho_ev rfl rfl rfl (ev_move rfl rfl) ?_
                         refine ho_evg rfl rfl rfl rfl (ev_move rfl rfl) ?_
                         refine ho_effg rfl rfl rfl rfl (eff_call rfl rfl (.cons rfl .nil) rfl (wal_Last z.1 (⟨b0, 0, 2, 1, (Wl.found (l2.d.sync.crash []) 0 1 2 1).live, [], 2, 2⟩ : LG)) (by repeat (first | exact Picks.nil | (apply Picks.ro; focus ((repeat constructor); done)) | (apply Picks.cons; focus ((repeat constructor); done)))) (fun _ => by repeat (first | exact App.nil | apply App.cons))) (fun _ => ?_)
                         dsimp only
                         refine ho_eqg rfl rfl rfl rfl rfl rfl rfl (fun g13 => ?_) (fun g13 => ?_)
                         ·first | (exfalso; first | omega | (simp at g13; done) | contradiction) | skip
                          all_goals (
                           refine ho_ev rfl rfl rfl (ev_pick_t rfl rfl rfl) ?_
                           refine ho_ev rfl rfl rfl (ev_move rfl rfl) ?_
                           refine ho_evg rfl rfl rfl rfl (ev_move rfl rfl) ?_
                           refine ho_effg rfl rfl rfl rfl (eff_call rfl rfl (.cons rfl .nil) rfl (wal_Live z.1 (⟨b0, 0, 2, 1, (Wl.found (l2.d.sync.crash []) 0 1 2 1).live, [], 2, 2⟩ : LG)) (by repeat (first | exact Picks.nil | (apply Picks.ro; focus ((repeat constructor); done)) | (apply Picks.cons; focus ((repeat constructor); done)))) (fun _ => by repeat (first | exact App.nil | apply App.cons))) (fun _ => ?_)
                           dsimp only
                           refine ho_eqg rfl rfl rfl rfl rfl rfl rfl (fun g14 => ?_) (fun g14 => ?_)
                           ·first | (exfalso; first | omega | (simp at g14; done) | contradiction) | skip
                            all_goals (
                             refine ho_ev rfl rfl rfl (ev_pick_t rfl rfl rfl) ?_
                             refine ho_ev rfl rfl rfl (ev_assign rfl rfl) ?_
                             refine ho_nil ?_
                             refine hx_then ?_
                             refine ht_ret ?_
                             exact hx_ret1 (.inl rfl) rfl rfl () rfl (Ent.cons (by (repeat constructor); done) Ent.nil)
                            )
                           ·(exfalso; first | omega | (simp at g14; done) | contradiction)
                          )
                         ·(exfalso; first | omega | (simp at g13; done) | contradiction)
                        )
                       ·(exfalso; first | omega | (simp at g12; done) | contradiction)
                      )
                     ·first | (exfalso; first | omega | (simp at g11; done) | contradiction) | skip
                      all_goals (
                       refine ho_pass rfl rfl rfl rfl ?_
                       refine ho_pass rfl rfl rfl rfl ?_
                       refine ho_pass rfl rfl rfl rfl ?_
                       refine ho_pass rfl rfl rfl rfl ?_
                       refine ho_ev rfl rfl rfl (ev_pick_f rfl rfl rfl) ?_
                       refine ho_ev rfl rfl rfl (ev_move rfl rfl) ?_
                       refine ho_pass rfl rfl rfl rfl ?_
                       refine ho_pass rfl rfl rfl rfl ?_
                       refine ho_ev rfl rfl rfl (ev_pick_f rfl rfl rfl) ?_
                       refine ho_ev rfl rfl rfl (ev_move rfl rfl) ?_
                       refine ho_pass rfl rfl rfl rfl ?_
                       refine ho_pass rfl rfl rfl rfl ?_
                       refine ho_pass rfl rfl rfl rfl ?_
                       refine ho_ev rfl rfl rfl (ev_pick_f rfl rfl rfl) ?_
                       refine ho_ev rfl rfl rfl (ev_move rfl rfl) ?_
                       refine ho_pass rfl rfl rfl rfl ?_
                       refine ho_pass rfl rfl rfl rfl ?_
                       refine ho_pass rfl rfl rfl rfl ?_
                       refine ho_ev rfl rfl rfl (ev_pick_f rfl rfl rfl) ?_
                       refine ho_ev rfl rfl rfl (ev_assign rfl rfl) ?_
                       refine ho_nil ?_
                       refine hx_then ?_
                       refine ht_ret ?_
                       exact hx_ret1 (.inl rfl) rfl rfl () rfl (Ent.cons (by (repeat constructor); done) Ent.nil)
                      )
                    )
                   ·(exfalso; first | omega | (simp at g10; done) | contradiction)
                  )
                 ·(exfalso; first | omega | (simp at g9; done) | contradiction)
                )
               ·(exfalso; first | omega | (simp at g8; done) | contradiction)
              )
             ·(exfalso; first | omega | (simp at g7; done) | contradiction)
            )
           ·(exfalso; first | omega | (simp at g6; done) | contradiction)
          )
        )
      )
    )
  )
theorem law_WalPlaces (v0 at_ n v3 s : Int) (k : Nat) (hk : k < 18446744073709551616) : Ctr Tryd.prog 6 #[.agg #[.int .i64 v0, .int .i64 at_, .int .i64 n, .int .i64 v3], .int .i64 s, .int .u64 (k : Int)] [ro bitsR] (fun _ : Unit => .bool true) (fun _ => []) := by
 refine fn_intro Tryd.func6 rfl rfl Tryd.ntmps6 (Nat.le_of_ble_eq_true rfl) (fun _ => by repeat (first | exact App.nil | apply App.cons)) (fun κ F => ?_)
 by_cases hpl : 2 ≤ n ∧ n ≤ 64 ∧ 1 ≤ s ∧ s ≤ 64 ∧ 0 ≤ at_ ∧ at_ ≤ 65536 - n * s
 ·skip
  obtain ⟨n, rfl⟩ : ∃ m : Nat, n = (m : Int) := ⟨n.toNat, by omega⟩
  obtain ⟨s, rfl⟩ : ∃ m : Nat, s = (m : Int) := ⟨s.toNat, by omega⟩
  have hns : ((n * s : Nat) : Int) = (n : Int) * (s : Int) := by push_cast; rfl
  refine ht_seq ?_
  refine ht_region ?_
  refine ho_eff rfl rfl rfl (eff_boxA rfl rfl) (fun b3 => ?_)
  refine ho_ev rfl rfl rfl (ev_assign rfl rfl) ?_
  refine ho_nil ?_
  refine hx_then ?_
  refine ht_seq ?_
  refine ht_draw (.op 0 (.op 1 (.op 2 (.op 3 (.op 4 (.op 5 .done)))))) [] Tryd.mixed rfl ?_
  refine hd_ev rfl rfl rfl rfl (EvG.of rfl (by first | exact ev_fieldAddr0 rfl Tryd.fld62_1 rfl | exact ev_fieldAddr rfl Tryd.fld62_1 rfl)) ?_
  refine hd_ev rfl rfl rfl rfl (EvG.of rfl (ev_load rfl Tryd.underlying3 rfl rfl (by first | exact cell_pt (by (with_reducible repeat constructor); done) rfl | exact cell_ro (by (with_reducible repeat constructor); done) rfl))) ?_
  refine hd_ev rfl rfl rfl rfl (EvG.of rfl (by first | exact ev_fieldAddr0 rfl Tryd.fld62_2 rfl | exact ev_fieldAddr rfl Tryd.fld62_2 rfl)) ?_
  refine hd_ev rfl rfl rfl rfl (EvG.of rfl (ev_load rfl Tryd.underlying3 rfl rfl (by first | exact cell_pt (by (with_reducible repeat constructor); done) rfl | exact cell_ro (by (with_reducible repeat constructor); done) rfl))) ?_
  refine hd_ev rfl rfl rfl rfl (EvG.of rfl (ev_assign rfl rfl)) ?_
  refine hd_ev rfl rfl rfl rfl (EvG.of rfl (ev_assign rfl rfl)) ?_
  refine hd_nil ?_
  refine hx_then ?_
  refine ht_seq ?_
  refine ht_region ?_
  refine ho_eff rfl rfl rfl (eff_call rfl rfl (.cons rfl .nil) rfl (disk_New 100 (by omega)) (by repeat (first | exact Picks.nil | (apply Picks.ro; focus ((repeat constructor); done)) | (apply Picks.cons; focus ((repeat constructor); done)))) (fun _ => by repeat (first | exact App.nil | apply App.cons))) (fun b0 => ?_)
  refine ho_ev rfl rfl rfl (ev_move rfl rfl) ?_
  refine ho_ev rfl rfl rfl (ev_extract rfl rfl rfl) ?_
  refine ho_ev rfl rfl rfl (ev_extract rfl rfl rfl) ?_
  refine ho_ev rfl rfl rfl (ev_assign rfl rfl) ?_
  refine ho_ev rfl rfl rfl (ev_assign rfl rfl) ?_
  refine ho_nil ?_
  refine hx_then ?_
  refine ht_seq ?_
  refine ht_seq ?_
  refine ht_region ?_
  refine ho_eff rfl rfl rfl (eff_call rfl rfl .nil rfl (law_awake08) (by repeat (first | exact Picks.nil | (apply Picks.ro; focus ((repeat constructor); done)) | (apply Picks.cons; focus ((repeat constructor); done)))) (fun _ => by repeat (first | exact App.nil | apply App.cons))) (fun _ => ?_)
  refine ho_ev rfl rfl rfl (ev_not rfl rfl) ?_
  refine ho_ev rfl rfl rfl (ev_move rfl rfl) ?_
  refine ho_evg rfl rfl rfl rfl (ev_move rfl rfl) ?_
  refine ho_neg rfl rfl rfl rfl rfl rfl rfl (fun g1 => ?_) (fun g1 => ?_)
  ·(exfalso; first | omega | (simp at g1; done) | contradiction)
  ·first | (exfalso; first | omega | (simp at g1; done) | contradiction) | skip
   all_goals (
    refine ho_ev rfl rfl rfl (ev_pick_f rfl rfl rfl) ?_
    refine ho_ev rfl rfl rfl (ev_move rfl rfl) ?_
    refine ho_evg rfl rfl rfl rfl (ev_move rfl rfl) ?_
    refine ho_evg rfl rfl rfl rfl (ev_ptrNil rfl Tryd.underlying23 rfl rfl rfl) ?_
    refine ho_ev rfl rfl rfl (ev_pick_f rfl rfl rfl) ?_
    refine ho_nil ?_
    refine hx_then ?_
    refine ht_bool (t := 32) rfl (fun g2 => ?_) (fun g2 => ?_)
    ·first | (exfalso; first | omega | (simp at g2; done) | contradiction) | skip
     all_goals (
      refine ht_then rfl ?_
      refine ht_seq ?_
      refine ht_region ?_
      refine ho_ev rfl rfl rfl (ev_assign rfl rfl) ?_
      refine ho_nil ?_
      refine hx_then ?_
      refine ht_ret ?_
      refine hx_through trivial ?_
      exact hx_ret1 (.inl rfl) rfl rfl () rfl (Ent.cons (by (repeat constructor); done) Ent.nil)
     )
    ·first | (exfalso; first | omega | (simp at g2; done) | contradiction) | skip
     all_goals (
      refine ht_else rfl ?_
      refine ht_skip ?_
      refine hx_then ?_
      refine ht_seq ?_
      refine ht_region ?_
      refine ho_ev rfl rfl rfl (ev_move rfl rfl) ?_
      refine ho_ev rfl rfl rfl (ev_move rfl rfl) ?_
      refine ho_ev rfl rfl rfl (ev_move rfl rfl) ?_
      refine ho_ev rfl rfl rfl (ev_move rfl rfl) ?_
      refine ho_ev rfl rfl rfl (ev_move rfl rfl) ?_
      refine ho_eff rfl rfl rfl (eff_call rfl rfl (.cons rfl (.cons rfl (.cons rfl (.cons rfl (.cons rfl .nil))))) rfl (wal_Open b0 n s k at_ (Dk.Disk.new 100) (by omega) (by omega) (by omega) hk (by decide)) (by repeat (first | exact Picks.nil | (apply Picks.ro; focus ((repeat constructor); done)) | (apply Picks.cons; focus ((repeat constructor); done)))) (fun _ => by repeat (first | exact App.nil | apply App.cons))) (fun y => ?_)
      rw [Wl.found_none rfl, Wl.open_new]
      dsimp only
      rw [Nat.max_self]
      refine ho_ev rfl rfl rfl (ev_move rfl rfl) ?_
      refine ho_ev rfl rfl rfl (ev_extract rfl rfl rfl) ?_
      refine ho_ev rfl rfl rfl (ev_extract rfl rfl rfl) ?_
      refine ho_ev rfl rfl rfl (ev_extract rfl rfl rfl) ?_
      refine ho_ev rfl rfl rfl (ev_assign rfl rfl) ?_
      refine ho_ev rfl rfl rfl (ev_assign rfl rfl) ?_
      refine ho_ev rfl rfl rfl (ev_assign rfl rfl) ?_
      refine ho_nil ?_
      refine hx_then ?_
      refine ht_seq ?_
      refine ht_region ?_
      refine ho_ev rfl rfl rfl (ev_move rfl rfl) ?_
      refine ho_ge rfl rfl rfl rfl rfl rfl (fun g3 => ?_) (fun g3 => ?_)
      ·first | (exfalso; first | omega | (simp at g3; done) | contradiction) | skip
       all_goals (
        refine ho_ev rfl rfl rfl (ev_move rfl rfl) ?_
        refine ho_evg rfl rfl rfl rfl (ev_move rfl rfl) ?_
        refine ho_leg rfl rfl rfl rfl rfl rfl rfl (fun g4 => ?_) (fun g4 => ?_)
        ·first | (exfalso; first | omega | (simp at g4; done) | contradiction) | skip
         all_goals (
          refine ho_ev rfl rfl rfl (ev_pick_t rfl rfl rfl) ?_
          refine ho_ev rfl rfl rfl (ev_move rfl rfl) ?_
          refine ho_evg rfl rfl rfl rfl (ev_move rfl rfl) ?_
          refine ho_geg rfl rfl rfl rfl rfl rfl rfl (fun g5 => ?_) (fun g5 => ?_)
          ·first | (exfalso; first | omega | (simp at g5; done) | contradiction) | skip
           all_goals (
            refine ho_ev rfl rfl rfl (ev_pick_t rfl rfl rfl) ?_
            refine ho_ev rfl rfl rfl (ev_move rfl rfl) ?_
            refine ho_evg rfl rfl rfl rfl (ev_move rfl rfl) ?_
            refine ho_leg rfl rfl rfl rfl rfl rfl rfl (fun g6 => ?_) (fun g6 => ?_)
            ·first | (exfalso; first | omega | (simp at g6; done) | contradiction) | skip
             all_goals (
              refine ho_ev rfl rfl rfl (ev_pick_t rfl rfl rfl) ?_
              refine ho_ev rfl rfl rfl (ev_move rfl rfl) ?_
              refine ho_evg rfl rfl rfl rfl (ev_move rfl rfl) ?_
              refine ho_geg rfl rfl rfl rfl rfl rfl rfl (fun g7 => ?_) (fun g7 => ?_)
              ·first | (exfalso; first | omega | (simp at g7; done) | contradiction) | skip
               all_goals (
                refine ho_ev rfl rfl rfl (ev_pick_t rfl rfl rfl) ?_
                refine ho_ev rfl rfl rfl (ev_move rfl rfl) ?_
                refine ho_evg rfl rfl rfl rfl (ev_move rfl rfl) ?_
                refine ho_evg rfl rfl rfl rfl (ev_move rfl rfl) ?_
                refine ho_evg rfl rfl rfl rfl (ev_move rfl rfl) ?_
                refine ho_evg rfl rfl rfl rfl (ev_mul (r := (n : Int) * (s : Int)) rfl rfl rfl (by have h0 := mul_small (n := (n : Int)) (s := (s : Int)) (by omega) (by omega) (by omega) (by omega); exact in_i64 (by omega))) ?_
                refine ho_evg rfl rfl rfl rfl (ev_sub (r := 65536 - (n : Int) * (s : Int)) rfl rfl rfl (by have h0 := mul_small (n := (n : Int)) (s := (s : Int)) (by omega) (by omega) (by omega) (by omega); exact in_i64 (by omega))) ?_
                refine ho_leg rfl rfl rfl rfl rfl rfl rfl (fun g8 => ?_) (fun g8 => ?_)
                ·first | (exfalso; first | omega | (simp at g8; done) | contradiction) | skip
                 all_goals (
                  refine ho_ev rfl rfl rfl (ev_pick_t rfl rfl rfl) ?_
                  refine ho_ev rfl rfl rfl (ev_assign rfl rfl) ?_
                  refine ho_nil ?_
                  refine hx_then ?_
                  refine ht_seq ?_
                  refine ht_seq ?_
                  refine ht_region ?_
                  refine ho_ev rfl rfl rfl (ev_move rfl rfl) ?_
                  refine ho_ev rfl rfl rfl (ev_not rfl rfl) ?_
                  refine ho_nil ?_
                  refine hx_then ?_
                  refine ht_else rfl ?_
                  refine ht_skip ?_
                  refine hx_then ?_
                  refine ht_seq ?_
                  refine ht_region ?_
                  refine ho_ev rfl rfl rfl (ev_move rfl rfl) ?_
                  refine ho_ev rfl rfl rfl (ev_ptrNil rfl Tryd.underlying63 rfl rfl rfl) ?_
                  refine ho_ev rfl rfl rfl (ev_move rfl rfl) ?_
                  refine ho_bool (t := 84) rfl (fun g9 => ?_) (fun g9 => ?_)
                  ·first | (exfalso; first | omega | (simp at g9; done) | contradiction) | skip
                   all_goals (
                    refine ho_evg rfl rfl rfl rfl (ev_move rfl rfl) ?_
                    refine ho_evg rfl rfl rfl rfl (ev_lenSl rfl Tryd.underlying64 rfl) ?_
                    refine ho_eqg rfl rfl rfl rfl rfl rfl rfl (fun g10 => ?_) (fun g10 => ?_)
                    ·first | (exfalso; first | omega | (simp at g10; done) | contradiction) | skip
                     all_goals (
                      refine ho_ev rfl rfl rfl (ev_pick_t rfl rfl rfl) ?_
                      refine ho_ev rfl rfl rfl (ev_move rfl rfl) ?_
                      refine ho_evg rfl rfl rfl rfl (ev_move rfl rfl) ?_
                      refine ho_eqg rfl rfl rfl rfl rfl rfl rfl (fun g11 => ?_) (fun g11 => ?_)
                      ·first | (exfalso; first | omega | (simp at g11; done) | contradiction) | skip
                       all_goals (
                        refine ho_ev rfl rfl rfl (ev_pick_t rfl rfl rfl) ?_
                        refine ho_ev rfl rfl rfl (ev_move rfl rfl) ?_
                        refine ho_evg rfl rfl rfl rfl (ev_move rfl rfl) ?_
                        refine ho_effg rfl rfl rfl rfl (eff_call rfl rfl (.cons rfl .nil) rfl (wal_Last y.1 (⟨b0, at_, n, s, [], [], k, k⟩ : LG)) (by repeat (first | exact Picks.nil | (apply Picks.ro; focus ((repeat constructor); done)) | (apply Picks.cons; focus ((repeat constructor); done)))) (fun _ => by repeat (first | exact App.nil | apply App.cons))) (fun _ => ?_)
                        dsimp only
                        refine ho_evg rfl rfl rfl rfl (ev_move rfl rfl) ?_
                        refine ho_eqg rfl rfl rfl rfl rfl rfl rfl (fun g12 => ?_) (fun g12 => ?_)
                        ·first | (exfalso; first | omega | (simp at g12; done) | contradiction) | skip
                         all_goals (
                          refine ho_ev rfl rfl rfl (ev_pick_t rfl rfl rfl) ?_
                          refine ho_ev rfl rfl rfl (ev_move rfl rfl) ?_
                          refine ho_evg rfl rfl rfl rfl (ev_move rfl rfl) ?_
                          refine ho_effg rfl rfl rfl rfl (eff_call rfl rfl (.cons rfl .nil) rfl (wal_Live y.1 (⟨b0, at_, n, s, [], [], k, k⟩ : LG)) (by repeat (first | exact Picks.nil | (apply Picks.ro; focus ((repeat constructor); done)) | (apply Picks.cons; focus ((repeat constructor); done)))) (fun _ => by repeat (first | exact App.nil | apply App.cons))) (fun _ => ?_)
                          dsimp only
                          refine ho_eqg rfl rfl rfl rfl rfl rfl rfl (fun g13 => ?_) (fun g13 => ?_)
                          ·first | (exfalso; first | omega | (simp at g13; done) | contradiction) | skip
                           all_goals (
                            refine ho_ev rfl rfl rfl (ev_pick_t rfl rfl rfl) ?_
                            refine ho_ev rfl rfl rfl (ev_move rfl rfl) ?_
                            refine ho_evg rfl rfl rfl rfl (ev_move rfl rfl) ?_
                            refine ho_effg rfl rfl rfl rfl (eff_call rfl rfl (.cons rfl .nil) rfl (wal_Synced y.1 (⟨b0, at_, n, s, [], [], k, k⟩ : LG)) (by repeat (first | exact Picks.nil | (apply Picks.ro; focus ((repeat constructor); done)) | (apply Picks.cons; focus ((repeat constructor); done)))) (fun _ => by repeat (first | exact App.nil | apply App.cons))) (fun _ => ?_)
                            dsimp only
                            refine ho_evg rfl rfl rfl rfl (ev_move rfl rfl) ?_
                            refine ho_eqg rfl rfl rfl rfl rfl rfl rfl (fun g14 => ?_) (fun g14 => ?_)
                            ·first | (exfalso; first | omega | (simp at g14; done) | contradiction) | skip
                             all_goals (
                              refine ho_ev rfl rfl rfl (ev_pick_t rfl rfl rfl) ?_
                              refine ho_ev rfl rfl rfl (ev_move rfl rfl) ?_
                              refine ho_evg rfl rfl rfl rfl (ev_move rfl rfl) ?_
                              refine ho_effg rfl rfl rfl rfl (eff_call rfl rfl (.cons rfl .nil) rfl (disk_Used b0 (Dk.Disk.new 100)) (by repeat (first | exact Picks.nil | (apply Picks.ro; focus ((repeat constructor); done)) | (apply Picks.cons; focus ((repeat constructor); done)))) (fun _ => by repeat (first | exact App.nil | apply App.cons))) (fun _ => ?_)
                              rw [show Dk.card (Dk.Disk.new 100).view = 0 from Wl.card_none]
                              refine ho_eqg rfl rfl rfl rfl rfl rfl rfl (fun g15 => ?_) (fun g15 => ?_)
                              ·first | (exfalso; first | omega | (simp at g15; done) | contradiction) | skip
                               all_goals (
                                refine ho_ev rfl rfl rfl (ev_pick_t rfl rfl rfl) ?_
                                refine ho_ev rfl rfl rfl (ev_assign rfl rfl) ?_
                                refine ho_nil ?_
                                refine hx_then ?_
                                refine ht_ret ?_
                                exact hx_ret1 (.inl rfl) rfl rfl () rfl (Ent.cons (by (repeat constructor); done) Ent.nil)
                               )
                              ·(exfalso; first | omega | (simp at g15; done) | contradiction)
                             )
                            ·(exfalso; first | omega | (simp at g14; done) | contradiction)
                           )
                          ·(exfalso; first | omega | (simp at g13; done) | contradiction)
                         )
                        ·(exfalso; first | omega | (simp at g12; done) | contradiction)
                       )
                      ·first | (exfalso; first | omega | (simp at g11; done) | contradiction) | skip
                       all_goals (
                        refine ho_ev rfl rfl rfl (ev_pick_t rfl rfl rfl) ?_
                        refine ho_ev rfl rfl rfl (ev_move rfl rfl) ?_
                        refine ho_pass rfl rfl rfl rfl ?_
                        refine ho_pass rfl rfl rfl rfl ?_
                        refine ho_pass rfl rfl rfl rfl ?_
                        refine ho_pass rfl rfl rfl rfl ?_
                        refine ho_ev rfl rfl rfl (ev_pick_f rfl rfl rfl) ?_
                        refine ho_ev rfl rfl rfl (ev_move rfl rfl) ?_
                        refine ho_pass rfl rfl rfl rfl ?_
                        refine ho_pass rfl rfl rfl rfl ?_
                        refine ho_pass rfl rfl rfl rfl ?_
                        refine ho_ev rfl rfl rfl (ev_pick_f rfl rfl rfl) ?_
                        refine ho_ev rfl rfl rfl (ev_move rfl rfl) ?_
                        refine ho_pass rfl rfl rfl rfl ?_
                        refine ho_pass rfl rfl rfl rfl ?_
                        refine ho_pass rfl rfl rfl rfl ?_
                        refine ho_pass rfl rfl rfl rfl ?_
                        refine ho_ev rfl rfl rfl (ev_pick_f rfl rfl rfl) ?_
                        refine ho_ev rfl rfl rfl (ev_move rfl rfl) ?_
                        refine ho_pass rfl rfl rfl rfl ?_
                        refine ho_pass rfl rfl rfl rfl ?_
                        refine ho_pass rfl rfl rfl rfl ?_
                        refine ho_ev rfl rfl rfl (ev_pick_f rfl rfl rfl) ?_
                        refine ho_ev rfl rfl rfl (ev_assign rfl rfl) ?_
                        refine ho_nil ?_
                        refine hx_then ?_
                        refine ht_ret ?_
                        exact hx_ret1 (.inl rfl) rfl rfl () rfl (Ent.cons (by (repeat constructor); done) Ent.nil)
                       )
                     )
                    ·(exfalso; first | omega | (simp at g10; done) | contradiction)
                   )
                  ·first | (exfalso; first | omega | (simp at g9; done) | contradiction) | skip
                   all_goals (
                    refine ho_pass rfl rfl rfl rfl ?_
                    refine ho_pass rfl rfl rfl rfl ?_
                    refine ho_pass rfl rfl rfl rfl ?_
                    refine ho_ev rfl rfl rfl (ev_pick_f rfl rfl rfl) ?_
                    refine ho_ev rfl rfl rfl (ev_move rfl rfl) ?_
                    refine ho_pass rfl rfl rfl rfl ?_
                    refine ho_pass rfl rfl rfl rfl ?_
                    refine ho_ev rfl rfl rfl (ev_pick_f rfl rfl rfl) ?_
                    refine ho_ev rfl rfl rfl (ev_move rfl rfl) ?_
                    refine ho_pass rfl rfl rfl rfl ?_
                    refine ho_pass rfl rfl rfl rfl ?_
                    refine ho_pass rfl rfl rfl rfl ?_
                    refine ho_pass rfl rfl rfl rfl ?_
                    refine ho_ev rfl rfl rfl (ev_pick_f rfl rfl rfl) ?_
                    refine ho_ev rfl rfl rfl (ev_move rfl rfl) ?_
                    refine ho_pass rfl rfl rfl rfl ?_
                    refine ho_pass rfl rfl rfl rfl ?_
                    refine ho_pass rfl rfl rfl rfl ?_
                    refine ho_ev rfl rfl rfl (ev_pick_f rfl rfl rfl) ?_
                    refine ho_ev rfl rfl rfl (ev_move rfl rfl) ?_
                    refine ho_pass rfl rfl rfl rfl ?_
                    refine ho_pass rfl rfl rfl rfl ?_
                    refine ho_pass rfl rfl rfl rfl ?_
                    refine ho_pass rfl rfl rfl rfl ?_
                    refine ho_ev rfl rfl rfl (ev_pick_f rfl rfl rfl) ?_
                    refine ho_ev rfl rfl rfl (ev_move rfl rfl) ?_
                    refine ho_pass rfl rfl rfl rfl ?_
                    refine ho_pass rfl rfl rfl rfl ?_
                    refine ho_pass rfl rfl rfl rfl ?_
                    refine ho_ev rfl rfl rfl (ev_pick_f rfl rfl rfl) ?_
                    refine ho_ev rfl rfl rfl (ev_assign rfl rfl) ?_
                    refine ho_nil ?_
                    refine hx_then ?_
                    refine ht_ret ?_
                    exact hx_ret1 (.inl rfl) rfl rfl () rfl (Ent.cons (by (repeat constructor); done) Ent.nil)
                   )
                 )
                ·(exfalso; first | omega | (simp at g8; done) | contradiction)
               )
              ·(exfalso; first | omega | (simp at g7; done) | contradiction)
             )
            ·(exfalso; first | omega | (simp at g6; done) | contradiction)
           )
          ·(exfalso; first | omega | (simp at g5; done) | contradiction)
         )
        ·(exfalso; first | omega | (simp at g4; done) | contradiction)
       )
      ·(exfalso; first | omega | (simp at g3; done) | contradiction)
     )
   )
 ·skip
  refine ht_seq ?_
  refine ht_region ?_
  refine ho_eff rfl rfl rfl (eff_boxA rfl rfl) (fun b3 => ?_)
  refine ho_ev rfl rfl rfl (ev_assign rfl rfl) ?_
  refine ho_nil ?_
  refine hx_then ?_
  refine ht_seq ?_
  refine ht_draw (.op 0 (.op 1 (.op 2 (.op 3 (.op 4 (.op 5 .done)))))) [] Tryd.mixed rfl ?_
  refine hd_ev rfl rfl rfl rfl (EvG.of rfl (by first | exact ev_fieldAddr0 rfl Tryd.fld62_1 rfl | exact ev_fieldAddr rfl Tryd.fld62_1 rfl)) ?_
  refine hd_ev rfl rfl rfl rfl (EvG.of rfl (ev_load rfl Tryd.underlying3 rfl rfl (by first | exact cell_pt (by (with_reducible repeat constructor); done) rfl | exact cell_ro (by (with_reducible repeat constructor); done) rfl))) ?_
  refine hd_ev rfl rfl rfl rfl (EvG.of rfl (by first | exact ev_fieldAddr0 rfl Tryd.fld62_2 rfl | exact ev_fieldAddr rfl Tryd.fld62_2 rfl)) ?_
  refine hd_ev rfl rfl rfl rfl (EvG.of rfl (ev_load rfl Tryd.underlying3 rfl rfl (by first | exact cell_pt (by (with_reducible repeat constructor); done) rfl | exact cell_ro (by (with_reducible repeat constructor); done) rfl))) ?_
  refine hd_ev rfl rfl rfl rfl (EvG.of rfl (ev_assign rfl rfl)) ?_
  refine hd_ev rfl rfl rfl rfl (EvG.of rfl (ev_assign rfl rfl)) ?_
  refine hd_nil ?_
  refine hx_then ?_
  refine ht_seq ?_
  refine ht_region ?_
  refine ho_eff rfl rfl rfl (eff_call rfl rfl (.cons rfl .nil) rfl (disk_New 100 (by omega)) (by repeat (first | exact Picks.nil | (apply Picks.ro; focus ((repeat constructor); done)) | (apply Picks.cons; focus ((repeat constructor); done)))) (fun _ => by repeat (first | exact App.nil | apply App.cons))) (fun b0 => ?_)
  refine ho_ev rfl rfl rfl (ev_move rfl rfl) ?_
  refine ho_ev rfl rfl rfl (ev_extract rfl rfl rfl) ?_
  refine ho_ev rfl rfl rfl (ev_extract rfl rfl rfl) ?_
  refine ho_ev rfl rfl rfl (ev_assign rfl rfl) ?_
  refine ho_ev rfl rfl rfl (ev_assign rfl rfl) ?_
  refine ho_nil ?_
  refine hx_then ?_
  refine ht_seq ?_
  refine ht_seq ?_
  refine ht_region ?_
  refine ho_eff rfl rfl rfl (eff_call rfl rfl .nil rfl (law_awake08) (by repeat (first | exact Picks.nil | (apply Picks.ro; focus ((repeat constructor); done)) | (apply Picks.cons; focus ((repeat constructor); done)))) (fun _ => by repeat (first | exact App.nil | apply App.cons))) (fun _ => ?_)
  refine ho_ev rfl rfl rfl (ev_not rfl rfl) ?_
  refine ho_ev rfl rfl rfl (ev_move rfl rfl) ?_
  refine ho_evg rfl rfl rfl rfl (ev_move rfl rfl) ?_
  refine ho_neg rfl rfl rfl rfl rfl rfl rfl (fun g1 => ?_) (fun g1 => ?_)
  ·(exfalso; first | omega | (simp at g1; done) | contradiction)
  ·first | (exfalso; first | omega | (simp at g1; done) | contradiction) | skip
   all_goals (
    refine ho_ev rfl rfl rfl (ev_pick_f rfl rfl rfl) ?_
    refine ho_ev rfl rfl rfl (ev_move rfl rfl) ?_
    refine ho_evg rfl rfl rfl rfl (ev_move rfl rfl) ?_
    refine ho_evg rfl rfl rfl rfl (ev_ptrNil rfl Tryd.underlying23 rfl rfl rfl) ?_
    refine ho_ev rfl rfl rfl (ev_pick_f rfl rfl rfl) ?_
    refine ho_nil ?_
    refine hx_then ?_
    refine ht_bool (t := 32) rfl (fun g2 => ?_) (fun g2 => ?_)
    ·first | (exfalso; first | omega | (simp at g2; done) | contradiction) | skip
     all_goals (
      refine ht_then rfl ?_
      refine ht_seq ?_
      refine ht_region ?_
      refine ho_ev rfl rfl rfl (ev_assign rfl rfl) ?_
      refine ho_nil ?_
      refine hx_then ?_
      refine ht_ret ?_
      refine hx_through trivial ?_
      exact hx_ret1 (.inl rfl) rfl rfl () rfl (Ent.cons (by (repeat constructor); done) Ent.nil)
     )
    ·first | (exfalso; first | omega | (simp at g2; done) | contradiction) | skip
     all_goals (
      refine ht_else rfl ?_
      refine ht_skip ?_
      refine hx_then ?_
      refine ht_seq ?_
      refine ht_region ?_
      refine ho_ev rfl rfl rfl (ev_move rfl rfl) ?_
      refine ho_ev rfl rfl rfl (ev_move rfl rfl) ?_
      refine ho_ev rfl rfl rfl (ev_move rfl rfl) ?_
      refine ho_ev rfl rfl rfl (ev_move rfl rfl) ?_
      refine ho_ev rfl rfl rfl (ev_move rfl rfl) ?_
      refine ho_eff rfl rfl rfl (eff_call rfl rfl (.cons rfl (.cons rfl (.cons rfl (.cons rfl (.cons rfl .nil))))) rfl (wal_Open_no b0 at_ n s k hpl) (by repeat (first | exact Picks.nil | (apply Picks.ro; focus ((repeat constructor); done)) | (apply Picks.cons; focus ((repeat constructor); done)))) (fun _ => by repeat (first | exact App.nil | apply App.cons))) (fun _ => ?_)
      refine ho_ev rfl rfl rfl (ev_move rfl rfl) ?_
      refine ho_ev rfl rfl rfl (ev_extract rfl rfl rfl) ?_
      refine ho_ev rfl rfl rfl (ev_extract rfl rfl rfl) ?_
      refine ho_ev rfl rfl rfl (ev_extract rfl rfl rfl) ?_
      refine ho_ev rfl rfl rfl (ev_assign rfl rfl) ?_
      refine ho_ev rfl rfl rfl (ev_assign rfl rfl) ?_
      refine ho_ev rfl rfl rfl (ev_assign rfl rfl) ?_
      refine ho_nil ?_
      refine hx_then ?_
      refine ht_seq ?_
      refine ht_region ?_
      refine ho_ev rfl rfl rfl (ev_move rfl rfl) ?_
      refine ho_ge rfl rfl rfl rfl rfl rfl (fun g3 => ?_) (fun g3 => ?_)
      ·first | (exfalso; first | omega | (simp at g3; done) | contradiction) | skip
       all_goals (
        refine ho_ev rfl rfl rfl (ev_move rfl rfl) ?_
        refine ho_evg rfl rfl rfl rfl (ev_move rfl rfl) ?_
        refine ho_leg rfl rfl rfl rfl rfl rfl rfl (fun g4 => ?_) (fun g4 => ?_)
        ·first | (exfalso; first | omega | (simp at g4; done) | contradiction) | skip
         all_goals (
          refine ho_ev rfl rfl rfl (ev_pick_t rfl rfl rfl) ?_
          refine ho_ev rfl rfl rfl (ev_move rfl rfl) ?_
          refine ho_evg rfl rfl rfl rfl (ev_move rfl rfl) ?_
          refine ho_geg rfl rfl rfl rfl rfl rfl rfl (fun g5 => ?_) (fun g5 => ?_)
          ·first | (exfalso; first | omega | (simp at g5; done) | contradiction) | skip
           all_goals (
            refine ho_ev rfl rfl rfl (ev_pick_t rfl rfl rfl) ?_
            refine ho_ev rfl rfl rfl (ev_move rfl rfl) ?_
            refine ho_evg rfl rfl rfl rfl (ev_move rfl rfl) ?_
            refine ho_leg rfl rfl rfl rfl rfl rfl rfl (fun g6 => ?_) (fun g6 => ?_)
            ·first | (exfalso; first | omega | (simp at g6; done) | contradiction) | skip
             all_goals (
              refine ho_ev rfl rfl rfl (ev_pick_t rfl rfl rfl) ?_
              refine ho_ev rfl rfl rfl (ev_move rfl rfl) ?_
              refine ho_evg rfl rfl rfl rfl (ev_move rfl rfl) ?_
              refine ho_geg rfl rfl rfl rfl rfl rfl rfl (fun g7 => ?_) (fun g7 => ?_)
              ·first | (exfalso; first | omega | (simp at g7; done) | contradiction) | skip
               all_goals (
                refine ho_ev rfl rfl rfl (ev_pick_t rfl rfl rfl) ?_
                refine ho_ev rfl rfl rfl (ev_move rfl rfl) ?_
                refine ho_evg rfl rfl rfl rfl (ev_move rfl rfl) ?_
                refine ho_evg rfl rfl rfl rfl (ev_move rfl rfl) ?_
                refine ho_evg rfl rfl rfl rfl (ev_move rfl rfl) ?_
                refine ho_evg rfl rfl rfl rfl (ev_mul (r := n * s) rfl rfl rfl (by have h0 := mul_small (n := n) (s := s) (by omega) (by omega) (by omega) (by omega); exact in_i64 (by omega))) ?_
                refine ho_evg rfl rfl rfl rfl (ev_sub (r := 65536 - n * s) rfl rfl rfl (by have h0 := mul_small (n := n) (s := s) (by omega) (by omega) (by omega) (by omega); exact in_i64 (by omega))) ?_
                refine ho_leg rfl rfl rfl rfl rfl rfl rfl (fun g8 => ?_) (fun g8 => ?_)
                ·(exfalso; first | omega | (simp at g8; done) | contradiction)
                ·first | (exfalso; first | omega | (simp at g8; done) | contradiction) | skip
                 all_goals (
                  refine ho_ev rfl rfl rfl (ev_pick_t rfl rfl rfl) ?_
                  refine ho_ev rfl rfl rfl (ev_assign rfl rfl) ?_
                  refine ho_nil ?_
                  refine hx_then ?_
                  refine ht_seq ?_
                  refine ht_seq ?_
                  refine ht_region ?_
                  refine ho_ev rfl rfl rfl (ev_move rfl rfl) ?_
                  refine ho_ev rfl rfl rfl (ev_not rfl rfl) ?_
                  refine ho_nil ?_
                  refine hx_then ?_
                  refine ht_then rfl ?_
                  refine ht_seq ?_
                  refine ht_region ?_
                  refine ho_ev rfl rfl rfl (ev_move rfl rfl) ?_
                  refine ho_ev rfl rfl rfl (ev_ptrNil rfl Tryd.underlying63 rfl rfl rfl) ?_
                  refine ho_ev rfl rfl rfl (ev_move rfl rfl) ?_
                  refine ho_bool (t := 73) rfl (fun g9 => ?_) (fun g9 => ?_)
                  ·first | (exfalso; first | omega | (simp at g9; done) | contradiction) | skip
                   all_goals (
                    refine ho_evg rfl rfl rfl rfl (ev_move rfl rfl) ?_
                    refine ho_evg rfl rfl rfl rfl (ev_lenSl rfl Tryd.underlying64 rfl) ?_
                    refine ho_eqg rfl rfl rfl rfl rfl rfl rfl (fun g10 => ?_) (fun g10 => ?_)
                    ·first | (exfalso; first | omega | (simp at g10; done) | contradiction) | skip
                     all_goals (
                      refine ho_ev rfl rfl rfl (ev_pick_t rfl rfl rfl) ?_
                      refine ho_ev rfl rfl rfl (ev_move rfl rfl) ?_
                      refine ho_evg rfl rfl rfl rfl (ev_move rfl rfl) ?_
                      refine ho_eqg rfl rfl rfl rfl rfl rfl rfl (fun g11 => ?_) (fun g11 => ?_)
                      ·first | (exfalso; first | omega | (simp at g11; done) | contradiction) | skip
                       all_goals (
                        refine ho_ev rfl rfl rfl (ev_pick_t rfl rfl rfl) ?_
                        refine ho_ev rfl rfl rfl (ev_assign rfl rfl) ?_
                        refine ho_nil ?_
                        refine hx_then ?_
                        refine ht_ret ?_
                        refine hx_through trivial ?_
                        exact hx_ret1 (.inl rfl) rfl rfl () rfl (Ent.cons (by (repeat constructor); done) Ent.nil)
                       )
                      ·(exfalso; first | omega | (simp at g11; done) | contradiction)
                     )
                    ·(exfalso; first | omega | (simp at g10; done) | contradiction)
                   )
                  ·first | (exfalso; first | omega | (simp at g9; done) | contradiction) | skip
                   all_goals (
                    refine ho_pass rfl rfl rfl rfl ?_
                    refine ho_pass rfl rfl rfl rfl ?_
                    refine ho_pass rfl rfl rfl rfl ?_
                    refine ho_ev rfl rfl rfl (ev_pick_f rfl rfl rfl) ?_
                    refine ho_ev rfl rfl rfl (ev_move rfl rfl) ?_
                    refine ho_pass rfl rfl rfl rfl ?_
                    refine ho_pass rfl rfl rfl rfl ?_
                    refine ho_ev rfl rfl rfl (ev_pick_f rfl rfl rfl) ?_
                    refine ho_ev rfl rfl rfl (ev_assign rfl rfl) ?_
                    refine ho_nil ?_
                    refine hx_then ?_
                    refine ht_ret ?_
                    refine hx_through trivial ?_
                    exact hx_ret1 (.inl rfl) rfl rfl () rfl (Ent.cons (by (repeat constructor); done) Ent.nil)
                   )
                 )
               )
              ·first | (exfalso; first | omega | (simp at g7; done) | contradiction) | skip
               all_goals (
                refine ho_ev rfl rfl rfl (ev_pick_t rfl rfl rfl) ?_
                refine ho_ev rfl rfl rfl (ev_move rfl rfl) ?_
                refine ho_pass rfl rfl rfl rfl ?_
                refine ho_pass rfl rfl rfl rfl ?_
                refine ho_pass rfl rfl rfl rfl ?_
                refine ho_pass rfl rfl rfl rfl ?_
                refine ho_pass rfl rfl rfl rfl ?_
                refine ho_pass rfl rfl rfl rfl ?_
                refine ho_ev rfl rfl rfl (ev_pick_f rfl rfl rfl) ?_
                refine ho_ev rfl rfl rfl (ev_assign rfl rfl) ?_
                refine ho_nil ?_
                refine hx_then ?_
                refine ht_seq ?_
                refine ht_seq ?_
                refine ht_region ?_
                refine ho_ev rfl rfl rfl (ev_move rfl rfl) ?_
                refine ho_ev rfl rfl rfl (ev_not rfl rfl) ?_
                refine ho_nil ?_
                refine hx_then ?_
                refine ht_then rfl ?_
                refine ht_seq ?_
                refine ht_region ?_
                refine ho_ev rfl rfl rfl (ev_move rfl rfl) ?_
                refine ho_ev rfl rfl rfl (ev_ptrNil rfl Tryd.underlying63 rfl rfl rfl) ?_
                refine ho_ev rfl rfl rfl (ev_move rfl rfl) ?_
                refine ho_bool (t := 73) rfl (fun g12 => ?_) (fun g12 => ?_)
                ·first | (exfalso; first | omega | (simp at g12; done) | contradiction) | skip
                 all_goals (
                  refine ho_evg rfl rfl rfl rfl (ev_move rfl rfl) ?_
                  refine ho_evg rfl rfl rfl rfl (ev_lenSl rfl Tryd.underlying64 rfl) ?_
                  refine ho_eqg rfl rfl rfl rfl rfl rfl rfl (fun g13 => ?_) (fun g13 => ?_)
                  ·first | (exfalso; first | omega | (simp at g13; done) | contradiction) | skip
                   all_goals (
                    refine ho_ev rfl rfl rfl (ev_pick_t rfl rfl rfl) ?_
                    refine ho_ev rfl rfl rfl (ev_move rfl rfl) ?_
                    refine ho_evg rfl rfl rfl rfl (ev_move rfl rfl) ?_
                    refine ho_eqg rfl rfl rfl rfl rfl rfl rfl (fun g14 => ?_) (fun g14 => ?_)
                    ·first | (exfalso; first | omega | (simp at g14; done) | contradiction) | skip
                     all_goals (
                      refine ho_ev rfl rfl rfl (ev_pick_t rfl rfl rfl) ?_
                      refine ho_ev rfl rfl rfl (ev_assign rfl rfl) ?_
                      refine ho_nil ?_
                      refine hx_then ?_
                      refine ht_ret ?_
                      refine hx_through trivial ?_
                      exact hx_ret1 (.inl rfl) rfl rfl () rfl (Ent.cons (by (repeat constructor); done) Ent.nil)
                     )
                    ·(exfalso; first | omega | (simp at g14; done) | contradiction)
                   )
                  ·(exfalso; first | omega | (simp at g13; done) | contradiction)
                 )
                ·first | (exfalso; first | omega | (simp at g12; done) | contradiction) | skip
                 all_goals (
                  refine ho_pass rfl rfl rfl rfl ?_
                  refine ho_pass rfl rfl rfl rfl ?_
                  refine ho_pass rfl rfl rfl rfl ?_
                  refine ho_ev rfl rfl rfl (ev_pick_f rfl rfl rfl) ?_
                  refine ho_ev rfl rfl rfl (ev_move rfl rfl) ?_
                  refine ho_pass rfl rfl rfl rfl ?_
                  refine ho_pass rfl rfl rfl rfl ?_
                  refine ho_ev rfl rfl rfl (ev_pick_f rfl rfl rfl) ?_
                  refine ho_ev rfl rfl rfl (ev_assign rfl rfl) ?_
                  refine ho_nil ?_
                  refine hx_then ?_
                  refine ht_ret ?_
                  refine hx_through trivial ?_
                  exact hx_ret1 (.inl rfl) rfl rfl () rfl (Ent.cons (by (repeat constructor); done) Ent.nil)
                 )
               )
             )
            ·first | (exfalso; first | omega | (simp at g6; done) | contradiction) | skip
             all_goals (
              refine ho_ev rfl rfl rfl (ev_pick_t rfl rfl rfl) ?_
              refine ho_ev rfl rfl rfl (ev_move rfl rfl) ?_
              refine ho_pass rfl rfl rfl rfl ?_
              refine ho_pass rfl rfl rfl rfl ?_
              refine ho_ev rfl rfl rfl (ev_pick_f rfl rfl rfl) ?_
              refine ho_ev rfl rfl rfl (ev_move rfl rfl) ?_
              refine ho_pass rfl rfl rfl rfl ?_
              refine ho_pass rfl rfl rfl rfl ?_
              refine ho_pass rfl rfl rfl rfl ?_
              refine ho_pass rfl rfl rfl rfl ?_
              refine ho_pass rfl rfl rfl rfl ?_
              refine ho_pass rfl rfl rfl rfl ?_
              refine ho_ev rfl rfl rfl (ev_pick_f rfl rfl rfl) ?_
              refine ho_ev rfl rfl rfl (ev_assign rfl rfl) ?_
              refine ho_nil ?_
              refine hx_then ?_
              refine ht_seq ?_
              refine ht_seq ?_
              refine ht_region ?_
              refine ho_ev rfl rfl rfl (ev_move rfl rfl) ?_
              refine ho_ev rfl rfl rfl (ev_not rfl rfl) ?_
              refine ho_nil ?_
              refine hx_then ?_
              refine ht_then rfl ?_
              refine ht_seq ?_
              refine ht_region ?_
              refine ho_ev rfl rfl rfl (ev_move rfl rfl) ?_
              refine ho_ev rfl rfl rfl (ev_ptrNil rfl Tryd.underlying63 rfl rfl rfl) ?_
              refine ho_ev rfl rfl rfl (ev_move rfl rfl) ?_
              refine ho_bool (t := 73) rfl (fun g15 => ?_) (fun g15 => ?_)
              ·first | (exfalso; first | omega | (simp at g15; done) | contradiction) | skip
               all_goals (
                refine ho_evg rfl rfl rfl rfl (ev_move rfl rfl) ?_
                refine ho_evg rfl rfl rfl rfl (ev_lenSl rfl Tryd.underlying64 rfl) ?_
                refine ho_eqg rfl rfl rfl rfl rfl rfl rfl (fun g16 => ?_) (fun g16 => ?_)
                ·first | (exfalso; first | omega | (simp at g16; done) | contradiction) | skip
                 all_goals (
                  refine ho_ev rfl rfl rfl (ev_pick_t rfl rfl rfl) ?_
                  refine ho_ev rfl rfl rfl (ev_move rfl rfl) ?_
                  refine ho_evg rfl rfl rfl rfl (ev_move rfl rfl) ?_
                  refine ho_eqg rfl rfl rfl rfl rfl rfl rfl (fun g17 => ?_) (fun g17 => ?_)
                  ·first | (exfalso; first | omega | (simp at g17; done) | contradiction) | skip
                   all_goals (
                    refine ho_ev rfl rfl rfl (ev_pick_t rfl rfl rfl) ?_
                    refine ho_ev rfl rfl rfl (ev_assign rfl rfl) ?_
                    refine ho_nil ?_
                    refine hx_then ?_
                    refine ht_ret ?_
                    refine hx_through trivial ?_
                    exact hx_ret1 (.inl rfl) rfl rfl () rfl (Ent.cons (by (repeat constructor); done) Ent.nil)
                   )
                  ·(exfalso; first | omega | (simp at g17; done) | contradiction)
                 )
                ·(exfalso; first | omega | (simp at g16; done) | contradiction)
               )
              ·first | (exfalso; first | omega | (simp at g15; done) | contradiction) | skip
               all_goals (
                refine ho_pass rfl rfl rfl rfl ?_
                refine ho_pass rfl rfl rfl rfl ?_
                refine ho_pass rfl rfl rfl rfl ?_
                refine ho_ev rfl rfl rfl (ev_pick_f rfl rfl rfl) ?_
                refine ho_ev rfl rfl rfl (ev_move rfl rfl) ?_
                refine ho_pass rfl rfl rfl rfl ?_
                refine ho_pass rfl rfl rfl rfl ?_
                refine ho_ev rfl rfl rfl (ev_pick_f rfl rfl rfl) ?_
                refine ho_ev rfl rfl rfl (ev_assign rfl rfl) ?_
                refine ho_nil ?_
                refine hx_then ?_
                refine ht_ret ?_
                refine hx_through trivial ?_
                exact hx_ret1 (.inl rfl) rfl rfl () rfl (Ent.cons (by (repeat constructor); done) Ent.nil)
               )
             )
           )
          ·first | (exfalso; first | omega | (simp at g5; done) | contradiction) | skip
           all_goals (
            refine ho_ev rfl rfl rfl (ev_pick_t rfl rfl rfl) ?_
            refine ho_ev rfl rfl rfl (ev_move rfl rfl) ?_
            refine ho_pass rfl rfl rfl rfl ?_
            refine ho_pass rfl rfl rfl rfl ?_
            refine ho_ev rfl rfl rfl (ev_pick_f rfl rfl rfl) ?_
            refine ho_ev rfl rfl rfl (ev_move rfl rfl) ?_
            refine ho_pass rfl rfl rfl rfl ?_
            refine ho_pass rfl rfl rfl rfl ?_
            refine ho_ev rfl rfl rfl (ev_pick_f rfl rfl rfl) ?_
            refine ho_ev rfl rfl rfl (ev_move rfl rfl) ?_
            refine ho_pass rfl rfl rfl rfl ?_
            refine ho_pass rfl rfl rfl rfl ?_
            refine ho_pass rfl rfl rfl rfl ?_
            refine ho_pass rfl rfl rfl rfl ?_
            refine ho_pass rfl rfl rfl rfl ?_
            refine ho_pass rfl rfl rfl rfl ?_
            refine ho_ev rfl rfl rfl (ev_pick_f rfl rfl rfl) ?_
            refine ho_ev rfl rfl rfl (ev_assign rfl rfl) ?_
            refine ho_nil ?_
            refine hx_then ?_
            refine ht_seq ?_
            refine ht_seq ?_
            refine ht_region ?_
            refine ho_ev rfl rfl rfl (ev_move rfl rfl) ?_
            refine ho_ev rfl rfl rfl (ev_not rfl rfl) ?_
            refine ho_nil ?_
            refine hx_then ?_
            refine ht_then rfl ?_
            refine ht_seq ?_
            refine ht_region ?_
            refine ho_ev rfl rfl rfl (ev_move rfl rfl) ?_
            refine ho_ev rfl rfl rfl (ev_ptrNil rfl Tryd.underlying63 rfl rfl rfl) ?_
            refine ho_ev rfl rfl rfl (ev_move rfl rfl) ?_
            refine ho_bool (t := 73) rfl (fun g18 => ?_) (fun g18 => ?_)
            ·first | (exfalso; first | omega | (simp at g18; done) | contradiction) | skip
             all_goals (
              refine ho_evg rfl rfl rfl rfl (ev_move rfl rfl) ?_
              refine ho_evg rfl rfl rfl rfl (ev_lenSl rfl Tryd.underlying64 rfl) ?_
              refine ho_eqg rfl rfl rfl rfl rfl rfl rfl (fun g19 => ?_) (fun g19 => ?_)
              ·first | (exfalso; first | omega | (simp at g19; done) | contradiction) | skip
               all_goals (
                refine ho_ev rfl rfl rfl (ev_pick_t rfl rfl rfl) ?_
                refine ho_ev rfl rfl rfl (ev_move rfl rfl) ?_
                refine ho_evg rfl rfl rfl rfl (ev_move rfl rfl) ?_
                refine ho_eqg rfl rfl rfl rfl rfl rfl rfl (fun g20 => ?_) (fun g20 => ?_)
                ·first | (exfalso; first | omega | (simp at g20; done) | contradiction) | skip
                 all_goals (
                  refine ho_ev rfl rfl rfl (ev_pick_t rfl rfl rfl) ?_
                  refine ho_ev rfl rfl rfl (ev_assign rfl rfl) ?_
                  refine ho_nil ?_
                  refine hx_then ?_
                  refine ht_ret ?_
                  refine hx_through trivial ?_
                  exact hx_ret1 (.inl rfl) rfl rfl () rfl (Ent.cons (by (repeat constructor); done) Ent.nil)
                 )
                ·(exfalso; first | omega | (simp at g20; done) | contradiction)
               )
              ·(exfalso; first | omega | (simp at g19; done) | contradiction)
             )
            ·first | (exfalso; first | omega | (simp at g18; done) | contradiction) | skip
             all_goals (
              refine ho_pass rfl rfl rfl rfl ?_
              refine ho_pass rfl rfl rfl rfl ?_
              refine ho_pass rfl rfl rfl rfl ?_
              refine ho_ev rfl rfl rfl (ev_pick_f rfl rfl rfl) ?_
              refine ho_ev rfl rfl rfl (ev_move rfl rfl) ?_
              refine ho_pass rfl rfl rfl rfl ?_
              refine ho_pass rfl rfl rfl rfl ?_
              refine ho_ev rfl rfl rfl (ev_pick_f rfl rfl rfl) ?_
              refine ho_ev rfl rfl rfl (ev_assign rfl rfl) ?_
              refine ho_nil ?_
              refine hx_then ?_
              refine ht_ret ?_
              refine hx_through trivial ?_
              exact hx_ret1 (.inl rfl) rfl rfl () rfl (Ent.cons (by (repeat constructor); done) Ent.nil)
             )
           )
         )
        ·first | (exfalso; first | omega | (simp at g4; done) | contradiction) | skip
         all_goals (
          refine ho_ev rfl rfl rfl (ev_pick_t rfl rfl rfl) ?_
          refine ho_ev rfl rfl rfl (ev_move rfl rfl) ?_
          refine ho_pass rfl rfl rfl rfl ?_
          refine ho_pass rfl rfl rfl rfl ?_
          refine ho_ev rfl rfl rfl (ev_pick_f rfl rfl rfl) ?_
          refine ho_ev rfl rfl rfl (ev_move rfl rfl) ?_
          refine ho_pass rfl rfl rfl rfl ?_
          refine ho_pass rfl rfl rfl rfl ?_
          refine ho_ev rfl rfl rfl (ev_pick_f rfl rfl rfl) ?_
          refine ho_ev rfl rfl rfl (ev_move rfl rfl) ?_
          refine ho_pass rfl rfl rfl rfl ?_
          refine ho_pass rfl rfl rfl rfl ?_
          refine ho_ev rfl rfl rfl (ev_pick_f rfl rfl rfl) ?_
          refine ho_ev rfl rfl rfl (ev_move rfl rfl) ?_
          refine ho_pass rfl rfl rfl rfl ?_
          refine ho_pass rfl rfl rfl rfl ?_
          refine ho_pass rfl rfl rfl rfl ?_
          refine ho_pass rfl rfl rfl rfl ?_
          refine ho_pass rfl rfl rfl rfl ?_
          refine ho_pass rfl rfl rfl rfl ?_
          refine ho_ev rfl rfl rfl (ev_pick_f rfl rfl rfl) ?_
          refine ho_ev rfl rfl rfl (ev_assign rfl rfl) ?_
          refine ho_nil ?_
          refine hx_then ?_
          refine ht_seq ?_
          refine ht_seq ?_
          refine ht_region ?_
          refine ho_ev rfl rfl rfl (ev_move rfl rfl) ?_
          refine ho_ev rfl rfl rfl (ev_not rfl rfl) ?_
          refine ho_nil ?_
          refine hx_then ?_
          refine ht_then rfl ?_
          refine ht_seq ?_
          refine ht_region ?_
          refine ho_ev rfl rfl rfl (ev_move rfl rfl) ?_
          refine ho_ev rfl rfl rfl (ev_ptrNil rfl Tryd.underlying63 rfl rfl rfl) ?_
          refine ho_ev rfl rfl rfl (ev_move rfl rfl) ?_
          refine ho_bool (t := 73) rfl (fun g21 => ?_) (fun g21 => ?_)
          ·first | (exfalso; first | omega | (simp at g21; done) | contradiction) | skip
           all_goals (
            refine ho_evg rfl rfl rfl rfl (ev_move rfl rfl) ?_
            refine ho_evg rfl rfl rfl rfl (ev_lenSl rfl Tryd.underlying64 rfl) ?_
            refine ho_eqg rfl rfl rfl rfl rfl rfl rfl (fun g22 => ?_) (fun g22 => ?_)
            ·first | (exfalso; first | omega | (simp at g22; done) | contradiction) | skip
             all_goals (
              refine ho_ev rfl rfl rfl (ev_pick_t rfl rfl rfl) ?_
              refine ho_ev rfl rfl rfl (ev_move rfl rfl) ?_
              refine ho_evg rfl rfl rfl rfl (ev_move rfl rfl) ?_
              refine ho_eqg rfl rfl rfl rfl rfl rfl rfl (fun g23 => ?_) (fun g23 => ?_)
              ·first | (exfalso; first | omega | (simp at g23; done) | contradiction) | skip
               all_goals (
                refine ho_ev rfl rfl rfl (ev_pick_t rfl rfl rfl) ?_
                refine ho_ev rfl rfl rfl (ev_assign rfl rfl) ?_
                refine ho_nil ?_
                refine hx_then ?_
                refine ht_ret ?_
                refine hx_through trivial ?_
                exact hx_ret1 (.inl rfl) rfl rfl () rfl (Ent.cons (by (repeat constructor); done) Ent.nil)
               )
              ·(exfalso; first | omega | (simp at g23; done) | contradiction)
             )
            ·(exfalso; first | omega | (simp at g22; done) | contradiction)
           )
          ·first | (exfalso; first | omega | (simp at g21; done) | contradiction) | skip
           all_goals (
            refine ho_pass rfl rfl rfl rfl ?_
            refine ho_pass rfl rfl rfl rfl ?_
            refine ho_pass rfl rfl rfl rfl ?_
            refine ho_ev rfl rfl rfl (ev_pick_f rfl rfl rfl) ?_
            refine ho_ev rfl rfl rfl (ev_move rfl rfl) ?_
            refine ho_pass rfl rfl rfl rfl ?_
            refine ho_pass rfl rfl rfl rfl ?_
            refine ho_ev rfl rfl rfl (ev_pick_f rfl rfl rfl) ?_
            refine ho_ev rfl rfl rfl (ev_assign rfl rfl) ?_
            refine ho_nil ?_
            refine hx_then ?_
            refine ht_ret ?_
            refine hx_through trivial ?_
            exact hx_ret1 (.inl rfl) rfl rfl () rfl (Ent.cons (by (repeat constructor); done) Ent.nil)
           )
         )
       )
      ·first | (exfalso; first | omega | (simp at g3; done) | contradiction) | skip
       all_goals (
        refine ho_ev rfl rfl rfl (ev_move rfl rfl) ?_
        refine ho_pass rfl rfl rfl rfl ?_
        refine ho_pass rfl rfl rfl rfl ?_
        refine ho_ev rfl rfl rfl (ev_pick_f rfl rfl rfl) ?_
        refine ho_ev rfl rfl rfl (ev_move rfl rfl) ?_
        refine ho_pass rfl rfl rfl rfl ?_
        refine ho_pass rfl rfl rfl rfl ?_
        refine ho_ev rfl rfl rfl (ev_pick_f rfl rfl rfl) ?_
        refine ho_ev rfl rfl rfl (ev_move rfl rfl) ?_
        refine ho_pass rfl rfl rfl rfl ?_
        refine ho_pass rfl rfl rfl rfl ?_
        refine ho_ev rfl rfl rfl (ev_pick_f rfl rfl rfl) ?_
        refine ho_ev rfl rfl rfl (ev_move rfl rfl) ?_
        refine ho_pass rfl rfl rfl rfl ?_
        refine ho_pass rfl rfl rfl rfl ?_
        refine ho_ev rfl rfl rfl (ev_pick_f rfl rfl rfl) ?_
        refine ho_ev rfl rfl rfl (ev_move rfl rfl) ?_
        refine ho_pass rfl rfl rfl rfl ?_
        refine ho_pass rfl rfl rfl rfl ?_
        refine ho_pass rfl rfl rfl rfl ?_
        refine ho_pass rfl rfl rfl rfl ?_
        refine ho_pass rfl rfl rfl rfl ?_
        refine ho_pass rfl rfl rfl rfl ?_
        refine ho_ev rfl rfl rfl (ev_pick_f rfl rfl rfl) ?_
        refine ho_ev rfl rfl rfl (ev_assign rfl rfl) ?_
        refine ho_nil ?_
        refine hx_then ?_
        refine ht_seq ?_
        refine ht_seq ?_
        refine ht_region ?_
        refine ho_ev rfl rfl rfl (ev_move rfl rfl) ?_
        refine ho_ev rfl rfl rfl (ev_not rfl rfl) ?_
        refine ho_nil ?_
        refine hx_then ?_
        refine ht_then rfl ?_
        refine ht_seq ?_
        refine ht_region ?_
        refine ho_ev rfl rfl rfl (ev_move rfl rfl) ?_
        refine ho_ev rfl rfl rfl (ev_ptrNil rfl Tryd.underlying63 rfl rfl rfl) ?_
        refine ho_ev rfl rfl rfl (ev_move rfl rfl) ?_
        refine ho_bool (t := 73) rfl (fun g24 => ?_) (fun g24 => ?_)
        ·first | (exfalso; first | omega | (simp at g24; done) | contradiction) | skip
         all_goals (
          refine ho_evg rfl rfl rfl rfl (ev_move rfl rfl) ?_
          refine ho_evg rfl rfl rfl rfl (ev_lenSl rfl Tryd.underlying64 rfl) ?_
          refine ho_eqg rfl rfl rfl rfl rfl rfl rfl (fun g25 => ?_) (fun g25 => ?_)
          ·first | (exfalso; first | omega | (simp at g25; done) | contradiction) | skip
           all_goals (
            refine ho_ev rfl rfl rfl (ev_pick_t rfl rfl rfl) ?_
            refine ho_ev rfl rfl rfl (ev_move rfl rfl) ?_
            refine ho_evg rfl rfl rfl rfl (ev_move rfl rfl) ?_
            refine ho_eqg rfl rfl rfl rfl rfl rfl rfl (fun g26 => ?_) (fun g26 => ?_)
            ·first | (exfalso; first | omega | (simp at g26; done) | contradiction) | skip
             all_goals (
              refine ho_ev rfl rfl rfl (ev_pick_t rfl rfl rfl) ?_
              refine ho_ev rfl rfl rfl (ev_assign rfl rfl) ?_
              refine ho_nil ?_
              refine hx_then ?_
              refine ht_ret ?_
              refine hx_through trivial ?_
              exact hx_ret1 (.inl rfl) rfl rfl () rfl (Ent.cons (by (repeat constructor); done) Ent.nil)
             )
            ·(exfalso; first | omega | (simp at g26; done) | contradiction)
           )
          ·(exfalso; first | omega | (simp at g25; done) | contradiction)
         )
        ·first | (exfalso; first | omega | (simp at g24; done) | contradiction) | skip
         all_goals (
          refine ho_pass rfl rfl rfl rfl ?_
          refine ho_pass rfl rfl rfl rfl ?_
          refine ho_pass rfl rfl rfl rfl ?_
          refine ho_ev rfl rfl rfl (ev_pick_f rfl rfl rfl) ?_
          refine ho_ev rfl rfl rfl (ev_move rfl rfl) ?_
          refine ho_pass rfl rfl rfl rfl ?_
          refine ho_pass rfl rfl rfl rfl ?_
          refine ho_ev rfl rfl rfl (ev_pick_f rfl rfl rfl) ?_
          refine ho_ev rfl rfl rfl (ev_assign rfl rfl) ?_
          refine ho_nil ?_
          refine hx_then ?_
          refine ht_ret ?_
          refine hx_through trivial ?_
          exact hx_ret1 (.inl rfl) rfl rfl () rfl (Ent.cons (by (repeat constructor); done) Ent.nil)
         )
       )
     )
   )
end Go.Proofs.YtlejcepbcfijiaaDoor
