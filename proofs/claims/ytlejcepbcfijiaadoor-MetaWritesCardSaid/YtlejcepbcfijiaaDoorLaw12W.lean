/-
  LAW 12 (meta): a law's walk. Conditions: as its contract says.
-/
import Derived.Test.YtlejcepbcfijiaaDoorLaw12
set_option maxRecDepth 100000
set_option linter.unusedVariables false
set_option linter.unusedSimpArgs false
namespace Go.Proofs.YtlejcepbcfijiaaDoor
open Go Go.SL

theorem law_MetaWrites (a : Option Addr) (c : Nat) (xs : List Str) (at_ : Int) (hat0 : 0 ≤ at_ ∧ at_ ≤ 65535) : Ctr Tryd.prog 4 #[.slice a xs.length c, .int .u16 at_] [ro bitsR, ro (roS a xs.length xs)] (fun _ : Unit => .bool true) (fun _ => []) := by
 refine fn_intro Tryd.func4 rfl rfl Tryd.ntmps4 (Nat.le_of_ble_eq_true rfl) (fun _ => by repeat (first | exact App.nil | apply App.cons)) (fun κ F => ?_)
 refine ht_seq ?_
 refine ht_region ?_
 refine ho_ev rfl rfl rfl (ev_assign rfl rfl) ?_
 refine ho_nil ?_
 refine hx_then ?_
 refine ht_seq ?_
 refine ht_region ?_
 refine ho_eff rfl rfl rfl (eff_call rfl rfl (.cons rfl .nil) rfl (disk_New 65536 (by omega)) (by repeat (first | exact Picks.nil | (apply Picks.ro; focus ((with_reducible repeat constructor); done)) | (apply Picks.cons; focus ((with_reducible repeat constructor); done)))) (fun _ => by repeat (first | exact App.nil | apply App.cons))) (fun b0 => ?_)
 refine ho_ev rfl rfl rfl (ev_move rfl rfl) ?_
 refine ho_ev rfl rfl rfl (ev_extract rfl rfl rfl) ?_
 refine ho_ev rfl rfl rfl (ev_extract rfl rfl rfl) ?_
 refine ho_ev rfl rfl rfl (ev_assign rfl rfl) ?_
 refine ho_ev rfl rfl rfl (ev_assign rfl rfl) ?_
 refine ho_nil ?_
 refine hx_then ?_
 refine ht_seq ?_
 refine ht_seq ?_
 refine ht_region ?_
 refine ho_eff rfl rfl rfl (eff_call rfl rfl .nil rfl (law_awake12) (by repeat (first | exact Picks.nil | (apply Picks.ro; focus ((with_reducible repeat constructor); done)) | (apply Picks.cons; focus ((with_reducible repeat constructor); done)))) (fun _ => by repeat (first | exact App.nil | apply App.cons))) (fun _ => ?_)
 refine ho_bool (t := 21) rfl (fun g1 => ?_) (fun g1 => ?_)
 ·first | (exfalso; first | omega | (simp at g1; done) | contradiction) | skip
  all_goals (
   refine ho_ev rfl rfl rfl (ev_not rfl rfl) ?_
   refine ho_ev rfl rfl rfl (ev_move rfl rfl) ?_
   refine ho_evg rfl rfl rfl rfl (ev_move rfl rfl) ?_
   refine ho_neg rfl rfl rfl rfl rfl rfl rfl (fun g2 => ?_) (fun g2 => ?_)
   ·first | (exfalso; first | omega | (simp at g2; done) | contradiction) | skip
    all_goals (
     refine ho_ev rfl rfl rfl (ev_pick_f rfl rfl rfl) ?_
     refine ho_ev rfl rfl rfl (ev_move rfl rfl) ?_
     refine ho_pass rfl rfl rfl rfl ?_
     refine ho_pass rfl rfl rfl rfl ?_
     refine ho_ev rfl rfl rfl (ev_pick_t rfl rfl rfl) ?_
     refine ho_ev rfl rfl rfl (ev_move rfl rfl) ?_
     refine ho_pass rfl rfl rfl rfl ?_
     refine ho_pass rfl rfl rfl rfl ?_
     refine ho_pass rfl rfl rfl rfl ?_
     refine ho_ev rfl rfl rfl (ev_pick_t rfl rfl rfl) ?_
     refine ho_nil ?_
     refine hx_then ?_
     refine ht_then rfl ?_
     refine ht_seq ?_
     refine ht_region ?_
     refine ho_eff rfl rfl rfl (eff_call rfl rfl .nil rfl (law_awake12) (by repeat (first | exact Picks.nil | (apply Picks.ro; focus ((with_reducible repeat constructor); done)) | (apply Picks.cons; focus ((with_reducible repeat constructor); done)))) (fun _ => by repeat (first | exact App.nil | apply App.cons))) (fun _ => ?_)
     refine ho_ev rfl rfl rfl (ev_assign rfl rfl) ?_
     refine ho_nil ?_
     refine hx_then ?_
     refine ht_ret ?_
     refine hx_through trivial ?_
     exact hx_ret1 (.inl rfl) rfl rfl () rfl (Ent.cons (by (repeat constructor); done) Ent.nil)
    )
   ·first | (exfalso; first | omega | (simp at g2; done) | contradiction) | skip
    all_goals (
     refine ho_ev rfl rfl rfl (ev_pick_f rfl rfl rfl) ?_
     refine ho_ev rfl rfl rfl (ev_move rfl rfl) ?_
     refine ho_evg rfl rfl rfl rfl (ev_move rfl rfl) ?_
     refine ho_evg rfl rfl rfl rfl (ev_ptrNil rfl Tryd.underlying23 rfl rfl rfl) ?_
     refine ho_ev rfl rfl rfl (ev_pick_f rfl rfl rfl) ?_
     refine ho_ev rfl rfl rfl (ev_move rfl rfl) ?_
     refine ho_bool (t := 31) rfl (fun g3 => ?_) (fun g3 => ?_)
     ·first | (exfalso; first | omega | (simp at g3; done) | contradiction) | skip
      all_goals (
       refine ho_pass rfl rfl rfl rfl ?_
       refine ho_pass rfl rfl rfl rfl ?_
       refine ho_pass rfl rfl rfl rfl ?_
       refine ho_ev rfl rfl rfl (ev_pick_t rfl rfl rfl) ?_
       refine ho_nil ?_
       refine hx_then ?_
       refine ht_then rfl ?_
       refine ht_seq ?_
       refine ht_region ?_
       refine ho_eff rfl rfl rfl (eff_call rfl rfl .nil rfl (law_awake12) (by repeat (first | exact Picks.nil | (apply Picks.ro; focus ((with_reducible repeat constructor); done)) | (apply Picks.cons; focus ((with_reducible repeat constructor); done)))) (fun _ => by repeat (first | exact App.nil | apply App.cons))) (fun _ => ?_)
       refine ho_ev rfl rfl rfl (ev_assign rfl rfl) ?_
       refine ho_nil ?_
       refine hx_then ?_
       refine ht_ret ?_
       refine hx_through trivial ?_
       exact hx_ret1 (.inl rfl) rfl rfl () rfl (Ent.cons (by (repeat constructor); done) Ent.nil)
      )
     ·first | (exfalso; first | omega | (simp at g3; done) | contradiction) | skip
      all_goals (
       refine ho_evg rfl rfl rfl rfl (ev_move rfl rfl) ?_
       refine ho_evg rfl rfl rfl rfl (ev_lenSl rfl Tryd.underlying35 rfl) ?_
       refine ho_gtg rfl rfl rfl rfl rfl rfl rfl (fun g4 => ?_) (fun g4 => ?_)
       ·first | (exfalso; first | omega | (simp at g4; done) | contradiction) | skip
        all_goals (
         refine ho_ev rfl rfl rfl (ev_pick_f rfl rfl rfl) ?_
         refine ho_nil ?_
         refine hx_then ?_
         refine ht_then rfl ?_
         refine ht_seq ?_
         refine ht_region ?_
         refine ho_eff rfl rfl rfl (eff_call rfl rfl .nil rfl (law_awake12) (by repeat (first | exact Picks.nil | (apply Picks.ro; focus ((with_reducible repeat constructor); done)) | (apply Picks.cons; focus ((with_reducible repeat constructor); done)))) (fun _ => by repeat (first | exact App.nil | apply App.cons))) (fun _ => ?_)
         refine ho_ev rfl rfl rfl (ev_assign rfl rfl) ?_
         refine ho_nil ?_
         refine hx_then ?_
         refine ht_ret ?_
         refine hx_through trivial ?_
         exact hx_ret1 (.inl rfl) rfl rfl () rfl (Ent.cons (by (repeat constructor); done) Ent.nil)
        )
       ·first | (exfalso; first | omega | (simp at g4; done) | contradiction) | skip
        all_goals (
         refine ho_ev rfl rfl rfl (ev_pick_f rfl rfl rfl) ?_
         refine ho_nil ?_
         refine hx_then ?_
         refine ht_else rfl ?_
         refine ht_skip ?_
         refine hx_then ?_
         refine ht_seq ?_
         refine ht_region ?_
         refine ho_ev rfl rfl rfl (ev_move rfl rfl) ?_
         refine ho_ev rfl rfl rfl (ev_convI rfl ⟨_, Tryd.underlying40⟩ Tryd.underlying3 rfl (by first | exact in_i64 (by omega) | rfl)) ?_
         refine ho_ev rfl rfl rfl (ev_assign rfl rfl) ?_
         refine ho_nil ?_
         refine hx_then ?_
         refine ht_seq ?_
         refine ht_region ?_
         refine ho_ev rfl rfl rfl (ev_move rfl rfl) ?_
         refine ho_ev rfl rfl rfl (ev_move rfl rfl) ?_
         by_cases hat : 65534 < at_
         ·skip
          refine ho_eff rfl rfl rfl (eff_call rfl rfl (.cons rfl (.cons rfl .nil)) rfl (meta_Open_no b0 (Dk.Disk.new 65536) at_ (by omega)) (by repeat (first | exact Picks.nil | (apply Picks.ro; focus ((repeat constructor); done)) | (apply Picks.cons; focus ((repeat constructor); done)))) (fun _ => by repeat (first | exact App.nil | apply App.cons))) (fun _ => ?_)
          refine ho_ev rfl rfl rfl (ev_move rfl rfl) ?_
          refine ho_ev rfl rfl rfl (ev_extract rfl rfl rfl) ?_
          refine ho_ev rfl rfl rfl (ev_extract rfl rfl rfl) ?_
          refine ho_ev rfl rfl rfl (ev_extract rfl rfl rfl) ?_
          refine ho_ev rfl rfl rfl (ev_assign rfl rfl) ?_
          refine ho_ev rfl rfl rfl (ev_assign rfl rfl) ?_
          refine ho_ev rfl rfl rfl (ev_assign rfl rfl) ?_
          refine ho_nil ?_
          refine hx_then ?_
          refine ht_seq ?_
          refine ht_seq ?_
          refine ht_region ?_
          refine ho_ev rfl rfl rfl (ev_move rfl rfl) ?_
          refine ho_gt rfl rfl rfl rfl rfl rfl (fun g5 => ?_) (fun g5 => ?_)
          ·first | (exfalso; first | omega | (simp at g5; done) | contradiction) | skip
           all_goals (
            refine ho_nil ?_
            refine hx_then ?_
            refine ht_then rfl ?_
            refine ht_seq ?_
            refine ht_region ?_
            refine ho_ev rfl rfl rfl (ev_move rfl rfl) ?_
            refine ho_ev rfl rfl rfl (ev_ptrNil rfl Tryd.underlying28 rfl rfl rfl) ?_
            refine ho_ev rfl rfl rfl (ev_move rfl rfl) ?_
            refine ho_bool (t := 50) rfl (fun g6 => ?_) (fun g6 => ?_)
            ·first | (exfalso; first | omega | (simp at g6; done) | contradiction) | skip
             all_goals (
              refine ho_evg rfl rfl rfl rfl (ev_move rfl rfl) ?_
              refine ho_eqg rfl rfl rfl rfl rfl rfl rfl (fun g7 => ?_) (fun g7 => ?_)
              ·first | (exfalso; first | omega | (simp at g7; done) | contradiction) | skip
               all_goals (
                refine ho_ev rfl rfl rfl (ev_pick_t rfl rfl rfl) ?_
                refine ho_ev rfl rfl rfl (ev_assign rfl rfl) ?_
                refine ho_nil ?_
                refine hx_then ?_
                refine ht_ret ?_
                refine hx_through trivial ?_
                exact hx_ret1 (.inl rfl) rfl rfl () rfl (Ent.cons (by (repeat constructor); done) Ent.nil)
               )
              ·first | (exfalso; first | omega | (simp at g7; done) | contradiction) | skip
               all_goals (
                refine ho_ev rfl rfl rfl (ev_pick_t rfl rfl rfl) ?_
                refine ho_ev rfl rfl rfl (ev_assign rfl rfl) ?_
                refine ho_nil ?_
                refine hx_then ?_
                refine ht_ret ?_
                refine hx_through trivial ?_
                exact hx_ret1 (.inl rfl) rfl rfl () rfl (Ent.cons (by (repeat constructor); done) Ent.nil)
               )
             )
            ·first | (exfalso; first | omega | (simp at g6; done) | contradiction) | skip
             all_goals (
              refine ho_pass rfl rfl rfl rfl ?_
              refine ho_pass rfl rfl rfl rfl ?_
              refine ho_ev rfl rfl rfl (ev_pick_f rfl rfl rfl) ?_
              refine ho_ev rfl rfl rfl (ev_assign rfl rfl) ?_
              refine ho_nil ?_
              refine hx_then ?_
              refine ht_ret ?_
              refine hx_through trivial ?_
              exact hx_ret1 (.inl rfl) rfl rfl () rfl (Ent.cons (by (repeat constructor); done) Ent.nil)
             )
           )
          ·first | (exfalso; first | omega | (simp at g5; done) | contradiction) | skip
           all_goals (
            refine ho_nil ?_
            refine hx_then ?_
            refine ht_else rfl ?_
            refine ht_skip ?_
            refine hx_then ?_
            refine ht_seq ?_
            refine ht_seq ?_
            refine ht_region ?_
            refine ho_ev rfl rfl rfl (ev_move rfl rfl) ?_
            refine ho_ev rfl rfl rfl (ev_ptrNil rfl Tryd.underlying28 rfl rfl rfl) ?_
            refine ho_ev rfl rfl rfl (ev_move rfl rfl) ?_
            refine ho_bool (t := 56) rfl (fun g8 => ?_) (fun g8 => ?_)
            ·first | (exfalso; first | omega | (simp at g8; done) | contradiction) | skip
             all_goals (
              refine ho_pass rfl rfl rfl rfl ?_
              refine ho_pass rfl rfl rfl rfl ?_
              refine ho_ev rfl rfl rfl (ev_pick_t rfl rfl rfl) ?_
              refine ho_nil ?_
              refine hx_then ?_
              refine ht_then rfl ?_
              refine ht_seq ?_
              refine ht_region ?_
              refine ho_ev rfl rfl rfl (ev_assign rfl rfl) ?_
              refine ho_nil ?_
              refine hx_then ?_
              refine ht_ret ?_
              refine hx_through trivial ?_
              exact hx_ret1 (.inl rfl) rfl rfl () rfl (Ent.cons (by (repeat constructor); done) Ent.nil)
             )
            ·first | (exfalso; first | omega | (simp at g8; done) | contradiction) | skip
             all_goals (
              refine ho_evg rfl rfl rfl rfl (ev_move rfl rfl) ?_
              refine ho_neg rfl rfl rfl rfl rfl rfl rfl (fun g9 => ?_) (fun g9 => ?_)
              ·first | (exfalso; first | omega | (simp at g9; done) | contradiction) | skip
               all_goals (
                refine ho_ev rfl rfl rfl (ev_pick_f rfl rfl rfl) ?_
                refine ho_nil ?_
                refine hx_then ?_
                refine ht_then rfl ?_
                refine ht_seq ?_
                refine ht_region ?_
                refine ho_ev rfl rfl rfl (ev_assign rfl rfl) ?_
                refine ho_nil ?_
                refine hx_then ?_
                refine ht_ret ?_
                refine hx_through trivial ?_
                exact hx_ret1 (.inl rfl) rfl rfl () rfl (Ent.cons (by (repeat constructor); done) Ent.nil)
               )
              ·first | (exfalso; first | omega | (simp at g9; done) | contradiction) | skip
               all_goals (
                refine ho_ev rfl rfl rfl (ev_pick_f rfl rfl rfl) ?_
                refine ho_nil ?_
                refine hx_then ?_
                refine ht_else rfl ?_
                refine ht_skip ?_
                refine hx_then ?_
                refine ht_seq ?_
                refine ht_region ?_
                refine ho_ev rfl rfl rfl (ev_assign rfl rfl) ?_
                refine ho_nil ?_
                refine hx_then ?_
                refine ht_seq ?_
                refine ht_seq ?_
                refine ht_region ?_
                refine ho_ev rfl rfl rfl (ev_assign rfl rfl) ?_
                refine ho_nil ?_
                refine hx_then ?_
                refine ht_block ?_
                refine ht_loop (fun q : Nat × Dk.Disk × Mt.St => ([DiskAt b0 q.2.1, pt m0 (.cells #[.pointer (some ⟨b0, 0, none⟩), .int .i64 at_, .int .u64 ((q.2.2.number : Nat) : Int), .int .i64 ((q.2.2.last : Nat) : Int)] 83 (0, 0)), ro bitsR, ro (roS a xs.length xs), pu (Mt.Fine q.2.1 at_ ∧ Mt.opened q.2.1.view at_ = q.2.2 ∧ q.2.2.number ≤ q.1 ∧ q.1 ≤ xs.length), F], [(0, .slice a xs.length c), (5, .pointer (some ⟨b0, 0, none⟩)), (7, .int .i64 at_), (8, .pointer (some ⟨m0, 0, none⟩)), (11, .int .u64 ((q.2.2.number : Nat) : Int)), (12, .int .i64 q.1)])) (fun q : Nat × Dk.Disk × Mt.St => 20 - q.1) (0, Dk.Disk.new 65536, ⟨0, 1, []⟩) ?_ (by repeat (first | exact EnvSub.nil _ | (refine EnvSub.cons rfl ?_))) (fun q => ?_)
                ·(first | dsimp only | skip)
                 exact Ent.cons (by (repeat constructor); done) (Ent.cons (by (repeat constructor); done) (Ent.roD (by (with_reducible repeat constructor); done) (Ent.roD (by (with_reducible repeat constructor); done) (Ent.pu ⟨Mt.fine_new (by omega) (by omega) (by decide), Mt.opened_none rfl rfl, by simp, by omega⟩ (Ent.cons (by (repeat constructor); done) Ent.nil)))))
                obtain ⟨q, d, s⟩ := q
                dsimp only
                refine ht_pick (A := pu (Mt.Fine d at_ ∧ Mt.opened d.view at_ = s ∧ s.number ≤ q ∧ q ≤ xs.length)) (by (repeat constructor); done) (ht_pure fun hq => ?_)
                obtain ⟨hf, hs, hn, hql⟩ := hq
                have hsl := Mt.opened_last d.view at_
                rw [hs] at hsl
                have hpd := hf.pend
                refine ht_seq ?_
                refine ht_seq ?_
                refine ht_region ?_
                refine ho_ev rfl rfl rfl (ev_move rfl rfl) ?_
                refine ho_ev rfl rfl rfl (ev_move rfl rfl) ?_
                refine ho_ev rfl rfl rfl (ev_lenSl rfl Tryd.underlying35 rfl) ?_
                refine ho_lt rfl rfl rfl rfl rfl rfl (fun g10 => ?_) (fun g10 => ?_)
                ·first | (exfalso; first | omega | (simp at g10; done) | contradiction) | skip
                 all_goals (
                  refine ho_nil ?_
                  refine hx_then ?_
                  refine ht_then rfl ?_
                  refine ht_skip ?_
                  refine hx_then ?_
                  refine ht_seq ?_
                  refine ht_block ?_
                  refine ht_seq ?_
                  obtain ⟨x, hx⟩ : ∃ x, xs[q]? = some x := ⟨_, List.getElem?_eq_getElem (by omega)⟩
                  refine ht_someS (α := Str) (reads_ro (by (with_reducible repeat constructor); done)) (by omega) (fun ab ao ha => ?_)
                  by_cases hx480 : 480 < x.s.length
                  ·skip
                   have hRl : Mt.steps d at_ s.number s.last x.s 4 = ⟨d, false, 120, s.number, s.last⟩ := by unfold Mt.steps; rw [if_pos (by omega)]
                   refine ht_region ?_
                   refine ho_ev rfl rfl rfl (ev_move rfl rfl) ?_
                   refine ho_ev rfl rfl rfl (ev_move rfl rfl) ?_
                   refine ho_ev rfl rfl rfl (ev_move rfl rfl) ?_
                   refine ho_ev rfl rfl rfl (ev_indexAddr rfl Tryd.underlying35 Tryd.ty9 (congrArg (fun z => some (Value.slice z xs.length c)) ha) rfl (by omega) (by omega)) ?_
                   refine ho_ev rfl rfl rfl (ev_load rfl Tryd.underlying9 rfl rfl (cell_Sa0 ha (reads_ro (by (with_reducible repeat constructor); done)) hx rfl)) ?_
                   refine ho_eff rfl rfl rfl (eff_call rfl rfl (.cons rfl (.cons rfl .nil)) rfl (meta_Write m0 b0 d at_ s.number s.last x.s (by omega) hsl (by omega) (by rw [hpd]; decide)) (by repeat (first | exact Picks.nil | (apply Picks.ro; focus ((repeat constructor); done)) | (apply Picks.cons; focus ((repeat constructor); done)))) (fun _ => by repeat (first | exact App.nil | apply App.cons))) (fun _ => ?_)
                   rw [hRl]
                   dsimp only
                   refine ho_ev rfl rfl rfl (ev_assign rfl rfl) ?_
                   refine ho_nil ?_
                   refine hx_then ?_
                   refine ht_seq ?_
                   refine ht_seq ?_
                   refine ht_region ?_
                   refine ho_ev rfl rfl rfl (ev_move rfl rfl) ?_
                   refine ho_ev rfl rfl rfl (ev_move rfl rfl) ?_
                   refine ho_ev rfl rfl rfl (ev_indexAddr rfl Tryd.underlying35 Tryd.ty9 (congrArg (fun z => some (Value.slice z xs.length c)) ha) rfl (by omega) (by omega)) ?_
                   refine ho_ev rfl rfl rfl (ev_load rfl Tryd.underlying9 rfl rfl (cell_Sa0 ha (reads_ro (by (with_reducible repeat constructor); done)) hx rfl)) ?_
                   refine ho_ev rfl rfl rfl (ev_lenS rfl Tryd.underlying9 rfl) ?_
                   refine ho_gt rfl rfl rfl rfl rfl rfl (fun g11 => ?_) (fun g11 => ?_)
                   ·first | (exfalso; first | omega | (simp at g11; done) | contradiction) | skip
                    all_goals (
                     refine ho_nil ?_
                     refine hx_then ?_
                     refine ht_then rfl ?_
                     refine ht_seq ?_
                     refine ht_seq ?_
                     refine ht_region ?_
                     refine ho_ev rfl rfl rfl (ev_move rfl rfl) ?_
                     refine ho_ne rfl rfl rfl rfl rfl rfl (fun g12 => ?_) (fun g12 => ?_)
                     ·first | (exfalso; first | omega | (simp at g12; done) | contradiction) | skip
                      all_goals (
                       refine ho_nil ?_
                       refine hx_then ?_
                       refine ht_then rfl ?_
                       refine ht_seq ?_
                       refine ht_region ?_
                       refine ho_ev rfl rfl rfl (ev_assign rfl rfl) ?_
                       refine ho_nil ?_
                       refine hx_then ?_
                       refine ht_ret ?_
                       refine hx_through trivial ?_
                       refine hx_through trivial ?_
                       refine hx_block_ret ?_
                       refine hx_through trivial ?_
                       refine hx_through trivial ?_
                       refine hx_block_ret ?_
                       refine hx_through trivial ?_
                       exact hx_ret1 (.inl rfl) rfl rfl () rfl (Ent.cons (by (repeat constructor); done) Ent.nil)
                      )
                     ·first | (exfalso; first | omega | (simp at g12; done) | contradiction) | skip
                      all_goals (
                       refine ho_nil ?_
                       refine hx_then ?_
                       refine ht_else rfl ?_
                       refine ht_skip ?_
                       refine hx_then ?_
                       refine ht_exit ?_
                       refine hx_through trivial ?_
                       refine hx_block_here ?_
                       refine hx_then ?_
                       refine ht_region ?_
                       refine ho_ev rfl rfl rfl (ev_move rfl rfl) ?_
                       refine ho_ev rfl rfl rfl (ev_add rfl rfl rfl (by first | exact in_i64 (by omega) | rfl)) ?_
                       refine ho_ev rfl rfl rfl (ev_assign rfl rfl) ?_
                       refine ho_nil ?_
                       refine hx_again (I := (fun q : Nat × Dk.Disk × Mt.St => ([DiskAt b0 q.2.1, pt m0 (.cells #[.pointer (some ⟨b0, 0, none⟩), .int .i64 at_, .int .u64 ((q.2.2.number : Nat) : Int), .int .i64 ((q.2.2.last : Nat) : Int)] 83 (0, 0)), ro bitsR, ro (roS a xs.length xs), pu (Mt.Fine q.2.1 at_ ∧ Mt.opened q.2.1.view at_ = q.2.2 ∧ q.2.2.number ≤ q.1 ∧ q.1 ≤ xs.length), F], [(0, .slice a xs.length c), (5, .pointer (some ⟨b0, 0, none⟩)), (7, .int .i64 at_), (8, .pointer (some ⟨m0, 0, none⟩)), (11, .int .u64 ((q.2.2.number : Nat) : Int)), (12, .int .i64 q.1)]))) (μ := (fun q : Nat × Dk.Disk × Mt.St => 20 - q.1)) (i := (q, d, s)) (q + 1, d, s) ?_ ?_ ?_
                       ·(first | dsimp only | skip); omega
                       ·repeat (first | exact EnvSub.nil _ | (refine EnvSub.cons rfl ?_))
                       ·(first | dsimp only | skip)
                        exact Ent.cons (by (repeat constructor); done) (Ent.cons (by (repeat constructor); done) (Ent.roD (by (with_reducible repeat constructor); done) (Ent.roD (by (with_reducible repeat constructor); done) (Ent.pu ⟨hf, hs, by omega, by omega⟩ (Ent.cons (by (repeat constructor); done) Ent.nil)))))
                      )
                    )
                   ·first | (exfalso; first | omega | (simp at g11; done) | contradiction) | skip
                    all_goals (
                     refine ho_nil ?_
                     refine hx_then ?_
                     refine ht_else rfl ?_
                     refine ht_skip ?_
                     refine hx_then ?_
                     refine ht_seq ?_
                     refine ht_region ?_
                     refine ho_ev rfl rfl rfl (ev_move rfl rfl) ?_
                     refine ho_ev rfl rfl rfl (ev_add (r := ((s.number + 1 : Nat) : Int)) rfl rfl rfl (by exact (IntWalk.u64_in _ (by omega)).trans (by omega))) ?_
                     refine ho_ev rfl rfl rfl (ev_assign rfl rfl) ?_
                     refine ho_nil ?_
                     refine hx_then ?_
                     refine ht_seq ?_
                     refine ht_region ?_
                     refine ho_ev rfl rfl rfl (ev_move rfl rfl) ?_
                     refine ho_ev rfl rfl rfl (ev_move rfl rfl) ?_
                     refine ho_eff rfl rfl rfl (eff_call rfl rfl (.cons rfl (.cons rfl .nil)) rfl (meta_Open b0 d1 at_ (by omega)) (by repeat (first | exact Picks.nil | (apply Picks.ro; focus ((repeat constructor); done)) | (apply Picks.cons; focus ((repeat constructor); done)))) (fun _ => by repeat (first | exact App.nil | apply App.cons))) (fun m1 => ?_)
                     rw [ho1]
                     dsimp only
                     rw [if_neg (by omega)]
                     refine ho_ev rfl rfl rfl (ev_move rfl rfl) ?_
                     refine ho_ev rfl rfl rfl (ev_extract rfl rfl rfl) ?_
                     refine ho_ev rfl rfl rfl (ev_extract rfl rfl rfl) ?_
                     refine ho_ev rfl rfl rfl (ev_extract rfl rfl rfl) ?_
                     refine ho_ev rfl rfl rfl (ev_assign rfl rfl) ?_
                     refine ho_ev rfl rfl rfl (ev_assign rfl rfl) ?_
                     refine ho_ev rfl rfl rfl (ev_assign rfl rfl) ?_
                     refine ho_nil ?_
                     refine hx_then ?_
                     refine ht_seq ?_
                     refine ht_region ?_
                     refine ho_ev rfl rfl rfl (ev_move rfl rfl) ?_
                     refine ho_ne rfl rfl rfl rfl rfl rfl (fun g13 => ?_) (fun g13 => ?_)
                     ·first | (exfalso; first | omega | (simp at g13; done) | contradiction) | skip
                      all_goals (
                       refine ho_ev rfl rfl rfl (ev_move rfl rfl) ?_
                       refine ho_pass rfl rfl rfl rfl ?_
                       refine ho_pass rfl rfl rfl rfl ?_
                       refine ho_ev rfl rfl rfl (ev_pick_t rfl rfl rfl) ?_
                       refine ho_ev rfl rfl rfl (ev_move rfl rfl) ?_
                       refine ho_pass rfl rfl rfl rfl ?_
                       refine ho_pass rfl rfl rfl rfl ?_
                       refine ho_pass rfl rfl rfl rfl ?_
                       refine ho_pass rfl rfl rfl rfl ?_
                       refine ho_pass rfl rfl rfl rfl ?_
                       refine ho_pass rfl rfl rfl rfl ?_
                       refine ho_ev rfl rfl rfl (ev_pick_t rfl rfl rfl) ?_
                       refine ho_ev rfl rfl rfl (ev_move rfl rfl) ?_
                       refine ho_pass rfl rfl rfl rfl ?_
                       refine ho_pass rfl rfl rfl rfl ?_
                       refine ho_ev rfl rfl rfl (ev_pick_t rfl rfl rfl) ?_
                       refine ho_ev rfl rfl rfl (ev_move rfl rfl) ?_
                       refine ho_pass rfl rfl rfl rfl ?_
                       refine ho_pass rfl rfl rfl rfl ?_
                       refine ho_pass rfl rfl rfl rfl ?_
                       refine ho_pass rfl rfl rfl rfl ?_
                       refine ho_ev rfl rfl rfl (ev_pick_t rfl rfl rfl) ?_
                       refine ho_ev rfl rfl rfl (ev_move rfl rfl) ?_
                       refine ho_pass rfl rfl rfl rfl ?_
                       refine ho_pass rfl rfl rfl rfl ?_
                       refine ho_pass rfl rfl rfl rfl ?_
                       refine ho_pass rfl rfl rfl rfl ?_
                       refine ho_ev rfl rfl rfl (ev_pick_t rfl rfl rfl) ?_
                       refine ho_ev rfl rfl rfl (ev_move rfl rfl) ?_
                       refine ho_pass rfl rfl rfl rfl ?_
                       refine ho_pass rfl rfl rfl rfl ?_
                       refine ho_pass rfl rfl rfl rfl ?_
                       refine ho_ev rfl rfl rfl (ev_pick_t rfl rfl rfl) ?_
                       refine ho_ev rfl rfl rfl (ev_move rfl rfl) ?_
                       refine ho_pass rfl rfl rfl rfl ?_
                       refine ho_pass rfl rfl rfl rfl ?_
                       refine ho_pass rfl rfl rfl rfl ?_
                       refine ho_ev rfl rfl rfl (ev_pick_t rfl rfl rfl) ?_
                       refine ho_nil ?_
                       refine hx_then ?_
                       refine ht_then rfl ?_
                       refine ht_seq ?_
                       refine ht_region ?_
                       refine ho_ev rfl rfl rfl (ev_assign rfl rfl) ?_
                       refine ho_nil ?_
                       refine hx_then ?_
                       refine ht_ret ?_
                       refine hx_block_ret ?_
                       refine hx_through trivial ?_
                       refine hx_through trivial ?_
                       refine hx_block_ret ?_
                       refine hx_through trivial ?_
                       exact hx_ret1 (.inl rfl) rfl rfl () rfl (Ent.cons (by (repeat constructor); done) Ent.nil)
                      )
                     ·first | (exfalso; first | omega | (simp at g13; done) | contradiction) | skip
                      all_goals (
                       refine ho_ev rfl rfl rfl (ev_move rfl rfl) ?_
                       refine ho_evg rfl rfl rfl rfl (ev_move rfl rfl) ?_
                       refine ho_evg rfl rfl rfl rfl (ev_ptrNil rfl Tryd.underlying28 rfl rfl rfl) ?_
                       refine ho_ev rfl rfl rfl (ev_pick_f rfl rfl rfl) ?_
                       refine ho_ev rfl rfl rfl (ev_move rfl rfl) ?_
                       refine ho_bool (t := 95) rfl (fun g14 => ?_) (fun g14 => ?_)
                       ·first | (exfalso; first | omega | (simp at g14; done) | contradiction) | skip
                        all_goals (
                         refine ho_pass rfl rfl rfl rfl ?_
                         refine ho_pass rfl rfl rfl rfl ?_
                         refine ho_pass rfl rfl rfl rfl ?_
                         refine ho_pass rfl rfl rfl rfl ?_
                         refine ho_pass rfl rfl rfl rfl ?_
                         refine ho_pass rfl rfl rfl rfl ?_
                         refine ho_ev rfl rfl rfl (ev_pick_t rfl rfl rfl) ?_
                         refine ho_ev rfl rfl rfl (ev_move rfl rfl) ?_
                         refine ho_pass rfl rfl rfl rfl ?_
                         refine ho_pass rfl rfl rfl rfl ?_
                         refine ho_ev rfl rfl rfl (ev_pick_t rfl rfl rfl) ?_
                         refine ho_ev rfl rfl rfl (ev_move rfl rfl) ?_
                         refine ho_pass rfl rfl rfl rfl ?_
                         refine ho_pass rfl rfl rfl rfl ?_
                         refine ho_pass rfl rfl rfl rfl ?_
                         refine ho_pass rfl rfl rfl rfl ?_
                         refine ho_ev rfl rfl rfl (ev_pick_t rfl rfl rfl) ?_
                         refine ho_ev rfl rfl rfl (ev_move rfl rfl) ?_
                         refine ho_pass rfl rfl rfl rfl ?_
                         refine ho_pass rfl rfl rfl rfl ?_
                         refine ho_pass rfl rfl rfl rfl ?_
                         refine ho_pass rfl rfl rfl rfl ?_
                         refine ho_ev rfl rfl rfl (ev_pick_t rfl rfl rfl) ?_
                         refine ho_ev rfl rfl rfl (ev_move rfl rfl) ?_
                         refine ho_pass rfl rfl rfl rfl ?_
                         refine ho_pass rfl rfl rfl rfl ?_
                         refine ho_pass rfl rfl rfl rfl ?_
                         refine ho_ev rfl rfl rfl (ev_pick_t rfl rfl rfl) ?_
                         refine ho_ev rfl rfl rfl (ev_move rfl rfl) ?_
                         refine ho_pass rfl rfl rfl rfl ?_
                         refine ho_pass rfl rfl rfl rfl ?_
                         refine ho_pass rfl rfl rfl rfl ?_
                         refine ho_ev rfl rfl rfl (ev_pick_t rfl rfl rfl) ?_
                         refine ho_nil ?_
                         refine hx_then ?_
                         refine ht_then rfl ?_
                         refine ht_seq ?_
                         refine ht_region ?_
                         refine ho_ev rfl rfl rfl (ev_assign rfl rfl) ?_
                         refine ho_nil ?_
                         refine hx_then ?_
                         refine ht_ret ?_
                         refine hx_block_ret ?_
                         refine hx_through trivial ?_
                         refine hx_through trivial ?_
                         refine hx_block_ret ?_
                         refine hx_through trivial ?_
                         exact hx_ret1 (.inl rfl) rfl rfl () rfl (Ent.cons (by (repeat constructor); done) Ent.nil)
                        )
                       ·first | (exfalso; first | omega | (simp at g14; done) | contradiction) | skip
                        all_goals (
                         refine ho_evg rfl rfl rfl rfl (ev_move rfl rfl) ?_
                         refine ho_evg rfl rfl rfl rfl (ev_move rfl rfl) ?_
                         refine ho_evg rfl rfl rfl rfl (ev_move rfl rfl) ?_
                         refine ho_evg rfl rfl rfl rfl (ev_indexAddr rfl Tryd.underlying35 Tryd.ty9 (congrArg (fun z => some (Value.slice z xs.length c)) ha) rfl (by omega) (by omega)) ?_
                         refine ho_evg rfl rfl rfl rfl (ev_load rfl Tryd.underlying9 rfl rfl (cell_Sa0 ha (reads_ro (by (with_reducible repeat constructor); done)) hx rfl)) ?_
                         refine ho_neSg rfl rfl rfl rfl rfl rfl rfl (fun g15 => ?_) (fun g15 => ?_)
                         ·first | (exfalso; first | omega | (simp at g15; done) | contradiction) | skip
                          all_goals (
                           refine ho_ev rfl rfl rfl (ev_pick_f rfl rfl rfl) ?_
                           refine ho_ev rfl rfl rfl (ev_move rfl rfl) ?_
                           refine ho_pass rfl rfl rfl rfl ?_
                           refine ho_pass rfl rfl rfl rfl ?_
                           refine ho_ev rfl rfl rfl (ev_pick_t rfl rfl rfl) ?_
                           refine ho_ev rfl rfl rfl (ev_move rfl rfl) ?_
                           refine ho_pass rfl rfl rfl rfl ?_
                           refine ho_pass rfl rfl rfl rfl ?_
                           refine ho_pass rfl rfl rfl rfl ?_
                           refine ho_pass rfl rfl rfl rfl ?_
                           refine ho_ev rfl rfl rfl (ev_pick_t rfl rfl rfl) ?_
                           refine ho_ev rfl rfl rfl (ev_move rfl rfl) ?_
                           refine ho_pass rfl rfl rfl rfl ?_
                           refine ho_pass rfl rfl rfl rfl ?_
                           refine ho_pass rfl rfl rfl rfl ?_
                           refine ho_pass rfl rfl rfl rfl ?_
                           refine ho_ev rfl rfl rfl (ev_pick_t rfl rfl rfl) ?_
                           refine ho_ev rfl rfl rfl (ev_move rfl rfl) ?_
                           refine ho_pass rfl rfl rfl rfl ?_
                           refine ho_pass rfl rfl rfl rfl ?_
                           refine ho_pass rfl rfl rfl rfl ?_
                           refine ho_ev rfl rfl rfl (ev_pick_t rfl rfl rfl) ?_
                           refine ho_ev rfl rfl rfl (ev_move rfl rfl) ?_
                           refine ho_pass rfl rfl rfl rfl ?_
                           refine ho_pass rfl rfl rfl rfl ?_
                           refine ho_pass rfl rfl rfl rfl ?_
                           refine ho_ev rfl rfl rfl (ev_pick_t rfl rfl rfl) ?_
                           refine ho_nil ?_
                           refine hx_then ?_
                           refine ht_then rfl ?_
                           refine ht_seq ?_
                           refine ht_region ?_
                           refine ho_ev rfl rfl rfl (ev_assign rfl rfl) ?_
                           refine ho_nil ?_
                           refine hx_then ?_
                           refine ht_ret ?_
                           refine hx_block_ret ?_
                           refine hx_through trivial ?_
                           refine hx_through trivial ?_
                           refine hx_block_ret ?_
                           refine hx_through trivial ?_
                           exact hx_ret1 (.inl rfl) rfl rfl () rfl (Ent.cons (by (repeat constructor); done) Ent.nil)
                          )
                         ·first | (exfalso; first | omega | (simp at g15; done) | contradiction) | skip
                          all_goals (
                           refine ho_ev rfl rfl rfl (ev_pick_f rfl rfl rfl) ?_
                           refine ho_ev rfl rfl rfl (ev_move rfl rfl) ?_
                           refine ho_evg rfl rfl rfl rfl (ev_move rfl rfl) ?_
                           refine ho_neg rfl rfl rfl rfl rfl rfl rfl (fun g16 => ?_) (fun g16 => ?_)
                           ·first | (exfalso; first | omega | (simp at g16; done) | contradiction) | skip
                            all_goals (
                             refine ho_ev rfl rfl rfl (ev_pick_f rfl rfl rfl) ?_
                             refine ho_ev rfl rfl rfl (ev_move rfl rfl) ?_
                             refine ho_pass rfl rfl rfl rfl ?_
                             refine ho_pass rfl rfl rfl rfl ?_
                             refine ho_pass rfl rfl rfl rfl ?_
                             refine ho_pass rfl rfl rfl rfl ?_
                             refine ho_ev rfl rfl rfl (ev_pick_t rfl rfl rfl) ?_
                             refine ho_ev rfl rfl rfl (ev_move rfl rfl) ?_
                             refine ho_pass rfl rfl rfl rfl ?_
                             refine ho_pass rfl rfl rfl rfl ?_
                             refine ho_pass rfl rfl rfl rfl ?_
                             refine ho_pass rfl rfl rfl rfl ?_
                             refine ho_ev rfl rfl rfl (ev_pick_t rfl rfl rfl) ?_
                             refine ho_ev rfl rfl rfl (ev_move rfl rfl) ?_
                             refine ho_pass rfl rfl rfl rfl ?_
                             refine ho_pass rfl rfl rfl rfl ?_
                             refine ho_pass rfl rfl rfl rfl ?_
                             refine ho_ev rfl rfl rfl (ev_pick_t rfl rfl rfl) ?_
                             refine ho_ev rfl rfl rfl (ev_move rfl rfl) ?_
                             refine ho_pass rfl rfl rfl rfl ?_
                             refine ho_pass rfl rfl rfl rfl ?_
                             refine ho_pass rfl rfl rfl rfl ?_
                             refine ho_ev rfl rfl rfl (ev_pick_t rfl rfl rfl) ?_
                             refine ho_nil ?_
                             refine hx_then ?_
                             refine ht_then rfl ?_
                             refine ht_seq ?_
                             refine ht_region ?_
                             refine ho_ev rfl rfl rfl (ev_assign rfl rfl) ?_
                             refine ho_nil ?_
                             refine hx_then ?_
                             refine ht_ret ?_
                             refine hx_block_ret ?_
                             refine hx_through trivial ?_
                             refine hx_through trivial ?_
                             refine hx_block_ret ?_
                             refine hx_through trivial ?_
                             exact hx_ret1 (.inl rfl) rfl rfl () rfl (Ent.cons (by (repeat constructor); done) Ent.nil)
                            )
                           ·first | (exfalso; first | omega | (simp at g16; done) | contradiction) | skip
                            all_goals (
                             refine ho_ev rfl rfl rfl (ev_pick_f rfl rfl rfl) ?_
                             refine ho_ev rfl rfl rfl (ev_move rfl rfl) ?_
                             refine ho_evg rfl rfl rfl rfl (ev_move rfl rfl) ?_
                             refine ho_effg rfl rfl rfl rfl (eff_call rfl rfl (.cons rfl .nil) rfl (meta_Number m0 b0 at_ (s.number + 1) (1 - s.last)) (by repeat (first | exact Picks.nil | (apply Picks.ro; focus ((repeat constructor); done)) | (apply Picks.cons; focus ((repeat constructor); done)))) (fun _ => by repeat (first | exact App.nil | apply App.cons))) (fun _ => ?_)
                             refine ho_evg rfl rfl rfl rfl (ev_move rfl rfl) ?_
                             refine ho_neg rfl rfl rfl rfl rfl rfl rfl (fun g17 => ?_) (fun g17 => ?_)
                             ·first | (exfalso; first | omega | (simp at g17; done) | contradiction) | skip
                              all_goals (
                               refine ho_ev rfl rfl rfl (ev_pick_f rfl rfl rfl) ?_
                               refine ho_ev rfl rfl rfl (ev_move rfl rfl) ?_
                               refine ho_pass rfl rfl rfl rfl ?_
                               refine ho_pass rfl rfl rfl rfl ?_
                               refine ho_pass rfl rfl rfl rfl ?_
                               refine ho_pass rfl rfl rfl rfl ?_
                               refine ho_ev rfl rfl rfl (ev_pick_t rfl rfl rfl) ?_
                               refine ho_ev rfl rfl rfl (ev_move rfl rfl) ?_
                               refine ho_pass rfl rfl rfl rfl ?_
                               refine ho_pass rfl rfl rfl rfl ?_
                               refine ho_pass rfl rfl rfl rfl ?_
                               refine ho_ev rfl rfl rfl (ev_pick_t rfl rfl rfl) ?_
                               refine ho_ev rfl rfl rfl (ev_move rfl rfl) ?_
                               refine ho_pass rfl rfl rfl rfl ?_
                               refine ho_pass rfl rfl rfl rfl ?_
                               refine ho_pass rfl rfl rfl rfl ?_
                               refine ho_ev rfl rfl rfl (ev_pick_t rfl rfl rfl) ?_
                               refine ho_nil ?_
                               refine hx_then ?_
                               refine ht_then rfl ?_
                               refine ht_seq ?_
                               refine ht_region ?_
                               refine ho_ev rfl rfl rfl (ev_assign rfl rfl) ?_
                               refine ho_nil ?_
                               refine hx_then ?_
                               refine ht_ret ?_
                               refine hx_block_ret ?_
                               refine hx_through trivial ?_
                               refine hx_through trivial ?_
                               refine hx_block_ret ?_
                               refine hx_through trivial ?_
                               exact hx_ret1 (.inl rfl) rfl rfl () rfl (Ent.cons (by (repeat constructor); done) Ent.nil)
                              )
                             ·first | (exfalso; first | omega | (simp at g17; done) | contradiction) | skip
                              all_goals (
                               refine ho_ev rfl rfl rfl (ev_pick_f rfl rfl rfl) ?_
                               refine ho_ev rfl rfl rfl (ev_move rfl rfl) ?_
                               refine ho_evg rfl rfl rfl rfl (ev_move rfl rfl) ?_
                               refine ho_effg rfl rfl rfl rfl (eff_call rfl rfl (.cons rfl .nil) rfl (meta_Number m1 b0 at_ (s.number + 1) (1 - s.last)) (by repeat (first | exact Picks.nil | (apply Picks.ro; focus ((repeat constructor); done)) | (apply Picks.cons; focus ((repeat constructor); done)))) (fun _ => by repeat (first | exact App.nil | apply App.cons))) (fun _ => ?_)
                               refine ho_evg rfl rfl rfl rfl (ev_move rfl rfl) ?_
                               refine ho_neg rfl rfl rfl rfl rfl rfl rfl (fun g18 => ?_) (fun g18 => ?_)
                               ·first | (exfalso; first | omega | (simp at g18; done) | contradiction) | skip
                                all_goals (
                                 refine ho_ev rfl rfl rfl (ev_pick_f rfl rfl rfl) ?_
                                 refine ho_ev rfl rfl rfl (ev_move rfl rfl) ?_
                                 refine ho_pass rfl rfl rfl rfl ?_
                                 refine ho_pass rfl rfl rfl rfl ?_
                                 refine ho_pass rfl rfl rfl rfl ?_
                                 refine ho_ev rfl rfl rfl (ev_pick_t rfl rfl rfl) ?_
                                 refine ho_ev rfl rfl rfl (ev_move rfl rfl) ?_
                                 refine ho_pass rfl rfl rfl rfl ?_
                                 refine ho_pass rfl rfl rfl rfl ?_
                                 refine ho_pass rfl rfl rfl rfl ?_
                                 refine ho_ev rfl rfl rfl (ev_pick_t rfl rfl rfl) ?_
                                 refine ho_nil ?_
                                 refine hx_then ?_
                                 refine ht_then rfl ?_
                                 refine ht_seq ?_
                                 refine ht_region ?_
                                 refine ho_ev rfl rfl rfl (ev_assign rfl rfl) ?_
                                 refine ho_nil ?_
                                 refine hx_then ?_
                                 refine ht_ret ?_
                                 refine hx_block_ret ?_
                                 refine hx_through trivial ?_
                                 refine hx_through trivial ?_
                                 refine hx_block_ret ?_
                                 refine hx_through trivial ?_
                                 exact hx_ret1 (.inl rfl) rfl rfl () rfl (Ent.cons (by (repeat constructor); done) Ent.nil)
                                )
                               ·first | (exfalso; first | omega | (simp at g18; done) | contradiction) | skip
                                all_goals (
                                 refine ho_ev rfl rfl rfl (ev_pick_f rfl rfl rfl) ?_
                                 refine ho_ev rfl rfl rfl (ev_move rfl rfl) ?_
                                 refine ho_evg rfl rfl rfl rfl (ev_move rfl rfl) ?_
                                 refine ho_effg rfl rfl rfl rfl (eff_call rfl rfl (.cons rfl .nil) rfl (disk_Used b0 d1) (by repeat (first | exact Picks.nil | (apply Picks.ro; focus ((repeat constructor); done)) | (apply Picks.cons; focus ((repeat constructor); done)))) (fun _ => by repeat (first | exact App.nil | apply App.cons))) (fun _ => ?_)
                                 refine ho_gtg rfl rfl rfl rfl rfl rfl rfl (fun g19 => ?_) (fun g19 => ?_)
                                 ·first | (exfalso; first | omega | (simp at g19; done) | contradiction) | skip
                                  all_goals (
                                   refine ho_ev rfl rfl rfl (ev_pick_f rfl rfl rfl) ?_
                                   refine ho_ev rfl rfl rfl (ev_move rfl rfl) ?_
                                   refine ho_pass rfl rfl rfl rfl ?_
                                   refine ho_pass rfl rfl rfl rfl ?_
                                   refine ho_pass rfl rfl rfl rfl ?_
                                   refine ho_ev rfl rfl rfl (ev_pick_t rfl rfl rfl) ?_
                                   refine ho_nil ?_
                                   refine hx_then ?_
                                   refine ht_then rfl ?_
                                   refine ht_seq ?_
                                   refine ht_region ?_
                                   refine ho_ev rfl rfl rfl (ev_assign rfl rfl) ?_
                                   refine ho_nil ?_
                                   refine hx_then ?_
                                   refine ht_ret ?_
                                   refine hx_block_ret ?_
                                   refine hx_through trivial ?_
                                   refine hx_through trivial ?_
                                   refine hx_block_ret ?_
                                   refine hx_through trivial ?_
                                   exact hx_ret1 (.inl rfl) rfl rfl () rfl (Ent.cons (by (repeat constructor); done) Ent.nil)
                                  )
                                 ·first | (exfalso; first | omega | (simp at g19; done) | contradiction) | skip
                                  all_goals (
                                   refine ho_ev rfl rfl rfl (ev_pick_f rfl rfl rfl) ?_
                                   refine ho_ev rfl rfl rfl (ev_move rfl rfl) ?_
                                   refine ho_evg rfl rfl rfl rfl (ev_move rfl rfl) ?_
                                   refine ho_effg rfl rfl rfl rfl (eff_call rfl rfl (.cons rfl .nil) rfl (disk_Pending b0 d1) (by repeat (first | exact Picks.nil | (apply Picks.ro; focus ((repeat constructor); done)) | (apply Picks.cons; focus ((repeat constructor); done)))) (fun _ => by repeat (first | exact App.nil | apply App.cons))) (fun _ => ?_)
                                   refine ho_neg rfl rfl rfl rfl rfl rfl rfl (fun g20 => ?_) (fun g20 => ?_)
                                   ·first | (exfalso; first | omega | (simp at g20; done) | contradiction) | skip
                                    all_goals (
                                     refine ho_ev rfl rfl rfl (ev_pick_f rfl rfl rfl) ?_
                                     refine ho_nil ?_
                                     refine hx_then ?_
                                     refine ht_then rfl ?_
                                     refine ht_seq ?_
                                     refine ht_region ?_
                                     refine ho_ev rfl rfl rfl (ev_assign rfl rfl) ?_
                                     refine ho_nil ?_
                                     refine hx_then ?_
                                     refine ht_ret ?_
                                     refine hx_block_ret ?_
                                     refine hx_through trivial ?_
                                     refine hx_through trivial ?_
                                     refine hx_block_ret ?_
                                     refine hx_through trivial ?_
                                     exact hx_ret1 (.inl rfl) rfl rfl () rfl (Ent.cons (by (repeat constructor); done) Ent.nil)
                                    )
                                   ·first | (exfalso; first | omega | (simp at g20; done) | contradiction) | skip
                                    all_goals (
                                     refine ho_ev rfl rfl rfl (ev_pick_f rfl rfl rfl) ?_
                                     refine ho_nil ?_
                                     refine hx_then ?_
                                     refine ht_else rfl ?_
                                     refine ht_skip ?_
                                     refine hx_block_normal ?_
                                     refine hx_then ?_
                                     refine ht_region ?_
                                     refine ho_ev rfl rfl rfl (ev_move rfl rfl) ?_
                                     refine ho_ev rfl rfl rfl (ev_add rfl rfl rfl (by first | exact in_i64 (by omega) | rfl)) ?_
                                     refine ho_ev rfl rfl rfl (ev_assign rfl rfl) ?_
                                     refine ho_nil ?_
                                     refine hx_again (I := (fun q : Nat × Dk.Disk × Mt.St => ([DiskAt b0 q.2.1, pt m0 (.cells #[.pointer (some ⟨b0, 0, none⟩), .int .i64 at_, .int .u64 ((q.2.2.number : Nat) : Int), .int .i64 ((q.2.2.last : Nat) : Int)] 83 (0, 0)), ro bitsR, ro (roS a xs.length xs), pu (Mt.Fine q.2.1 at_ ∧ Mt.opened q.2.1.view at_ = q.2.2 ∧ q.2.2.number ≤ q.1 ∧ q.1 ≤ xs.length), F], [(0, .slice a xs.length c), (5, .pointer (some ⟨b0, 0, none⟩)), (7, .int .i64 at_), (8, .pointer (some ⟨m0, 0, none⟩)), (11, .int .u64 ((q.2.2.number : Nat) : Int)), (12, .int .i64 q.1)]))) (μ := (fun q : Nat × Dk.Disk × Mt.St => 20 - q.1)) (i := (q, d, s)) (q + 1, d, s) ?_ ?_ ?_
                                     ·(first | dsimp only | skip); omega
                                     ·repeat (first | exact EnvSub.nil _ | (refine EnvSub.cons rfl ?_))
                                     ·(first | dsimp only | skip)
                                      exact Ent.cons (by (repeat constructor); done) (Ent.cons (by (repeat constructor); done) (Ent.roD (by (with_reducible repeat constructor); done) (Ent.roD (by (with_reducible repeat constructor); done) (Ent.pu ⟨hf, hs, by omega, by omega⟩ (Ent.cons (by (repeat constructor); done) Ent.nil)))))
                                    )
                                  )
                                )
                              )
                            )
                          )
                        )
                      )
                    )
                  ·skip
                   have hR4 := (Mt.fine_steps (body := x.s) hf hs (by omega) (by omega)).2
                   obtain ⟨hf1, ho1, _⟩ := Mt.fine_write (body := x.s) hf hs (by omega) (by omega)
                   generalize Mt.sd d (at_ + (1 - (s.last : Int))) (Wire.put (s.number + 1) x.s) 4 = d1 at *
                   have hc2 := Mt.card_two hf1.supp
                   have hp1 : d1.pend.length = 0 := by rw [hf1.pend]; rfl
                   refine ht_region ?_
                   refine ho_ev rfl rfl rfl (ev_move rfl rfl) ?_
                   refine ho_ev rfl rfl rfl (ev_move rfl rfl) ?_
                   refine ho_ev rfl rfl rfl (ev_move rfl rfl) ?_
                   refine ho_ev rfl rfl rfl (ev_indexAddr rfl Tryd.underlying35 Tryd.ty9 (congrArg (fun z => some (Value.slice z xs.length c)) ha) rfl (by omega) (by omega)) ?_
                   refine ho_ev rfl rfl rfl (ev_load rfl Tryd.underlying9 rfl rfl (cell_Sa0 ha (reads_ro (by (with_reducible repeat constructor); done)) hx rfl)) ?_
                   refine ho_eff rfl rfl rfl (eff_call rfl rfl (.cons rfl (.cons rfl .nil)) rfl (meta_Write m0 b0 d at_ s.number s.last x.s (by omega) hsl (by omega) (by rw [hpd]; decide)) (by repeat (first | exact Picks.nil | (apply Picks.ro; focus ((repeat constructor); done)) | (apply Picks.cons; focus ((repeat constructor); done)))) (fun _ => by repeat (first | exact App.nil | apply App.cons))) (fun _ => ?_)
                   rw [hR4]
                   dsimp only
                   refine ho_ev rfl rfl rfl (ev_assign rfl rfl) ?_
                   refine ho_nil ?_
                   refine hx_then ?_
                   refine ht_seq ?_
                   refine ht_seq ?_
                   refine ht_region ?_
                   refine ho_ev rfl rfl rfl (ev_move rfl rfl) ?_
                   refine ho_ev rfl rfl rfl (ev_move rfl rfl) ?_
                   refine ho_ev rfl rfl rfl (ev_indexAddr rfl Tryd.underlying35 Tryd.ty9 (congrArg (fun z => some (Value.slice z xs.length c)) ha) rfl (by omega) (by omega)) ?_
                   refine ho_ev rfl rfl rfl (ev_load rfl Tryd.underlying9 rfl rfl (cell_Sa0 ha (reads_ro (by (with_reducible repeat constructor); done)) hx rfl)) ?_
                   refine ho_ev rfl rfl rfl (ev_lenS rfl Tryd.underlying9 rfl) ?_
                   refine ho_gt rfl rfl rfl rfl rfl rfl (fun g21 => ?_) (fun g21 => ?_)
                   ·first | (exfalso; first | omega | (simp at g21; done) | contradiction) | skip
                    all_goals (
                     refine ho_nil ?_
                     refine hx_then ?_
                     refine ht_then rfl ?_
                     refine ht_seq ?_
                     refine ht_seq ?_
                     refine ht_region ?_
                     refine ho_ev rfl rfl rfl (ev_move rfl rfl) ?_
                     refine ho_ne rfl rfl rfl rfl rfl rfl (fun g22 => ?_) (fun g22 => ?_)
                     ·first | (exfalso; first | omega | (simp at g22; done) | contradiction) | skip
                      all_goals (
                       refine ho_nil ?_
                       refine hx_then ?_
                       refine ht_then rfl ?_
                       refine ht_seq ?_
                       refine ht_region ?_
                       refine ho_ev rfl rfl rfl (ev_assign rfl rfl) ?_
                       refine ho_nil ?_
                       refine hx_then ?_
                       refine ht_ret ?_
                       refine hx_through trivial ?_
                       refine hx_through trivial ?_
                       refine hx_block_ret ?_
                       refine hx_through trivial ?_
                       refine hx_through trivial ?_
                       refine hx_block_ret ?_
                       refine hx_through trivial ?_
                       exact hx_ret1 (.inl rfl) rfl rfl () rfl (Ent.cons (by (repeat constructor); done) Ent.nil)
                      )
                     ·first | (exfalso; first | omega | (simp at g22; done) | contradiction) | skip
                      all_goals (
                       refine ho_nil ?_
                       refine hx_then ?_
                       refine ht_else rfl ?_
                       refine ht_skip ?_
                       refine hx_then ?_
                       refine ht_exit ?_
                       refine hx_through trivial ?_
                       refine hx_block_here ?_
                       refine hx_then ?_
                       refine ht_region ?_
                       refine ho_ev rfl rfl rfl (ev_move rfl rfl) ?_
                       refine ho_ev rfl rfl rfl (ev_add rfl rfl rfl (by first | exact in_i64 (by omega) | rfl)) ?_
                       refine ho_ev rfl rfl rfl (ev_assign rfl rfl) ?_
                       refine ho_nil ?_
                       refine hx_again (I := (fun q : Nat × Dk.Disk × Mt.St => ([DiskAt b0 q.2.1, pt m0 (.cells #[.pointer (some ⟨b0, 0, none⟩), .int .i64 at_, .int .u64 ((q.2.2.number : Nat) : Int), .int .i64 ((q.2.2.last : Nat) : Int)] 83 (0, 0)), ro bitsR, ro (roS a xs.length xs), pu (Mt.Fine q.2.1 at_ ∧ Mt.opened q.2.1.view at_ = q.2.2 ∧ q.2.2.number ≤ q.1 ∧ q.1 ≤ xs.length), F], [(0, .slice a xs.length c), (5, .pointer (some ⟨b0, 0, none⟩)), (7, .int .i64 at_), (8, .pointer (some ⟨m0, 0, none⟩)), (11, .int .u64 ((q.2.2.number : Nat) : Int)), (12, .int .i64 q.1)]))) (μ := (fun q : Nat × Dk.Disk × Mt.St => 20 - q.1)) (i := (q, d, s)) (q + 1, d1, ⟨s.number + 1, 1 - s.last, x.s⟩) ?_ ?_ ?_
                       ·(first | dsimp only | skip); omega
                       ·repeat (first | exact EnvSub.nil _ | (refine EnvSub.cons rfl ?_))
                       ·(first | dsimp only | skip)
                        exact Ent.cons (by (repeat constructor); done) (Ent.cons (by (repeat constructor); done) (Ent.roD (by (with_reducible repeat constructor); done) (Ent.roD (by (with_reducible repeat constructor); done) (Ent.pu ⟨hf1, ho1, by show s.number + 1 ≤ q + 1; omega, by omega⟩ (Ent.cons (by (repeat constructor); done) Ent.nil)))))
                      )
                    )
                   ·first | (exfalso; first | omega | (simp at g21; done) | contradiction) | skip
                    all_goals (
                     refine ho_nil ?_
                     refine hx_then ?_
                     refine ht_else rfl ?_
                     refine ht_skip ?_
                     refine hx_then ?_
                     refine ht_seq ?_
                     refine ht_region ?_
                     refine ho_ev rfl rfl rfl (ev_move rfl rfl) ?_
                     refine ho_ev rfl rfl rfl (ev_add (r := ((s.number + 1 : Nat) : Int)) rfl rfl rfl (by exact (IntWalk.u64_in _ (by omega)).trans (by omega))) ?_
                     refine ho_ev rfl rfl rfl (ev_assign rfl rfl) ?_
                     refine ho_nil ?_
                     refine hx_then ?_
                     refine ht_seq ?_
                     refine ht_region ?_
                     refine ho_ev rfl rfl rfl (ev_move rfl rfl) ?_
                     refine ho_ev rfl rfl rfl (ev_move rfl rfl) ?_
                     refine ho_eff rfl rfl rfl (eff_call rfl rfl (.cons rfl (.cons rfl .nil)) rfl (meta_Open b0 d1 at_ (by omega)) (by repeat (first | exact Picks.nil | (apply Picks.ro; focus ((repeat constructor); done)) | (apply Picks.cons; focus ((repeat constructor); done)))) (fun _ => by repeat (first | exact App.nil | apply App.cons))) (fun m1 => ?_)
                     rw [ho1]
                     dsimp only
                     rw [if_neg (by omega)]
                     refine ho_ev rfl rfl rfl (ev_move rfl rfl) ?_
                     refine ho_ev rfl rfl rfl (ev_extract rfl rfl rfl) ?_
                     refine ho_ev rfl rfl rfl (ev_extract rfl rfl rfl) ?_
                     refine ho_ev rfl rfl rfl (ev_extract rfl rfl rfl) ?_
                     refine ho_ev rfl rfl rfl (ev_assign rfl rfl) ?_
                     refine ho_ev rfl rfl rfl (ev_assign rfl rfl) ?_
                     refine ho_ev rfl rfl rfl (ev_assign rfl rfl) ?_
                     refine ho_nil ?_
                     refine hx_then ?_
                     refine ht_seq ?_
                     refine ht_region ?_
                     refine ho_ev rfl rfl rfl (ev_move rfl rfl) ?_
                     refine ho_ne rfl rfl rfl rfl rfl rfl (fun g23 => ?_) (fun g23 => ?_)
                     ·first | (exfalso; first | omega | (simp at g23; done) | contradiction) | skip
                      all_goals (
                       refine ho_ev rfl rfl rfl (ev_move rfl rfl) ?_
                       refine ho_pass rfl rfl rfl rfl ?_
                       refine ho_pass rfl rfl rfl rfl ?_
                       refine ho_ev rfl rfl rfl (ev_pick_t rfl rfl rfl) ?_
                       refine ho_ev rfl rfl rfl (ev_move rfl rfl) ?_
                       refine ho_pass rfl rfl rfl rfl ?_
                       refine ho_pass rfl rfl rfl rfl ?_
                       refine ho_pass rfl rfl rfl rfl ?_
                       refine ho_pass rfl rfl rfl rfl ?_
                       refine ho_pass rfl rfl rfl rfl ?_
                       refine ho_pass rfl rfl rfl rfl ?_
                       refine ho_ev rfl rfl rfl (ev_pick_t rfl rfl rfl) ?_
                       refine ho_ev rfl rfl rfl (ev_move rfl rfl) ?_
                       refine ho_pass rfl rfl rfl rfl ?_
                       refine ho_pass rfl rfl rfl rfl ?_
                       refine ho_ev rfl rfl rfl (ev_pick_t rfl rfl rfl) ?_
                       refine ho_ev rfl rfl rfl (ev_move rfl rfl) ?_
                       refine ho_pass rfl rfl rfl rfl ?_
                       refine ho_pass rfl rfl rfl rfl ?_
                       refine ho_pass rfl rfl rfl rfl ?_
                       refine ho_pass rfl rfl rfl rfl ?_
                       refine ho_ev rfl rfl rfl (ev_pick_t rfl rfl rfl) ?_
                       refine ho_ev rfl rfl rfl (ev_move rfl rfl) ?_
                       refine ho_pass rfl rfl rfl rfl ?_
                       refine ho_pass rfl rfl rfl rfl ?_
                       refine ho_pass rfl rfl rfl rfl ?_
                       refine ho_pass rfl rfl rfl rfl ?_
                       refine ho_ev rfl rfl rfl (ev_pick_t rfl rfl rfl) ?_
                       refine ho_ev rfl rfl rfl (ev_move rfl rfl) ?_
                       refine ho_pass rfl rfl rfl rfl ?_
                       refine ho_pass rfl rfl rfl rfl ?_
                       refine ho_pass rfl rfl rfl rfl ?_
                       refine ho_ev rfl rfl rfl (ev_pick_t rfl rfl rfl) ?_
                       refine ho_ev rfl rfl rfl (ev_move rfl rfl) ?_
                       refine ho_pass rfl rfl rfl rfl ?_
                       refine ho_pass rfl rfl rfl rfl ?_
                       refine ho_pass rfl rfl rfl rfl ?_
                       refine ho_ev rfl rfl rfl (ev_pick_t rfl rfl rfl) ?_
                       refine ho_nil ?_
                       refine hx_then ?_
                       refine ht_then rfl ?_
                       refine ht_seq ?_
                       refine ht_region ?_
                       refine ho_ev rfl rfl rfl (ev_assign rfl rfl) ?_
                       refine ho_nil ?_
                       refine hx_then ?_
                       refine ht_ret ?_
                       refine hx_block_ret ?_
                       refine hx_through trivial ?_
                       refine hx_through trivial ?_
                       refine hx_block_ret ?_
                       refine hx_through trivial ?_
                       exact hx_ret1 (.inl rfl) rfl rfl () rfl (Ent.cons (by (repeat constructor); done) Ent.nil)
                      )
                     ·first | (exfalso; first | omega | (simp at g23; done) | contradiction) | skip
                      all_goals (
                       refine ho_ev rfl rfl rfl (ev_move rfl rfl) ?_
                       refine ho_evg rfl rfl rfl rfl (ev_move rfl rfl) ?_
                       refine ho_evg rfl rfl rfl rfl (ev_ptrNil rfl Tryd.underlying28 rfl rfl rfl) ?_
                       refine ho_ev rfl rfl rfl (ev_pick_f rfl rfl rfl) ?_
                       refine ho_ev rfl rfl rfl (ev_move rfl rfl) ?_
                       refine ho_bool (t := 95) rfl (fun g24 => ?_) (fun g24 => ?_)
                       ·first | (exfalso; first | omega | (simp at g24; done) | contradiction) | skip
                        all_goals (
                         refine ho_pass rfl rfl rfl rfl ?_
                         refine ho_pass rfl rfl rfl rfl ?_
                         refine ho_pass rfl rfl rfl rfl ?_
                         refine ho_pass rfl rfl rfl rfl ?_
                         refine ho_pass rfl rfl rfl rfl ?_
                         refine ho_pass rfl rfl rfl rfl ?_
                         refine ho_ev rfl rfl rfl (ev_pick_t rfl rfl rfl) ?_
                         refine ho_ev rfl rfl rfl (ev_move rfl rfl) ?_
                         refine ho_pass rfl rfl rfl rfl ?_
                         refine ho_pass rfl rfl rfl rfl ?_
                         refine ho_ev rfl rfl rfl (ev_pick_t rfl rfl rfl) ?_
                         refine ho_ev rfl rfl rfl (ev_move rfl rfl) ?_
                         refine ho_pass rfl rfl rfl rfl ?_
                         refine ho_pass rfl rfl rfl rfl ?_
                         refine ho_pass rfl rfl rfl rfl ?_
                         refine ho_pass rfl rfl rfl rfl ?_
                         refine ho_ev rfl rfl rfl (ev_pick_t rfl rfl rfl) ?_
                         refine ho_ev rfl rfl rfl (ev_move rfl rfl) ?_
                         refine ho_pass rfl rfl rfl rfl ?_
                         refine ho_pass rfl rfl rfl rfl ?_
                         refine ho_pass rfl rfl rfl rfl ?_
                         refine ho_pass rfl rfl rfl rfl ?_
                         refine ho_ev rfl rfl rfl (ev_pick_t rfl rfl rfl) ?_
                         refine ho_ev rfl rfl rfl (ev_move rfl rfl) ?_
                         refine ho_pass rfl rfl rfl rfl ?_
                         refine ho_pass rfl rfl rfl rfl ?_
                         refine ho_pass rfl rfl rfl rfl ?_
                         refine ho_ev rfl rfl rfl (ev_pick_t rfl rfl rfl) ?_
                         refine ho_ev rfl rfl rfl (ev_move rfl rfl) ?_
                         refine ho_pass rfl rfl rfl rfl ?_
                         refine ho_pass rfl rfl rfl rfl ?_
                         refine ho_pass rfl rfl rfl rfl ?_
                         refine ho_ev rfl rfl rfl (ev_pick_t rfl rfl rfl) ?_
                         refine ho_nil ?_
                         refine hx_then ?_
                         refine ht_then rfl ?_
                         refine ht_seq ?_
                         refine ht_region ?_
                         refine ho_ev rfl rfl rfl (ev_assign rfl rfl) ?_
                         refine ho_nil ?_
                         refine hx_then ?_
                         refine ht_ret ?_
                         refine hx_block_ret ?_
                         refine hx_through trivial ?_
                         refine hx_through trivial ?_
                         refine hx_block_ret ?_
                         refine hx_through trivial ?_
                         exact hx_ret1 (.inl rfl) rfl rfl () rfl (Ent.cons (by (repeat constructor); done) Ent.nil)
                        )
                       ·first | (exfalso; first | omega | (simp at g24; done) | contradiction) | skip
                        all_goals (
                         refine ho_evg rfl rfl rfl rfl (ev_move rfl rfl) ?_
                         refine ho_evg rfl rfl rfl rfl (ev_move rfl rfl) ?_
                         refine ho_evg rfl rfl rfl rfl (ev_move rfl rfl) ?_
                         refine ho_evg rfl rfl rfl rfl (ev_indexAddr rfl Tryd.underlying35 Tryd.ty9 (congrArg (fun z => some (Value.slice z xs.length c)) ha) rfl (by omega) (by omega)) ?_
                         refine ho_evg rfl rfl rfl rfl (ev_load rfl Tryd.underlying9 rfl rfl (cell_Sa0 ha (reads_ro (by (with_reducible repeat constructor); done)) hx rfl)) ?_
                         refine ho_neSg rfl rfl rfl rfl rfl rfl rfl (fun g25 => ?_) (fun g25 => ?_)
                         ·first | (exfalso; first | omega | (simp at g25; done) | contradiction) | skip
                          all_goals (
                           refine ho_ev rfl rfl rfl (ev_pick_f rfl rfl rfl) ?_
                           refine ho_ev rfl rfl rfl (ev_move rfl rfl) ?_
                           refine ho_pass rfl rfl rfl rfl ?_
                           refine ho_pass rfl rfl rfl rfl ?_
                           refine ho_ev rfl rfl rfl (ev_pick_t rfl rfl rfl) ?_
                           refine ho_ev rfl rfl rfl (ev_move rfl rfl) ?_
                           refine ho_pass rfl rfl rfl rfl ?_
                           refine ho_pass rfl rfl rfl rfl ?_
                           refine ho_pass rfl rfl rfl rfl ?_
                           refine ho_pass rfl rfl rfl rfl ?_
                           refine ho_ev rfl rfl rfl (ev_pick_t rfl rfl rfl) ?_
                           refine ho_ev rfl rfl rfl (ev_move rfl rfl) ?_
                           refine ho_pass rfl rfl rfl rfl ?_
                           refine ho_pass rfl rfl rfl rfl ?_
                           refine ho_pass rfl rfl rfl rfl ?_
                           refine ho_pass rfl rfl rfl rfl ?_
                           refine ho_ev rfl rfl rfl (ev_pick_t rfl rfl rfl) ?_
                           refine ho_ev rfl rfl rfl (ev_move rfl rfl) ?_
                           refine ho_pass rfl rfl rfl rfl ?_
                           refine ho_pass rfl rfl rfl rfl ?_
                           refine ho_pass rfl rfl rfl rfl ?_
                           refine ho_ev rfl rfl rfl (ev_pick_t rfl rfl rfl) ?_
                           refine ho_ev rfl rfl rfl (ev_move rfl rfl) ?_
                           refine ho_pass rfl rfl rfl rfl ?_
                           refine ho_pass rfl rfl rfl rfl ?_
                           refine ho_pass rfl rfl rfl rfl ?_
                           refine ho_ev rfl rfl rfl (ev_pick_t rfl rfl rfl) ?_
                           refine ho_nil ?_
                           refine hx_then ?_
                           refine ht_then rfl ?_
                           refine ht_seq ?_
                           refine ht_region ?_
                           refine ho_ev rfl rfl rfl (ev_assign rfl rfl) ?_
                           refine ho_nil ?_
                           refine hx_then ?_
                           refine ht_ret ?_
                           refine hx_block_ret ?_
                           refine hx_through trivial ?_
                           refine hx_through trivial ?_
                           refine hx_block_ret ?_
                           refine hx_through trivial ?_
                           exact hx_ret1 (.inl rfl) rfl rfl () rfl (Ent.cons (by (repeat constructor); done) Ent.nil)
                          )
                         ·first | (exfalso; first | omega | (simp at g25; done) | contradiction) | skip
                          all_goals (
                           refine ho_ev rfl rfl rfl (ev_pick_f rfl rfl rfl) ?_
                           refine ho_ev rfl rfl rfl (ev_move rfl rfl) ?_
                           refine ho_evg rfl rfl rfl rfl (ev_move rfl rfl) ?_
                           refine ho_neg rfl rfl rfl rfl rfl rfl rfl (fun g26 => ?_) (fun g26 => ?_)
                           ·first | (exfalso; first | omega | (simp at g26; done) | contradiction) | skip
                            all_goals (
                             refine ho_ev rfl rfl rfl (ev_pick_f rfl rfl rfl) ?_
                             refine ho_ev rfl rfl rfl (ev_move rfl rfl) ?_
                             refine ho_pass rfl rfl rfl rfl ?_
                             refine ho_pass rfl rfl rfl rfl ?_
                             refine ho_pass rfl rfl rfl rfl ?_
                             refine ho_pass rfl rfl rfl rfl ?_
                             refine ho_ev rfl rfl rfl (ev_pick_t rfl rfl rfl) ?_
                             refine ho_ev rfl rfl rfl (ev_move rfl rfl) ?_
                             refine ho_pass rfl rfl rfl rfl ?_
                             refine ho_pass rfl rfl rfl rfl ?_
                             refine ho_pass rfl rfl rfl rfl ?_
                             refine ho_pass rfl rfl rfl rfl ?_
                             refine ho_ev rfl rfl rfl (ev_pick_t rfl rfl rfl) ?_
                             refine ho_ev rfl rfl rfl (ev_move rfl rfl) ?_
                             refine ho_pass rfl rfl rfl rfl ?_
                             refine ho_pass rfl rfl rfl rfl ?_
                             refine ho_pass rfl rfl rfl rfl ?_
                             refine ho_ev rfl rfl rfl (ev_pick_t rfl rfl rfl) ?_
                             refine ho_ev rfl rfl rfl (ev_move rfl rfl) ?_
                             refine ho_pass rfl rfl rfl rfl ?_
                             refine ho_pass rfl rfl rfl rfl ?_
                             refine ho_pass rfl rfl rfl rfl ?_
                             refine ho_ev rfl rfl rfl (ev_pick_t rfl rfl rfl) ?_
                             refine ho_nil ?_
                             refine hx_then ?_
                             refine ht_then rfl ?_
                             refine ht_seq ?_
                             refine ht_region ?_
                             refine ho_ev rfl rfl rfl (ev_assign rfl rfl) ?_
                             refine ho_nil ?_
                             refine hx_then ?_
                             refine ht_ret ?_
                             refine hx_block_ret ?_
                             refine hx_through trivial ?_
                             refine hx_through trivial ?_
                             refine hx_block_ret ?_
                             refine hx_through trivial ?_
                             exact hx_ret1 (.inl rfl) rfl rfl () rfl (Ent.cons (by (repeat constructor); done) Ent.nil)
                            )
                           ·first | (exfalso; first | omega | (simp at g26; done) | contradiction) | skip
                            all_goals (
                             refine ho_ev rfl rfl rfl (ev_pick_f rfl rfl rfl) ?_
                             refine ho_ev rfl rfl rfl (ev_move rfl rfl) ?_
                             refine ho_evg rfl rfl rfl rfl (ev_move rfl rfl) ?_
                             refine ho_effg rfl rfl rfl rfl (eff_call rfl rfl (.cons rfl .nil) rfl (meta_Number m0 b0 at_ (s.number + 1) (1 - s.last)) (by repeat (first | exact Picks.nil | (apply Picks.ro; focus ((repeat constructor); done)) | (apply Picks.cons; focus ((repeat constructor); done)))) (fun _ => by repeat (first | exact App.nil | apply App.cons))) (fun _ => ?_)
                             refine ho_evg rfl rfl rfl rfl (ev_move rfl rfl) ?_
                             refine ho_neg rfl rfl rfl rfl rfl rfl rfl (fun g27 => ?_) (fun g27 => ?_)
                             ·first | (exfalso; first | omega | (simp at g27; done) | contradiction) | skip
                              all_goals (
                               refine ho_ev rfl rfl rfl (ev_pick_f rfl rfl rfl) ?_
                               refine ho_ev rfl rfl rfl (ev_move rfl rfl) ?_
                               refine ho_pass rfl rfl rfl rfl ?_
                               refine ho_pass rfl rfl rfl rfl ?_
                               refine ho_pass rfl rfl rfl rfl ?_
                               refine ho_pass rfl rfl rfl rfl ?_
                               refine ho_ev rfl rfl rfl (ev_pick_t rfl rfl rfl) ?_
                               refine ho_ev rfl rfl rfl (ev_move rfl rfl) ?_
                               refine ho_pass rfl rfl rfl rfl ?_
                               refine ho_pass rfl rfl rfl rfl ?_
                               refine ho_pass rfl rfl rfl rfl ?_
                               refine ho_ev rfl rfl rfl (ev_pick_t rfl rfl rfl) ?_
                               refine ho_ev rfl rfl rfl (ev_move rfl rfl) ?_
                               refine ho_pass rfl rfl rfl rfl ?_
                               refine ho_pass rfl rfl rfl rfl ?_
                               refine ho_pass rfl rfl rfl rfl ?_
                               refine ho_ev rfl rfl rfl (ev_pick_t rfl rfl rfl) ?_
                               refine ho_nil ?_
                               refine hx_then ?_
                               refine ht_then rfl ?_
                               refine ht_seq ?_
                               refine ht_region ?_
                               refine ho_ev rfl rfl rfl (ev_assign rfl rfl) ?_
                               refine ho_nil ?_
                               refine hx_then ?_
                               refine ht_ret ?_
                               refine hx_block_ret ?_
                               refine hx_through trivial ?_
                               refine hx_through trivial ?_
                               refine hx_block_ret ?_
                               refine hx_through trivial ?_
                               exact hx_ret1 (.inl rfl) rfl rfl () rfl (Ent.cons (by (repeat constructor); done) Ent.nil)
                              )
                             ·first | (exfalso; first | omega | (simp at g27; done) | contradiction) | skip
                              all_goals (
                               refine ho_ev rfl rfl rfl (ev_pick_f rfl rfl rfl) ?_
                               refine ho_ev rfl rfl rfl (ev_move rfl rfl) ?_
                               refine ho_evg rfl rfl rfl rfl (ev_move rfl rfl) ?_
                               refine ho_effg rfl rfl rfl rfl (eff_call rfl rfl (.cons rfl .nil) rfl (meta_Number m1 b0 at_ (s.number + 1) (1 - s.last)) (by repeat (first | exact Picks.nil | (apply Picks.ro; focus ((repeat constructor); done)) | (apply Picks.cons; focus ((repeat constructor); done)))) (fun _ => by repeat (first | exact App.nil | apply App.cons))) (fun _ => ?_)
                               refine ho_evg rfl rfl rfl rfl (ev_move rfl rfl) ?_
                               refine ho_neg rfl rfl rfl rfl rfl rfl rfl (fun g28 => ?_) (fun g28 => ?_)
                               ·first | (exfalso; first | omega | (simp at g28; done) | contradiction) | skip
                                all_goals (
                                 refine ho_ev rfl rfl rfl (ev_pick_f rfl rfl rfl) ?_
                                 refine ho_ev rfl rfl rfl (ev_move rfl rfl) ?_
                                 refine ho_pass rfl rfl rfl rfl ?_
                                 refine ho_pass rfl rfl rfl rfl ?_
                                 refine ho_pass rfl rfl rfl rfl ?_
                                 refine ho_ev rfl rfl rfl (ev_pick_t rfl rfl rfl) ?_
                                 refine ho_ev rfl rfl rfl (ev_move rfl rfl) ?_
                                 refine ho_pass rfl rfl rfl rfl ?_
                                 refine ho_pass rfl rfl rfl rfl ?_
                                 refine ho_pass rfl rfl rfl rfl ?_
                                 refine ho_ev rfl rfl rfl (ev_pick_t rfl rfl rfl) ?_
                                 refine ho_nil ?_
                                 refine hx_then ?_
                                 refine ht_then rfl ?_
                                 refine ht_seq ?_
                                 refine ht_region ?_
                                 refine ho_ev rfl rfl rfl (ev_assign rfl rfl) ?_
                                 refine ho_nil ?_
                                 refine hx_then ?_
                                 refine ht_ret ?_
                                 refine hx_block_ret ?_
                                 refine hx_through trivial ?_
                                 refine hx_through trivial ?_
                                 refine hx_block_ret ?_
                                 refine hx_through trivial ?_
                                 exact hx_ret1 (.inl rfl) rfl rfl () rfl (Ent.cons (by (repeat constructor); done) Ent.nil)
                                )
                               ·first | (exfalso; first | omega | (simp at g28; done) | contradiction) | skip
                                all_goals (
                                 refine ho_ev rfl rfl rfl (ev_pick_f rfl rfl rfl) ?_
                                 refine ho_ev rfl rfl rfl (ev_move rfl rfl) ?_
                                 refine ho_evg rfl rfl rfl rfl (ev_move rfl rfl) ?_
                                 refine ho_effg rfl rfl rfl rfl (eff_call rfl rfl (.cons rfl .nil) rfl (disk_Used b0 d1) (by repeat (first | exact Picks.nil | (apply Picks.ro; focus ((repeat constructor); done)) | (apply Picks.cons; focus ((repeat constructor); done)))) (fun _ => by repeat (first | exact App.nil | apply App.cons))) (fun _ => ?_)
                                 refine ho_gtg rfl rfl rfl rfl rfl rfl rfl (fun g29 => ?_) (fun g29 => ?_)
                                 ·first | (exfalso; first | omega | (simp at g29; done) | contradiction) | skip
                                  all_goals (
                                   refine ho_ev rfl rfl rfl (ev_pick_f rfl rfl rfl) ?_
                                   refine ho_ev rfl rfl rfl (ev_move rfl rfl) ?_
                                   refine ho_pass rfl rfl rfl rfl ?_
                                   refine ho_pass rfl rfl rfl rfl ?_
                                   refine ho_pass rfl rfl rfl rfl ?_
                                   refine ho_ev rfl rfl rfl (ev_pick_t rfl rfl rfl) ?_
                                   refine ho_nil ?_
                                   refine hx_then ?_
                                   refine ht_then rfl ?_
                                   refine ht_seq ?_
                                   refine ht_region ?_
                                   refine ho_ev rfl rfl rfl (ev_assign rfl rfl) ?_
                                   refine ho_nil ?_
                                   refine hx_then ?_
                                   refine ht_ret ?_
                                   refine hx_block_ret ?_
                                   refine hx_through trivial ?_
                                   refine hx_through trivial ?_
                                   refine hx_block_ret ?_
                                   refine hx_through trivial ?_
                                   exact hx_ret1 (.inl rfl) rfl rfl () rfl (Ent.cons (by (repeat constructor); done) Ent.nil)
                                  )
                                 ·first | (exfalso; first | omega | (simp at g29; done) | contradiction) | skip
                                  all_goals (
                                   refine ho_ev rfl rfl rfl (ev_pick_f rfl rfl rfl) ?_
                                   refine ho_ev rfl rfl rfl (ev_move rfl rfl) ?_
                                   refine ho_evg rfl rfl rfl rfl (ev_move rfl rfl) ?_
                                   refine ho_effg rfl rfl rfl rfl (eff_call rfl rfl (.cons rfl .nil) rfl (disk_Pending b0 d1) (by repeat (first | exact Picks.nil | (apply Picks.ro; focus ((repeat constructor); done)) | (apply Picks.cons; focus ((repeat constructor); done)))) (fun _ => by repeat (first | exact App.nil | apply App.cons))) (fun _ => ?_)
                                   refine ho_neg rfl rfl rfl rfl rfl rfl rfl (fun g30 => ?_) (fun g30 => ?_)
                                   ·first | (exfalso; first | omega | (simp at g30; done) | contradiction) | skip
                                    all_goals (
                                     refine ho_ev rfl rfl rfl (ev_pick_f rfl rfl rfl) ?_
                                     refine ho_nil ?_
                                     refine hx_then ?_
                                     refine ht_then rfl ?_
                                     refine ht_seq ?_
                                     refine ht_region ?_
                                     refine ho_ev rfl rfl rfl (ev_assign rfl rfl) ?_
                                     refine ho_nil ?_
                                     refine hx_then ?_
                                     refine ht_ret ?_
                                     refine hx_block_ret ?_
                                     refine hx_through trivial ?_
                                     refine hx_through trivial ?_
                                     refine hx_block_ret ?_
                                     refine hx_through trivial ?_
                                     exact hx_ret1 (.inl rfl) rfl rfl () rfl (Ent.cons (by (repeat constructor); done) Ent.nil)
                                    )
                                   ·first | (exfalso; first | omega | (simp at g30; done) | contradiction) | skip
                                    all_goals (
                                     refine ho_ev rfl rfl rfl (ev_pick_f rfl rfl rfl) ?_
                                     refine ho_nil ?_
                                     refine hx_then ?_
                                     refine ht_else rfl ?_
                                     refine ht_skip ?_
                                     refine hx_block_normal ?_
                                     refine hx_then ?_
                                     refine ht_region ?_
                                     refine ho_ev rfl rfl rfl (ev_move rfl rfl) ?_
                                     refine ho_ev rfl rfl rfl (ev_add rfl rfl rfl (by first | exact in_i64 (by omega) | rfl)) ?_
                                     refine ho_ev rfl rfl rfl (ev_assign rfl rfl) ?_
                                     refine ho_nil ?_
                                     refine hx_again (I := (fun q : Nat × Dk.Disk × Mt.St => ([DiskAt b0 q.2.1, pt m0 (.cells #[.pointer (some ⟨b0, 0, none⟩), .int .i64 at_, .int .u64 ((q.2.2.number : Nat) : Int), .int .i64 ((q.2.2.last : Nat) : Int)] 83 (0, 0)), ro bitsR, ro (roS a xs.length xs), pu (Mt.Fine q.2.1 at_ ∧ Mt.opened q.2.1.view at_ = q.2.2 ∧ q.2.2.number ≤ q.1 ∧ q.1 ≤ xs.length), F], [(0, .slice a xs.length c), (5, .pointer (some ⟨b0, 0, none⟩)), (7, .int .i64 at_), (8, .pointer (some ⟨m0, 0, none⟩)), (11, .int .u64 ((q.2.2.number : Nat) : Int)), (12, .int .i64 q.1)]))) (μ := (fun q : Nat × Dk.Disk × Mt.St => 20 - q.1)) (i := (q, d, s)) (q + 1, d1, ⟨s.number + 1, 1 - s.last, x.s⟩) ?_ ?_ ?_
                                     ·(first | dsimp only | skip); omega
                                     ·repeat (first | exact EnvSub.nil _ | (refine EnvSub.cons rfl ?_))
                                     ·(first | dsimp only | skip)
                                      exact Ent.cons (by (repeat constructor); done) (Ent.cons (by (repeat constructor); done) (Ent.roD (by (with_reducible repeat constructor); done) (Ent.roD (by (with_reducible repeat constructor); done) (Ent.pu ⟨hf1, ho1, by show s.number + 1 ≤ q + 1; omega, by omega⟩ (Ent.cons (by (repeat constructor); done) Ent.nil)))))
                                    )
                                  )
                                )
                              )
                            )
                          )
                        )
                      )
                    )
                 )
                ·first | (exfalso; first | omega | (simp at g10; done) | contradiction) | skip
                 all_goals (
                  refine ho_nil ?_
                  refine hx_then ?_
                  refine ht_else rfl ?_
                  refine ht_exit ?_
                  refine hx_through trivial ?_
                  refine hx_through trivial ?_
                  refine hx_block_here ?_
                  refine hx_then ?_
                  refine ht_seq ?_
                  refine ht_region ?_
                  refine ho_ev rfl rfl rfl (ev_assign rfl rfl) ?_
                  refine ho_nil ?_
                  refine hx_then ?_
                  refine ht_ret ?_
                  exact hx_ret1 (.inl rfl) rfl rfl () rfl (Ent.cons (by (repeat constructor); done) Ent.nil)
                 )
               )
             )
           )
         ·skip
          refine ho_eff rfl rfl rfl (eff_call rfl rfl (.cons rfl (.cons rfl .nil)) rfl (meta_Open b0 (Dk.Disk.new 65536) at_ (by omega)) (by repeat (first | exact Picks.nil | (apply Picks.ro; focus ((repeat constructor); done)) | (apply Picks.cons; focus ((repeat constructor); done)))) (fun _ => by repeat (first | exact App.nil | apply App.cons))) (fun m0 => ?_)
          rw [show Mt.opened (Dk.Disk.new 65536).view at_ = ⟨0, 1, []⟩ from Mt.opened_none rfl rfl]
          dsimp only
          rw [if_pos rfl]
          refine ho_ev rfl rfl rfl (ev_move rfl rfl) ?_
          refine ho_ev rfl rfl rfl (ev_extract rfl rfl rfl) ?_
          refine ho_ev rfl rfl rfl (ev_extract rfl rfl rfl) ?_
          refine ho_ev rfl rfl rfl (ev_extract rfl rfl rfl) ?_
          refine ho_ev rfl rfl rfl (ev_assign rfl rfl) ?_
          refine ho_ev rfl rfl rfl (ev_assign rfl rfl) ?_
          refine ho_ev rfl rfl rfl (ev_assign rfl rfl) ?_
          refine ho_nil ?_
          refine hx_then ?_
          refine ht_seq ?_
          refine ht_seq ?_
          refine ht_region ?_
          refine ho_ev rfl rfl rfl (ev_move rfl rfl) ?_
          refine ho_gt rfl rfl rfl rfl rfl rfl (fun g31 => ?_) (fun g31 => ?_)
          ·first | (exfalso; first | omega | (simp at g31; done) | contradiction) | skip
           all_goals (
            refine ho_nil ?_
            refine hx_then ?_
            refine ht_then rfl ?_
            refine ht_seq ?_
            refine ht_region ?_
            refine ho_ev rfl rfl rfl (ev_move rfl rfl) ?_
            refine ho_ev rfl rfl rfl (ev_ptrNil rfl Tryd.underlying28 rfl rfl rfl) ?_
            refine ho_ev rfl rfl rfl (ev_move rfl rfl) ?_
            refine ho_bool (t := 50) rfl (fun g32 => ?_) (fun g32 => ?_)
            ·first | (exfalso; first | omega | (simp at g32; done) | contradiction) | skip
             all_goals (
              refine ho_evg rfl rfl rfl rfl (ev_move rfl rfl) ?_
              refine ho_eqg rfl rfl rfl rfl rfl rfl rfl (fun g33 => ?_) (fun g33 => ?_)
              ·first | (exfalso; first | omega | (simp at g33; done) | contradiction) | skip
               all_goals (
                refine ho_ev rfl rfl rfl (ev_pick_t rfl rfl rfl) ?_
                refine ho_ev rfl rfl rfl (ev_assign rfl rfl) ?_
                refine ho_nil ?_
                refine hx_then ?_
                refine ht_ret ?_
                refine hx_through trivial ?_
                exact hx_ret1 (.inl rfl) rfl rfl () rfl (Ent.cons (by (repeat constructor); done) Ent.nil)
               )
              ·first | (exfalso; first | omega | (simp at g33; done) | contradiction) | skip
               all_goals (
                refine ho_ev rfl rfl rfl (ev_pick_t rfl rfl rfl) ?_
                refine ho_ev rfl rfl rfl (ev_assign rfl rfl) ?_
                refine ho_nil ?_
                refine hx_then ?_
                refine ht_ret ?_
                refine hx_through trivial ?_
                exact hx_ret1 (.inl rfl) rfl rfl () rfl (Ent.cons (by (repeat constructor); done) Ent.nil)
               )
             )
            ·first | (exfalso; first | omega | (simp at g32; done) | contradiction) | skip
             all_goals (
              refine ho_pass rfl rfl rfl rfl ?_
              refine ho_pass rfl rfl rfl rfl ?_
              refine ho_ev rfl rfl rfl (ev_pick_f rfl rfl rfl) ?_
              refine ho_ev rfl rfl rfl (ev_assign rfl rfl) ?_
              refine ho_nil ?_
              refine hx_then ?_
              refine ht_ret ?_
              refine hx_through trivial ?_
              exact hx_ret1 (.inl rfl) rfl rfl () rfl (Ent.cons (by (repeat constructor); done) Ent.nil)
             )
           )
          ·first | (exfalso; first | omega | (simp at g31; done) | contradiction) | skip
           all_goals (
            refine ho_nil ?_
            refine hx_then ?_
            refine ht_else rfl ?_
            refine ht_skip ?_
            refine hx_then ?_
            refine ht_seq ?_
            refine ht_seq ?_
            refine ht_region ?_
            refine ho_ev rfl rfl rfl (ev_move rfl rfl) ?_
            refine ho_ev rfl rfl rfl (ev_ptrNil rfl Tryd.underlying28 rfl rfl rfl) ?_
            refine ho_ev rfl rfl rfl (ev_move rfl rfl) ?_
            refine ho_bool (t := 56) rfl (fun g34 => ?_) (fun g34 => ?_)
            ·first | (exfalso; first | omega | (simp at g34; done) | contradiction) | skip
             all_goals (
              refine ho_pass rfl rfl rfl rfl ?_
              refine ho_pass rfl rfl rfl rfl ?_
              refine ho_ev rfl rfl rfl (ev_pick_t rfl rfl rfl) ?_
              refine ho_nil ?_
              refine hx_then ?_
              refine ht_then rfl ?_
              refine ht_seq ?_
              refine ht_region ?_
              refine ho_ev rfl rfl rfl (ev_assign rfl rfl) ?_
              refine ho_nil ?_
              refine hx_then ?_
              refine ht_ret ?_
              refine hx_through trivial ?_
              exact hx_ret1 (.inl rfl) rfl rfl () rfl (Ent.cons (by (repeat constructor); done) Ent.nil)
             )
            ·first | (exfalso; first | omega | (simp at g34; done) | contradiction) | skip
             all_goals (
              refine ho_evg rfl rfl rfl rfl (ev_move rfl rfl) ?_
              refine ho_neg rfl rfl rfl rfl rfl rfl rfl (fun g35 => ?_) (fun g35 => ?_)
              ·first | (exfalso; first | omega | (simp at g35; done) | contradiction) | skip
               all_goals (
                refine ho_ev rfl rfl rfl (ev_pick_f rfl rfl rfl) ?_
                refine ho_nil ?_
                refine hx_then ?_
                refine ht_then rfl ?_
                refine ht_seq ?_
                refine ht_region ?_
                refine ho_ev rfl rfl rfl (ev_assign rfl rfl) ?_
                refine ho_nil ?_
                refine hx_then ?_
                refine ht_ret ?_
                refine hx_through trivial ?_
                exact hx_ret1 (.inl rfl) rfl rfl () rfl (Ent.cons (by (repeat constructor); done) Ent.nil)
               )
              ·first | (exfalso; first | omega | (simp at g35; done) | contradiction) | skip
               all_goals (
                refine ho_ev rfl rfl rfl (ev_pick_f rfl rfl rfl) ?_
                refine ho_nil ?_
                refine hx_then ?_
                refine ht_else rfl ?_
                refine ht_skip ?_
                refine hx_then ?_
                refine ht_seq ?_
                refine ht_region ?_
                refine ho_ev rfl rfl rfl (ev_assign rfl rfl) ?_
                refine ho_nil ?_
                refine hx_then ?_
                refine ht_seq ?_
                refine ht_seq ?_
                refine ht_region ?_
                refine ho_ev rfl rfl rfl (ev_assign rfl rfl) ?_
                refine ho_nil ?_
                refine hx_then ?_
                refine ht_block ?_
                refine ht_loop (fun q : Nat × Dk.Disk × Mt.St => ([DiskAt b0 q.2.1, pt m0 (.cells #[.pointer (some ⟨b0, 0, none⟩), .int .i64 at_, .int .u64 ((q.2.2.number : Nat) : Int), .int .i64 ((q.2.2.last : Nat) : Int)] 83 (0, 0)), ro bitsR, ro (roS a xs.length xs), pu (Mt.Fine q.2.1 at_ ∧ Mt.opened q.2.1.view at_ = q.2.2 ∧ q.2.2.number ≤ q.1 ∧ q.1 ≤ xs.length), F], [(0, .slice a xs.length c), (5, .pointer (some ⟨b0, 0, none⟩)), (7, .int .i64 at_), (8, .pointer (some ⟨m0, 0, none⟩)), (11, .int .u64 ((q.2.2.number : Nat) : Int)), (12, .int .i64 q.1)])) (fun q : Nat × Dk.Disk × Mt.St => 20 - q.1) (0, Dk.Disk.new 65536, ⟨0, 1, []⟩) ?_ (by repeat (first | exact EnvSub.nil _ | (refine EnvSub.cons rfl ?_))) (fun q => ?_)
                ·(first | dsimp only | skip)
                 exact Ent.cons (by (repeat constructor); done) (Ent.cons (by (repeat constructor); done) (Ent.roD (by (with_reducible repeat constructor); done) (Ent.roD (by (with_reducible repeat constructor); done) (Ent.pu ⟨Mt.fine_new (by omega) (by omega) (by decide), Mt.opened_none rfl rfl, by simp, by omega⟩ (Ent.cons (by (repeat constructor); done) Ent.nil)))))
                obtain ⟨q, d, s⟩ := q
                dsimp only
                refine ht_pick (A := pu (Mt.Fine d at_ ∧ Mt.opened d.view at_ = s ∧ s.number ≤ q ∧ q ≤ xs.length)) (by (repeat constructor); done) (ht_pure fun hq => ?_)
                obtain ⟨hf, hs, hn, hql⟩ := hq
                have hsl := Mt.opened_last d.view at_
                rw [hs] at hsl
                have hpd := hf.pend
                refine ht_seq ?_
                refine ht_seq ?_
                refine ht_region ?_
                refine ho_ev rfl rfl rfl (ev_move rfl rfl) ?_
                refine ho_ev rfl rfl rfl (ev_move rfl rfl) ?_
                refine ho_ev rfl rfl rfl (ev_lenSl rfl Tryd.underlying35 rfl) ?_
                refine ho_lt rfl rfl rfl rfl rfl rfl (fun g36 => ?_) (fun g36 => ?_)
                ·first | (exfalso; first | omega | (simp at g36; done) | contradiction) | skip
                 all_goals (
                  refine ho_nil ?_
                  refine hx_then ?_
                  refine ht_then rfl ?_
                  refine ht_skip ?_
                  refine hx_then ?_
                  refine ht_seq ?_
                  refine ht_block ?_
                  refine ht_seq ?_
                  obtain ⟨x, hx⟩ : ∃ x, xs[q]? = some x := ⟨_, List.getElem?_eq_getElem (by omega)⟩
                  refine ht_someS (α := Str) (reads_ro (by (with_reducible repeat constructor); done)) (by omega) (fun ab ao ha => ?_)
                  by_cases hx480 : 480 < x.s.length
                  ·skip
                   have hRl : Mt.steps d at_ s.number s.last x.s 4 = ⟨d, false, 120, s.number, s.last⟩ := by unfold Mt.steps; rw [if_pos (by omega)]
                   refine ht_region ?_
                   refine ho_ev rfl rfl rfl (ev_move rfl rfl) ?_
                   refine ho_ev rfl rfl rfl (ev_move rfl rfl) ?_
                   refine ho_ev rfl rfl rfl (ev_move rfl rfl) ?_
                   refine ho_ev rfl rfl rfl (ev_indexAddr rfl Tryd.underlying35 Tryd.ty9 (congrArg (fun z => some (Value.slice z xs.length c)) ha) rfl (by omega) (by omega)) ?_
                   refine ho_ev rfl rfl rfl (ev_load rfl Tryd.underlying9 rfl rfl (cell_Sa0 ha (reads_ro (by (with_reducible repeat constructor); done)) hx rfl)) ?_
                   refine ho_eff rfl rfl rfl (eff_call rfl rfl (.cons rfl (.cons rfl .nil)) rfl (meta_Write m0 b0 d at_ s.number s.last x.s (by omega) hsl (by omega) (by rw [hpd]; decide)) (by repeat (first | exact Picks.nil | (apply Picks.ro; focus ((repeat constructor); done)) | (apply Picks.cons; focus ((repeat constructor); done)))) (fun _ => by repeat (first | exact App.nil | apply App.cons))) (fun _ => ?_)
                   rw [hRl]
                   dsimp only
                   refine ho_ev rfl rfl rfl (ev_assign rfl rfl) ?_
                   refine ho_nil ?_
                   refine hx_then ?_
                   refine ht_seq ?_
                   refine ht_seq ?_
                   refine ht_region ?_
                   refine ho_ev rfl rfl rfl (ev_move rfl rfl) ?_
                   refine ho_ev rfl rfl rfl (ev_move rfl rfl) ?_
                   refine ho_ev rfl rfl rfl (ev_indexAddr rfl Tryd.underlying35 Tryd.ty9 (congrArg (fun z => some (Value.slice z xs.length c)) ha) rfl (by omega) (by omega)) ?_
                   refine ho_ev rfl rfl rfl (ev_load rfl Tryd.underlying9 rfl rfl (cell_Sa0 ha (reads_ro (by (with_reducible repeat constructor); done)) hx rfl)) ?_
                   refine ho_ev rfl rfl rfl (ev_lenS rfl Tryd.underlying9 rfl) ?_
                   refine ho_gt rfl rfl rfl rfl rfl rfl (fun g37 => ?_) (fun g37 => ?_)
                   ·first | (exfalso; first | omega | (simp at g37; done) | contradiction) | skip
                    all_goals (
                     refine ho_nil ?_
                     refine hx_then ?_
                     refine ht_then rfl ?_
                     refine ht_seq ?_
                     refine ht_seq ?_
                     refine ht_region ?_
                     refine ho_ev rfl rfl rfl (ev_move rfl rfl) ?_
                     refine ho_ne rfl rfl rfl rfl rfl rfl (fun g38 => ?_) (fun g38 => ?_)
                     ·first | (exfalso; first | omega | (simp at g38; done) | contradiction) | skip
                      all_goals (
                       refine ho_nil ?_
                       refine hx_then ?_
                       refine ht_then rfl ?_
                       refine ht_seq ?_
                       refine ht_region ?_
                       refine ho_ev rfl rfl rfl (ev_assign rfl rfl) ?_
                       refine ho_nil ?_
                       refine hx_then ?_
                       refine ht_ret ?_
                       refine hx_through trivial ?_
                       refine hx_through trivial ?_
                       refine hx_block_ret ?_
                       refine hx_through trivial ?_
                       refine hx_through trivial ?_
                       refine hx_block_ret ?_
                       refine hx_through trivial ?_
                       exact hx_ret1 (.inl rfl) rfl rfl () rfl (Ent.cons (by (repeat constructor); done) Ent.nil)
                      )
                     ·first | (exfalso; first | omega | (simp at g38; done) | contradiction) | skip
                      all_goals (
                       refine ho_nil ?_
                       refine hx_then ?_
                       refine ht_else rfl ?_
                       refine ht_skip ?_
                       refine hx_then ?_
                       refine ht_exit ?_
                       refine hx_through trivial ?_
                       refine hx_block_here ?_
                       refine hx_then ?_
                       refine ht_region ?_
                       refine ho_ev rfl rfl rfl (ev_move rfl rfl) ?_
                       refine ho_ev rfl rfl rfl (ev_add rfl rfl rfl (by first | exact in_i64 (by omega) | rfl)) ?_
                       refine ho_ev rfl rfl rfl (ev_assign rfl rfl) ?_
                       refine ho_nil ?_
                       refine hx_again (I := (fun q : Nat × Dk.Disk × Mt.St => ([DiskAt b0 q.2.1, pt m0 (.cells #[.pointer (some ⟨b0, 0, none⟩), .int .i64 at_, .int .u64 ((q.2.2.number : Nat) : Int), .int .i64 ((q.2.2.last : Nat) : Int)] 83 (0, 0)), ro bitsR, ro (roS a xs.length xs), pu (Mt.Fine q.2.1 at_ ∧ Mt.opened q.2.1.view at_ = q.2.2 ∧ q.2.2.number ≤ q.1 ∧ q.1 ≤ xs.length), F], [(0, .slice a xs.length c), (5, .pointer (some ⟨b0, 0, none⟩)), (7, .int .i64 at_), (8, .pointer (some ⟨m0, 0, none⟩)), (11, .int .u64 ((q.2.2.number : Nat) : Int)), (12, .int .i64 q.1)]))) (μ := (fun q : Nat × Dk.Disk × Mt.St => 20 - q.1)) (i := (q, d, s)) (q + 1, d, s) ?_ ?_ ?_
                       ·(first | dsimp only | skip); omega
                       ·repeat (first | exact EnvSub.nil _ | (refine EnvSub.cons rfl ?_))
                       ·(first | dsimp only | skip)
                        exact Ent.cons (by (repeat constructor); done) (Ent.cons (by (repeat constructor); done) (Ent.roD (by (with_reducible repeat constructor); done) (Ent.roD (by (with_reducible repeat constructor); done) (Ent.pu ⟨hf, hs, by omega, by omega⟩ (Ent.cons (by (repeat constructor); done) Ent.nil)))))
                      )
                    )
                   ·first | (exfalso; first | omega | (simp at g37; done) | contradiction) | skip
                    all_goals (
                     refine ho_nil ?_
                     refine hx_then ?_
                     refine ht_else rfl ?_
                     refine ht_skip ?_
                     refine hx_then ?_
                     refine ht_seq ?_
                     refine ht_region ?_
                     refine ho_ev rfl rfl rfl (ev_move rfl rfl) ?_
                     refine ho_ev rfl rfl rfl (ev_add (r := ((s.number + 1 : Nat) : Int)) rfl rfl rfl (by exact (IntWalk.u64_in _ (by omega)).trans (by omega))) ?_
                     refine ho_ev rfl rfl rfl (ev_assign rfl rfl) ?_
                     refine ho_nil ?_
                     refine hx_then ?_
                     refine ht_seq ?_
                     refine ht_region ?_
                     refine ho_ev rfl rfl rfl (ev_move rfl rfl) ?_
                     refine ho_ev rfl rfl rfl (ev_move rfl rfl) ?_
                     refine ho_eff rfl rfl rfl (eff_call rfl rfl (.cons rfl (.cons rfl .nil)) rfl (meta_Open b0 d1 at_ (by omega)) (by repeat (first | exact Picks.nil | (apply Picks.ro; focus ((repeat constructor); done)) | (apply Picks.cons; focus ((repeat constructor); done)))) (fun _ => by repeat (first | exact App.nil | apply App.cons))) (fun m1 => ?_)
                     rw [ho1]
                     dsimp only
                     rw [if_neg (by omega)]
                     refine ho_ev rfl rfl rfl (ev_move rfl rfl) ?_
                     refine ho_ev rfl rfl rfl (ev_extract rfl rfl rfl) ?_
                     refine ho_ev rfl rfl rfl (ev_extract rfl rfl rfl) ?_
                     refine ho_ev rfl rfl rfl (ev_extract rfl rfl rfl) ?_
                     refine ho_ev rfl rfl rfl (ev_assign rfl rfl) ?_
                     refine ho_ev rfl rfl rfl (ev_assign rfl rfl) ?_
                     refine ho_ev rfl rfl rfl (ev_assign rfl rfl) ?_
                     refine ho_nil ?_
                     refine hx_then ?_
                     refine ht_seq ?_
                     refine ht_region ?_
                     refine ho_ev rfl rfl rfl (ev_move rfl rfl) ?_
                     refine ho_ne rfl rfl rfl rfl rfl rfl (fun g39 => ?_) (fun g39 => ?_)
                     ·first | (exfalso; first | omega | (simp at g39; done) | contradiction) | skip
                      all_goals (
                       refine ho_ev rfl rfl rfl (ev_move rfl rfl) ?_
                       refine ho_pass rfl rfl rfl rfl ?_
                       refine ho_pass rfl rfl rfl rfl ?_
                       refine ho_ev rfl rfl rfl (ev_pick_t rfl rfl rfl) ?_
                       refine ho_ev rfl rfl rfl (ev_move rfl rfl) ?_
                       refine ho_pass rfl rfl rfl rfl ?_
                       refine ho_pass rfl rfl rfl rfl ?_
                       refine ho_pass rfl rfl rfl rfl ?_
                       refine ho_pass rfl rfl rfl rfl ?_
                       refine ho_pass rfl rfl rfl rfl ?_
                       refine ho_pass rfl rfl rfl rfl ?_
                       refine ho_ev rfl rfl rfl (ev_pick_t rfl rfl rfl) ?_
                       refine ho_ev rfl rfl rfl (ev_move rfl rfl) ?_
                       refine ho_pass rfl rfl rfl rfl ?_
                       refine ho_pass rfl rfl rfl rfl ?_
                       refine ho_ev rfl rfl rfl (ev_pick_t rfl rfl rfl) ?_
                       refine ho_ev rfl rfl rfl (ev_move rfl rfl) ?_
                       refine ho_pass rfl rfl rfl rfl ?_
                       refine ho_pass rfl rfl rfl rfl ?_
                       refine ho_pass rfl rfl rfl rfl ?_
                       refine ho_pass rfl rfl rfl rfl ?_
                       refine ho_ev rfl rfl rfl (ev_pick_t rfl rfl rfl) ?_
                       refine ho_ev rfl rfl rfl (ev_move rfl rfl) ?_
                       refine ho_pass rfl rfl rfl rfl ?_
                       refine ho_pass rfl rfl rfl rfl ?_
                       refine ho_pass rfl rfl rfl rfl ?_
                       refine ho_pass rfl rfl rfl rfl ?_
                       refine ho_ev rfl rfl rfl (ev_pick_t rfl rfl rfl) ?_
                       refine ho_ev rfl rfl rfl (ev_move rfl rfl) ?_
                       refine ho_pass rfl rfl rfl rfl ?_
                       refine ho_pass rfl rfl rfl rfl ?_
                       refine ho_pass rfl rfl rfl rfl ?_
                       refine ho_ev rfl rfl rfl (ev_pick_t rfl rfl rfl) ?_
                       refine ho_ev rfl rfl rfl (ev_move rfl rfl) ?_
                       refine ho_pass rfl rfl rfl rfl ?_
                       refine ho_pass rfl rfl rfl rfl ?_
                       refine ho_pass rfl rfl rfl rfl ?_
                       refine ho_ev rfl rfl rfl (ev_pick_t rfl rfl rfl) ?_
                       refine ho_nil ?_
                       refine hx_then ?_
                       refine ht_then rfl ?_
                       refine ht_seq ?_
                       refine ht_region ?_
                       refine ho_ev rfl rfl rfl (ev_assign rfl rfl) ?_
                       refine ho_nil ?_
                       refine hx_then ?_
                       refine ht_ret ?_
                       refine hx_block_ret ?_
                       refine hx_through trivial ?_
                       refine hx_through trivial ?_
                       refine hx_block_ret ?_
                       refine hx_through trivial ?_
                       exact hx_ret1 (.inl rfl) rfl rfl () rfl (Ent.cons (by (repeat constructor); done) Ent.nil)
                      )
                     ·first | (exfalso; first | omega | (simp at g39; done) | contradiction) | skip
                      all_goals (
                       refine ho_ev rfl rfl rfl (ev_move rfl rfl) ?_
                       refine ho_evg rfl rfl rfl rfl (ev_move rfl rfl) ?_
                       refine ho_evg rfl rfl rfl rfl (ev_ptrNil rfl Tryd.underlying28 rfl rfl rfl) ?_
                       refine ho_ev rfl rfl rfl (ev_pick_f rfl rfl rfl) ?_
                       refine ho_ev rfl rfl rfl (ev_move rfl rfl) ?_
                       refine ho_bool (t := 95) rfl (fun g40 => ?_) (fun g40 => ?_)
                       ·first | (exfalso; first | omega | (simp at g40; done) | contradiction) | skip
                        all_goals (
                         refine ho_pass rfl rfl rfl rfl ?_
                         refine ho_pass rfl rfl rfl rfl ?_
                         refine ho_pass rfl rfl rfl rfl ?_
                         refine ho_pass rfl rfl rfl rfl ?_
                         refine ho_pass rfl rfl rfl rfl ?_
                         refine ho_pass rfl rfl rfl rfl ?_
                         refine ho_ev rfl rfl rfl (ev_pick_t rfl rfl rfl) ?_
                         refine ho_ev rfl rfl rfl (ev_move rfl rfl) ?_
                         refine ho_pass rfl rfl rfl rfl ?_
                         refine ho_pass rfl rfl rfl rfl ?_
                         refine ho_ev rfl rfl rfl (ev_pick_t rfl rfl rfl) ?_
                         refine ho_ev rfl rfl rfl (ev_move rfl rfl) ?_
                         refine ho_pass rfl rfl rfl rfl ?_
                         refine ho_pass rfl rfl rfl rfl ?_
                         refine ho_pass rfl rfl rfl rfl ?_
                         refine ho_pass rfl rfl rfl rfl ?_
                         refine ho_ev rfl rfl rfl (ev_pick_t rfl rfl rfl) ?_
                         refine ho_ev rfl rfl rfl (ev_move rfl rfl) ?_
                         refine ho_pass rfl rfl rfl rfl ?_
                         refine ho_pass rfl rfl rfl rfl ?_
                         refine ho_pass rfl rfl rfl rfl ?_
                         refine ho_pass rfl rfl rfl rfl ?_
                         refine ho_ev rfl rfl rfl (ev_pick_t rfl rfl rfl) ?_
                         refine ho_ev rfl rfl rfl (ev_move rfl rfl) ?_
                         refine ho_pass rfl rfl rfl rfl ?_
                         refine ho_pass rfl rfl rfl rfl ?_
                         refine ho_pass rfl rfl rfl rfl ?_
                         refine ho_ev rfl rfl rfl (ev_pick_t rfl rfl rfl) ?_
                         refine ho_ev rfl rfl rfl (ev_move rfl rfl) ?_
                         refine ho_pass rfl rfl rfl rfl ?_
                         refine ho_pass rfl rfl rfl rfl ?_
                         refine ho_pass rfl rfl rfl rfl ?_
                         refine ho_ev rfl rfl rfl (ev_pick_t rfl rfl rfl) ?_
                         refine ho_nil ?_
                         refine hx_then ?_
                         refine ht_then rfl ?_
                         refine ht_seq ?_
                         refine ht_region ?_
                         refine ho_ev rfl rfl rfl (ev_assign rfl rfl) ?_
                         refine ho_nil ?_
                         refine hx_then ?_
                         refine ht_ret ?_
                         refine hx_block_ret ?_
                         refine hx_through trivial ?_
                         refine hx_through trivial ?_
                         refine hx_block_ret ?_
                         refine hx_through trivial ?_
                         exact hx_ret1 (.inl rfl) rfl rfl () rfl (Ent.cons (by (repeat constructor); done) Ent.nil)
                        )
                       ·first | (exfalso; first | omega | (simp at g40; done) | contradiction) | skip
                        all_goals (
                         refine ho_evg rfl rfl rfl rfl (ev_move rfl rfl) ?_
                         refine ho_evg rfl rfl rfl rfl (ev_move rfl rfl) ?_
                         refine ho_evg rfl rfl rfl rfl (ev_move rfl rfl) ?_
                         refine ho_evg rfl rfl rfl rfl (ev_indexAddr rfl Tryd.underlying35 Tryd.ty9 (congrArg (fun z => some (Value.slice z xs.length c)) ha) rfl (by omega) (by omega)) ?_
                         refine ho_evg rfl rfl rfl rfl (ev_load rfl Tryd.underlying9 rfl rfl (cell_Sa0 ha (reads_ro (by (with_reducible repeat constructor); done)) hx rfl)) ?_
                         refine ho_neSg rfl rfl rfl rfl rfl rfl rfl (fun g41 => ?_) (fun g41 => ?_)
                         ·first | (exfalso; first | omega | (simp at g41; done) | contradiction) | skip
                          all_goals (
                           refine ho_ev rfl rfl rfl (ev_pick_f rfl rfl rfl) ?_
                           refine ho_ev rfl rfl rfl (ev_move rfl rfl) ?_
                           refine ho_pass rfl rfl rfl rfl ?_
                           refine ho_pass rfl rfl rfl rfl ?_
                           refine ho_ev rfl rfl rfl (ev_pick_t rfl rfl rfl) ?_
                           refine ho_ev rfl rfl rfl (ev_move rfl rfl) ?_
                           refine ho_pass rfl rfl rfl rfl ?_
                           refine ho_pass rfl rfl rfl rfl ?_
                           refine ho_pass rfl rfl rfl rfl ?_
                           refine ho_pass rfl rfl rfl rfl ?_
                           refine ho_ev rfl rfl rfl (ev_pick_t rfl rfl rfl) ?_
                           refine ho_ev rfl rfl rfl (ev_move rfl rfl) ?_
                           refine ho_pass rfl rfl rfl rfl ?_
                           refine ho_pass rfl rfl rfl rfl ?_
                           refine ho_pass rfl rfl rfl rfl ?_
                           refine ho_pass rfl rfl rfl rfl ?_
                           refine ho_ev rfl rfl rfl (ev_pick_t rfl rfl rfl) ?_
                           refine ho_ev rfl rfl rfl (ev_move rfl rfl) ?_
                           refine ho_pass rfl rfl rfl rfl ?_
                           refine ho_pass rfl rfl rfl rfl ?_
                           refine ho_pass rfl rfl rfl rfl ?_
                           refine ho_ev rfl rfl rfl (ev_pick_t rfl rfl rfl) ?_
                           refine ho_ev rfl rfl rfl (ev_move rfl rfl) ?_
                           refine ho_pass rfl rfl rfl rfl ?_
                           refine ho_pass rfl rfl rfl rfl ?_
                           refine ho_pass rfl rfl rfl rfl ?_
                           refine ho_ev rfl rfl rfl (ev_pick_t rfl rfl rfl) ?_
                           refine ho_nil ?_
                           refine hx_then ?_
                           refine ht_then rfl ?_
                           refine ht_seq ?_
                           refine ht_region ?_
                           refine ho_ev rfl rfl rfl (ev_assign rfl rfl) ?_
                           refine ho_nil ?_
                           refine hx_then ?_
                           refine ht_ret ?_
                           refine hx_block_ret ?_
                           refine hx_through trivial ?_
                           refine hx_through trivial ?_
                           refine hx_block_ret ?_
                           refine hx_through trivial ?_
                           exact hx_ret1 (.inl rfl) rfl rfl () rfl (Ent.cons (by (repeat constructor); done) Ent.nil)
                          )
                         ·first | (exfalso; first | omega | (simp at g41; done) | contradiction) | skip
                          all_goals (
                           refine ho_ev rfl rfl rfl (ev_pick_f rfl rfl rfl) ?_
                           refine ho_ev rfl rfl rfl (ev_move rfl rfl) ?_
                           refine ho_evg rfl rfl rfl rfl (ev_move rfl rfl) ?_
                           refine ho_neg rfl rfl rfl rfl rfl rfl rfl (fun g42 => ?_) (fun g42 => ?_)
                           ·first | (exfalso; first | omega | (simp at g42; done) | contradiction) | skip
                            all_goals (
                             refine ho_ev rfl rfl rfl (ev_pick_f rfl rfl rfl) ?_
                             refine ho_ev rfl rfl rfl (ev_move rfl rfl) ?_
                             refine ho_pass rfl rfl rfl rfl ?_
                             refine ho_pass rfl rfl rfl rfl ?_
                             refine ho_pass rfl rfl rfl rfl ?_
                             refine ho_pass rfl rfl rfl rfl ?_
                             refine ho_ev rfl rfl rfl (ev_pick_t rfl rfl rfl) ?_
                             refine ho_ev rfl rfl rfl (ev_move rfl rfl) ?_
                             refine ho_pass rfl rfl rfl rfl ?_
                             refine ho_pass rfl rfl rfl rfl ?_
                             refine ho_pass rfl rfl rfl rfl ?_
                             refine ho_pass rfl rfl rfl rfl ?_
                             refine ho_ev rfl rfl rfl (ev_pick_t rfl rfl rfl) ?_
                             refine ho_ev rfl rfl rfl (ev_move rfl rfl) ?_
                             refine ho_pass rfl rfl rfl rfl ?_
                             refine ho_pass rfl rfl rfl rfl ?_
                             refine ho_pass rfl rfl rfl rfl ?_
                             refine ho_ev rfl rfl rfl (ev_pick_t rfl rfl rfl) ?_
                             refine ho_ev rfl rfl rfl (ev_move rfl rfl) ?_
                             refine ho_pass rfl rfl rfl rfl ?_
                             refine ho_pass rfl rfl rfl rfl ?_
                             refine ho_pass rfl rfl rfl rfl ?_
                             refine ho_ev rfl rfl rfl (ev_pick_t rfl rfl rfl) ?_
                             refine ho_nil ?_
                             refine hx_then ?_
                             refine ht_then rfl ?_
                             refine ht_seq ?_
                             refine ht_region ?_
                             refine ho_ev rfl rfl rfl (ev_assign rfl rfl) ?_
                             refine ho_nil ?_
                             refine hx_then ?_
                             refine ht_ret ?_
                             refine hx_block_ret ?_
                             refine hx_through trivial ?_
                             refine hx_through trivial ?_
                             refine hx_block_ret ?_
                             refine hx_through trivial ?_
                             exact hx_ret1 (.inl rfl) rfl rfl () rfl (Ent.cons (by (repeat constructor); done) Ent.nil)
                            )
                           ·first | (exfalso; first | omega | (simp at g42; done) | contradiction) | skip
                            all_goals (
                             refine ho_ev rfl rfl rfl (ev_pick_f rfl rfl rfl) ?_
                             refine ho_ev rfl rfl rfl (ev_move rfl rfl) ?_
                             refine ho_evg rfl rfl rfl rfl (ev_move rfl rfl) ?_
                             refine ho_effg rfl rfl rfl rfl (eff_call rfl rfl (.cons rfl .nil) rfl (meta_Number m0 b0 at_ (s.number + 1) (1 - s.last)) (by repeat (first | exact Picks.nil | (apply Picks.ro; focus ((repeat constructor); done)) | (apply Picks.cons; focus ((repeat constructor); done)))) (fun _ => by repeat (first | exact App.nil | apply App.cons))) (fun _ => ?_)
                             refine ho_evg rfl rfl rfl rfl (ev_move rfl rfl) ?_
                             refine ho_neg rfl rfl rfl rfl rfl rfl rfl (fun g43 => ?_) (fun g43 => ?_)
                             ·first | (exfalso; first | omega | (simp at g43; done) | contradiction) | skip
                              all_goals (
                               refine ho_ev rfl rfl rfl (ev_pick_f rfl rfl rfl) ?_
                               refine ho_ev rfl rfl rfl (ev_move rfl rfl) ?_
                               refine ho_pass rfl rfl rfl rfl ?_
                               refine ho_pass rfl rfl rfl rfl ?_
                               refine ho_pass rfl rfl rfl rfl ?_
                               refine ho_pass rfl rfl rfl rfl ?_
                               refine ho_ev rfl rfl rfl (ev_pick_t rfl rfl rfl) ?_
                               refine ho_ev rfl rfl rfl (ev_move rfl rfl) ?_
                               refine ho_pass rfl rfl rfl rfl ?_
                               refine ho_pass rfl rfl rfl rfl ?_
                               refine ho_pass rfl rfl rfl rfl ?_
                               refine ho_ev rfl rfl rfl (ev_pick_t rfl rfl rfl) ?_
                               refine ho_ev rfl rfl rfl (ev_move rfl rfl) ?_
                               refine ho_pass rfl rfl rfl rfl ?_
                               refine ho_pass rfl rfl rfl rfl ?_
                               refine ho_pass rfl rfl rfl rfl ?_
                               refine ho_ev rfl rfl rfl (ev_pick_t rfl rfl rfl) ?_
                               refine ho_nil ?_
                               refine hx_then ?_
                               refine ht_then rfl ?_
                               refine ht_seq ?_
                               refine ht_region ?_
                               refine ho_ev rfl rfl rfl (ev_assign rfl rfl) ?_
                               refine ho_nil ?_
                               refine hx_then ?_
                               refine ht_ret ?_
                               refine hx_block_ret ?_
                               refine hx_through trivial ?_
                               refine hx_through trivial ?_
                               refine hx_block_ret ?_
                               refine hx_through trivial ?_
                               exact hx_ret1 (.inl rfl) rfl rfl () rfl (Ent.cons (by (repeat constructor); done) Ent.nil)
                              )
                             ·first | (exfalso; first | omega | (simp at g43; done) | contradiction) | skip
                              all_goals (
                               refine ho_ev rfl rfl rfl (ev_pick_f rfl rfl rfl) ?_
                               refine ho_ev rfl rfl rfl (ev_move rfl rfl) ?_
                               refine ho_evg rfl rfl rfl rfl (ev_move rfl rfl) ?_
                               refine ho_effg rfl rfl rfl rfl (eff_call rfl rfl (.cons rfl .nil) rfl (meta_Number m1 b0 at_ (s.number + 1) (1 - s.last)) (by repeat (first | exact Picks.nil | (apply Picks.ro; focus ((repeat constructor); done)) | (apply Picks.cons; focus ((repeat constructor); done)))) (fun _ => by repeat (first | exact App.nil | apply App.cons))) (fun _ => ?_)
                               refine ho_evg rfl rfl rfl rfl (ev_move rfl rfl) ?_
                               refine ho_neg rfl rfl rfl rfl rfl rfl rfl (fun g44 => ?_) (fun g44 => ?_)
                               ·first | (exfalso; first | omega | (simp at g44; done) | contradiction) | skip
                                all_goals (
                                 refine ho_ev rfl rfl rfl (ev_pick_f rfl rfl rfl) ?_
                                 refine ho_ev rfl rfl rfl (ev_move rfl rfl) ?_
                                 refine ho_pass rfl rfl rfl rfl ?_
                                 refine ho_pass rfl rfl rfl rfl ?_
                                 refine ho_pass rfl rfl rfl rfl ?_
                                 refine ho_ev rfl rfl rfl (ev_pick_t rfl rfl rfl) ?_
                                 refine ho_ev rfl rfl rfl (ev_move rfl rfl) ?_
                                 refine ho_pass rfl rfl rfl rfl ?_
                                 refine ho_pass rfl rfl rfl rfl ?_
                                 refine ho_pass rfl rfl rfl rfl ?_
                                 refine ho_ev rfl rfl rfl (ev_pick_t rfl rfl rfl) ?_
                                 refine ho_nil ?_
                                 refine hx_then ?_
                                 refine ht_then rfl ?_
                                 refine ht_seq ?_
                                 refine ht_region ?_
                                 refine ho_ev rfl rfl rfl (ev_assign rfl rfl) ?_
                                 refine ho_nil ?_
                                 refine hx_then ?_
                                 refine ht_ret ?_
                                 refine hx_block_ret ?_
                                 refine hx_through trivial ?_
                                 refine hx_through trivial ?_
                                 refine hx_block_ret ?_
                                 refine hx_through trivial ?_
                                 exact hx_ret1 (.inl rfl) rfl rfl () rfl (Ent.cons (by (repeat constructor); done) Ent.nil)
                                )
                               ·first | (exfalso; first | omega | (simp at g44; done) | contradiction) | skip
                                all_goals (
                                 refine ho_ev rfl rfl rfl (ev_pick_f rfl rfl rfl) ?_
                                 refine ho_ev rfl rfl rfl (ev_move rfl rfl) ?_
                                 refine ho_evg rfl rfl rfl rfl (ev_move rfl rfl) ?_
                                 refine ho_effg rfl rfl rfl rfl (eff_call rfl rfl (.cons rfl .nil) rfl (disk_Used b0 d1) (by repeat (first | exact Picks.nil | (apply Picks.ro; focus ((repeat constructor); done)) | (apply Picks.cons; focus ((repeat constructor); done)))) (fun _ => by repeat (first | exact App.nil | apply App.cons))) (fun _ => ?_)
                                 refine ho_gtg rfl rfl rfl rfl rfl rfl rfl (fun g45 => ?_) (fun g45 => ?_)
                                 ·first | (exfalso; first | omega | (simp at g45; done) | contradiction) | skip
                                  all_goals (
                                   refine ho_ev rfl rfl rfl (ev_pick_f rfl rfl rfl) ?_
                                   refine ho_ev rfl rfl rfl (ev_move rfl rfl) ?_
                                   refine ho_pass rfl rfl rfl rfl ?_
                                   refine ho_pass rfl rfl rfl rfl ?_
                                   refine ho_pass rfl rfl rfl rfl ?_
                                   refine ho_ev rfl rfl rfl (ev_pick_t rfl rfl rfl) ?_
                                   refine ho_nil ?_
                                   refine hx_then ?_
                                   refine ht_then rfl ?_
                                   refine ht_seq ?_
                                   refine ht_region ?_
                                   refine ho_ev rfl rfl rfl (ev_assign rfl rfl) ?_
                                   refine ho_nil ?_
                                   refine hx_then ?_
                                   refine ht_ret ?_
                                   refine hx_block_ret ?_
                                   refine hx_through trivial ?_
                                   refine hx_through trivial ?_
                                   refine hx_block_ret ?_
                                   refine hx_through trivial ?_
                                   exact hx_ret1 (.inl rfl) rfl rfl () rfl (Ent.cons (by (repeat constructor); done) Ent.nil)
                                  )
                                 ·first | (exfalso; first | omega | (simp at g45; done) | contradiction) | skip
                                  all_goals (
                                   refine ho_ev rfl rfl rfl (ev_pick_f rfl rfl rfl) ?_
                                   refine ho_ev rfl rfl rfl (ev_move rfl rfl) ?_
                                   refine ho_evg rfl rfl rfl rfl (ev_move rfl rfl) ?_
                                   refine ho_effg rfl rfl rfl rfl (eff_call rfl rfl (.cons rfl .nil) rfl (disk_Pending b0 d1) (by repeat (first | exact Picks.nil | (apply Picks.ro; focus ((repeat constructor); done)) | (apply Picks.cons; focus ((repeat constructor); done)))) (fun _ => by repeat (first | exact App.nil | apply App.cons))) (fun _ => ?_)
                                   refine ho_neg rfl rfl rfl rfl rfl rfl rfl (fun g46 => ?_) (fun g46 => ?_)
                                   ·first | (exfalso; first | omega | (simp at g46; done) | contradiction) | skip
                                    all_goals (
                                     refine ho_ev rfl rfl rfl (ev_pick_f rfl rfl rfl) ?_
                                     refine ho_nil ?_
                                     refine hx_then ?_
                                     refine ht_then rfl ?_
                                     refine ht_seq ?_
                                     refine ht_region ?_
                                     refine ho_ev rfl rfl rfl (ev_assign rfl rfl) ?_
                                     refine ho_nil ?_
                                     refine hx_then ?_
                                     refine ht_ret ?_
                                     refine hx_block_ret ?_
                                     refine hx_through trivial ?_
                                     refine hx_through trivial ?_
                                     refine hx_block_ret ?_
                                     refine hx_through trivial ?_
                                     exact hx_ret1 (.inl rfl) rfl rfl () rfl (Ent.cons (by (repeat constructor); done) Ent.nil)
                                    )
                                   ·first | (exfalso; first | omega | (simp at g46; done) | contradiction) | skip
                                    all_goals (
                                     refine ho_ev rfl rfl rfl (ev_pick_f rfl rfl rfl) ?_
                                     refine ho_nil ?_
                                     refine hx_then ?_
                                     refine ht_else rfl ?_
                                     refine ht_skip ?_
                                     refine hx_block_normal ?_
                                     refine hx_then ?_
                                     refine ht_region ?_
                                     refine ho_ev rfl rfl rfl (ev_move rfl rfl) ?_
                                     refine ho_ev rfl rfl rfl (ev_add rfl rfl rfl (by first | exact in_i64 (by omega) | rfl)) ?_
                                     refine ho_ev rfl rfl rfl (ev_assign rfl rfl) ?_
                                     refine ho_nil ?_
                                     refine hx_again (I := (fun q : Nat × Dk.Disk × Mt.St => ([DiskAt b0 q.2.1, pt m0 (.cells #[.pointer (some ⟨b0, 0, none⟩), .int .i64 at_, .int .u64 ((q.2.2.number : Nat) : Int), .int .i64 ((q.2.2.last : Nat) : Int)] 83 (0, 0)), ro bitsR, ro (roS a xs.length xs), pu (Mt.Fine q.2.1 at_ ∧ Mt.opened q.2.1.view at_ = q.2.2 ∧ q.2.2.number ≤ q.1 ∧ q.1 ≤ xs.length), F], [(0, .slice a xs.length c), (5, .pointer (some ⟨b0, 0, none⟩)), (7, .int .i64 at_), (8, .pointer (some ⟨m0, 0, none⟩)), (11, .int .u64 ((q.2.2.number : Nat) : Int)), (12, .int .i64 q.1)]))) (μ := (fun q : Nat × Dk.Disk × Mt.St => 20 - q.1)) (i := (q, d, s)) (q + 1, d, s) ?_ ?_ ?_
                                     ·(first | dsimp only | skip); omega
                                     ·repeat (first | exact EnvSub.nil _ | (refine EnvSub.cons rfl ?_))
                                     ·(first | dsimp only | skip)
                                      exact Ent.cons (by (repeat constructor); done) (Ent.cons (by (repeat constructor); done) (Ent.roD (by (with_reducible repeat constructor); done) (Ent.roD (by (with_reducible repeat constructor); done) (Ent.pu ⟨hf, hs, by omega, by omega⟩ (Ent.cons (by (repeat constructor); done) Ent.nil)))))
                                    )
                                  )
                                )
                              )
                            )
                          )
                        )
                      )
                    )
                  ·skip
                   have hR4 := (Mt.fine_steps (body := x.s) hf hs (by omega) (by omega)).2
                   obtain ⟨hf1, ho1, _⟩ := Mt.fine_write (body := x.s) hf hs (by omega) (by omega)
                   generalize Mt.sd d (at_ + (1 - (s.last : Int))) (Wire.put (s.number + 1) x.s) 4 = d1 at *
                   have hc2 := Mt.card_two hf1.supp
                   have hp1 : d1.pend.length = 0 := by rw [hf1.pend]; rfl
                   refine ht_region ?_
                   refine ho_ev rfl rfl rfl (ev_move rfl rfl) ?_
                   refine ho_ev rfl rfl rfl (ev_move rfl rfl) ?_
                   refine ho_ev rfl rfl rfl (ev_move rfl rfl) ?_
                   refine ho_ev rfl rfl rfl (ev_indexAddr rfl Tryd.underlying35 Tryd.ty9 (congrArg (fun z => some (Value.slice z xs.length c)) ha) rfl (by omega) (by omega)) ?_
                   refine ho_ev rfl rfl rfl (ev_load rfl Tryd.underlying9 rfl rfl (cell_Sa0 ha (reads_ro (by (with_reducible repeat constructor); done)) hx rfl)) ?_
                   refine ho_eff rfl rfl rfl (eff_call rfl rfl (.cons rfl (.cons rfl .nil)) rfl (meta_Write m0 b0 d at_ s.number s.last x.s (by omega) hsl (by omega) (by rw [hpd]; decide)) (by repeat (first | exact Picks.nil | (apply Picks.ro; focus ((repeat constructor); done)) | (apply Picks.cons; focus ((repeat constructor); done)))) (fun _ => by repeat (first | exact App.nil | apply App.cons))) (fun _ => ?_)
                   rw [hR4]
                   dsimp only
                   refine ho_ev rfl rfl rfl (ev_assign rfl rfl) ?_
                   refine ho_nil ?_
                   refine hx_then ?_
                   refine ht_seq ?_
                   refine ht_seq ?_
                   refine ht_region ?_
                   refine ho_ev rfl rfl rfl (ev_move rfl rfl) ?_
                   refine ho_ev rfl rfl rfl (ev_move rfl rfl) ?_
                   refine ho_ev rfl rfl rfl (ev_indexAddr rfl Tryd.underlying35 Tryd.ty9 (congrArg (fun z => some (Value.slice z xs.length c)) ha) rfl (by omega) (by omega)) ?_
                   refine ho_ev rfl rfl rfl (ev_load rfl Tryd.underlying9 rfl rfl (cell_Sa0 ha (reads_ro (by (with_reducible repeat constructor); done)) hx rfl)) ?_
                   refine ho_ev rfl rfl rfl (ev_lenS rfl Tryd.underlying9 rfl) ?_
                   refine ho_gt rfl rfl rfl rfl rfl rfl (fun g47 => ?_) (fun g47 => ?_)
                   ·first | (exfalso; first | omega | (simp at g47; done) | contradiction) | skip
                    all_goals (
                     refine ho_nil ?_
                     refine hx_then ?_
                     refine ht_then rfl ?_
                     refine ht_seq ?_
                     refine ht_seq ?_
                     refine ht_region ?_
                     refine ho_ev rfl rfl rfl (ev_move rfl rfl) ?_
                     refine ho_ne rfl rfl rfl rfl rfl rfl (fun g48 => ?_) (fun g48 => ?_)
                     ·first | (exfalso; first | omega | (simp at g48; done) | contradiction) | skip
                      all_goals (
                       refine ho_nil ?_
                       refine hx_then ?_
                       refine ht_then rfl ?_
                       refine ht_seq ?_
                       refine ht_region ?_
                       refine ho_ev rfl rfl rfl (ev_assign rfl rfl) ?_
                       refine ho_nil ?_
                       refine hx_then ?_
                       refine ht_ret ?_
                       refine hx_through trivial ?_
                       refine hx_through trivial ?_
                       refine hx_block_ret ?_
                       refine hx_through trivial ?_
                       refine hx_through trivial ?_
                       refine hx_block_ret ?_
                       refine hx_through trivial ?_
                       exact hx_ret1 (.inl rfl) rfl rfl () rfl (Ent.cons (by (repeat constructor); done) Ent.nil)
                      )
                     ·first | (exfalso; first | omega | (simp at g48; done) | contradiction) | skip
                      all_goals (
                       refine ho_nil ?_
                       refine hx_then ?_
                       refine ht_else rfl ?_
                       refine ht_skip ?_
                       refine hx_then ?_
                       refine ht_exit ?_
                       refine hx_through trivial ?_
                       refine hx_block_here ?_
                       refine hx_then ?_
                       refine ht_region ?_
                       refine ho_ev rfl rfl rfl (ev_move rfl rfl) ?_
                       refine ho_ev rfl rfl rfl (ev_add rfl rfl rfl (by first | exact in_i64 (by omega) | rfl)) ?_
                       refine ho_ev rfl rfl rfl (ev_assign rfl rfl) ?_
                       refine ho_nil ?_
                       refine hx_again (I := (fun q : Nat × Dk.Disk × Mt.St => ([DiskAt b0 q.2.1, pt m0 (.cells #[.pointer (some ⟨b0, 0, none⟩), .int .i64 at_, .int .u64 ((q.2.2.number : Nat) : Int), .int .i64 ((q.2.2.last : Nat) : Int)] 83 (0, 0)), ro bitsR, ro (roS a xs.length xs), pu (Mt.Fine q.2.1 at_ ∧ Mt.opened q.2.1.view at_ = q.2.2 ∧ q.2.2.number ≤ q.1 ∧ q.1 ≤ xs.length), F], [(0, .slice a xs.length c), (5, .pointer (some ⟨b0, 0, none⟩)), (7, .int .i64 at_), (8, .pointer (some ⟨m0, 0, none⟩)), (11, .int .u64 ((q.2.2.number : Nat) : Int)), (12, .int .i64 q.1)]))) (μ := (fun q : Nat × Dk.Disk × Mt.St => 20 - q.1)) (i := (q, d, s)) (q + 1, d1, ⟨s.number + 1, 1 - s.last, x.s⟩) ?_ ?_ ?_
                       ·(first | dsimp only | skip); omega
                       ·repeat (first | exact EnvSub.nil _ | (refine EnvSub.cons rfl ?_))
                       ·(first | dsimp only | skip)
                        exact Ent.cons (by (repeat constructor); done) (Ent.cons (by (repeat constructor); done) (Ent.roD (by (with_reducible repeat constructor); done) (Ent.roD (by (with_reducible repeat constructor); done) (Ent.pu ⟨hf1, ho1, by show s.number + 1 ≤ q + 1; omega, by omega⟩ (Ent.cons (by (repeat constructor); done) Ent.nil)))))
                      )
                    )
                   ·first | (exfalso; first | omega | (simp at g47; done) | contradiction) | skip
                    all_goals (
                     refine ho_nil ?_
                     refine hx_then ?_
                     refine ht_else rfl ?_
                     refine ht_skip ?_
                     refine hx_then ?_
                     refine ht_seq ?_
                     refine ht_region ?_
                     refine ho_ev rfl rfl rfl (ev_move rfl rfl) ?_
                     refine ho_ev rfl rfl rfl (ev_add (r := ((s.number + 1 : Nat) : Int)) rfl rfl rfl (by exact (IntWalk.u64_in _ (by omega)).trans (by omega))) ?_
                     refine ho_ev rfl rfl rfl (ev_assign rfl rfl) ?_
                     refine ho_nil ?_
                     refine hx_then ?_
                     refine ht_seq ?_
                     refine ht_region ?_
                     refine ho_ev rfl rfl rfl (ev_move rfl rfl) ?_
                     refine ho_ev rfl rfl rfl (ev_move rfl rfl) ?_
                     refine ho_eff rfl rfl rfl (eff_call rfl rfl (.cons rfl (.cons rfl .nil)) rfl (meta_Open b0 d1 at_ (by omega)) (by repeat (first | exact Picks.nil | (apply Picks.ro; focus ((repeat constructor); done)) | (apply Picks.cons; focus ((repeat constructor); done)))) (fun _ => by repeat (first | exact App.nil | apply App.cons))) (fun m1 => ?_)
                     rw [ho1]
                     dsimp only
                     rw [if_neg (by omega)]
                     refine ho_ev rfl rfl rfl (ev_move rfl rfl) ?_
                     refine ho_ev rfl rfl rfl (ev_extract rfl rfl rfl) ?_
                     refine ho_ev rfl rfl rfl (ev_extract rfl rfl rfl) ?_
                     refine ho_ev rfl rfl rfl (ev_extract rfl rfl rfl) ?_
                     refine ho_ev rfl rfl rfl (ev_assign rfl rfl) ?_
                     refine ho_ev rfl rfl rfl (ev_assign rfl rfl) ?_
                     refine ho_ev rfl rfl rfl (ev_assign rfl rfl) ?_
                     refine ho_nil ?_
                     refine hx_then ?_
                     refine ht_seq ?_
                     refine ht_region ?_
                     refine ho_ev rfl rfl rfl (ev_move rfl rfl) ?_
                     refine ho_ne rfl rfl rfl rfl rfl rfl (fun g49 => ?_) (fun g49 => ?_)
                     ·first | (exfalso; first | omega | (simp at g49; done) | contradiction) | skip
                      all_goals (
                       refine ho_ev rfl rfl rfl (ev_move rfl rfl) ?_
                       refine ho_pass rfl rfl rfl rfl ?_
                       refine ho_pass rfl rfl rfl rfl ?_
                       refine ho_ev rfl rfl rfl (ev_pick_t rfl rfl rfl) ?_
                       refine ho_ev rfl rfl rfl (ev_move rfl rfl) ?_
                       refine ho_pass rfl rfl rfl rfl ?_
                       refine ho_pass rfl rfl rfl rfl ?_
                       refine ho_pass rfl rfl rfl rfl ?_
                       refine ho_pass rfl rfl rfl rfl ?_
                       refine ho_pass rfl rfl rfl rfl ?_
                       refine ho_pass rfl rfl rfl rfl ?_
                       refine ho_ev rfl rfl rfl (ev_pick_t rfl rfl rfl) ?_
                       refine ho_ev rfl rfl rfl (ev_move rfl rfl) ?_
                       refine ho_pass rfl rfl rfl rfl ?_
                       refine ho_pass rfl rfl rfl rfl ?_
                       refine ho_ev rfl rfl rfl (ev_pick_t rfl rfl rfl) ?_
                       refine ho_ev rfl rfl rfl (ev_move rfl rfl) ?_
                       refine ho_pass rfl rfl rfl rfl ?_
                       refine ho_pass rfl rfl rfl rfl ?_
                       refine ho_pass rfl rfl rfl rfl ?_
                       refine ho_pass rfl rfl rfl rfl ?_
                       refine ho_ev rfl rfl rfl (ev_pick_t rfl rfl rfl) ?_
                       refine ho_ev rfl rfl rfl (ev_move rfl rfl) ?_
                       refine ho_pass rfl rfl rfl rfl ?_
                       refine ho_pass rfl rfl rfl rfl ?_
                       refine ho_pass rfl rfl rfl rfl ?_
                       refine ho_pass rfl rfl rfl rfl ?_
                       refine ho_ev rfl rfl rfl (ev_pick_t rfl rfl rfl) ?_
                       refine ho_ev rfl rfl rfl (ev_move rfl rfl) ?_
                       refine ho_pass rfl rfl rfl rfl ?_
                       refine ho_pass rfl rfl rfl rfl ?_
                       refine ho_pass rfl rfl rfl rfl ?_
                       refine ho_ev rfl rfl rfl (ev_pick_t rfl rfl rfl) ?_
                       refine ho_ev rfl rfl rfl (ev_move rfl rfl) ?_
                       refine ho_pass rfl rfl rfl rfl ?_
                       refine ho_pass rfl rfl rfl rfl ?_
                       refine ho_pass rfl rfl rfl rfl ?_
                       refine ho_ev rfl rfl rfl (ev_pick_t rfl rfl rfl) ?_
                       refine ho_nil ?_
                       refine hx_then ?_
                       refine ht_then rfl ?_
                       refine ht_seq ?_
                       refine ht_region ?_
                       refine ho_ev rfl rfl rfl (ev_assign rfl rfl) ?_
                       refine ho_nil ?_
                       refine hx_then ?_
                       refine ht_ret ?_
                       refine hx_block_ret ?_
                       refine hx_through trivial ?_
                       refine hx_through trivial ?_
                       refine hx_block_ret ?_
                       refine hx_through trivial ?_
                       exact hx_ret1 (.inl rfl) rfl rfl () rfl (Ent.cons (by (repeat constructor); done) Ent.nil)
                      )
                     ·first | (exfalso; first | omega | (simp at g49; done) | contradiction) | skip
                      all_goals (
                       refine ho_ev rfl rfl rfl (ev_move rfl rfl) ?_
                       refine ho_evg rfl rfl rfl rfl (ev_move rfl rfl) ?_
                       refine ho_evg rfl rfl rfl rfl (ev_ptrNil rfl Tryd.underlying28 rfl rfl rfl) ?_
                       refine ho_ev rfl rfl rfl (ev_pick_f rfl rfl rfl) ?_
                       refine ho_ev rfl rfl rfl (ev_move rfl rfl) ?_
                       refine ho_bool (t := 95) rfl (fun g50 => ?_) (fun g50 => ?_)
                       ·first | (exfalso; first | omega | (simp at g50; done) | contradiction) | skip
                        all_goals (
                         refine ho_pass rfl rfl rfl rfl ?_
                         refine ho_pass rfl rfl rfl rfl ?_
                         refine ho_pass rfl rfl rfl rfl ?_
                         refine ho_pass rfl rfl rfl rfl ?_
                         refine ho_pass rfl rfl rfl rfl ?_
                         refine ho_pass rfl rfl rfl rfl ?_
                         refine ho_ev rfl rfl rfl (ev_pick_t rfl rfl rfl) ?_
                         refine ho_ev rfl rfl rfl (ev_move rfl rfl) ?_
                         refine ho_pass rfl rfl rfl rfl ?_
                         refine ho_pass rfl rfl rfl rfl ?_
                         refine ho_ev rfl rfl rfl (ev_pick_t rfl rfl rfl) ?_
                         refine ho_ev rfl rfl rfl (ev_move rfl rfl) ?_
                         refine ho_pass rfl rfl rfl rfl ?_
                         refine ho_pass rfl rfl rfl rfl ?_
                         refine ho_pass rfl rfl rfl rfl ?_
                         refine ho_pass rfl rfl rfl rfl ?_
                         refine ho_ev rfl rfl rfl (ev_pick_t rfl rfl rfl) ?_
                         refine ho_ev rfl rfl rfl (ev_move rfl rfl) ?_
                         refine ho_pass rfl rfl rfl rfl ?_
                         refine ho_pass rfl rfl rfl rfl ?_
                         refine ho_pass rfl rfl rfl rfl ?_
                         refine ho_pass rfl rfl rfl rfl ?_
                         refine ho_ev rfl rfl rfl (ev_pick_t rfl rfl rfl) ?_
                         refine ho_ev rfl rfl rfl (ev_move rfl rfl) ?_
                         refine ho_pass rfl rfl rfl rfl ?_
                         refine ho_pass rfl rfl rfl rfl ?_
                         refine ho_pass rfl rfl rfl rfl ?_
                         refine ho_ev rfl rfl rfl (ev_pick_t rfl rfl rfl) ?_
                         refine ho_ev rfl rfl rfl (ev_move rfl rfl) ?_
                         refine ho_pass rfl rfl rfl rfl ?_
                         refine ho_pass rfl rfl rfl rfl ?_
                         refine ho_pass rfl rfl rfl rfl ?_
                         refine ho_ev rfl rfl rfl (ev_pick_t rfl rfl rfl) ?_
                         refine ho_nil ?_
                         refine hx_then ?_
                         refine ht_then rfl ?_
                         refine ht_seq ?_
                         refine ht_region ?_
                         refine ho_ev rfl rfl rfl (ev_assign rfl rfl) ?_
                         refine ho_nil ?_
                         refine hx_then ?_
                         refine ht_ret ?_
                         refine hx_block_ret ?_
                         refine hx_through trivial ?_
                         refine hx_through trivial ?_
                         refine hx_block_ret ?_
                         refine hx_through trivial ?_
                         exact hx_ret1 (.inl rfl) rfl rfl () rfl (Ent.cons (by (repeat constructor); done) Ent.nil)
                        )
                       ·first | (exfalso; first | omega | (simp at g50; done) | contradiction) | skip
                        all_goals (
                         refine ho_evg rfl rfl rfl rfl (ev_move rfl rfl) ?_
                         refine ho_evg rfl rfl rfl rfl (ev_move rfl rfl) ?_
                         refine ho_evg rfl rfl rfl rfl (ev_move rfl rfl) ?_
                         refine ho_evg rfl rfl rfl rfl (ev_indexAddr rfl Tryd.underlying35 Tryd.ty9 (congrArg (fun z => some (Value.slice z xs.length c)) ha) rfl (by omega) (by omega)) ?_
                         refine ho_evg rfl rfl rfl rfl (ev_load rfl Tryd.underlying9 rfl rfl (cell_Sa0 ha (reads_ro (by (with_reducible repeat constructor); done)) hx rfl)) ?_
                         refine ho_neSg rfl rfl rfl rfl rfl rfl rfl (fun g51 => ?_) (fun g51 => ?_)
                         ·first | (exfalso; first | omega | (simp at g51; done) | contradiction) | skip
                          all_goals (
                           refine ho_ev rfl rfl rfl (ev_pick_f rfl rfl rfl) ?_
                           refine ho_ev rfl rfl rfl (ev_move rfl rfl) ?_
                           refine ho_pass rfl rfl rfl rfl ?_
                           refine ho_pass rfl rfl rfl rfl ?_
                           refine ho_ev rfl rfl rfl (ev_pick_t rfl rfl rfl) ?_
                           refine ho_ev rfl rfl rfl (ev_move rfl rfl) ?_
                           refine ho_pass rfl rfl rfl rfl ?_
                           refine ho_pass rfl rfl rfl rfl ?_
                           refine ho_pass rfl rfl rfl rfl ?_
                           refine ho_pass rfl rfl rfl rfl ?_
                           refine ho_ev rfl rfl rfl (ev_pick_t rfl rfl rfl) ?_
                           refine ho_ev rfl rfl rfl (ev_move rfl rfl) ?_
                           refine ho_pass rfl rfl rfl rfl ?_
                           refine ho_pass rfl rfl rfl rfl ?_
                           refine ho_pass rfl rfl rfl rfl ?_
                           refine ho_pass rfl rfl rfl rfl ?_
                           refine ho_ev rfl rfl rfl (ev_pick_t rfl rfl rfl) ?_
                           refine ho_ev rfl rfl rfl (ev_move rfl rfl) ?_
                           refine ho_pass rfl rfl rfl rfl ?_
                           refine ho_pass rfl rfl rfl rfl ?_
                           refine ho_pass rfl rfl rfl rfl ?_
                           refine ho_ev rfl rfl rfl (ev_pick_t rfl rfl rfl) ?_
                           refine ho_ev rfl rfl rfl (ev_move rfl rfl) ?_
                           refine ho_pass rfl rfl rfl rfl ?_
                           refine ho_pass rfl rfl rfl rfl ?_
                           refine ho_pass rfl rfl rfl rfl ?_
                           refine ho_ev rfl rfl rfl (ev_pick_t rfl rfl rfl) ?_
                           refine ho_nil ?_
                           refine hx_then ?_
                           refine ht_then rfl ?_
                           refine ht_seq ?_
                           refine ht_region ?_
                           refine ho_ev rfl rfl rfl (ev_assign rfl rfl) ?_
                           refine ho_nil ?_
                           refine hx_then ?_
                           refine ht_ret ?_
                           refine hx_block_ret ?_
                           refine hx_through trivial ?_
                           refine hx_through trivial ?_
                           refine hx_block_ret ?_
                           refine hx_through trivial ?_
                           exact hx_ret1 (.inl rfl) rfl rfl () rfl (Ent.cons (by (repeat constructor); done) Ent.nil)
                          )
                         ·first | (exfalso; first | omega | (simp at g51; done) | contradiction) | skip
                          all_goals (
                           refine ho_ev rfl rfl rfl (ev_pick_f rfl rfl rfl) ?_
                           refine ho_ev rfl rfl rfl (ev_move rfl rfl) ?_
                           refine ho_evg rfl rfl rfl rfl (ev_move rfl rfl) ?_
                           refine ho_neg rfl rfl rfl rfl rfl rfl rfl (fun g52 => ?_) (fun g52 => ?_)
                           ·first | (exfalso; first | omega | (simp at g52; done) | contradiction) | skip
                            all_goals (
                             refine ho_ev rfl rfl rfl (ev_pick_f rfl rfl rfl) ?_
                             refine ho_ev rfl rfl rfl (ev_move rfl rfl) ?_
                             refine ho_pass rfl rfl rfl rfl ?_
                             refine ho_pass rfl rfl rfl rfl ?_
                             refine ho_pass rfl rfl rfl rfl ?_
                             refine ho_pass rfl rfl rfl rfl ?_
                             refine ho_ev rfl rfl rfl (ev_pick_t rfl rfl rfl) ?_
                             refine ho_ev rfl rfl rfl (ev_move rfl rfl) ?_
                             refine ho_pass rfl rfl rfl rfl ?_
                             refine ho_pass rfl rfl rfl rfl ?_
                             refine ho_pass rfl rfl rfl rfl ?_
                             refine ho_pass rfl rfl rfl rfl ?_
                             refine ho_ev rfl rfl rfl (ev_pick_t rfl rfl rfl) ?_
                             refine ho_ev rfl rfl rfl (ev_move rfl rfl) ?_
                             refine ho_pass rfl rfl rfl rfl ?_
                             refine ho_pass rfl rfl rfl rfl ?_
                             refine ho_pass rfl rfl rfl rfl ?_
                             refine ho_ev rfl rfl rfl (ev_pick_t rfl rfl rfl) ?_
                             refine ho_ev rfl rfl rfl (ev_move rfl rfl) ?_
                             refine ho_pass rfl rfl rfl rfl ?_
                             refine ho_pass rfl rfl rfl rfl ?_
                             refine ho_pass rfl rfl rfl rfl ?_
                             refine ho_ev rfl rfl rfl (ev_pick_t rfl rfl rfl) ?_
                             refine ho_nil ?_
                             refine hx_then ?_
                             refine ht_then rfl ?_
                             refine ht_seq ?_
                             refine ht_region ?_
                             refine ho_ev rfl rfl rfl (ev_assign rfl rfl) ?_
                             refine ho_nil ?_
                             refine hx_then ?_
                             refine ht_ret ?_
                             refine hx_block_ret ?_
                             refine hx_through trivial ?_
                             refine hx_through trivial ?_
                             refine hx_block_ret ?_
                             refine hx_through trivial ?_
                             exact hx_ret1 (.inl rfl) rfl rfl () rfl (Ent.cons (by (repeat constructor); done) Ent.nil)
                            )
                           ·first | (exfalso; first | omega | (simp at g52; done) | contradiction) | skip
                            all_goals (
                             refine ho_ev rfl rfl rfl (ev_pick_f rfl rfl rfl) ?_
                             refine ho_ev rfl rfl rfl (ev_move rfl rfl) ?_
                             refine ho_evg rfl rfl rfl rfl (ev_move rfl rfl) ?_
                             refine ho_effg rfl rfl rfl rfl (eff_call rfl rfl (.cons rfl .nil) rfl (meta_Number m0 b0 at_ (s.number + 1) (1 - s.last)) (by repeat (first | exact Picks.nil | (apply Picks.ro; focus ((repeat constructor); done)) | (apply Picks.cons; focus ((repeat constructor); done)))) (fun _ => by repeat (first | exact App.nil | apply App.cons))) (fun _ => ?_)
                             refine ho_evg rfl rfl rfl rfl (ev_move rfl rfl) ?_
                             refine ho_neg rfl rfl rfl rfl rfl rfl rfl (fun g53 => ?_) (fun g53 => ?_)
                             ·first | (exfalso; first | omega | (simp at g53; done) | contradiction) | skip
                              all_goals (
                               refine ho_ev rfl rfl rfl (ev_pick_f rfl rfl rfl) ?_
                               refine ho_ev rfl rfl rfl (ev_move rfl rfl) ?_
                               refine ho_pass rfl rfl rfl rfl ?_
                               refine ho_pass rfl rfl rfl rfl ?_
                               refine ho_pass rfl rfl rfl rfl ?_
                               refine ho_pass rfl rfl rfl rfl ?_
                               refine ho_ev rfl rfl rfl (ev_pick_t rfl rfl rfl) ?_
                               refine ho_ev rfl rfl rfl (ev_move rfl rfl) ?_
                               refine ho_pass rfl rfl rfl rfl ?_
                               refine ho_pass rfl rfl rfl rfl ?_
                               refine ho_pass rfl rfl rfl rfl ?_
                               refine ho_ev rfl rfl rfl (ev_pick_t rfl rfl rfl) ?_
                               refine ho_ev rfl rfl rfl (ev_move rfl rfl) ?_
                               refine ho_pass rfl rfl rfl rfl ?_
                               refine ho_pass rfl rfl rfl rfl ?_
                               refine ho_pass rfl rfl rfl rfl ?_
                               refine ho_ev rfl rfl rfl (ev_pick_t rfl rfl rfl) ?_
                               refine ho_nil ?_
                               refine hx_then ?_
                               refine ht_then rfl ?_
                               refine ht_seq ?_
                               refine ht_region ?_
                               refine ho_ev rfl rfl rfl (ev_assign rfl rfl) ?_
                               refine ho_nil ?_
                               refine hx_then ?_
                               refine ht_ret ?_
                               refine hx_block_ret ?_
                               refine hx_through trivial ?_
                               refine hx_through trivial ?_
                               refine hx_block_ret ?_
                               refine hx_through trivial ?_
                               exact hx_ret1 (.inl rfl) rfl rfl () rfl (Ent.cons (by (repeat constructor); done) Ent.nil)
                              )
                             ·first | (exfalso; first | omega | (simp at g53; done) | contradiction) | skip
                              all_goals (
                               refine ho_ev rfl rfl rfl (ev_pick_f rfl rfl rfl) ?_
                               refine ho_ev rfl rfl rfl (ev_move rfl rfl) ?_
                               refine ho_evg rfl rfl rfl rfl (ev_move rfl rfl) ?_
                               refine ho_effg rfl rfl rfl rfl (eff_call rfl rfl (.cons rfl .nil) rfl (meta_Number m1 b0 at_ (s.number + 1) (1 - s.last)) (by repeat (first | exact Picks.nil | (apply Picks.ro; focus ((repeat constructor); done)) | (apply Picks.cons; focus ((repeat constructor); done)))) (fun _ => by repeat (first | exact App.nil | apply App.cons))) (fun _ => ?_)
                               refine ho_evg rfl rfl rfl rfl (ev_move rfl rfl) ?_
                               refine ho_neg rfl rfl rfl rfl rfl rfl rfl (fun g54 => ?_) (fun g54 => ?_)
                               ·first | (exfalso; first | omega | (simp at g54; done) | contradiction) | skip
                                all_goals (
                                 refine ho_ev rfl rfl rfl (ev_pick_f rfl rfl rfl) ?_
                                 refine ho_ev rfl rfl rfl (ev_move rfl rfl) ?_
                                 refine ho_pass rfl rfl rfl rfl ?_
                                 refine ho_pass rfl rfl rfl rfl ?_
                                 refine ho_pass rfl rfl rfl rfl ?_
                                 refine ho_ev rfl rfl rfl (ev_pick_t rfl rfl rfl) ?_
                                 refine ho_ev rfl rfl rfl (ev_move rfl rfl) ?_
                                 refine ho_pass rfl rfl rfl rfl ?_
                                 refine ho_pass rfl rfl rfl rfl ?_
                                 refine ho_pass rfl rfl rfl rfl ?_
                                 refine ho_ev rfl rfl rfl (ev_pick_t rfl rfl rfl) ?_
                                 refine ho_nil ?_
                                 refine hx_then ?_
                                 refine ht_then rfl ?_
                                 refine ht_seq ?_
                                 refine ht_region ?_
                                 refine ho_ev rfl rfl rfl (ev_assign rfl rfl) ?_
                                 refine ho_nil ?_
                                 refine hx_then ?_
                                 refine ht_ret ?_
                                 refine hx_block_ret ?_
                                 refine hx_through trivial ?_
                                 refine hx_through trivial ?_
                                 refine hx_block_ret ?_
                                 refine hx_through trivial ?_
                                 exact hx_ret1 (.inl rfl) rfl rfl () rfl (Ent.cons (by (repeat constructor); done) Ent.nil)
                                )
                               ·first | (exfalso; first | omega | (simp at g54; done) | contradiction) | skip
                                all_goals (
                                 refine ho_ev rfl rfl rfl (ev_pick_f rfl rfl rfl) ?_
                                 refine ho_ev rfl rfl rfl (ev_move rfl rfl) ?_
                                 refine ho_evg rfl rfl rfl rfl (ev_move rfl rfl) ?_
                                 refine ho_effg rfl rfl rfl rfl (eff_call rfl rfl (.cons rfl .nil) rfl (disk_Used b0 d1) (by repeat (first | exact Picks.nil | (apply Picks.ro; focus ((repeat constructor); done)) | (apply Picks.cons; focus ((repeat constructor); done)))) (fun _ => by repeat (first | exact App.nil | apply App.cons))) (fun _ => ?_)
                                 refine ho_gtg rfl rfl rfl rfl rfl rfl rfl (fun g55 => ?_) (fun g55 => ?_)
                                 ·first | (exfalso; first | omega | (simp at g55; done) | contradiction) | skip
                                  all_goals (
                                   refine ho_ev rfl rfl rfl (ev_pick_f rfl rfl rfl) ?_
                                   refine ho_ev rfl rfl rfl (ev_move rfl rfl) ?_
                                   refine ho_pass rfl rfl rfl rfl ?_
                                   refine ho_pass rfl rfl rfl rfl ?_
                                   refine ho_pass rfl rfl rfl rfl ?_
                                   refine ho_ev rfl rfl rfl (ev_pick_t rfl rfl rfl) ?_
                                   refine ho_nil ?_
                                   refine hx_then ?_
                                   refine ht_then rfl ?_
                                   refine ht_seq ?_
                                   refine ht_region ?_
                                   refine ho_ev rfl rfl rfl (ev_assign rfl rfl) ?_
                                   refine ho_nil ?_
                                   refine hx_then ?_
                                   refine ht_ret ?_
                                   refine hx_block_ret ?_
                                   refine hx_through trivial ?_
                                   refine hx_through trivial ?_
                                   refine hx_block_ret ?_
                                   refine hx_through trivial ?_
                                   exact hx_ret1 (.inl rfl) rfl rfl () rfl (Ent.cons (by (repeat constructor); done) Ent.nil)
                                  )
                                 ·first | (exfalso; first | omega | (simp at g55; done) | contradiction) | skip
                                  all_goals (
                                   refine ho_ev rfl rfl rfl (ev_pick_f rfl rfl rfl) ?_
                                   refine ho_ev rfl rfl rfl (ev_move rfl rfl) ?_
                                   refine ho_evg rfl rfl rfl rfl (ev_move rfl rfl) ?_
                                   refine ho_effg rfl rfl rfl rfl (eff_call rfl rfl (.cons rfl .nil) rfl (disk_Pending b0 d1) (by repeat (first | exact Picks.nil | (apply Picks.ro; focus ((repeat constructor); done)) | (apply Picks.cons; focus ((repeat constructor); done)))) (fun _ => by repeat (first | exact App.nil | apply App.cons))) (fun _ => ?_)
                                   refine ho_neg rfl rfl rfl rfl rfl rfl rfl (fun g56 => ?_) (fun g56 => ?_)
                                   ·first | (exfalso; first | omega | (simp at g56; done) | contradiction) | skip
                                    all_goals (
                                     refine ho_ev rfl rfl rfl (ev_pick_f rfl rfl rfl) ?_
                                     refine ho_nil ?_
                                     refine hx_then ?_
                                     refine ht_then rfl ?_
                                     refine ht_seq ?_
                                     refine ht_region ?_
                                     refine ho_ev rfl rfl rfl (ev_assign rfl rfl) ?_
                                     refine ho_nil ?_
                                     refine hx_then ?_
                                     refine ht_ret ?_
                                     refine hx_block_ret ?_
                                     refine hx_through trivial ?_
                                     refine hx_through trivial ?_
                                     refine hx_block_ret ?_
                                     refine hx_through trivial ?_
                                     exact hx_ret1 (.inl rfl) rfl rfl () rfl (Ent.cons (by (repeat constructor); done) Ent.nil)
                                    )
                                   ·first | (exfalso; first | omega | (simp at g56; done) | contradiction) | skip
                                    all_goals (
                                     refine ho_ev rfl rfl rfl (ev_pick_f rfl rfl rfl) ?_
                                     refine ho_nil ?_
                                     refine hx_then ?_
                                     refine ht_else rfl ?_
                                     refine ht_skip ?_
                                     refine hx_block_normal ?_
                                     refine hx_then ?_
                                     refine ht_region ?_
                                     refine ho_ev rfl rfl rfl (ev_move rfl rfl) ?_
                                     refine ho_ev rfl rfl rfl (ev_add rfl rfl rfl (by first | exact in_i64 (by omega) | rfl)) ?_
                                     refine ho_ev rfl rfl rfl (ev_assign rfl rfl) ?_
                                     refine ho_nil ?_
                                     refine hx_again (I := (fun q : Nat × Dk.Disk × Mt.St => ([DiskAt b0 q.2.1, pt m0 (.cells #[.pointer (some ⟨b0, 0, none⟩), .int .i64 at_, .int .u64 ((q.2.2.number : Nat) : Int), .int .i64 ((q.2.2.last : Nat) : Int)] 83 (0, 0)), ro bitsR, ro (roS a xs.length xs), pu (Mt.Fine q.2.1 at_ ∧ Mt.opened q.2.1.view at_ = q.2.2 ∧ q.2.2.number ≤ q.1 ∧ q.1 ≤ xs.length), F], [(0, .slice a xs.length c), (5, .pointer (some ⟨b0, 0, none⟩)), (7, .int .i64 at_), (8, .pointer (some ⟨m0, 0, none⟩)), (11, .int .u64 ((q.2.2.number : Nat) : Int)), (12, .int .i64 q.1)]))) (μ := (fun q : Nat × Dk.Disk × Mt.St => 20 - q.1)) (i := (q, d, s)) (q + 1, d1, ⟨s.number + 1, 1 - s.last, x.s⟩) ?_ ?_ ?_
                                     ·(first | dsimp only | skip); omega
                                     ·repeat (first | exact EnvSub.nil _ | (refine EnvSub.cons rfl ?_))
                                     ·(first | dsimp only | skip)
                                      exact Ent.cons (by (repeat constructor); done) (Ent.cons (by (repeat constructor); done) (Ent.roD (by (with_reducible repeat constructor); done) (Ent.roD (by (with_reducible repeat constructor); done) (Ent.pu ⟨hf1, ho1, by show s.number + 1 ≤ q + 1; omega, by omega⟩ (Ent.cons (by (repeat constructor); done) Ent.nil)))))
                                    )
                                  )
                                )
                              )
                            )
                          )
                        )
                      )
                    )
                 )
                ·first | (exfalso; first | omega | (simp at g36; done) | contradiction) | skip
                 all_goals (
                  refine ho_nil ?_
                  refine hx_then ?_
                  refine ht_else rfl ?_
                  refine ht_exit ?_
                  refine hx_through trivial ?_
                  refine hx_through trivial ?_
                  refine hx_block_here ?_
                  refine hx_then ?_
                  refine ht_seq ?_
                  refine ht_region ?_
                  refine ho_ev rfl rfl rfl (ev_assign rfl rfl) ?_
                  refine ho_nil ?_
                  refine hx_then ?_
                  refine ht_ret ?_
                  exact hx_ret1 (.inl rfl) rfl rfl () rfl (Ent.cons (by (repeat constructor); done) Ent.nil)
                 )
               )
             )
           )
        )
      )
    )
  )
 ·first | (exfalso; first | omega | (simp at g1; done) | contradiction) | skip
  all_goals (
   refine ho_ev rfl rfl rfl (ev_not rfl rfl) ?_
   refine ho_ev rfl rfl rfl (ev_move rfl rfl) ?_
   refine ho_pass rfl rfl rfl rfl ?_
   refine ho_pass rfl rfl rfl rfl ?_
   refine ho_ev rfl rfl rfl (ev_pick_t rfl rfl rfl) ?_
   refine ho_ev rfl rfl rfl (ev_move rfl rfl) ?_
   refine ho_pass rfl rfl rfl rfl ?_
   refine ho_pass rfl rfl rfl rfl ?_
   refine ho_ev rfl rfl rfl (ev_pick_t rfl rfl rfl) ?_
   refine ho_ev rfl rfl rfl (ev_move rfl rfl) ?_
   refine ho_pass rfl rfl rfl rfl ?_
   refine ho_pass rfl rfl rfl rfl ?_
   refine ho_pass rfl rfl rfl rfl ?_
   refine ho_ev rfl rfl rfl (ev_pick_t rfl rfl rfl) ?_
   refine ho_nil ?_
   refine hx_then ?_
   refine ht_then rfl ?_
   refine ht_seq ?_
   refine ht_region ?_
   refine ho_eff rfl rfl rfl (eff_call rfl rfl .nil rfl (law_awake12) (by repeat (first | exact Picks.nil | (apply Picks.ro; focus ((with_reducible repeat constructor); done)) | (apply Picks.cons; focus ((with_reducible repeat constructor); done)))) (fun _ => by repeat (first | exact App.nil | apply App.cons))) (fun _ => ?_)
   refine ho_ev rfl rfl rfl (ev_assign rfl rfl) ?_
   refine ho_nil ?_
   refine hx_then ?_
   refine ht_ret ?_
   refine hx_through trivial ?_
   exact hx_ret1 (.inl rfl) rfl rfl () rfl (Ent.cons (by (repeat constructor); done) Ent.nil)
  )
end Go.Proofs.YtlejcepbcfijiaaDoor
