/-
  LAW 12 (meta): a law's walk. Conditions: as its contract says.
-/
import Derived.Test.YtlejcepbcfijiaaDoorLaw12
set_option maxRecDepth 100000
set_option linter.unusedVariables false
set_option linter.unusedSimpArgs false
namespace Go.Proofs.YtlejcepbcfijiaaDoor
open Go Go.SL

theorem law_MetaKeeps (a : Option Addr) (c : Nat) (xs : List ActV) (ms : List Dk.MAct) : Ctr Tryd.prog 3 #[.slice a xs.length c] [ro bitsR, ro (roS a xs.length xs), ro (actsR xs ms)] (fun _ : Unit => .bool true) (fun _ => []) := by
 refine fn_intro Tryd.func3 rfl rfl Tryd.ntmps3 (Nat.le_of_ble_eq_true rfl) (fun _ => by repeat (first | exact App.nil | apply App.cons)) (fun κ F => ?_)
 refine ht_actsLen (xs := xs) (ms := ms) (by (with_reducible repeat constructor); done) (fun hlen => ?_)
 refine ht_seq ?_
 refine ht_region ?_
 refine ho_ev rfl rfl rfl (ev_assign rfl rfl) ?_
 refine ho_nil ?_
 refine hx_then ?_
 refine ht_seq ?_
 refine ht_region ?_
 refine ho_eff rfl rfl rfl (eff_call rfl rfl (.cons rfl .nil) rfl (disk_New 20 (by omega)) (by repeat (first | exact Picks.nil | (apply Picks.ro; focus ((with_reducible repeat constructor); done)) | (apply Picks.cons; focus ((with_reducible repeat constructor); done)))) (fun _ => by repeat (first | exact App.nil | apply App.cons))) (fun b0 => ?_)
 refine ho_ev rfl rfl rfl (ev_move rfl rfl) ?_
 refine ho_ev rfl rfl rfl (ev_extract rfl rfl rfl) ?_
 refine ho_ev rfl rfl rfl (ev_extract rfl rfl rfl) ?_
 refine ho_ev rfl rfl rfl (ev_assign rfl rfl) ?_
 refine ho_ev rfl rfl rfl (ev_assign rfl rfl) ?_
 refine ho_nil ?_
 refine hx_then ?_
 refine ht_seq ?_
 refine ht_seq ?_
 refine ht_region ?_
 refine ho_eff rfl rfl rfl (eff_call rfl rfl .nil rfl (law_awake12) (by repeat (first | exact Picks.nil | (apply Picks.ro; focus ((with_reducible repeat constructor); done)) | (apply Picks.cons; focus ((with_reducible repeat constructor); done)))) (fun _ => by repeat (first | exact App.nil | apply App.cons))) (fun _ => ?_)
 refine ho_bool (t := 23) rfl (fun g1 => ?_) (fun g1 => ?_)
 ·first | (exfalso; first | omega | (simp at g1; done) | contradiction) | skip
  all_goals (
   refine ho_ev rfl rfl rfl (ev_not rfl rfl) ?_
   refine ho_ev rfl rfl rfl (ev_move rfl rfl) ?_
   refine ho_evg rfl rfl rfl rfl (ev_move rfl rfl) ?_
   refine ho_neg rfl rfl rfl rfl rfl rfl rfl (fun g2 => ?_) (fun g2 => ?_)
   ·(exfalso; first | omega | (simp at g2; done) | contradiction)
   ·first | (exfalso; first | omega | (simp at g2; done) | contradiction) | skip
    all_goals (
     refine ho_ev rfl rfl rfl (ev_pick_f rfl rfl rfl) ?_
     refine ho_ev rfl rfl rfl (ev_move rfl rfl) ?_
     refine ho_evg rfl rfl rfl rfl (ev_move rfl rfl) ?_
     refine ho_evg rfl rfl rfl rfl (ev_ptrNil rfl Tryd.underlying23 rfl rfl rfl) ?_
     refine ho_ev rfl rfl rfl (ev_pick_f rfl rfl rfl) ?_
     refine ho_nil ?_
     refine hx_then ?_
     refine ht_bool (t := 32) rfl (fun g3 => ?_) (fun g3 => ?_)
     ·first | (exfalso; first | omega | (simp at g3; done) | contradiction) | skip
      all_goals (
       refine ht_then rfl ?_
       refine ht_seq ?_
       refine ht_region ?_
       refine ho_ev rfl rfl rfl (ev_assign rfl rfl) ?_
       refine ho_nil ?_
       refine hx_then ?_
       refine ht_ret ?_
       refine hx_through trivial ?_
       exact hx_ret1 (.inl rfl) rfl rfl () rfl (Ent.cons (by (repeat constructor); done) Ent.nil)
      )
     ·first | (exfalso; first | omega | (simp at g3; done) | contradiction) | skip
      all_goals (
       refine ht_else rfl ?_
       refine ht_skip ?_
       refine hx_then ?_
       refine ht_seq ?_
       refine ht_region ?_
       refine ho_ev rfl rfl rfl (ev_move rfl rfl) ?_
       refine ho_eff rfl rfl rfl (eff_call rfl rfl (.cons rfl (.cons rfl .nil)) rfl (meta_Open b0 (Dk.Disk.new 20) 5 (by omega)) (by repeat (first | exact Picks.nil | (apply Picks.ro; focus ((repeat constructor); done)) | (apply Picks.cons; focus ((repeat constructor); done)))) (fun _ => by repeat (first | exact App.nil | apply App.cons))) (fun m0 => ?_)
       rw [show Mt.opened (Dk.Disk.new 20).view 5 = ⟨0, 1, []⟩ from Mt.opened_none rfl rfl]
       dsimp only
       rw [if_pos rfl]
       refine ho_ev rfl rfl rfl (ev_move rfl rfl) ?_
       refine ho_ev rfl rfl rfl (ev_extract rfl rfl rfl) ?_
       refine ho_ev rfl rfl rfl (ev_extract rfl rfl rfl) ?_
       refine ho_ev rfl rfl rfl (ev_extract rfl rfl rfl) ?_
       refine ho_ev rfl rfl rfl (ev_assign rfl rfl) ?_
       refine ho_ev rfl rfl rfl (ev_assign rfl rfl) ?_
       refine ho_ev rfl rfl rfl (ev_assign rfl rfl) ?_
       refine ho_nil ?_
       refine hx_then ?_
       refine ht_seq ?_
       refine ht_seq ?_
       refine ht_region ?_
       refine ho_ev rfl rfl rfl (ev_move rfl rfl) ?_
       refine ho_ev rfl rfl rfl (ev_ptrNil rfl Tryd.underlying28 rfl rfl rfl) ?_
       refine ho_ev rfl rfl rfl (ev_move rfl rfl) ?_
       refine ho_bool (t := 41) rfl (fun g4 => ?_) (fun g4 => ?_)
       ·first | (exfalso; first | omega | (simp at g4; done) | contradiction) | skip
        all_goals (
         refine ho_pass rfl rfl rfl rfl ?_
         refine ho_pass rfl rfl rfl rfl ?_
         refine ho_ev rfl rfl rfl (ev_pick_t rfl rfl rfl) ?_
         refine ho_nil ?_
         refine hx_then ?_
         refine ht_then rfl ?_
         refine ht_seq ?_
         refine ht_region ?_
         refine ho_ev rfl rfl rfl (ev_assign rfl rfl) ?_
         refine ho_nil ?_
         refine hx_then ?_
         refine ht_ret ?_
         refine hx_through trivial ?_
         exact hx_ret1 (.inl rfl) rfl rfl () rfl (Ent.cons (by (repeat constructor); done) Ent.nil)
        )
       ·first | (exfalso; first | omega | (simp at g4; done) | contradiction) | skip
        all_goals (
         refine ho_evg rfl rfl rfl rfl (ev_move rfl rfl) ?_
         refine ho_neg rfl rfl rfl rfl rfl rfl rfl (fun g5 => ?_) (fun g5 => ?_)
         ·(exfalso; first | omega | (simp at g5; done) | contradiction)
         ·first | (exfalso; first | omega | (simp at g5; done) | contradiction) | skip
          all_goals (
           refine ho_ev rfl rfl rfl (ev_pick_f rfl rfl rfl) ?_
           refine ho_nil ?_
           refine hx_then ?_
           refine ht_else rfl ?_
           refine ht_skip ?_
           refine hx_then ?_
           refine ht_seq ?_
           refine ht_region ?_
           refine ho_ev rfl rfl rfl (ev_assign rfl rfl) ?_
           refine ho_ev rfl rfl rfl (ev_assign rfl rfl) ?_
           refine ho_nil ?_
           refine hx_then ?_
           refine ht_seq ?_
           refine ht_seq ?_
           refine ht_region ?_
           refine ho_ev rfl rfl rfl (ev_assign rfl rfl) ?_
           refine ho_nil ?_
           refine hx_then ?_
           refine ht_block ?_
           refine ht_loop (fun q : Nat × Dk.Disk × Mt.St × Nat => ([DiskAt b0 q.2.1, pt q.2.2.2 (.cells #[.pointer (some ⟨b0, 0, none⟩), .int .i64 5, .int .u64 ((q.2.2.1.number : Nat) : Int), .int .i64 ((q.2.2.1.last : Nat) : Int)] 83 (0, 0)), ro bitsR, ro (roS a xs.length xs), ro (actsR xs ms), pu (q.2.1.pend = [] ∧ q.2.1.ground = q.2.1.view ∧ Mt.opened q.2.1.view 5 = q.2.2.1 ∧ q.2.2.1.number ≤ q.1 ∧ q.1 ≤ 40 ∧ q.1 ≤ xs.length), F], [(0, .slice a xs.length c), (3, .pointer (some ⟨b0, 0, none⟩)), (5, .pointer (some ⟨q.2.2.2, 0, none⟩)), (8, vS q.2.2.1.body), (9, .bool (decide (0 < q.2.2.1.number))), (10, .int .i64 q.1)])) (fun q : Nat × Dk.Disk × Mt.St × Nat => 40 - q.1) (0, Dk.Disk.new 20, ⟨0, 1, []⟩, m0) ?_ (by repeat (first | exact EnvSub.nil _ | (refine EnvSub.cons rfl ?_))) (fun q => ?_)
           ·(first | dsimp only | skip)
            exact Ent.cons (by (repeat constructor); done) (Ent.cons (by (repeat constructor); done) (Ent.roD (by (with_reducible repeat constructor); done) (Ent.roD (by (with_reducible repeat constructor); done) (Ent.roD (by (with_reducible repeat constructor); done) (Ent.pu ⟨rfl, rfl, Mt.opened_none rfl rfl, by simp, by omega, by omega⟩ (Ent.cons (by (repeat constructor); done) Ent.nil))))))
           obtain ⟨q, d, s, mb⟩ := q
           dsimp only
           refine ht_pick (A := pu (d.pend = [] ∧ d.ground = d.view ∧ Mt.opened d.view 5 = s ∧ s.number ≤ q ∧ q ≤ 40 ∧ q ≤ xs.length)) (by (repeat constructor); done) (ht_pure fun hq => ?_)
           obtain ⟨hpd, hgd, hs, hn, hq40, hql⟩ := hq
           have hsl := Mt.opened_last d.view 5
           rw [hs] at hsl
           refine ht_seq ?_
           refine ht_seq ?_
           refine ht_region ?_
           refine ho_ev rfl rfl rfl (ev_move rfl rfl) ?_
           refine ho_ev rfl rfl rfl (ev_move rfl rfl) ?_
           refine ho_ev rfl rfl rfl (ev_lenSl rfl Tryd.underlying22 rfl) ?_
           refine ho_lt rfl rfl rfl rfl rfl rfl (fun g6 => ?_) (fun g6 => ?_)
           ·first | (exfalso; first | omega | (simp at g6; done) | contradiction) | skip
            all_goals (
             refine ho_ev rfl rfl rfl (ev_move rfl rfl) ?_
             refine ho_evg rfl rfl rfl rfl (ev_move rfl rfl) ?_
             refine ho_ltg rfl rfl rfl rfl rfl rfl rfl (fun g7 => ?_) (fun g7 => ?_)
             ·first | (exfalso; first | omega | (simp at g7; done) | contradiction) | skip
              all_goals (
               refine ho_ev rfl rfl rfl (ev_pick_t rfl rfl rfl) ?_
               refine ho_nil ?_
               refine hx_then ?_
               refine ht_then rfl ?_
               refine ht_skip ?_
               refine hx_then ?_
               refine ht_seq ?_
               refine ht_block ?_
               refine ht_seq ?_
               refine ht_actAt (xs := xs) (ms := ms) (i := q) (by omega) (by (with_reducible repeat constructor); done) (fun x0 m0x hx0 hm0 => ?_)
               refine ht_someS (α := ActV) (a := a) (xs := xs) (reads_ro (by (with_reducible repeat constructor); done)) (by omega) (fun ab ao ha => ?_)
               refine ht_region ?_
               refine ho_ev rfl rfl rfl (ev_move rfl rfl) ?_
               refine ho_ev rfl rfl rfl (ev_move rfl rfl) ?_
               refine ho_ev rfl rfl rfl (ev_indexAddr rfl Tryd.underlying22 Tryd.ty33 (congrArg (fun z => some (Value.slice z xs.length c)) ha) rfl (by omega) (by omega)) ?_
               refine ho_ev rfl rfl rfl (ev_loadA rfl Tryd.underlying33 Tryd.ty33 rfl rfl (cells_Sa ha (reads_ro (by (with_reducible repeat constructor); done)) hx0)) ?_
               refine ho_eff rfl rfl rfl (eff_call rfl rfl (.cons rfl .nil) rfl (law_few12 x0 m0x) (by repeat (first | exact Picks.nil | (apply Picks.ro; focus ((repeat constructor); done)) | (apply Picks.cons; focus ((repeat constructor); done)))) (fun _ => by repeat (first | exact App.nil | apply App.cons))) (fun y => ?_)
               refine ho_eff rfl rfl rfl (eff_alloc rfl Tryd.ty33 (by first | exact cells_agg _ | exact rfl)) (fun b11 => ?_)
               refine ho_eff0 rfl rfl (eff_storeA rfl Tryd.ty33 rfl rfl (by (with_reducible repeat constructor); done) rfl rfl rfl (by simp only [setRange, List.setIfInBounds_toArray, List.set_cons_zero, List.set_cons_succ, Nat.zero_add]; rfl)) (fun _ => ?_)
               refine ho_nil ?_
               refine hx_then ?_
               refine ht_seq ?_
               refine ht_act (x := y) (m := few12 m0x) (by (with_reducible repeat constructor); done) (fun hyk hyp hyb hyl hyc => ?_)
               obtain ⟨yk, yp, yb, yla, ylm, ylc⟩ := y
               dsimp only [ActV.val] at hyk hyp hyb hyl hyc ⊢
               subst hyk hyp hyb hyl
               refine ht_region ?_
               refine ho_ev rfl rfl rfl (by first | exact ev_fieldAddr0 rfl Tryd.fld33_2 rfl | exact ev_fieldAddr rfl Tryd.fld33_2 rfl) ?_
               refine ho_ev rfl rfl rfl (ev_load rfl Tryd.underlying9 rfl rfl (by first | exact cell_pt (by (with_reducible repeat constructor); done) rfl | exact cell_ro (by (with_reducible repeat constructor); done) rfl)) ?_
               refine ho_eff rfl rfl rfl (eff_buildAll (α := Str) [Str.mk (few12 m0x).b] rfl Tryd.underlying35 Tryd.ty9 (.cons rfl .nil) (.cons rfl .nil) rfl (Nat.le_of_ble_eq_true rfl)) (fun b62 => ?_)
               refine ho_ev rfl rfl rfl (ev_assign rfl rfl) ?_
               refine ho_nil ?_
               refine hx_then ?_
               refine ht_seq ?_
               refine ht_region ?_
               refine ho_ev rfl rfl rfl (ev_move rfl rfl) ?_
               refine ho_ev rfl rfl rfl (by first | exact ev_fieldAddr0 rfl Tryd.fld33_2 rfl | exact ev_fieldAddr rfl Tryd.fld33_2 rfl) ?_
               refine ho_ev rfl rfl rfl (ev_load rfl Tryd.underlying9 rfl rfl (by first | exact cell_pt (by (with_reducible repeat constructor); done) rfl | exact cell_ro (by (with_reducible repeat constructor); done) rfl)) ?_
               refine ho_ev rfl rfl rfl (by first | exact ev_fieldAddr0 rfl Tryd.fld33_1 rfl | exact ev_fieldAddr rfl Tryd.fld33_1 rfl) ?_
               refine ho_ev rfl rfl rfl (ev_load rfl Tryd.underlying3 rfl rfl (by first | exact cell_pt (by (with_reducible repeat constructor); done) rfl | exact cell_ro (by (with_reducible repeat constructor); done) rfl)) ?_
               refine ho_eff rfl rfl rfl (eff_call rfl rfl (.cons rfl (.cons rfl (.cons rfl .nil))) rfl (meta_Steps mb b0 d 5 s.number s.last (few12 m0x).b (few12 m0x).place (by omega) hsl (by omega) (by rw [hpd]; decide)) (by repeat (first | exact Picks.nil | (apply Picks.ro; focus ((repeat constructor); done)) | (apply Picks.cons; focus ((repeat constructor); done)))) (fun _ => by repeat (first | exact App.nil | apply App.cons))) (fun _ => ?_)
               refine ho_ev rfl rfl rfl (ev_move rfl rfl) ?_
               refine ho_ev rfl rfl rfl (ev_extract rfl rfl rfl) ?_
               refine ho_ev rfl rfl rfl (ev_extract rfl rfl rfl) ?_
               refine ho_ev rfl rfl rfl (ev_assign rfl rfl) ?_
               refine ho_ev rfl rfl rfl (ev_assign rfl rfl) ?_
               refine ho_nil ?_
               refine hx_then ?_
               refine ht_seq ?_
               refine ht_seq ?_
               have houtc := Mt.outcome (d := d) (k := 5) (s := s) (body := (few12 m0x).b) (few12 m0x).place (few12 m0x).l hpd hgd hs (by omega) (by have := few12_b m0x; omega)
               rcases (show ((Mt.steps d 5 s.number s.last (few12 m0x).b (few12 m0x).place).fin = false ∧ Mt.opened ((Mt.steps d 5 s.number s.last (few12 m0x).b (few12 m0x).place).d.crash (few12 m0x).l).view 5 = s ∧ s.number = 0) ∨ ((Mt.steps d 5 s.number s.last (few12 m0x).b (few12 m0x).place).fin = false ∧ Mt.opened ((Mt.steps d 5 s.number s.last (few12 m0x).b (few12 m0x).place).d.crash (few12 m0x).l).view 5 = s ∧ ¬ s.number = 0) ∨ ((Mt.steps d 5 s.number s.last (few12 m0x).b (few12 m0x).place).fin = false ∧ (Mt.steps d 5 s.number s.last (few12 m0x).b (few12 m0x).place).err = 0 ∧ Mt.opened ((Mt.steps d 5 s.number s.last (few12 m0x).b (few12 m0x).place).d.crash (few12 m0x).l).view 5 = ⟨s.number + 1, 1 - s.last, (few12 m0x).b⟩ ∧ s.number = 0) ∨ ((Mt.steps d 5 s.number s.last (few12 m0x).b (few12 m0x).place).fin = false ∧ (Mt.steps d 5 s.number s.last (few12 m0x).b (few12 m0x).place).err = 0 ∧ Mt.opened ((Mt.steps d 5 s.number s.last (few12 m0x).b (few12 m0x).place).d.crash (few12 m0x).l).view 5 = ⟨s.number + 1, 1 - s.last, (few12 m0x).b⟩ ∧ ¬ s.number = 0) ∨ ((Mt.steps d 5 s.number s.last (few12 m0x).b (few12 m0x).place).fin = true ∧ (Mt.steps d 5 s.number s.last (few12 m0x).b (few12 m0x).place).err = 0 ∧ Mt.opened ((Mt.steps d 5 s.number s.last (few12 m0x).b (few12 m0x).place).d.crash (few12 m0x).l).view 5 = ⟨s.number + 1, 1 - s.last, (few12 m0x).b⟩) from five houtc) with ⟨hfin, ho, hz⟩ | ⟨hfin, ho, hz⟩ | ⟨hfin, herr, ho, hz⟩ | ⟨hfin, herr, ho, hz⟩ | ⟨hfin, herr, ho⟩
               ·skip
                rw [hfin, show decide (0 < s.number) = false by simp; omega]
                refine ht_region ?_
                refine ho_ev rfl rfl rfl (ev_move rfl rfl) ?_
                refine ho_ne rfl rfl rfl rfl rfl rfl (fun g8 => ?_) (fun g8 => ?_)
                ·first | (exfalso; first | omega | (simp at g8; done) | contradiction) | skip
                 all_goals (
                  refine ho_nil ?_
                  refine hx_then ?_
                  refine ht_then rfl ?_
                  refine ht_region ?_
                  refine ho_ev rfl rfl rfl (ev_assign rfl rfl) ?_
                  refine ho_nil ?_
                  refine hx_then ?_
                  refine ht_seq ?_
                  refine ht_seq ?_
                  refine ht_region ?_
                  refine ho_ev rfl rfl rfl (ev_move rfl rfl) ?_
                  refine ho_nil ?_
                  refine hx_then ?_
                  refine ht_else rfl ?_
                  refine ht_skip ?_
                  refine hx_then ?_
                  refine ht_seq ?_
                  refine ht_region ?_
                  refine ho_ev rfl rfl rfl (ev_move rfl rfl) ?_
                  refine ho_ev rfl rfl rfl (by first | exact ev_fieldAddr0 rfl Tryd.fld33_3 rfl | exact ev_fieldAddr rfl Tryd.fld33_3 rfl) ?_
                  refine ho_ev rfl rfl rfl (ev_load rfl Tryd.underlying31 rfl rfl (by first | exact cell_pt (by (with_reducible repeat constructor); done) rfl | exact cell_ro (by (with_reducible repeat constructor); done) rfl)) ?_
                  refine ho_eff rfl rfl rfl (eff_call rfl rfl (.cons rfl (.cons rfl .nil)) rfl (disk_Crash b0 (Mt.steps d 5 s.number s.last (few12 m0x).b (few12 m0x).place).d yla ylc (few12 m0x).l (by have := few12_l m0x; omega) (by have := Mt.steps_pend d 5 s.number s.last (few12 m0x).b (few12 m0x).place; rw [hpd] at this; have e : ([] : List Dk.POp).length = 0 := rfl; omega)) (by repeat (first | exact Picks.nil | (apply Picks.ro; focus ((repeat constructor); done)) | (apply Picks.cons; focus ((repeat constructor); done)))) (fun _ => by repeat (first | exact App.nil | apply App.cons))) (fun _ => ?_)
                  refine ho_nil ?_
                  refine hx_then ?_
                  refine ht_seq ?_
                  refine ht_region ?_
                  refine ho_ev rfl rfl rfl (ev_move rfl rfl) ?_
                  refine ho_eff rfl rfl rfl (eff_call rfl rfl (.cons rfl (.cons rfl .nil)) rfl (meta_Open b0 ((Mt.steps d 5 s.number s.last (few12 m0x).b (few12 m0x).place).d.crash (few12 m0x).l) 5 (by omega)) (by repeat (first | exact Picks.nil | (apply Picks.ro; focus ((repeat constructor); done)) | (apply Picks.cons; focus ((repeat constructor); done)))) (fun _ => by repeat (first | exact App.nil | apply App.cons))) (fun m1 => ?_)
                  rw [ho]
                  rw [if_pos hz]
                  refine ho_ev rfl rfl rfl (ev_move rfl rfl) ?_
                  refine ho_ev rfl rfl rfl (ev_extract rfl rfl rfl) ?_
                  refine ho_ev rfl rfl rfl (ev_extract rfl rfl rfl) ?_
                  refine ho_ev rfl rfl rfl (ev_extract rfl rfl rfl) ?_
                  refine ho_ev rfl rfl rfl (ev_assign rfl rfl) ?_
                  refine ho_ev rfl rfl rfl (ev_assign rfl rfl) ?_
                  refine ho_ev rfl rfl rfl (ev_assign rfl rfl) ?_
                  refine ho_nil ?_
                  refine hx_then ?_
                  refine ht_seq ?_
                  refine ht_seq ?_
                  refine ht_region ?_
                  refine ho_ev rfl rfl rfl (ev_move rfl rfl) ?_
                  refine ho_ev rfl rfl rfl (ev_ptrNil rfl Tryd.underlying28 rfl rfl rfl) ?_
                  refine ho_ev rfl rfl rfl (ev_move rfl rfl) ?_
                  refine ho_bool (t := 89) rfl (fun g9 => ?_) (fun g9 => ?_)
                  ·first | (exfalso; first | omega | (simp at g9; done) | contradiction) | skip
                   all_goals (
                    refine ho_pass rfl rfl rfl rfl ?_
                    refine ho_pass rfl rfl rfl rfl ?_
                    refine ho_pass rfl rfl rfl rfl ?_
                    refine ho_passU rfl rfl rfl rfl ?_
                    refine ho_passU rfl rfl rfl rfl ?_
                    refine ho_pass rfl rfl rfl rfl ?_
                    refine ho_ev rfl rfl rfl (ev_pick_t rfl rfl rfl) ?_
                    refine ho_nil ?_
                    refine hx_then ?_
                    refine ht_then rfl ?_
                    refine ht_seq ?_
                    refine ht_region ?_
                    refine ho_ev rfl rfl rfl (ev_assign rfl rfl) ?_
                    refine ho_nil ?_
                    refine hx_then ?_
                    refine ht_ret ?_
                    refine hx_through trivial ?_
                    refine hx_block_ret ?_
                    refine hx_through trivial ?_
                    refine hx_through trivial ?_
                    refine hx_block_ret ?_
                    refine hx_through trivial ?_
                    exact hx_ret1 (.inl rfl) rfl rfl () rfl (Ent.cons (by (repeat constructor); done) Ent.nil)
                   )
                  ·first | (exfalso; first | omega | (simp at g9; done) | contradiction) | skip
                   all_goals (
                    refine ho_evg rfl rfl rfl rfl (ev_move rfl rfl) ?_
                    refine ho_neg rfl rfl rfl rfl rfl rfl rfl (fun g10 => ?_) (fun g10 => ?_)
                    ·first | (exfalso; first | omega | (simp at g10; done) | contradiction) | skip
                     all_goals (
                      refine ho_evg rfl rfl rfl rfl (ev_move rfl rfl) ?_
                      refine ho_evg rfl rfl rfl rfl (ev_move rfl rfl) ?_
                      refine ho_neg rfl rfl rfl rfl rfl rfl rfl (fun g11 => ?_) (fun g11 => ?_)
                      ·(exfalso; first | omega | (simp at g11; done) | contradiction)
                      ·first | (exfalso; first | omega | (simp at g11; done) | contradiction) | skip
                       all_goals (
                        refine ho_evg rfl rfl rfl rfl (ev_pick_t rfl rfl rfl) ?_
                        refine ho_ev rfl rfl rfl (ev_pick_f rfl rfl rfl) ?_
                        refine ho_nil ?_
                        refine hx_then ?_
                        refine ht_else rfl ?_
                        refine ht_skip ?_
                        refine hx_then ?_
                        refine ht_seq ?_
                        refine ht_region ?_
                        refine ho_ev rfl rfl rfl (ev_move rfl rfl) ?_
                        refine ho_ev rfl rfl rfl (ev_move rfl rfl) ?_
                        refine ho_pass rfl rfl rfl rfl ?_
                        refine ho_pass rfl rfl rfl rfl ?_
                        refine ho_ev rfl rfl rfl (ev_pick_f rfl rfl rfl) ?_
                        refine ho_ev rfl rfl rfl (ev_move rfl rfl) ?_
                        refine ho_pass rfl rfl rfl rfl ?_
                        refine ho_pass rfl rfl rfl rfl ?_
                        refine ho_pass rfl rfl rfl rfl ?_
                        refine ho_ev rfl rfl rfl (ev_pick_f rfl rfl rfl) ?_
                        refine ho_ev rfl rfl rfl (ev_move rfl rfl) ?_
                        refine ho_evg rfl rfl rfl rfl (ev_move rfl rfl) ?_
                        refine ho_evg rfl rfl rfl rfl (ev_not rfl rfl) ?_
                        refine ho_evg rfl rfl rfl rfl (ev_move rfl rfl) ?_
                        refine ho_evg rfl rfl rfl rfl (ev_move rfl rfl) ?_
                        refine ho_eqg rfl rfl rfl rfl rfl rfl rfl (fun g12 => ?_) (fun g12 => ?_)
                        ·first | (exfalso; first | omega | (simp at g12; done) | contradiction) | skip
                         all_goals (
                          refine ho_evg rfl rfl rfl rfl (ev_pick_t rfl rfl rfl) ?_
                          refine ho_ev rfl rfl rfl (ev_pick_f rfl rfl rfl) ?_
                          refine ho_ev rfl rfl rfl (ev_assign rfl rfl) ?_
                          refine ho_nil ?_
                          refine hx_then ?_
                          refine ht_seq ?_
                          refine ht_seq ?_
                          refine ht_region ?_
                          refine ho_ev rfl rfl rfl (ev_move rfl rfl) ?_
                          refine ho_ev rfl rfl rfl (ev_not rfl rfl) ?_
                          refine ho_ev rfl rfl rfl (ev_move rfl rfl) ?_
                          refine ho_pass rfl rfl rfl rfl ?_
                          refine ho_pass rfl rfl rfl rfl ?_
                          refine ho_pass rfl rfl rfl rfl ?_
                          refine ho_pass rfl rfl rfl rfl ?_
                          refine ho_passU rfl rfl rfl rfl ?_
                          refine ho_passU rfl rfl rfl rfl ?_
                          refine ho_pass rfl rfl rfl rfl ?_
                          refine ho_pass rfl rfl rfl rfl ?_
                          refine ho_passU rfl rfl rfl rfl ?_
                          refine ho_passU rfl rfl rfl rfl ?_
                          refine ho_passU rfl rfl rfl rfl ?_
                          refine ho_passU rfl rfl rfl rfl ?_
                          refine ho_passU rfl rfl rfl rfl ?_
                          refine ho_pass rfl rfl rfl rfl ?_
                          refine ho_ev rfl rfl rfl (ev_pick_f rfl rfl rfl) ?_
                          refine ho_nil ?_
                          refine hx_then ?_
                          refine ht_else rfl ?_
                          refine ht_skip ?_
                          refine hx_then ?_
                          refine ht_seq ?_
                          refine ht_seq ?_
                          refine ht_region ?_
                          refine ho_ev rfl rfl rfl (ev_move rfl rfl) ?_
                          refine ho_eq rfl rfl rfl rfl rfl rfl (fun g13 => ?_) (fun g13 => ?_)
                          ·(exfalso; first | omega | (simp at g13; done) | contradiction)
                          ·first | (exfalso; first | omega | (simp at g13; done) | contradiction) | skip
                           all_goals (
                            refine ho_nil ?_
                            refine hx_then ?_
                            refine ht_else rfl ?_
                            refine ht_skip ?_
                            refine hx_then ?_
                            refine ht_region ?_
                            refine ho_ev rfl rfl rfl (ev_move rfl rfl) ?_
                            refine ho_ev rfl rfl rfl (ev_assign rfl rfl) ?_
                            refine ho_nil ?_
                            refine hx_block_normal ?_
                            refine hx_then ?_
                            refine ht_region ?_
                            refine ho_ev rfl rfl rfl (ev_move rfl rfl) ?_
                            refine ho_ev rfl rfl rfl (ev_add rfl rfl rfl (by first | exact in_i64 (by omega) | rfl)) ?_
                            refine ho_ev rfl rfl rfl (ev_assign rfl rfl) ?_
                            refine ho_nil ?_
                            refine hx_again (I := (fun q : Nat × Dk.Disk × Mt.St × Nat => ([DiskAt b0 q.2.1, pt q.2.2.2 (.cells #[.pointer (some ⟨b0, 0, none⟩), .int .i64 5, .int .u64 ((q.2.2.1.number : Nat) : Int), .int .i64 ((q.2.2.1.last : Nat) : Int)] 83 (0, 0)), ro bitsR, ro (roS a xs.length xs), ro (actsR xs ms), pu (q.2.1.pend = [] ∧ q.2.1.ground = q.2.1.view ∧ Mt.opened q.2.1.view 5 = q.2.2.1 ∧ q.2.2.1.number ≤ q.1 ∧ q.1 ≤ 40 ∧ q.1 ≤ xs.length), F], [(0, .slice a xs.length c), (3, .pointer (some ⟨b0, 0, none⟩)), (5, .pointer (some ⟨q.2.2.2, 0, none⟩)), (8, vS q.2.2.1.body), (9, .bool (decide (0 < q.2.2.1.number))), (10, .int .i64 q.1)]))) (μ := (fun q : Nat × Dk.Disk × Mt.St × Nat => 40 - q.1)) (i := (q, d, s, mb)) (q + 1, ((Mt.steps d 5 s.number s.last (few12 m0x).b (few12 m0x).place).d.crash (few12 m0x).l), s, m1) ?_ ?_ ?_
                            ·(first | dsimp only | skip); omega
                            ·(try rw [(show decide (0 < s.number) = false by simp; omega)])
                             repeat (first | exact EnvSub.nil _ | (refine EnvSub.cons rfl ?_))
                            ·(first | dsimp only | skip)
                             exact Ent.cons (by (repeat constructor); done) (Ent.cons (by (repeat constructor); done) (Ent.roD (by (with_reducible repeat constructor); done) (Ent.roD (by (with_reducible repeat constructor); done) (Ent.roD (by (with_reducible repeat constructor); done) (Ent.pu ⟨rfl, rfl, ho, by omega, by omega, by omega⟩ (Ent.cons (by (repeat constructor); done) Ent.nil))))))
                           )
                         )
                        ·(exfalso; first | omega | (simp at g12; done) | contradiction)
                       )
                     )
                    ·(exfalso; first | omega | (simp at g10; done) | contradiction)
                   )
                 )
                ·first | (exfalso; first | omega | (simp at g8; done) | contradiction) | skip
                 all_goals (
                  refine ho_nil ?_
                  refine hx_then ?_
                  refine ht_else rfl ?_
                  refine ht_skip ?_
                  refine hx_then ?_
                  refine ht_seq ?_
                  refine ht_seq ?_
                  refine ht_region ?_
                  refine ho_ev rfl rfl rfl (ev_move rfl rfl) ?_
                  refine ho_nil ?_
                  refine hx_then ?_
                  refine ht_else rfl ?_
                  refine ht_skip ?_
                  refine hx_then ?_
                  refine ht_seq ?_
                  refine ht_region ?_
                  refine ho_ev rfl rfl rfl (ev_move rfl rfl) ?_
                  refine ho_ev rfl rfl rfl (by first | exact ev_fieldAddr0 rfl Tryd.fld33_3 rfl | exact ev_fieldAddr rfl Tryd.fld33_3 rfl) ?_
                  refine ho_ev rfl rfl rfl (ev_load rfl Tryd.underlying31 rfl rfl (by first | exact cell_pt (by (with_reducible repeat constructor); done) rfl | exact cell_ro (by (with_reducible repeat constructor); done) rfl)) ?_
                  refine ho_eff rfl rfl rfl (eff_call rfl rfl (.cons rfl (.cons rfl .nil)) rfl (disk_Crash b0 (Mt.steps d 5 s.number s.last (few12 m0x).b (few12 m0x).place).d yla ylc (few12 m0x).l (by have := few12_l m0x; omega) (by have := Mt.steps_pend d 5 s.number s.last (few12 m0x).b (few12 m0x).place; rw [hpd] at this; have e : ([] : List Dk.POp).length = 0 := rfl; omega)) (by repeat (first | exact Picks.nil | (apply Picks.ro; focus ((repeat constructor); done)) | (apply Picks.cons; focus ((repeat constructor); done)))) (fun _ => by repeat (first | exact App.nil | apply App.cons))) (fun _ => ?_)
                  refine ho_nil ?_
                  refine hx_then ?_
                  refine ht_seq ?_
                  refine ht_region ?_
                  refine ho_ev rfl rfl rfl (ev_move rfl rfl) ?_
                  refine ho_eff rfl rfl rfl (eff_call rfl rfl (.cons rfl (.cons rfl .nil)) rfl (meta_Open b0 ((Mt.steps d 5 s.number s.last (few12 m0x).b (few12 m0x).place).d.crash (few12 m0x).l) 5 (by omega)) (by repeat (first | exact Picks.nil | (apply Picks.ro; focus ((repeat constructor); done)) | (apply Picks.cons; focus ((repeat constructor); done)))) (fun _ => by repeat (first | exact App.nil | apply App.cons))) (fun m1 => ?_)
                  rw [ho]
                  rw [if_pos hz]
                  refine ho_ev rfl rfl rfl (ev_move rfl rfl) ?_
                  refine ho_ev rfl rfl rfl (ev_extract rfl rfl rfl) ?_
                  refine ho_ev rfl rfl rfl (ev_extract rfl rfl rfl) ?_
                  refine ho_ev rfl rfl rfl (ev_extract rfl rfl rfl) ?_
                  refine ho_ev rfl rfl rfl (ev_assign rfl rfl) ?_
                  refine ho_ev rfl rfl rfl (ev_assign rfl rfl) ?_
                  refine ho_ev rfl rfl rfl (ev_assign rfl rfl) ?_
                  refine ho_nil ?_
                  refine hx_then ?_
                  refine ht_seq ?_
                  refine ht_seq ?_
                  refine ht_region ?_
                  refine ho_ev rfl rfl rfl (ev_move rfl rfl) ?_
                  refine ho_ev rfl rfl rfl (ev_ptrNil rfl Tryd.underlying28 rfl rfl rfl) ?_
                  refine ho_ev rfl rfl rfl (ev_move rfl rfl) ?_
                  refine ho_bool (t := 89) rfl (fun g14 => ?_) (fun g14 => ?_)
                  ·first | (exfalso; first | omega | (simp at g14; done) | contradiction) | skip
                   all_goals (
                    refine ho_pass rfl rfl rfl rfl ?_
                    refine ho_pass rfl rfl rfl rfl ?_
                    refine ho_pass rfl rfl rfl rfl ?_
                    refine ho_passU rfl rfl rfl rfl ?_
                    refine ho_passU rfl rfl rfl rfl ?_
                    refine ho_pass rfl rfl rfl rfl ?_
                    refine ho_ev rfl rfl rfl (ev_pick_t rfl rfl rfl) ?_
                    refine ho_nil ?_
                    refine hx_then ?_
                    refine ht_then rfl ?_
                    refine ht_seq ?_
                    refine ht_region ?_
                    refine ho_ev rfl rfl rfl (ev_assign rfl rfl) ?_
                    refine ho_nil ?_
                    refine hx_then ?_
                    refine ht_ret ?_
                    refine hx_through trivial ?_
                    refine hx_block_ret ?_
                    refine hx_through trivial ?_
                    refine hx_through trivial ?_
                    refine hx_block_ret ?_
                    refine hx_through trivial ?_
                    exact hx_ret1 (.inl rfl) rfl rfl () rfl (Ent.cons (by (repeat constructor); done) Ent.nil)
                   )
                  ·first | (exfalso; first | omega | (simp at g14; done) | contradiction) | skip
                   all_goals (
                    refine ho_evg rfl rfl rfl rfl (ev_move rfl rfl) ?_
                    refine ho_neg rfl rfl rfl rfl rfl rfl rfl (fun g15 => ?_) (fun g15 => ?_)
                    ·first | (exfalso; first | omega | (simp at g15; done) | contradiction) | skip
                     all_goals (
                      refine ho_evg rfl rfl rfl rfl (ev_move rfl rfl) ?_
                      refine ho_evg rfl rfl rfl rfl (ev_move rfl rfl) ?_
                      refine ho_neg rfl rfl rfl rfl rfl rfl rfl (fun g16 => ?_) (fun g16 => ?_)
                      ·(exfalso; first | omega | (simp at g16; done) | contradiction)
                      ·first | (exfalso; first | omega | (simp at g16; done) | contradiction) | skip
                       all_goals (
                        refine ho_evg rfl rfl rfl rfl (ev_pick_t rfl rfl rfl) ?_
                        refine ho_ev rfl rfl rfl (ev_pick_f rfl rfl rfl) ?_
                        refine ho_nil ?_
                        refine hx_then ?_
                        refine ht_else rfl ?_
                        refine ht_skip ?_
                        refine hx_then ?_
                        refine ht_seq ?_
                        refine ht_region ?_
                        refine ho_ev rfl rfl rfl (ev_move rfl rfl) ?_
                        refine ho_ev rfl rfl rfl (ev_move rfl rfl) ?_
                        refine ho_pass rfl rfl rfl rfl ?_
                        refine ho_pass rfl rfl rfl rfl ?_
                        refine ho_ev rfl rfl rfl (ev_pick_f rfl rfl rfl) ?_
                        refine ho_ev rfl rfl rfl (ev_move rfl rfl) ?_
                        refine ho_pass rfl rfl rfl rfl ?_
                        refine ho_pass rfl rfl rfl rfl ?_
                        refine ho_pass rfl rfl rfl rfl ?_
                        refine ho_ev rfl rfl rfl (ev_pick_f rfl rfl rfl) ?_
                        refine ho_ev rfl rfl rfl (ev_move rfl rfl) ?_
                        refine ho_evg rfl rfl rfl rfl (ev_move rfl rfl) ?_
                        refine ho_evg rfl rfl rfl rfl (ev_not rfl rfl) ?_
                        refine ho_evg rfl rfl rfl rfl (ev_move rfl rfl) ?_
                        refine ho_evg rfl rfl rfl rfl (ev_move rfl rfl) ?_
                        refine ho_eqg rfl rfl rfl rfl rfl rfl rfl (fun g17 => ?_) (fun g17 => ?_)
                        ·first | (exfalso; first | omega | (simp at g17; done) | contradiction) | skip
                         all_goals (
                          refine ho_evg rfl rfl rfl rfl (ev_pick_t rfl rfl rfl) ?_
                          refine ho_ev rfl rfl rfl (ev_pick_f rfl rfl rfl) ?_
                          refine ho_ev rfl rfl rfl (ev_assign rfl rfl) ?_
                          refine ho_nil ?_
                          refine hx_then ?_
                          refine ht_seq ?_
                          refine ht_seq ?_
                          refine ht_region ?_
                          refine ho_ev rfl rfl rfl (ev_move rfl rfl) ?_
                          refine ho_ev rfl rfl rfl (ev_not rfl rfl) ?_
                          refine ho_ev rfl rfl rfl (ev_move rfl rfl) ?_
                          refine ho_pass rfl rfl rfl rfl ?_
                          refine ho_pass rfl rfl rfl rfl ?_
                          refine ho_pass rfl rfl rfl rfl ?_
                          refine ho_pass rfl rfl rfl rfl ?_
                          refine ho_passU rfl rfl rfl rfl ?_
                          refine ho_passU rfl rfl rfl rfl ?_
                          refine ho_pass rfl rfl rfl rfl ?_
                          refine ho_pass rfl rfl rfl rfl ?_
                          refine ho_passU rfl rfl rfl rfl ?_
                          refine ho_passU rfl rfl rfl rfl ?_
                          refine ho_passU rfl rfl rfl rfl ?_
                          refine ho_passU rfl rfl rfl rfl ?_
                          refine ho_passU rfl rfl rfl rfl ?_
                          refine ho_pass rfl rfl rfl rfl ?_
                          refine ho_ev rfl rfl rfl (ev_pick_f rfl rfl rfl) ?_
                          refine ho_nil ?_
                          refine hx_then ?_
                          refine ht_else rfl ?_
                          refine ht_skip ?_
                          refine hx_then ?_
                          refine ht_seq ?_
                          refine ht_seq ?_
                          refine ht_region ?_
                          refine ho_ev rfl rfl rfl (ev_move rfl rfl) ?_
                          refine ho_eq rfl rfl rfl rfl rfl rfl (fun g18 => ?_) (fun g18 => ?_)
                          ·(exfalso; first | omega | (simp at g18; done) | contradiction)
                          ·first | (exfalso; first | omega | (simp at g18; done) | contradiction) | skip
                           all_goals (
                            refine ho_nil ?_
                            refine hx_then ?_
                            refine ht_else rfl ?_
                            refine ht_skip ?_
                            refine hx_then ?_
                            refine ht_region ?_
                            refine ho_ev rfl rfl rfl (ev_move rfl rfl) ?_
                            refine ho_ev rfl rfl rfl (ev_assign rfl rfl) ?_
                            refine ho_nil ?_
                            refine hx_block_normal ?_
                            refine hx_then ?_
                            refine ht_region ?_
                            refine ho_ev rfl rfl rfl (ev_move rfl rfl) ?_
                            refine ho_ev rfl rfl rfl (ev_add rfl rfl rfl (by first | exact in_i64 (by omega) | rfl)) ?_
                            refine ho_ev rfl rfl rfl (ev_assign rfl rfl) ?_
                            refine ho_nil ?_
                            refine hx_again (I := (fun q : Nat × Dk.Disk × Mt.St × Nat => ([DiskAt b0 q.2.1, pt q.2.2.2 (.cells #[.pointer (some ⟨b0, 0, none⟩), .int .i64 5, .int .u64 ((q.2.2.1.number : Nat) : Int), .int .i64 ((q.2.2.1.last : Nat) : Int)] 83 (0, 0)), ro bitsR, ro (roS a xs.length xs), ro (actsR xs ms), pu (q.2.1.pend = [] ∧ q.2.1.ground = q.2.1.view ∧ Mt.opened q.2.1.view 5 = q.2.2.1 ∧ q.2.2.1.number ≤ q.1 ∧ q.1 ≤ 40 ∧ q.1 ≤ xs.length), F], [(0, .slice a xs.length c), (3, .pointer (some ⟨b0, 0, none⟩)), (5, .pointer (some ⟨q.2.2.2, 0, none⟩)), (8, vS q.2.2.1.body), (9, .bool (decide (0 < q.2.2.1.number))), (10, .int .i64 q.1)]))) (μ := (fun q : Nat × Dk.Disk × Mt.St × Nat => 40 - q.1)) (i := (q, d, s, mb)) (q + 1, ((Mt.steps d 5 s.number s.last (few12 m0x).b (few12 m0x).place).d.crash (few12 m0x).l), s, m1) ?_ ?_ ?_
                            ·(first | dsimp only | skip); omega
                            ·(try rw [(show decide (0 < s.number) = false by simp; omega)])
                             repeat (first | exact EnvSub.nil _ | (refine EnvSub.cons rfl ?_))
                            ·(first | dsimp only | skip)
                             exact Ent.cons (by (repeat constructor); done) (Ent.cons (by (repeat constructor); done) (Ent.roD (by (with_reducible repeat constructor); done) (Ent.roD (by (with_reducible repeat constructor); done) (Ent.roD (by (with_reducible repeat constructor); done) (Ent.pu ⟨rfl, rfl, ho, by omega, by omega, by omega⟩ (Ent.cons (by (repeat constructor); done) Ent.nil))))))
                           )
                         )
                        ·(exfalso; first | omega | (simp at g17; done) | contradiction)
                       )
                     )
                    ·(exfalso; first | omega | (simp at g15; done) | contradiction)
                   )
                 )
               ·skip
                rw [hfin, show decide (0 < s.number) = true by simp; omega]
                refine ht_region ?_
                refine ho_ev rfl rfl rfl (ev_move rfl rfl) ?_
                refine ho_ne rfl rfl rfl rfl rfl rfl (fun g19 => ?_) (fun g19 => ?_)
                ·first | (exfalso; first | omega | (simp at g19; done) | contradiction) | skip
                 all_goals (
                  refine ho_nil ?_
                  refine hx_then ?_
                  refine ht_then rfl ?_
                  refine ht_region ?_
                  refine ho_ev rfl rfl rfl (ev_assign rfl rfl) ?_
                  refine ho_nil ?_
                  refine hx_then ?_
                  refine ht_seq ?_
                  refine ht_seq ?_
                  refine ht_region ?_
                  refine ho_ev rfl rfl rfl (ev_move rfl rfl) ?_
                  refine ho_nil ?_
                  refine hx_then ?_
                  refine ht_else rfl ?_
                  refine ht_skip ?_
                  refine hx_then ?_
                  refine ht_seq ?_
                  refine ht_region ?_
                  refine ho_ev rfl rfl rfl (ev_move rfl rfl) ?_
                  refine ho_ev rfl rfl rfl (by first | exact ev_fieldAddr0 rfl Tryd.fld33_3 rfl | exact ev_fieldAddr rfl Tryd.fld33_3 rfl) ?_
                  refine ho_ev rfl rfl rfl (ev_load rfl Tryd.underlying31 rfl rfl (by first | exact cell_pt (by (with_reducible repeat constructor); done) rfl | exact cell_ro (by (with_reducible repeat constructor); done) rfl)) ?_
                  refine ho_eff rfl rfl rfl (eff_call rfl rfl (.cons rfl (.cons rfl .nil)) rfl (disk_Crash b0 (Mt.steps d 5 s.number s.last (few12 m0x).b (few12 m0x).place).d yla ylc (few12 m0x).l (by have := few12_l m0x; omega) (by have := Mt.steps_pend d 5 s.number s.last (few12 m0x).b (few12 m0x).place; rw [hpd] at this; have e : ([] : List Dk.POp).length = 0 := rfl; omega)) (by repeat (first | exact Picks.nil | (apply Picks.ro; focus ((repeat constructor); done)) | (apply Picks.cons; focus ((repeat constructor); done)))) (fun _ => by repeat (first | exact App.nil | apply App.cons))) (fun _ => ?_)
                  refine ho_nil ?_
                  refine hx_then ?_
                  refine ht_seq ?_
                  refine ht_region ?_
                  refine ho_ev rfl rfl rfl (ev_move rfl rfl) ?_
                  refine ho_eff rfl rfl rfl (eff_call rfl rfl (.cons rfl (.cons rfl .nil)) rfl (meta_Open b0 ((Mt.steps d 5 s.number s.last (few12 m0x).b (few12 m0x).place).d.crash (few12 m0x).l) 5 (by omega)) (by repeat (first | exact Picks.nil | (apply Picks.ro; focus ((repeat constructor); done)) | (apply Picks.cons; focus ((repeat constructor); done)))) (fun _ => by repeat (first | exact App.nil | apply App.cons))) (fun m1 => ?_)
                  rw [ho]
                  rw [if_neg hz]
                  refine ho_ev rfl rfl rfl (ev_move rfl rfl) ?_
                  refine ho_ev rfl rfl rfl (ev_extract rfl rfl rfl) ?_
                  refine ho_ev rfl rfl rfl (ev_extract rfl rfl rfl) ?_
                  refine ho_ev rfl rfl rfl (ev_extract rfl rfl rfl) ?_
                  refine ho_ev rfl rfl rfl (ev_assign rfl rfl) ?_
                  refine ho_ev rfl rfl rfl (ev_assign rfl rfl) ?_
                  refine ho_ev rfl rfl rfl (ev_assign rfl rfl) ?_
                  refine ho_nil ?_
                  refine hx_then ?_
                  refine ht_seq ?_
                  refine ht_seq ?_
                  refine ht_region ?_
                  refine ho_ev rfl rfl rfl (ev_move rfl rfl) ?_
                  refine ho_ev rfl rfl rfl (ev_ptrNil rfl Tryd.underlying28 rfl rfl rfl) ?_
                  refine ho_ev rfl rfl rfl (ev_move rfl rfl) ?_
                  refine ho_bool (t := 89) rfl (fun g20 => ?_) (fun g20 => ?_)
                  ·first | (exfalso; first | omega | (simp at g20; done) | contradiction) | skip
                   all_goals (
                    refine ho_pass rfl rfl rfl rfl ?_
                    refine ho_pass rfl rfl rfl rfl ?_
                    refine ho_pass rfl rfl rfl rfl ?_
                    refine ho_passU rfl rfl rfl rfl ?_
                    refine ho_passU rfl rfl rfl rfl ?_
                    refine ho_pass rfl rfl rfl rfl ?_
                    refine ho_ev rfl rfl rfl (ev_pick_t rfl rfl rfl) ?_
                    refine ho_nil ?_
                    refine hx_then ?_
                    refine ht_then rfl ?_
                    refine ht_seq ?_
                    refine ht_region ?_
                    refine ho_ev rfl rfl rfl (ev_assign rfl rfl) ?_
                    refine ho_nil ?_
                    refine hx_then ?_
                    refine ht_ret ?_
                    refine hx_through trivial ?_
                    refine hx_block_ret ?_
                    refine hx_through trivial ?_
                    refine hx_through trivial ?_
                    refine hx_block_ret ?_
                    refine hx_through trivial ?_
                    exact hx_ret1 (.inl rfl) rfl rfl () rfl (Ent.cons (by (repeat constructor); done) Ent.nil)
                   )
                  ·first | (exfalso; first | omega | (simp at g20; done) | contradiction) | skip
                   all_goals (
                    refine ho_evg rfl rfl rfl rfl (ev_move rfl rfl) ?_
                    refine ho_neg rfl rfl rfl rfl rfl rfl rfl (fun g21 => ?_) (fun g21 => ?_)
                    ·(exfalso; first | omega | (simp at g21; done) | contradiction)
                    ·first | (exfalso; first | omega | (simp at g21; done) | contradiction) | skip
                     all_goals (
                      refine ho_evg rfl rfl rfl rfl (ev_move rfl rfl) ?_
                      refine ho_pass rfl rfl rfl rfl ?_
                      refine ho_pass rfl rfl rfl rfl ?_
                      refine ho_evg rfl rfl rfl rfl (ev_pick_f rfl rfl rfl) ?_
                      refine ho_ev rfl rfl rfl (ev_pick_f rfl rfl rfl) ?_
                      refine ho_nil ?_
                      refine hx_then ?_
                      refine ht_else rfl ?_
                      refine ht_skip ?_
                      refine hx_then ?_
                      refine ht_seq ?_
                      refine ht_region ?_
                      refine ho_ev rfl rfl rfl (ev_move rfl rfl) ?_
                      refine ho_ev rfl rfl rfl (ev_move rfl rfl) ?_
                      refine ho_evg rfl rfl rfl rfl (ev_move rfl rfl) ?_
                      refine ho_eqg rfl rfl rfl rfl rfl rfl rfl (fun g22 => ?_) (fun g22 => ?_)
                      ·first | (exfalso; first | omega | (simp at g22; done) | contradiction) | skip
                       all_goals (
                        refine ho_ev rfl rfl rfl (ev_pick_t rfl rfl rfl) ?_
                        refine ho_ev rfl rfl rfl (ev_move rfl rfl) ?_
                        refine ho_evg rfl rfl rfl rfl (ev_move rfl rfl) ?_
                        refine ho_evg rfl rfl rfl rfl (ev_move rfl rfl) ?_
                        refine ho_eqSg rfl rfl rfl rfl rfl rfl rfl (fun g23 => ?_) (fun g23 => ?_)
                        ·first | (exfalso; first | omega | (simp at g23; done) | contradiction) | skip
                         all_goals (
                          refine ho_ev rfl rfl rfl (ev_pick_t rfl rfl rfl) ?_
                          refine ho_ev rfl rfl rfl (ev_move rfl rfl) ?_
                          refine ho_pass rfl rfl rfl rfl ?_
                          refine ho_pass rfl rfl rfl rfl ?_
                          refine ho_pass rfl rfl rfl rfl ?_
                          refine ho_passU rfl rfl rfl rfl ?_
                          refine ho_passU rfl rfl rfl rfl ?_
                          refine ho_pass rfl rfl rfl rfl ?_
                          refine ho_ev rfl rfl rfl (ev_pick_t rfl rfl rfl) ?_
                          refine ho_ev rfl rfl rfl (ev_assign rfl rfl) ?_
                          refine ho_nil ?_
                          refine hx_then ?_
                          refine ht_seq ?_
                          refine ht_seq ?_
                          refine ht_region ?_
                          refine ho_ev rfl rfl rfl (ev_move rfl rfl) ?_
                          refine ho_ev rfl rfl rfl (ev_not rfl rfl) ?_
                          refine ho_ev rfl rfl rfl (ev_move rfl rfl) ?_
                          refine ho_pass rfl rfl rfl rfl ?_
                          refine ho_pass rfl rfl rfl rfl ?_
                          refine ho_pass rfl rfl rfl rfl ?_
                          refine ho_pass rfl rfl rfl rfl ?_
                          refine ho_passU rfl rfl rfl rfl ?_
                          refine ho_passU rfl rfl rfl rfl ?_
                          refine ho_pass rfl rfl rfl rfl ?_
                          refine ho_pass rfl rfl rfl rfl ?_
                          refine ho_passU rfl rfl rfl rfl ?_
                          refine ho_passU rfl rfl rfl rfl ?_
                          refine ho_passU rfl rfl rfl rfl ?_
                          refine ho_passU rfl rfl rfl rfl ?_
                          refine ho_passU rfl rfl rfl rfl ?_
                          refine ho_pass rfl rfl rfl rfl ?_
                          refine ho_ev rfl rfl rfl (ev_pick_f rfl rfl rfl) ?_
                          refine ho_nil ?_
                          refine hx_then ?_
                          refine ht_else rfl ?_
                          refine ht_skip ?_
                          refine hx_then ?_
                          refine ht_seq ?_
                          refine ht_seq ?_
                          refine ht_region ?_
                          refine ho_ev rfl rfl rfl (ev_move rfl rfl) ?_
                          refine ho_eq rfl rfl rfl rfl rfl rfl (fun g24 => ?_) (fun g24 => ?_)
                          ·first | (exfalso; first | omega | (simp at g24; done) | contradiction) | skip
                           all_goals (
                            refine ho_nil ?_
                            refine hx_then ?_
                            refine ht_then rfl ?_
                            refine ht_region ?_
                            refine ho_ev rfl rfl rfl (ev_move rfl rfl) ?_
                            refine ho_ev rfl rfl rfl (ev_assign rfl rfl) ?_
                            refine ho_ev rfl rfl rfl (ev_assign rfl rfl) ?_
                            refine ho_nil ?_
                            refine hx_then ?_
                            refine ht_region ?_
                            refine ho_ev rfl rfl rfl (ev_move rfl rfl) ?_
                            refine ho_ev rfl rfl rfl (ev_assign rfl rfl) ?_
                            refine ho_nil ?_
                            refine hx_block_normal ?_
                            refine hx_then ?_
                            refine ht_region ?_
                            refine ho_ev rfl rfl rfl (ev_move rfl rfl) ?_
                            refine ho_ev rfl rfl rfl (ev_add rfl rfl rfl (by first | exact in_i64 (by omega) | rfl)) ?_
                            refine ho_ev rfl rfl rfl (ev_assign rfl rfl) ?_
                            refine ho_nil ?_
                            refine hx_again (I := (fun q : Nat × Dk.Disk × Mt.St × Nat => ([DiskAt b0 q.2.1, pt q.2.2.2 (.cells #[.pointer (some ⟨b0, 0, none⟩), .int .i64 5, .int .u64 ((q.2.2.1.number : Nat) : Int), .int .i64 ((q.2.2.1.last : Nat) : Int)] 83 (0, 0)), ro bitsR, ro (roS a xs.length xs), ro (actsR xs ms), pu (q.2.1.pend = [] ∧ q.2.1.ground = q.2.1.view ∧ Mt.opened q.2.1.view 5 = q.2.2.1 ∧ q.2.2.1.number ≤ q.1 ∧ q.1 ≤ 40 ∧ q.1 ≤ xs.length), F], [(0, .slice a xs.length c), (3, .pointer (some ⟨b0, 0, none⟩)), (5, .pointer (some ⟨q.2.2.2, 0, none⟩)), (8, vS q.2.2.1.body), (9, .bool (decide (0 < q.2.2.1.number))), (10, .int .i64 q.1)]))) (μ := (fun q : Nat × Dk.Disk × Mt.St × Nat => 40 - q.1)) (i := (q, d, s, mb)) (q + 1, ((Mt.steps d 5 s.number s.last (few12 m0x).b (few12 m0x).place).d.crash (few12 m0x).l), s, m1) ?_ ?_ ?_
                            ·(first | dsimp only | skip); omega
                            ·(try rw [(show decide (0 < s.number) = true by simp; omega)])
                             repeat (first | exact EnvSub.nil _ | (refine EnvSub.cons rfl ?_))
                            ·(first | dsimp only | skip)
                             exact Ent.cons (by (repeat constructor); done) (Ent.cons (by (repeat constructor); done) (Ent.roD (by (with_reducible repeat constructor); done) (Ent.roD (by (with_reducible repeat constructor); done) (Ent.roD (by (with_reducible repeat constructor); done) (Ent.pu ⟨rfl, rfl, ho, by omega, by omega, by omega⟩ (Ent.cons (by (repeat constructor); done) Ent.nil))))))
                           )
                          ·(exfalso; first | omega | (simp at g24; done) | contradiction)
                         )
                        ·(exfalso; first | omega | (simp at g23; done) | contradiction)
                       )
                      ·(exfalso; first | omega | (simp at g22; done) | contradiction)
                     )
                   )
                 )
                ·first | (exfalso; first | omega | (simp at g19; done) | contradiction) | skip
                 all_goals (
                  refine ho_nil ?_
                  refine hx_then ?_
                  refine ht_else rfl ?_
                  refine ht_skip ?_
                  refine hx_then ?_
                  refine ht_seq ?_
                  refine ht_seq ?_
                  refine ht_region ?_
                  refine ho_ev rfl rfl rfl (ev_move rfl rfl) ?_
                  refine ho_nil ?_
                  refine hx_then ?_
                  refine ht_else rfl ?_
                  refine ht_skip ?_
                  refine hx_then ?_
                  refine ht_seq ?_
                  refine ht_region ?_
                  refine ho_ev rfl rfl rfl (ev_move rfl rfl) ?_
                  refine ho_ev rfl rfl rfl (by first | exact ev_fieldAddr0 rfl Tryd.fld33_3 rfl | exact ev_fieldAddr rfl Tryd.fld33_3 rfl) ?_
                  refine ho_ev rfl rfl rfl (ev_load rfl Tryd.underlying31 rfl rfl (by first | exact cell_pt (by (with_reducible repeat constructor); done) rfl | exact cell_ro (by (with_reducible repeat constructor); done) rfl)) ?_
                  refine ho_eff rfl rfl rfl (eff_call rfl rfl (.cons rfl (.cons rfl .nil)) rfl (disk_Crash b0 (Mt.steps d 5 s.number s.last (few12 m0x).b (few12 m0x).place).d yla ylc (few12 m0x).l (by have := few12_l m0x; omega) (by have := Mt.steps_pend d 5 s.number s.last (few12 m0x).b (few12 m0x).place; rw [hpd] at this; have e : ([] : List Dk.POp).length = 0 := rfl; omega)) (by repeat (first | exact Picks.nil | (apply Picks.ro; focus ((repeat constructor); done)) | (apply Picks.cons; focus ((repeat constructor); done)))) (fun _ => by repeat (first | exact App.nil | apply App.cons))) (fun _ => ?_)
                  refine ho_nil ?_
                  refine hx_then ?_
                  refine ht_seq ?_
                  refine ht_region ?_
                  refine ho_ev rfl rfl rfl (ev_move rfl rfl) ?_
                  refine ho_eff rfl rfl rfl (eff_call rfl rfl (.cons rfl (.cons rfl .nil)) rfl (meta_Open b0 ((Mt.steps d 5 s.number s.last (few12 m0x).b (few12 m0x).place).d.crash (few12 m0x).l) 5 (by omega)) (by repeat (first | exact Picks.nil | (apply Picks.ro; focus ((repeat constructor); done)) | (apply Picks.cons; focus ((repeat constructor); done)))) (fun _ => by repeat (first | exact App.nil | apply App.cons))) (fun m1 => ?_)
                  rw [ho]
                  rw [if_neg hz]
                  refine ho_ev rfl rfl rfl (ev_move rfl rfl) ?_
                  refine ho_ev rfl rfl rfl (ev_extract rfl rfl rfl) ?_
                  refine ho_ev rfl rfl rfl (ev_extract rfl rfl rfl) ?_
                  refine ho_ev rfl rfl rfl (ev_extract rfl rfl rfl) ?_
                  refine ho_ev rfl rfl rfl (ev_assign rfl rfl) ?_
                  refine ho_ev rfl rfl rfl (ev_assign rfl rfl) ?_
                  refine ho_ev rfl rfl rfl (ev_assign rfl rfl) ?_
                  refine ho_nil ?_
                  refine hx_then ?_
                  refine ht_seq ?_
                  refine ht_seq ?_
                  refine ht_region ?_
                  refine ho_ev rfl rfl rfl (ev_move rfl rfl) ?_
                  refine ho_ev rfl rfl rfl (ev_ptrNil rfl Tryd.underlying28 rfl rfl rfl) ?_
                  refine ho_ev rfl rfl rfl (ev_move rfl rfl) ?_
                  refine ho_bool (t := 89) rfl (fun g25 => ?_) (fun g25 => ?_)
                  ·first | (exfalso; first | omega | (simp at g25; done) | contradiction) | skip
                   all_goals (
                    refine ho_pass rfl rfl rfl rfl ?_
                    refine ho_pass rfl rfl rfl rfl ?_
                    refine ho_pass rfl rfl rfl rfl ?_
                    refine ho_passU rfl rfl rfl rfl ?_
                    refine ho_passU rfl rfl rfl rfl ?_
                    refine ho_pass rfl rfl rfl rfl ?_
                    refine ho_ev rfl rfl rfl (ev_pick_t rfl rfl rfl) ?_
                    refine ho_nil ?_
                    refine hx_then ?_
                    refine ht_then rfl ?_
                    refine ht_seq ?_
                    refine ht_region ?_
                    refine ho_ev rfl rfl rfl (ev_assign rfl rfl) ?_
                    refine ho_nil ?_
                    refine hx_then ?_
                    refine ht_ret ?_
                    refine hx_through trivial ?_
                    refine hx_block_ret ?_
                    refine hx_through trivial ?_
                    refine hx_through trivial ?_
                    refine hx_block_ret ?_
                    refine hx_through trivial ?_
                    exact hx_ret1 (.inl rfl) rfl rfl () rfl (Ent.cons (by (repeat constructor); done) Ent.nil)
                   )
                  ·first | (exfalso; first | omega | (simp at g25; done) | contradiction) | skip
                   all_goals (
                    refine ho_evg rfl rfl rfl rfl (ev_move rfl rfl) ?_
                    refine ho_neg rfl rfl rfl rfl rfl rfl rfl (fun g26 => ?_) (fun g26 => ?_)
                    ·(exfalso; first | omega | (simp at g26; done) | contradiction)
                    ·first | (exfalso; first | omega | (simp at g26; done) | contradiction) | skip
                     all_goals (
                      refine ho_evg rfl rfl rfl rfl (ev_move rfl rfl) ?_
                      refine ho_pass rfl rfl rfl rfl ?_
                      refine ho_pass rfl rfl rfl rfl ?_
                      refine ho_evg rfl rfl rfl rfl (ev_pick_f rfl rfl rfl) ?_
                      refine ho_ev rfl rfl rfl (ev_pick_f rfl rfl rfl) ?_
                      refine ho_nil ?_
                      refine hx_then ?_
                      refine ht_else rfl ?_
                      refine ht_skip ?_
                      refine hx_then ?_
                      refine ht_seq ?_
                      refine ht_region ?_
                      refine ho_ev rfl rfl rfl (ev_move rfl rfl) ?_
                      refine ho_ev rfl rfl rfl (ev_move rfl rfl) ?_
                      refine ho_evg rfl rfl rfl rfl (ev_move rfl rfl) ?_
                      refine ho_eqg rfl rfl rfl rfl rfl rfl rfl (fun g27 => ?_) (fun g27 => ?_)
                      ·first | (exfalso; first | omega | (simp at g27; done) | contradiction) | skip
                       all_goals (
                        refine ho_ev rfl rfl rfl (ev_pick_t rfl rfl rfl) ?_
                        refine ho_ev rfl rfl rfl (ev_move rfl rfl) ?_
                        refine ho_evg rfl rfl rfl rfl (ev_move rfl rfl) ?_
                        refine ho_evg rfl rfl rfl rfl (ev_move rfl rfl) ?_
                        refine ho_eqSg rfl rfl rfl rfl rfl rfl rfl (fun g28 => ?_) (fun g28 => ?_)
                        ·first | (exfalso; first | omega | (simp at g28; done) | contradiction) | skip
                         all_goals (
                          refine ho_ev rfl rfl rfl (ev_pick_t rfl rfl rfl) ?_
                          refine ho_ev rfl rfl rfl (ev_move rfl rfl) ?_
                          refine ho_pass rfl rfl rfl rfl ?_
                          refine ho_pass rfl rfl rfl rfl ?_
                          refine ho_pass rfl rfl rfl rfl ?_
                          refine ho_passU rfl rfl rfl rfl ?_
                          refine ho_passU rfl rfl rfl rfl ?_
                          refine ho_pass rfl rfl rfl rfl ?_
                          refine ho_ev rfl rfl rfl (ev_pick_t rfl rfl rfl) ?_
                          refine ho_ev rfl rfl rfl (ev_assign rfl rfl) ?_
                          refine ho_nil ?_
                          refine hx_then ?_
                          refine ht_seq ?_
                          refine ht_seq ?_
                          refine ht_region ?_
                          refine ho_ev rfl rfl rfl (ev_move rfl rfl) ?_
                          refine ho_ev rfl rfl rfl (ev_not rfl rfl) ?_
                          refine ho_ev rfl rfl rfl (ev_move rfl rfl) ?_
                          refine ho_pass rfl rfl rfl rfl ?_
                          refine ho_pass rfl rfl rfl rfl ?_
                          refine ho_pass rfl rfl rfl rfl ?_
                          refine ho_pass rfl rfl rfl rfl ?_
                          refine ho_passU rfl rfl rfl rfl ?_
                          refine ho_passU rfl rfl rfl rfl ?_
                          refine ho_pass rfl rfl rfl rfl ?_
                          refine ho_pass rfl rfl rfl rfl ?_
                          refine ho_passU rfl rfl rfl rfl ?_
                          refine ho_passU rfl rfl rfl rfl ?_
                          refine ho_passU rfl rfl rfl rfl ?_
                          refine ho_passU rfl rfl rfl rfl ?_
                          refine ho_passU rfl rfl rfl rfl ?_
                          refine ho_pass rfl rfl rfl rfl ?_
                          refine ho_ev rfl rfl rfl (ev_pick_f rfl rfl rfl) ?_
                          refine ho_nil ?_
                          refine hx_then ?_
                          refine ht_else rfl ?_
                          refine ht_skip ?_
                          refine hx_then ?_
                          refine ht_seq ?_
                          refine ht_seq ?_
                          refine ht_region ?_
                          refine ho_ev rfl rfl rfl (ev_move rfl rfl) ?_
                          refine ho_eq rfl rfl rfl rfl rfl rfl (fun g29 => ?_) (fun g29 => ?_)
                          ·first | (exfalso; first | omega | (simp at g29; done) | contradiction) | skip
                           all_goals (
                            refine ho_nil ?_
                            refine hx_then ?_
                            refine ht_then rfl ?_
                            refine ht_region ?_
                            refine ho_ev rfl rfl rfl (ev_move rfl rfl) ?_
                            refine ho_ev rfl rfl rfl (ev_assign rfl rfl) ?_
                            refine ho_ev rfl rfl rfl (ev_assign rfl rfl) ?_
                            refine ho_nil ?_
                            refine hx_then ?_
                            refine ht_region ?_
                            refine ho_ev rfl rfl rfl (ev_move rfl rfl) ?_
                            refine ho_ev rfl rfl rfl (ev_assign rfl rfl) ?_
                            refine ho_nil ?_
                            refine hx_block_normal ?_
                            refine hx_then ?_
                            refine ht_region ?_
                            refine ho_ev rfl rfl rfl (ev_move rfl rfl) ?_
                            refine ho_ev rfl rfl rfl (ev_add rfl rfl rfl (by first | exact in_i64 (by omega) | rfl)) ?_
                            refine ho_ev rfl rfl rfl (ev_assign rfl rfl) ?_
                            refine ho_nil ?_
                            refine hx_again (I := (fun q : Nat × Dk.Disk × Mt.St × Nat => ([DiskAt b0 q.2.1, pt q.2.2.2 (.cells #[.pointer (some ⟨b0, 0, none⟩), .int .i64 5, .int .u64 ((q.2.2.1.number : Nat) : Int), .int .i64 ((q.2.2.1.last : Nat) : Int)] 83 (0, 0)), ro bitsR, ro (roS a xs.length xs), ro (actsR xs ms), pu (q.2.1.pend = [] ∧ q.2.1.ground = q.2.1.view ∧ Mt.opened q.2.1.view 5 = q.2.2.1 ∧ q.2.2.1.number ≤ q.1 ∧ q.1 ≤ 40 ∧ q.1 ≤ xs.length), F], [(0, .slice a xs.length c), (3, .pointer (some ⟨b0, 0, none⟩)), (5, .pointer (some ⟨q.2.2.2, 0, none⟩)), (8, vS q.2.2.1.body), (9, .bool (decide (0 < q.2.2.1.number))), (10, .int .i64 q.1)]))) (μ := (fun q : Nat × Dk.Disk × Mt.St × Nat => 40 - q.1)) (i := (q, d, s, mb)) (q + 1, ((Mt.steps d 5 s.number s.last (few12 m0x).b (few12 m0x).place).d.crash (few12 m0x).l), s, m1) ?_ ?_ ?_
                            ·(first | dsimp only | skip); omega
                            ·(try rw [(show decide (0 < s.number) = true by simp; omega)])
                             repeat (first | exact EnvSub.nil _ | (refine EnvSub.cons rfl ?_))
                            ·(first | dsimp only | skip)
                             exact Ent.cons (by (repeat constructor); done) (Ent.cons (by (repeat constructor); done) (Ent.roD (by (with_reducible repeat constructor); done) (Ent.roD (by (with_reducible repeat constructor); done) (Ent.roD (by (with_reducible repeat constructor); done) (Ent.pu ⟨rfl, rfl, ho, by omega, by omega, by omega⟩ (Ent.cons (by (repeat constructor); done) Ent.nil))))))
                           )
                          ·(exfalso; first | omega | (simp at g29; done) | contradiction)
                         )
                        ·(exfalso; first | omega | (simp at g28; done) | contradiction)
                       )
                      ·(exfalso; first | omega | (simp at g27; done) | contradiction)
                     )
                   )
                 )
               ·skip
                rw [hfin, herr, show decide (0 < s.number) = false by simp; omega]
                refine ht_region ?_
                refine ho_ev rfl rfl rfl (ev_move rfl rfl) ?_
                refine ho_ne rfl rfl rfl rfl rfl rfl (fun g30 => ?_) (fun g30 => ?_)
                ·(exfalso; first | omega | (simp at g30; done) | contradiction)
                ·first | (exfalso; first | omega | (simp at g30; done) | contradiction) | skip
                 all_goals (
                  refine ho_nil ?_
                  refine hx_then ?_
                  refine ht_else rfl ?_
                  refine ht_skip ?_
                  refine hx_then ?_
                  refine ht_seq ?_
                  refine ht_seq ?_
                  refine ht_region ?_
                  refine ho_ev rfl rfl rfl (ev_move rfl rfl) ?_
                  refine ho_nil ?_
                  refine hx_then ?_
                  refine ht_else rfl ?_
                  refine ht_skip ?_
                  refine hx_then ?_
                  refine ht_seq ?_
                  refine ht_region ?_
                  refine ho_ev rfl rfl rfl (ev_move rfl rfl) ?_
                  refine ho_ev rfl rfl rfl (by first | exact ev_fieldAddr0 rfl Tryd.fld33_3 rfl | exact ev_fieldAddr rfl Tryd.fld33_3 rfl) ?_
                  refine ho_ev rfl rfl rfl (ev_load rfl Tryd.underlying31 rfl rfl (by first | exact cell_pt (by (with_reducible repeat constructor); done) rfl | exact cell_ro (by (with_reducible repeat constructor); done) rfl)) ?_
                  refine ho_eff rfl rfl rfl (eff_call rfl rfl (.cons rfl (.cons rfl .nil)) rfl (disk_Crash b0 (Mt.steps d 5 s.number s.last (few12 m0x).b (few12 m0x).place).d yla ylc (few12 m0x).l (by have := few12_l m0x; omega) (by have := Mt.steps_pend d 5 s.number s.last (few12 m0x).b (few12 m0x).place; rw [hpd] at this; have e : ([] : List Dk.POp).length = 0 := rfl; omega)) (by repeat (first | exact Picks.nil | (apply Picks.ro; focus ((repeat constructor); done)) | (apply Picks.cons; focus ((repeat constructor); done)))) (fun _ => by repeat (first | exact App.nil | apply App.cons))) (fun _ => ?_)
                  refine ho_nil ?_
                  refine hx_then ?_
                  refine ht_seq ?_
                  refine ht_region ?_
                  refine ho_ev rfl rfl rfl (ev_move rfl rfl) ?_
                  refine ho_eff rfl rfl rfl (eff_call rfl rfl (.cons rfl (.cons rfl .nil)) rfl (meta_Open b0 ((Mt.steps d 5 s.number s.last (few12 m0x).b (few12 m0x).place).d.crash (few12 m0x).l) 5 (by omega)) (by repeat (first | exact Picks.nil | (apply Picks.ro; focus ((repeat constructor); done)) | (apply Picks.cons; focus ((repeat constructor); done)))) (fun _ => by repeat (first | exact App.nil | apply App.cons))) (fun m1 => ?_)
                  rw [ho]
                  rw [if_neg (by show ¬ (s.number + 1 = 0); omega)]
                  refine ho_ev rfl rfl rfl (ev_move rfl rfl) ?_
                  refine ho_ev rfl rfl rfl (ev_extract rfl rfl rfl) ?_
                  refine ho_ev rfl rfl rfl (ev_extract rfl rfl rfl) ?_
                  refine ho_ev rfl rfl rfl (ev_extract rfl rfl rfl) ?_
                  refine ho_ev rfl rfl rfl (ev_assign rfl rfl) ?_
                  refine ho_ev rfl rfl rfl (ev_assign rfl rfl) ?_
                  refine ho_ev rfl rfl rfl (ev_assign rfl rfl) ?_
                  refine ho_nil ?_
                  refine hx_then ?_
                  refine ht_seq ?_
                  refine ht_seq ?_
                  refine ht_region ?_
                  refine ho_ev rfl rfl rfl (ev_move rfl rfl) ?_
                  refine ho_ev rfl rfl rfl (ev_ptrNil rfl Tryd.underlying28 rfl rfl rfl) ?_
                  refine ho_ev rfl rfl rfl (ev_move rfl rfl) ?_
                  refine ho_bool (t := 89) rfl (fun g31 => ?_) (fun g31 => ?_)
                  ·first | (exfalso; first | omega | (simp at g31; done) | contradiction) | skip
                   all_goals (
                    refine ho_pass rfl rfl rfl rfl ?_
                    refine ho_pass rfl rfl rfl rfl ?_
                    refine ho_pass rfl rfl rfl rfl ?_
                    refine ho_passU rfl rfl rfl rfl ?_
                    refine ho_passU rfl rfl rfl rfl ?_
                    refine ho_pass rfl rfl rfl rfl ?_
                    refine ho_ev rfl rfl rfl (ev_pick_t rfl rfl rfl) ?_
                    refine ho_nil ?_
                    refine hx_then ?_
                    refine ht_then rfl ?_
                    refine ht_seq ?_
                    refine ht_region ?_
                    refine ho_ev rfl rfl rfl (ev_assign rfl rfl) ?_
                    refine ho_nil ?_
                    refine hx_then ?_
                    refine ht_ret ?_
                    refine hx_through trivial ?_
                    refine hx_block_ret ?_
                    refine hx_through trivial ?_
                    refine hx_through trivial ?_
                    refine hx_block_ret ?_
                    refine hx_through trivial ?_
                    exact hx_ret1 (.inl rfl) rfl rfl () rfl (Ent.cons (by (repeat constructor); done) Ent.nil)
                   )
                  ·first | (exfalso; first | omega | (simp at g31; done) | contradiction) | skip
                   all_goals (
                    refine ho_evg rfl rfl rfl rfl (ev_move rfl rfl) ?_
                    refine ho_neg rfl rfl rfl rfl rfl rfl rfl (fun g32 => ?_) (fun g32 => ?_)
                    ·(exfalso; first | omega | (simp at g32; done) | contradiction)
                    ·first | (exfalso; first | omega | (simp at g32; done) | contradiction) | skip
                     all_goals (
                      refine ho_evg rfl rfl rfl rfl (ev_move rfl rfl) ?_
                      refine ho_pass rfl rfl rfl rfl ?_
                      refine ho_pass rfl rfl rfl rfl ?_
                      refine ho_evg rfl rfl rfl rfl (ev_pick_f rfl rfl rfl) ?_
                      refine ho_ev rfl rfl rfl (ev_pick_f rfl rfl rfl) ?_
                      refine ho_nil ?_
                      refine hx_then ?_
                      refine ht_else rfl ?_
                      refine ht_skip ?_
                      refine hx_then ?_
                      refine ht_seq ?_
                      refine ht_region ?_
                      refine ho_ev rfl rfl rfl (ev_move rfl rfl) ?_
                      refine ho_ev rfl rfl rfl (ev_move rfl rfl) ?_
                      refine ho_pass rfl rfl rfl rfl ?_
                      refine ho_pass rfl rfl rfl rfl ?_
                      refine ho_ev rfl rfl rfl (ev_pick_f rfl rfl rfl) ?_
                      refine ho_ev rfl rfl rfl (ev_move rfl rfl) ?_
                      refine ho_pass rfl rfl rfl rfl ?_
                      refine ho_pass rfl rfl rfl rfl ?_
                      refine ho_pass rfl rfl rfl rfl ?_
                      refine ho_ev rfl rfl rfl (ev_pick_f rfl rfl rfl) ?_
                      refine ho_ev rfl rfl rfl (ev_move rfl rfl) ?_
                      refine ho_evg rfl rfl rfl rfl (ev_move rfl rfl) ?_
                      refine ho_evg rfl rfl rfl rfl (ev_not rfl rfl) ?_
                      refine ho_evg rfl rfl rfl rfl (ev_move rfl rfl) ?_
                      refine ho_evg rfl rfl rfl rfl (ev_move rfl rfl) ?_
                      refine ho_eqg rfl rfl rfl rfl rfl rfl rfl (fun g33 => ?_) (fun g33 => ?_)
                      ·(exfalso; first | omega | (simp at g33; done) | contradiction)
                      ·first | (exfalso; first | omega | (simp at g33; done) | contradiction) | skip
                       all_goals (
                        refine ho_evg rfl rfl rfl rfl (ev_pick_t rfl rfl rfl) ?_
                        refine ho_ev rfl rfl rfl (ev_pick_f rfl rfl rfl) ?_
                        refine ho_ev rfl rfl rfl (ev_assign rfl rfl) ?_
                        refine ho_nil ?_
                        refine hx_then ?_
                        refine ht_seq ?_
                        refine ht_seq ?_
                        refine ht_region ?_
                        refine ho_ev rfl rfl rfl (ev_move rfl rfl) ?_
                        refine ho_ev rfl rfl rfl (ev_not rfl rfl) ?_
                        refine ho_ev rfl rfl rfl (ev_move rfl rfl) ?_
                        refine ho_evg rfl rfl rfl rfl (ev_move rfl rfl) ?_
                        refine ho_evg rfl rfl rfl rfl (ev_lenSl rfl Tryd.underlying35 rfl) ?_
                        refine ho_eqg rfl rfl rfl rfl rfl rfl rfl (fun g34 => ?_) (fun g34 => ?_)
                        ·(exfalso; first | omega | (simp at g34; done) | contradiction)
                        ·first | (exfalso; first | omega | (simp at g34; done) | contradiction) | skip
                         all_goals (
                          refine ho_evg rfl rfl rfl rfl (ev_move rfl rfl) ?_
                          refine ho_evg rfl rfl rfl rfl (ev_move rfl rfl) ?_
                          refine ho_neg rfl rfl rfl rfl rfl rfl rfl (fun g35 => ?_) (fun g35 => ?_)
                          ·(exfalso; first | omega | (simp at g35; done) | contradiction)
                          ·first | (exfalso; first | omega | (simp at g35; done) | contradiction) | skip
                           all_goals (
                            refine ho_evg rfl rfl rfl rfl (ev_pick_f rfl rfl rfl) ?_
                            refine ho_evg rfl rfl rfl rfl (ev_move rfl rfl) ?_
                            refine ho_evg rfl rfl rfl rfl (ev_move rfl rfl) ?_
                            refine ho_evg rfl rfl rfl rfl (ev_move rfl rfl) ?_
                            refine ho_evg rfl rfl rfl rfl (ev_indexAddr rfl Tryd.underlying35 Tryd.ty9 rfl rfl (by omega) (by omega)) ?_
                            refine ho_evg rfl rfl rfl rfl (ev_load rfl Tryd.underlying9 rfl rfl (cell_S0 (α := Str) (i := 0) (reads_own (by (with_reducible repeat constructor); done)) rfl rfl)) ?_
                            refine ho_neSg rfl rfl rfl rfl rfl rfl rfl (fun g36 => ?_) (fun g36 => ?_)
                            ·(exfalso; first | omega | (simp at g36; done) | contradiction)
                            ·first | (exfalso; first | omega | (simp at g36; done) | contradiction) | skip
                             all_goals (
                              refine ho_evg rfl rfl rfl rfl (ev_pick_f rfl rfl rfl) ?_
                              refine ho_ev rfl rfl rfl (ev_pick_t rfl rfl rfl) ?_
                              refine ho_nil ?_
                              refine hx_then ?_
                              refine ht_else rfl ?_
                              refine ht_skip ?_
                              refine hx_then ?_
                              refine ht_seq ?_
                              refine ht_seq ?_
                              refine ht_region ?_
                              refine ho_ev rfl rfl rfl (ev_move rfl rfl) ?_
                              refine ho_eq rfl rfl rfl rfl rfl rfl (fun g37 => ?_) (fun g37 => ?_)
                              ·first | (exfalso; first | omega | (simp at g37; done) | contradiction) | skip
                               all_goals (
                                refine ho_nil ?_
                                refine hx_then ?_
                                refine ht_then rfl ?_
                                refine ht_region ?_
                                refine ho_ev rfl rfl rfl (ev_move rfl rfl) ?_
                                refine ho_ev rfl rfl rfl (ev_assign rfl rfl) ?_
                                refine ho_ev rfl rfl rfl (ev_assign rfl rfl) ?_
                                refine ho_nil ?_
                                refine hx_then ?_
                                refine ht_region ?_
                                refine ho_ev rfl rfl rfl (ev_move rfl rfl) ?_
                                refine ho_ev rfl rfl rfl (ev_assign rfl rfl) ?_
                                refine ho_nil ?_
                                refine hx_block_normal ?_
                                refine hx_then ?_
                                refine ht_region ?_
                                refine ho_ev rfl rfl rfl (ev_move rfl rfl) ?_
                                refine ho_ev rfl rfl rfl (ev_add rfl rfl rfl (by first | exact in_i64 (by omega) | rfl)) ?_
                                refine ho_ev rfl rfl rfl (ev_assign rfl rfl) ?_
                                refine ho_nil ?_
                                refine hx_again (I := (fun q : Nat × Dk.Disk × Mt.St × Nat => ([DiskAt b0 q.2.1, pt q.2.2.2 (.cells #[.pointer (some ⟨b0, 0, none⟩), .int .i64 5, .int .u64 ((q.2.2.1.number : Nat) : Int), .int .i64 ((q.2.2.1.last : Nat) : Int)] 83 (0, 0)), ro bitsR, ro (roS a xs.length xs), ro (actsR xs ms), pu (q.2.1.pend = [] ∧ q.2.1.ground = q.2.1.view ∧ Mt.opened q.2.1.view 5 = q.2.2.1 ∧ q.2.2.1.number ≤ q.1 ∧ q.1 ≤ 40 ∧ q.1 ≤ xs.length), F], [(0, .slice a xs.length c), (3, .pointer (some ⟨b0, 0, none⟩)), (5, .pointer (some ⟨q.2.2.2, 0, none⟩)), (8, vS q.2.2.1.body), (9, .bool (decide (0 < q.2.2.1.number))), (10, .int .i64 q.1)]))) (μ := (fun q : Nat × Dk.Disk × Mt.St × Nat => 40 - q.1)) (i := (q, d, s, mb)) (q + 1, ((Mt.steps d 5 s.number s.last (few12 m0x).b (few12 m0x).place).d.crash (few12 m0x).l), ⟨s.number + 1, 1 - s.last, (few12 m0x).b⟩, m1) ?_ ?_ ?_
                                ·(first | dsimp only | skip); omega
                                ·(try rw [(show decide (0 < (⟨s.number + 1, 1 - s.last, (few12 m0x).b⟩ : Mt.St).number) = true by simp)])
                                 repeat (first | exact EnvSub.nil _ | (refine EnvSub.cons rfl ?_))
                                ·(first | dsimp only | skip)
                                 exact Ent.cons (by (repeat constructor); done) (Ent.cons (by (repeat constructor); done) (Ent.roD (by (with_reducible repeat constructor); done) (Ent.roD (by (with_reducible repeat constructor); done) (Ent.roD (by (with_reducible repeat constructor); done) (Ent.pu ⟨rfl, rfl, ho, by show s.number + 1 ≤ q + 1; omega, by omega, by omega⟩ (Ent.cons (by (repeat constructor); done) Ent.nil))))))
                               )
                              ·(exfalso; first | omega | (simp at g37; done) | contradiction)
                             )
                           )
                         )
                       )
                     )
                   )
                 )
               ·skip
                rw [hfin, herr, show decide (0 < s.number) = true by simp; omega]
                refine ht_region ?_
                refine ho_ev rfl rfl rfl (ev_move rfl rfl) ?_
                refine ho_ne rfl rfl rfl rfl rfl rfl (fun g38 => ?_) (fun g38 => ?_)
                ·(exfalso; first | omega | (simp at g38; done) | contradiction)
                ·first | (exfalso; first | omega | (simp at g38; done) | contradiction) | skip
                 all_goals (
                  refine ho_nil ?_
                  refine hx_then ?_
                  refine ht_else rfl ?_
                  refine ht_skip ?_
                  refine hx_then ?_
                  refine ht_seq ?_
                  refine ht_seq ?_
                  refine ht_region ?_
                  refine ho_ev rfl rfl rfl (ev_move rfl rfl) ?_
                  refine ho_nil ?_
                  refine hx_then ?_
                  refine ht_else rfl ?_
                  refine ht_skip ?_
                  refine hx_then ?_
                  refine ht_seq ?_
                  refine ht_region ?_
                  refine ho_ev rfl rfl rfl (ev_move rfl rfl) ?_
                  refine ho_ev rfl rfl rfl (by first | exact ev_fieldAddr0 rfl Tryd.fld33_3 rfl | exact ev_fieldAddr rfl Tryd.fld33_3 rfl) ?_
                  refine ho_ev rfl rfl rfl (ev_load rfl Tryd.underlying31 rfl rfl (by first | exact cell_pt (by (with_reducible repeat constructor); done) rfl | exact cell_ro (by (with_reducible repeat constructor); done) rfl)) ?_
                  refine ho_eff rfl rfl rfl (eff_call rfl rfl (.cons rfl (.cons rfl .nil)) rfl (disk_Crash b0 (Mt.steps d 5 s.number s.last (few12 m0x).b (few12 m0x).place).d yla ylc (few12 m0x).l (by have := few12_l m0x; omega) (by have := Mt.steps_pend d 5 s.number s.last (few12 m0x).b (few12 m0x).place; rw [hpd] at this; have e : ([] : List Dk.POp).length = 0 := rfl; omega)) (by repeat (first | exact Picks.nil | (apply Picks.ro; focus ((repeat constructor); done)) | (apply Picks.cons; focus ((repeat constructor); done)))) (fun _ => by repeat (first | exact App.nil | apply App.cons))) (fun _ => ?_)
                  refine ho_nil ?_
                  refine hx_then ?_
                  refine ht_seq ?_
                  refine ht_region ?_
                  refine ho_ev rfl rfl rfl (ev_move rfl rfl) ?_
                  refine ho_eff rfl rfl rfl (eff_call rfl rfl (.cons rfl (.cons rfl .nil)) rfl (meta_Open b0 ((Mt.steps d 5 s.number s.last (few12 m0x).b (few12 m0x).place).d.crash (few12 m0x).l) 5 (by omega)) (by repeat (first | exact Picks.nil | (apply Picks.ro; focus ((repeat constructor); done)) | (apply Picks.cons; focus ((repeat constructor); done)))) (fun _ => by repeat (first | exact App.nil | apply App.cons))) (fun m1 => ?_)
                  rw [ho]
                  rw [if_neg (by show ¬ (s.number + 1 = 0); omega)]
                  refine ho_ev rfl rfl rfl (ev_move rfl rfl) ?_
                  refine ho_ev rfl rfl rfl (ev_extract rfl rfl rfl) ?_
                  refine ho_ev rfl rfl rfl (ev_extract rfl rfl rfl) ?_
                  refine ho_ev rfl rfl rfl (ev_extract rfl rfl rfl) ?_
                  refine ho_ev rfl rfl rfl (ev_assign rfl rfl) ?_
                  refine ho_ev rfl rfl rfl (ev_assign rfl rfl) ?_
                  refine ho_ev rfl rfl rfl (ev_assign rfl rfl) ?_
                  refine ho_nil ?_
                  refine hx_then ?_
                  refine ht_seq ?_
                  refine ht_seq ?_
                  refine ht_region ?_
                  refine ho_ev rfl rfl rfl (ev_move rfl rfl) ?_
                  refine ho_ev rfl rfl rfl (ev_ptrNil rfl Tryd.underlying28 rfl rfl rfl) ?_
                  refine ho_ev rfl rfl rfl (ev_move rfl rfl) ?_
                  refine ho_bool (t := 89) rfl (fun g39 => ?_) (fun g39 => ?_)
                  ·first | (exfalso; first | omega | (simp at g39; done) | contradiction) | skip
                   all_goals (
                    refine ho_pass rfl rfl rfl rfl ?_
                    refine ho_pass rfl rfl rfl rfl ?_
                    refine ho_pass rfl rfl rfl rfl ?_
                    refine ho_passU rfl rfl rfl rfl ?_
                    refine ho_passU rfl rfl rfl rfl ?_
                    refine ho_pass rfl rfl rfl rfl ?_
                    refine ho_ev rfl rfl rfl (ev_pick_t rfl rfl rfl) ?_
                    refine ho_nil ?_
                    refine hx_then ?_
                    refine ht_then rfl ?_
                    refine ht_seq ?_
                    refine ht_region ?_
                    refine ho_ev rfl rfl rfl (ev_assign rfl rfl) ?_
                    refine ho_nil ?_
                    refine hx_then ?_
                    refine ht_ret ?_
                    refine hx_through trivial ?_
                    refine hx_block_ret ?_
                    refine hx_through trivial ?_
                    refine hx_through trivial ?_
                    refine hx_block_ret ?_
                    refine hx_through trivial ?_
                    exact hx_ret1 (.inl rfl) rfl rfl () rfl (Ent.cons (by (repeat constructor); done) Ent.nil)
                   )
                  ·first | (exfalso; first | omega | (simp at g39; done) | contradiction) | skip
                   all_goals (
                    refine ho_evg rfl rfl rfl rfl (ev_move rfl rfl) ?_
                    refine ho_neg rfl rfl rfl rfl rfl rfl rfl (fun g40 => ?_) (fun g40 => ?_)
                    ·(exfalso; first | omega | (simp at g40; done) | contradiction)
                    ·first | (exfalso; first | omega | (simp at g40; done) | contradiction) | skip
                     all_goals (
                      refine ho_evg rfl rfl rfl rfl (ev_move rfl rfl) ?_
                      refine ho_pass rfl rfl rfl rfl ?_
                      refine ho_pass rfl rfl rfl rfl ?_
                      refine ho_evg rfl rfl rfl rfl (ev_pick_f rfl rfl rfl) ?_
                      refine ho_ev rfl rfl rfl (ev_pick_f rfl rfl rfl) ?_
                      refine ho_nil ?_
                      refine hx_then ?_
                      refine ht_else rfl ?_
                      refine ht_skip ?_
                      refine hx_then ?_
                      refine ht_seq ?_
                      refine ht_region ?_
                      refine ho_ev rfl rfl rfl (ev_move rfl rfl) ?_
                      refine ho_ev rfl rfl rfl (ev_move rfl rfl) ?_
                      refine ho_evg rfl rfl rfl rfl (ev_move rfl rfl) ?_
                      refine ho_eqg rfl rfl rfl rfl rfl rfl rfl (fun g41 => ?_) (fun g41 => ?_)
                      ·first | (exfalso; first | omega | (simp at g41; done) | contradiction) | skip
                       all_goals (
                        refine ho_ev rfl rfl rfl (ev_pick_t rfl rfl rfl) ?_
                        refine ho_ev rfl rfl rfl (ev_move rfl rfl) ?_
                        refine ho_evg rfl rfl rfl rfl (ev_move rfl rfl) ?_
                        refine ho_evg rfl rfl rfl rfl (ev_move rfl rfl) ?_
                        refine ho_eqSg rfl rfl rfl rfl rfl rfl rfl (fun g42 => ?_) (fun g42 => ?_)
                        ·first | (exfalso; first | omega | (simp at g42; done) | contradiction) | skip
                         all_goals (
                          refine ho_ev rfl rfl rfl (ev_pick_t rfl rfl rfl) ?_
                          refine ho_ev rfl rfl rfl (ev_move rfl rfl) ?_
                          refine ho_pass rfl rfl rfl rfl ?_
                          refine ho_pass rfl rfl rfl rfl ?_
                          refine ho_pass rfl rfl rfl rfl ?_
                          refine ho_passU rfl rfl rfl rfl ?_
                          refine ho_passU rfl rfl rfl rfl ?_
                          refine ho_pass rfl rfl rfl rfl ?_
                          refine ho_ev rfl rfl rfl (ev_pick_t rfl rfl rfl) ?_
                          refine ho_ev rfl rfl rfl (ev_assign rfl rfl) ?_
                          refine ho_nil ?_
                          refine hx_then ?_
                          refine ht_seq ?_
                          refine ht_seq ?_
                          refine ht_region ?_
                          refine ho_ev rfl rfl rfl (ev_move rfl rfl) ?_
                          refine ho_ev rfl rfl rfl (ev_not rfl rfl) ?_
                          refine ho_ev rfl rfl rfl (ev_move rfl rfl) ?_
                          refine ho_pass rfl rfl rfl rfl ?_
                          refine ho_pass rfl rfl rfl rfl ?_
                          refine ho_pass rfl rfl rfl rfl ?_
                          refine ho_pass rfl rfl rfl rfl ?_
                          refine ho_passU rfl rfl rfl rfl ?_
                          refine ho_passU rfl rfl rfl rfl ?_
                          refine ho_pass rfl rfl rfl rfl ?_
                          refine ho_pass rfl rfl rfl rfl ?_
                          refine ho_passU rfl rfl rfl rfl ?_
                          refine ho_passU rfl rfl rfl rfl ?_
                          refine ho_passU rfl rfl rfl rfl ?_
                          refine ho_passU rfl rfl rfl rfl ?_
                          refine ho_passU rfl rfl rfl rfl ?_
                          refine ho_pass rfl rfl rfl rfl ?_
                          refine ho_ev rfl rfl rfl (ev_pick_f rfl rfl rfl) ?_
                          refine ho_nil ?_
                          refine hx_then ?_
                          refine ht_else rfl ?_
                          refine ht_skip ?_
                          refine hx_then ?_
                          refine ht_seq ?_
                          refine ht_seq ?_
                          refine ht_region ?_
                          refine ho_ev rfl rfl rfl (ev_move rfl rfl) ?_
                          refine ho_eq rfl rfl rfl rfl rfl rfl (fun g43 => ?_) (fun g43 => ?_)
                          ·first | (exfalso; first | omega | (simp at g43; done) | contradiction) | skip
                           all_goals (
                            refine ho_nil ?_
                            refine hx_then ?_
                            refine ht_then rfl ?_
                            refine ht_region ?_
                            refine ho_ev rfl rfl rfl (ev_move rfl rfl) ?_
                            refine ho_ev rfl rfl rfl (ev_assign rfl rfl) ?_
                            refine ho_ev rfl rfl rfl (ev_assign rfl rfl) ?_
                            refine ho_nil ?_
                            refine hx_then ?_
                            refine ht_region ?_
                            refine ho_ev rfl rfl rfl (ev_move rfl rfl) ?_
                            refine ho_ev rfl rfl rfl (ev_assign rfl rfl) ?_
                            refine ho_nil ?_
                            refine hx_block_normal ?_
                            refine hx_then ?_
                            refine ht_region ?_
                            refine ho_ev rfl rfl rfl (ev_move rfl rfl) ?_
                            refine ho_ev rfl rfl rfl (ev_add rfl rfl rfl (by first | exact in_i64 (by omega) | rfl)) ?_
                            refine ho_ev rfl rfl rfl (ev_assign rfl rfl) ?_
                            refine ho_nil ?_
                            refine hx_again (I := (fun q : Nat × Dk.Disk × Mt.St × Nat => ([DiskAt b0 q.2.1, pt q.2.2.2 (.cells #[.pointer (some ⟨b0, 0, none⟩), .int .i64 5, .int .u64 ((q.2.2.1.number : Nat) : Int), .int .i64 ((q.2.2.1.last : Nat) : Int)] 83 (0, 0)), ro bitsR, ro (roS a xs.length xs), ro (actsR xs ms), pu (q.2.1.pend = [] ∧ q.2.1.ground = q.2.1.view ∧ Mt.opened q.2.1.view 5 = q.2.2.1 ∧ q.2.2.1.number ≤ q.1 ∧ q.1 ≤ 40 ∧ q.1 ≤ xs.length), F], [(0, .slice a xs.length c), (3, .pointer (some ⟨b0, 0, none⟩)), (5, .pointer (some ⟨q.2.2.2, 0, none⟩)), (8, vS q.2.2.1.body), (9, .bool (decide (0 < q.2.2.1.number))), (10, .int .i64 q.1)]))) (μ := (fun q : Nat × Dk.Disk × Mt.St × Nat => 40 - q.1)) (i := (q, d, s, mb)) (q + 1, ((Mt.steps d 5 s.number s.last (few12 m0x).b (few12 m0x).place).d.crash (few12 m0x).l), ⟨s.number + 1, 1 - s.last, (few12 m0x).b⟩, m1) ?_ ?_ ?_
                            ·(first | dsimp only | skip); omega
                            ·(try rw [(show decide (0 < (⟨s.number + 1, 1 - s.last, (few12 m0x).b⟩ : Mt.St).number) = true by simp)])
                             repeat (first | exact EnvSub.nil _ | (refine EnvSub.cons rfl ?_))
                            ·(first | dsimp only | skip)
                             exact Ent.cons (by (repeat constructor); done) (Ent.cons (by (repeat constructor); done) (Ent.roD (by (with_reducible repeat constructor); done) (Ent.roD (by (with_reducible repeat constructor); done) (Ent.roD (by (with_reducible repeat constructor); done) (Ent.pu ⟨rfl, rfl, ho, by show s.number + 1 ≤ q + 1; omega, by omega, by omega⟩ (Ent.cons (by (repeat constructor); done) Ent.nil))))))
                           )
                          ·(exfalso; first | omega | (simp at g43; done) | contradiction)
                         )
                        ·first | (exfalso; first | omega | (simp at g42; done) | contradiction) | skip
                         all_goals (
                          refine ho_ev rfl rfl rfl (ev_pick_t rfl rfl rfl) ?_
                          refine ho_ev rfl rfl rfl (ev_move rfl rfl) ?_
                          refine ho_evg rfl rfl rfl rfl (ev_move rfl rfl) ?_
                          refine ho_evg rfl rfl rfl rfl (ev_not rfl rfl) ?_
                          refine ho_evg rfl rfl rfl rfl (ev_move rfl rfl) ?_
                          refine ho_pass rfl rfl rfl rfl ?_
                          refine ho_pass rfl rfl rfl rfl ?_
                          refine ho_evg rfl rfl rfl rfl (ev_pick_f rfl rfl rfl) ?_
                          refine ho_ev rfl rfl rfl (ev_pick_f rfl rfl rfl) ?_
                          refine ho_ev rfl rfl rfl (ev_assign rfl rfl) ?_
                          refine ho_nil ?_
                          refine hx_then ?_
                          refine ht_seq ?_
                          refine ht_seq ?_
                          refine ht_region ?_
                          refine ho_ev rfl rfl rfl (ev_move rfl rfl) ?_
                          refine ho_ev rfl rfl rfl (ev_not rfl rfl) ?_
                          refine ho_ev rfl rfl rfl (ev_move rfl rfl) ?_
                          refine ho_evg rfl rfl rfl rfl (ev_move rfl rfl) ?_
                          refine ho_evg rfl rfl rfl rfl (ev_lenSl rfl Tryd.underlying35 rfl) ?_
                          refine ho_eqg rfl rfl rfl rfl rfl rfl rfl (fun g44 => ?_) (fun g44 => ?_)
                          ·(exfalso; first | omega | (simp at g44; done) | contradiction)
                          ·first | (exfalso; first | omega | (simp at g44; done) | contradiction) | skip
                           all_goals (
                            refine ho_evg rfl rfl rfl rfl (ev_move rfl rfl) ?_
                            refine ho_evg rfl rfl rfl rfl (ev_move rfl rfl) ?_
                            refine ho_neg rfl rfl rfl rfl rfl rfl rfl (fun g45 => ?_) (fun g45 => ?_)
                            ·(exfalso; first | omega | (simp at g45; done) | contradiction)
                            ·first | (exfalso; first | omega | (simp at g45; done) | contradiction) | skip
                             all_goals (
                              refine ho_evg rfl rfl rfl rfl (ev_pick_f rfl rfl rfl) ?_
                              refine ho_evg rfl rfl rfl rfl (ev_move rfl rfl) ?_
                              refine ho_evg rfl rfl rfl rfl (ev_move rfl rfl) ?_
                              refine ho_evg rfl rfl rfl rfl (ev_move rfl rfl) ?_
                              refine ho_evg rfl rfl rfl rfl (ev_indexAddr rfl Tryd.underlying35 Tryd.ty9 rfl rfl (by omega) (by omega)) ?_
                              refine ho_evg rfl rfl rfl rfl (ev_load rfl Tryd.underlying9 rfl rfl (cell_S0 (α := Str) (i := 0) (reads_own (by (with_reducible repeat constructor); done)) rfl rfl)) ?_
                              refine ho_neSg rfl rfl rfl rfl rfl rfl rfl (fun g46 => ?_) (fun g46 => ?_)
                              ·(exfalso; first | omega | (simp at g46; done) | contradiction)
                              ·first | (exfalso; first | omega | (simp at g46; done) | contradiction) | skip
                               all_goals (
                                refine ho_evg rfl rfl rfl rfl (ev_pick_f rfl rfl rfl) ?_
                                refine ho_ev rfl rfl rfl (ev_pick_t rfl rfl rfl) ?_
                                refine ho_nil ?_
                                refine hx_then ?_
                                refine ht_else rfl ?_
                                refine ht_skip ?_
                                refine hx_then ?_
                                refine ht_seq ?_
                                refine ht_seq ?_
                                refine ht_region ?_
                                refine ho_ev rfl rfl rfl (ev_move rfl rfl) ?_
                                refine ho_eq rfl rfl rfl rfl rfl rfl (fun g47 => ?_) (fun g47 => ?_)
                                ·first | (exfalso; first | omega | (simp at g47; done) | contradiction) | skip
                                 all_goals (
                                  refine ho_nil ?_
                                  refine hx_then ?_
                                  refine ht_then rfl ?_
                                  refine ht_region ?_
                                  refine ho_ev rfl rfl rfl (ev_move rfl rfl) ?_
                                  refine ho_ev rfl rfl rfl (ev_assign rfl rfl) ?_
                                  refine ho_ev rfl rfl rfl (ev_assign rfl rfl) ?_
                                  refine ho_nil ?_
                                  refine hx_then ?_
                                  refine ht_region ?_
                                  refine ho_ev rfl rfl rfl (ev_move rfl rfl) ?_
                                  refine ho_ev rfl rfl rfl (ev_assign rfl rfl) ?_
                                  refine ho_nil ?_
                                  refine hx_block_normal ?_
                                  refine hx_then ?_
                                  refine ht_region ?_
                                  refine ho_ev rfl rfl rfl (ev_move rfl rfl) ?_
                                  refine ho_ev rfl rfl rfl (ev_add rfl rfl rfl (by first | exact in_i64 (by omega) | rfl)) ?_
                                  refine ho_ev rfl rfl rfl (ev_assign rfl rfl) ?_
                                  refine ho_nil ?_
                                  refine hx_again (I := (fun q : Nat × Dk.Disk × Mt.St × Nat => ([DiskAt b0 q.2.1, pt q.2.2.2 (.cells #[.pointer (some ⟨b0, 0, none⟩), .int .i64 5, .int .u64 ((q.2.2.1.number : Nat) : Int), .int .i64 ((q.2.2.1.last : Nat) : Int)] 83 (0, 0)), ro bitsR, ro (roS a xs.length xs), ro (actsR xs ms), pu (q.2.1.pend = [] ∧ q.2.1.ground = q.2.1.view ∧ Mt.opened q.2.1.view 5 = q.2.2.1 ∧ q.2.2.1.number ≤ q.1 ∧ q.1 ≤ 40 ∧ q.1 ≤ xs.length), F], [(0, .slice a xs.length c), (3, .pointer (some ⟨b0, 0, none⟩)), (5, .pointer (some ⟨q.2.2.2, 0, none⟩)), (8, vS q.2.2.1.body), (9, .bool (decide (0 < q.2.2.1.number))), (10, .int .i64 q.1)]))) (μ := (fun q : Nat × Dk.Disk × Mt.St × Nat => 40 - q.1)) (i := (q, d, s, mb)) (q + 1, ((Mt.steps d 5 s.number s.last (few12 m0x).b (few12 m0x).place).d.crash (few12 m0x).l), ⟨s.number + 1, 1 - s.last, (few12 m0x).b⟩, m1) ?_ ?_ ?_
                                  ·(first | dsimp only | skip); omega
                                  ·(try rw [(show decide (0 < (⟨s.number + 1, 1 - s.last, (few12 m0x).b⟩ : Mt.St).number) = true by simp)])
                                   repeat (first | exact EnvSub.nil _ | (refine EnvSub.cons rfl ?_))
                                  ·(first | dsimp only | skip)
                                   exact Ent.cons (by (repeat constructor); done) (Ent.cons (by (repeat constructor); done) (Ent.roD (by (with_reducible repeat constructor); done) (Ent.roD (by (with_reducible repeat constructor); done) (Ent.roD (by (with_reducible repeat constructor); done) (Ent.pu ⟨rfl, rfl, ho, by show s.number + 1 ≤ q + 1; omega, by omega, by omega⟩ (Ent.cons (by (repeat constructor); done) Ent.nil))))))
                                 )
                                ·(exfalso; first | omega | (simp at g47; done) | contradiction)
                               )
                             )
                           )
                         )
                       )
                      ·(exfalso; first | omega | (simp at g41; done) | contradiction)
                     )
                   )
                 )
               ·skip
                rw [hfin, herr]
                refine ht_region ?_
                refine ho_ev rfl rfl rfl (ev_move rfl rfl) ?_
                refine ho_ne rfl rfl rfl rfl rfl rfl (fun g48 => ?_) (fun g48 => ?_)
                ·(exfalso; first | omega | (simp at g48; done) | contradiction)
                ·first | (exfalso; first | omega | (simp at g48; done) | contradiction) | skip
                 all_goals (
                  refine ho_nil ?_
                  refine hx_then ?_
                  refine ht_else rfl ?_
                  refine ht_skip ?_
                  refine hx_then ?_
                  refine ht_seq ?_
                  refine ht_seq ?_
                  refine ht_region ?_
                  refine ho_ev rfl rfl rfl (ev_move rfl rfl) ?_
                  refine ho_nil ?_
                  refine hx_then ?_
                  refine ht_then rfl ?_
                  refine ht_region ?_
                  refine ho_ev rfl rfl rfl (by first | exact ev_fieldAddr0 rfl Tryd.fld33_2 rfl | exact ev_fieldAddr rfl Tryd.fld33_2 rfl) ?_
                  refine ho_ev rfl rfl rfl (ev_load rfl Tryd.underlying9 rfl rfl (by first | exact cell_pt (by (with_reducible repeat constructor); done) rfl | exact cell_ro (by (with_reducible repeat constructor); done) rfl)) ?_
                  refine ho_ev rfl rfl rfl (ev_assign rfl rfl) ?_
                  refine ho_ev rfl rfl rfl (ev_assign rfl rfl) ?_
                  refine ho_ev rfl rfl rfl (ev_assign rfl rfl) ?_
                  refine ho_nil ?_
                  refine hx_then ?_
                  refine ht_seq ?_
                  refine ht_region ?_
                  refine ho_ev rfl rfl rfl (ev_move rfl rfl) ?_
                  refine ho_ev rfl rfl rfl (by first | exact ev_fieldAddr0 rfl Tryd.fld33_3 rfl | exact ev_fieldAddr rfl Tryd.fld33_3 rfl) ?_
                  refine ho_ev rfl rfl rfl (ev_load rfl Tryd.underlying31 rfl rfl (by first | exact cell_pt (by (with_reducible repeat constructor); done) rfl | exact cell_ro (by (with_reducible repeat constructor); done) rfl)) ?_
                  refine ho_eff rfl rfl rfl (eff_call rfl rfl (.cons rfl (.cons rfl .nil)) rfl (disk_Crash b0 (Mt.steps d 5 s.number s.last (few12 m0x).b (few12 m0x).place).d yla ylc (few12 m0x).l (by have := few12_l m0x; omega) (by have := Mt.steps_pend d 5 s.number s.last (few12 m0x).b (few12 m0x).place; rw [hpd] at this; have e : ([] : List Dk.POp).length = 0 := rfl; omega)) (by repeat (first | exact Picks.nil | (apply Picks.ro; focus ((repeat constructor); done)) | (apply Picks.cons; focus ((repeat constructor); done)))) (fun _ => by repeat (first | exact App.nil | apply App.cons))) (fun _ => ?_)
                  refine ho_nil ?_
                  refine hx_then ?_
                  refine ht_seq ?_
                  refine ht_region ?_
                  refine ho_ev rfl rfl rfl (ev_move rfl rfl) ?_
                  refine ho_eff rfl rfl rfl (eff_call rfl rfl (.cons rfl (.cons rfl .nil)) rfl (meta_Open b0 ((Mt.steps d 5 s.number s.last (few12 m0x).b (few12 m0x).place).d.crash (few12 m0x).l) 5 (by omega)) (by repeat (first | exact Picks.nil | (apply Picks.ro; focus ((repeat constructor); done)) | (apply Picks.cons; focus ((repeat constructor); done)))) (fun _ => by repeat (first | exact App.nil | apply App.cons))) (fun m1 => ?_)
                  rw [ho]
                  rw [if_neg (by show ¬ (s.number + 1 = 0); omega)]
                  refine ho_ev rfl rfl rfl (ev_move rfl rfl) ?_
                  refine ho_ev rfl rfl rfl (ev_extract rfl rfl rfl) ?_
                  refine ho_ev rfl rfl rfl (ev_extract rfl rfl rfl) ?_
                  refine ho_ev rfl rfl rfl (ev_extract rfl rfl rfl) ?_
                  refine ho_ev rfl rfl rfl (ev_assign rfl rfl) ?_
                  refine ho_ev rfl rfl rfl (ev_assign rfl rfl) ?_
                  refine ho_ev rfl rfl rfl (ev_assign rfl rfl) ?_
                  refine ho_nil ?_
                  refine hx_then ?_
                  refine ht_seq ?_
                  refine ht_seq ?_
                  refine ht_region ?_
                  refine ho_ev rfl rfl rfl (ev_move rfl rfl) ?_
                  refine ho_ev rfl rfl rfl (ev_ptrNil rfl Tryd.underlying28 rfl rfl rfl) ?_
                  refine ho_ev rfl rfl rfl (ev_move rfl rfl) ?_
                  refine ho_bool (t := 89) rfl (fun g49 => ?_) (fun g49 => ?_)
                  ·first | (exfalso; first | omega | (simp at g49; done) | contradiction) | skip
                   all_goals (
                    refine ho_pass rfl rfl rfl rfl ?_
                    refine ho_pass rfl rfl rfl rfl ?_
                    refine ho_pass rfl rfl rfl rfl ?_
                    refine ho_passU rfl rfl rfl rfl ?_
                    refine ho_passU rfl rfl rfl rfl ?_
                    refine ho_pass rfl rfl rfl rfl ?_
                    refine ho_ev rfl rfl rfl (ev_pick_t rfl rfl rfl) ?_
                    refine ho_nil ?_
                    refine hx_then ?_
                    refine ht_then rfl ?_
                    refine ht_seq ?_
                    refine ht_region ?_
                    refine ho_ev rfl rfl rfl (ev_assign rfl rfl) ?_
                    refine ho_nil ?_
                    refine hx_then ?_
                    refine ht_ret ?_
                    refine hx_through trivial ?_
                    refine hx_block_ret ?_
                    refine hx_through trivial ?_
                    refine hx_through trivial ?_
                    refine hx_block_ret ?_
                    refine hx_through trivial ?_
                    exact hx_ret1 (.inl rfl) rfl rfl () rfl (Ent.cons (by (repeat constructor); done) Ent.nil)
                   )
                  ·first | (exfalso; first | omega | (simp at g49; done) | contradiction) | skip
                   all_goals (
                    refine ho_evg rfl rfl rfl rfl (ev_move rfl rfl) ?_
                    refine ho_neg rfl rfl rfl rfl rfl rfl rfl (fun g50 => ?_) (fun g50 => ?_)
                    ·(exfalso; first | omega | (simp at g50; done) | contradiction)
                    ·first | (exfalso; first | omega | (simp at g50; done) | contradiction) | skip
                     all_goals (
                      refine ho_evg rfl rfl rfl rfl (ev_move rfl rfl) ?_
                      refine ho_pass rfl rfl rfl rfl ?_
                      refine ho_pass rfl rfl rfl rfl ?_
                      refine ho_evg rfl rfl rfl rfl (ev_pick_f rfl rfl rfl) ?_
                      refine ho_ev rfl rfl rfl (ev_pick_f rfl rfl rfl) ?_
                      refine ho_nil ?_
                      refine hx_then ?_
                      refine ht_else rfl ?_
                      refine ht_skip ?_
                      refine hx_then ?_
                      refine ht_seq ?_
                      refine ht_region ?_
                      refine ho_ev rfl rfl rfl (ev_move rfl rfl) ?_
                      refine ho_ev rfl rfl rfl (ev_move rfl rfl) ?_
                      refine ho_evg rfl rfl rfl rfl (ev_move rfl rfl) ?_
                      refine ho_eqg rfl rfl rfl rfl rfl rfl rfl (fun g51 => ?_) (fun g51 => ?_)
                      ·first | (exfalso; first | omega | (simp at g51; done) | contradiction) | skip
                       all_goals (
                        refine ho_ev rfl rfl rfl (ev_pick_t rfl rfl rfl) ?_
                        refine ho_ev rfl rfl rfl (ev_move rfl rfl) ?_
                        refine ho_evg rfl rfl rfl rfl (ev_move rfl rfl) ?_
                        refine ho_evg rfl rfl rfl rfl (ev_move rfl rfl) ?_
                        refine ho_eqSg rfl rfl rfl rfl rfl rfl rfl (fun g52 => ?_) (fun g52 => ?_)
                        ·first | (exfalso; first | omega | (simp at g52; done) | contradiction) | skip
                         all_goals (
                          refine ho_ev rfl rfl rfl (ev_pick_t rfl rfl rfl) ?_
                          refine ho_ev rfl rfl rfl (ev_move rfl rfl) ?_
                          refine ho_pass rfl rfl rfl rfl ?_
                          refine ho_pass rfl rfl rfl rfl ?_
                          refine ho_pass rfl rfl rfl rfl ?_
                          refine ho_passU rfl rfl rfl rfl ?_
                          refine ho_passU rfl rfl rfl rfl ?_
                          refine ho_pass rfl rfl rfl rfl ?_
                          refine ho_ev rfl rfl rfl (ev_pick_t rfl rfl rfl) ?_
                          refine ho_ev rfl rfl rfl (ev_assign rfl rfl) ?_
                          refine ho_nil ?_
                          refine hx_then ?_
                          refine ht_seq ?_
                          refine ht_seq ?_
                          refine ht_region ?_
                          refine ho_ev rfl rfl rfl (ev_move rfl rfl) ?_
                          refine ho_ev rfl rfl rfl (ev_not rfl rfl) ?_
                          refine ho_ev rfl rfl rfl (ev_move rfl rfl) ?_
                          refine ho_pass rfl rfl rfl rfl ?_
                          refine ho_pass rfl rfl rfl rfl ?_
                          refine ho_pass rfl rfl rfl rfl ?_
                          refine ho_pass rfl rfl rfl rfl ?_
                          refine ho_passU rfl rfl rfl rfl ?_
                          refine ho_passU rfl rfl rfl rfl ?_
                          refine ho_pass rfl rfl rfl rfl ?_
                          refine ho_pass rfl rfl rfl rfl ?_
                          refine ho_passU rfl rfl rfl rfl ?_
                          refine ho_passU rfl rfl rfl rfl ?_
                          refine ho_passU rfl rfl rfl rfl ?_
                          refine ho_passU rfl rfl rfl rfl ?_
                          refine ho_passU rfl rfl rfl rfl ?_
                          refine ho_pass rfl rfl rfl rfl ?_
                          refine ho_ev rfl rfl rfl (ev_pick_f rfl rfl rfl) ?_
                          refine ho_nil ?_
                          refine hx_then ?_
                          refine ht_else rfl ?_
                          refine ht_skip ?_
                          refine hx_then ?_
                          refine ht_seq ?_
                          refine ht_seq ?_
                          refine ht_region ?_
                          refine ho_ev rfl rfl rfl (ev_move rfl rfl) ?_
                          refine ho_eq rfl rfl rfl rfl rfl rfl (fun g53 => ?_) (fun g53 => ?_)
                          ·first | (exfalso; first | omega | (simp at g53; done) | contradiction) | skip
                           all_goals (
                            refine ho_nil ?_
                            refine hx_then ?_
                            refine ht_then rfl ?_
                            refine ht_region ?_
                            refine ho_ev rfl rfl rfl (ev_move rfl rfl) ?_
                            refine ho_ev rfl rfl rfl (ev_assign rfl rfl) ?_
                            refine ho_ev rfl rfl rfl (ev_assign rfl rfl) ?_
                            refine ho_nil ?_
                            refine hx_then ?_
                            refine ht_region ?_
                            refine ho_ev rfl rfl rfl (ev_move rfl rfl) ?_
                            refine ho_ev rfl rfl rfl (ev_assign rfl rfl) ?_
                            refine ho_nil ?_
                            refine hx_block_normal ?_
                            refine hx_then ?_
                            refine ht_region ?_
                            refine ho_ev rfl rfl rfl (ev_move rfl rfl) ?_
                            refine ho_ev rfl rfl rfl (ev_add rfl rfl rfl (by first | exact in_i64 (by omega) | rfl)) ?_
                            refine ho_ev rfl rfl rfl (ev_assign rfl rfl) ?_
                            refine ho_nil ?_
                            refine hx_again (I := (fun q : Nat × Dk.Disk × Mt.St × Nat => ([DiskAt b0 q.2.1, pt q.2.2.2 (.cells #[.pointer (some ⟨b0, 0, none⟩), .int .i64 5, .int .u64 ((q.2.2.1.number : Nat) : Int), .int .i64 ((q.2.2.1.last : Nat) : Int)] 83 (0, 0)), ro bitsR, ro (roS a xs.length xs), ro (actsR xs ms), pu (q.2.1.pend = [] ∧ q.2.1.ground = q.2.1.view ∧ Mt.opened q.2.1.view 5 = q.2.2.1 ∧ q.2.2.1.number ≤ q.1 ∧ q.1 ≤ 40 ∧ q.1 ≤ xs.length), F], [(0, .slice a xs.length c), (3, .pointer (some ⟨b0, 0, none⟩)), (5, .pointer (some ⟨q.2.2.2, 0, none⟩)), (8, vS q.2.2.1.body), (9, .bool (decide (0 < q.2.2.1.number))), (10, .int .i64 q.1)]))) (μ := (fun q : Nat × Dk.Disk × Mt.St × Nat => 40 - q.1)) (i := (q, d, s, mb)) (q + 1, ((Mt.steps d 5 s.number s.last (few12 m0x).b (few12 m0x).place).d.crash (few12 m0x).l), ⟨s.number + 1, 1 - s.last, (few12 m0x).b⟩, m1) ?_ ?_ ?_
                            ·(first | dsimp only | skip); omega
                            ·(try rw [(show decide (0 < (⟨s.number + 1, 1 - s.last, (few12 m0x).b⟩ : Mt.St).number) = true by simp)])
                             repeat (first | exact EnvSub.nil _ | (refine EnvSub.cons rfl ?_))
                            ·(first | dsimp only | skip)
                             exact Ent.cons (by (repeat constructor); done) (Ent.cons (by (repeat constructor); done) (Ent.roD (by (with_reducible repeat constructor); done) (Ent.roD (by (with_reducible repeat constructor); done) (Ent.roD (by (with_reducible repeat constructor); done) (Ent.pu ⟨rfl, rfl, ho, by show s.number + 1 ≤ q + 1; omega, by omega, by omega⟩ (Ent.cons (by (repeat constructor); done) Ent.nil))))))
                           )
                          ·(exfalso; first | omega | (simp at g53; done) | contradiction)
                         )
                        ·(exfalso; first | omega | (simp at g52; done) | contradiction)
                       )
                      ·(exfalso; first | omega | (simp at g51; done) | contradiction)
                     )
                   )
                 )
              )
             ·first | (exfalso; first | omega | (simp at g7; done) | contradiction) | skip
              all_goals (
               refine ho_ev rfl rfl rfl (ev_pick_t rfl rfl rfl) ?_
               refine ho_nil ?_
               refine hx_then ?_
               refine ht_else rfl ?_
               refine ht_exit ?_
               refine hx_through trivial ?_
               refine hx_through trivial ?_
               refine hx_block_here ?_
               refine hx_then ?_
               refine ht_seq ?_
               refine ht_region ?_
               refine ho_ev rfl rfl rfl (ev_assign rfl rfl) ?_
               refine ho_nil ?_
               refine hx_then ?_
               refine ht_ret ?_
               exact hx_ret1 (.inl rfl) rfl rfl () rfl (Ent.cons (by (repeat constructor); done) Ent.nil)
              )
            )
           ·first | (exfalso; first | omega | (simp at g6; done) | contradiction) | skip
            all_goals (
             refine ho_ev rfl rfl rfl (ev_move rfl rfl) ?_
             refine ho_pass rfl rfl rfl rfl ?_
             refine ho_pass rfl rfl rfl rfl ?_
             refine ho_ev rfl rfl rfl (ev_pick_f rfl rfl rfl) ?_
             refine ho_nil ?_
             refine hx_then ?_
             refine ht_else rfl ?_
             refine ht_exit ?_
             refine hx_through trivial ?_
             refine hx_through trivial ?_
             refine hx_block_here ?_
             refine hx_then ?_
             refine ht_seq ?_
             refine ht_region ?_
             refine ho_ev rfl rfl rfl (ev_assign rfl rfl) ?_
             refine ho_nil ?_
             refine hx_then ?_
             refine ht_ret ?_
             exact hx_ret1 (.inl rfl) rfl rfl () rfl (Ent.cons (by (repeat constructor); done) Ent.nil)
            )
          )
        )
      )
    )
  )
 ·(exfalso; first | omega | (simp at g1; done) | contradiction)
end Go.Proofs.YtlejcepbcfijiaaDoor
