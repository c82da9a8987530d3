/-
  LAW 08 (wal): the walk of WalAgain. Conditions: as its contract says.
-/
import Derived.Test.YtlejcepbcfijiaaDoorLaw08
set_option maxRecDepth 100000
set_option linter.unusedVariables false
set_option linter.unusedSimpArgs false
namespace Go.Proofs.YtlejcepbcfijiaaDoor
open Go Go.SL

theorem law_WalAgain (sg sc : Nat) (hsg : sg < 256) (hsc : sc < 256) (a : Option Addr) (c : Nat) (xs : List Str) : Ctr Tryd.prog 7 #[.int .u8 (sg : Int), .int .u8 (sc : Int), .slice a xs.length c] [ro bitsR, ro (roS a xs.length xs)] (fun _ : Unit => .bool true) (fun _ => []) := by
 refine fn_intro Tryd.func7 rfl rfl Tryd.ntmps7 (Nat.le_of_ble_eq_true rfl) (fun _ => by repeat (first | exact App.nil | apply App.cons)) (fun κ F => ?_)
 obtain ⟨n, hn⟩ : ∃ n : Nat, n = 2 + sg % 6 := ⟨_, rfl⟩
 obtain ⟨s, hs⟩ : ∃ s : Nat, s = 1 + sc % 4 := ⟨_, rfl⟩
 have hns : n * s ≤ 7 * 4 := Nat.mul_le_mul (by omega) (by omega)
 refine ht_seq ?_
 refine ht_region ?_
 refine ho_ev rfl rfl rfl (ev_assign rfl rfl) ?_
 refine ho_nil ?_
 refine hx_then ?_
 refine ht_seq ?_
 refine ht_region ?_
 refine ho_eff rfl rfl rfl (eff_call rfl rfl (.cons rfl .nil) rfl (disk_New 200 (by omega)) (by repeat (first | exact Picks.nil | (apply Picks.ro; focus ((repeat constructor); done)) | (apply Picks.cons; focus ((repeat constructor); done)))) (fun _ => by repeat (first | exact App.nil | apply App.cons))) (fun b0 => ?_)
 refine ho_ev rfl rfl rfl (ev_move rfl rfl) ?_
 refine ho_ev rfl rfl rfl (ev_extract rfl rfl rfl) ?_
 refine ho_ev rfl rfl rfl (ev_extract rfl rfl rfl) ?_
 refine ho_ev rfl rfl rfl (ev_assign rfl rfl) ?_
 refine ho_ev rfl rfl rfl (ev_assign rfl rfl) ?_
 refine ho_nil ?_
 refine hx_then ?_
 refine ht_seq ?_
 refine ht_seq ?_
 refine ht_region ?_
 refine ho_eff rfl rfl rfl (eff_call rfl rfl .nil rfl (law_awake08) (by repeat (first | exact Picks.nil | (apply Picks.ro; focus ((repeat constructor); done)) | (apply Picks.cons; focus ((repeat constructor); done)))) (fun _ => by repeat (first | exact App.nil | apply App.cons))) (fun _ => ?_)
 refine ho_ev rfl rfl rfl (ev_not rfl rfl) ?_
 refine ho_ev rfl rfl rfl (ev_move rfl rfl) ?_
 refine ho_evg rfl rfl rfl rfl (ev_move rfl rfl) ?_
 refine ho_neg rfl rfl rfl rfl rfl rfl rfl (fun g1 => ?_) (fun g1 => ?_)
 ·(exfalso; first | omega | (simp at g1; done) | contradiction)
 ·first | (exfalso; first | omega | (simp at g1; done) | contradiction) | skip
  all_goals (
   refine ho_ev rfl rfl rfl (ev_pick_f rfl rfl rfl) ?_
   refine ho_ev rfl rfl rfl (ev_move rfl rfl) ?_
   refine ho_evg rfl rfl rfl rfl (ev_move rfl rfl) ?_
   refine ho_evg rfl rfl rfl rfl (ev_ptrNil rfl Tryd.underlying23 rfl rfl rfl) ?_
   refine ho_ev rfl rfl rfl (ev_pick_f rfl rfl rfl) ?_
   refine ho_ev rfl rfl rfl (ev_move rfl rfl) ?_
   refine ho_bool (t := 37) rfl (fun g2 => ?_) (fun g2 => ?_)
   ·first | (exfalso; first | omega | (simp at g2; done) | contradiction) | skip
    all_goals (
     refine ho_pass rfl rfl rfl rfl ?_
     refine ho_pass rfl rfl rfl rfl ?_
     refine ho_pass rfl rfl rfl rfl ?_
     refine ho_ev rfl rfl rfl (ev_pick_t rfl rfl rfl) ?_
     refine ho_nil ?_
     refine hx_then ?_
     refine ht_then rfl ?_
     refine ht_seq ?_
     refine ht_region ?_
     refine ho_eff rfl rfl rfl (eff_call rfl rfl .nil rfl (law_awake08) (by repeat (first | exact Picks.nil | (apply Picks.ro; focus ((repeat constructor); done)) | (apply Picks.cons; focus ((repeat constructor); done)))) (fun _ => by repeat (first | exact App.nil | apply App.cons))) (fun _ => ?_)
     refine ho_ev rfl rfl rfl (ev_assign rfl rfl) ?_
     refine ho_nil ?_
     refine hx_then ?_
     refine ht_ret ?_
     refine hx_through trivial ?_
     exact hx_ret1 (.inl rfl) rfl rfl () rfl (Ent.cons (by (repeat constructor); done) Ent.nil)
    )
   ·first | (exfalso; first | omega | (simp at g2; done) | contradiction) | skip
    all_goals (
     refine ho_evg rfl rfl rfl rfl (ev_move rfl rfl) ?_
     refine ho_evg rfl rfl rfl rfl (ev_lenSl rfl Tryd.underlying35 rfl) ?_
     refine ho_gtg rfl rfl rfl rfl rfl rfl rfl (fun g3 => ?_) (fun g3 => ?_)
     ·first | (exfalso; first | omega | (simp at g3; done) | contradiction) | skip
      all_goals (
       refine ho_ev rfl rfl rfl (ev_pick_f rfl rfl rfl) ?_
       refine ho_nil ?_
       refine hx_then ?_
       refine ht_then rfl ?_
       refine ht_seq ?_
       refine ht_region ?_
       refine ho_eff rfl rfl rfl (eff_call rfl rfl .nil rfl (law_awake08) (by repeat (first | exact Picks.nil | (apply Picks.ro; focus ((repeat constructor); done)) | (apply Picks.cons; focus ((repeat constructor); done)))) (fun _ => by repeat (first | exact App.nil | apply App.cons))) (fun _ => ?_)
       refine ho_ev rfl rfl rfl (ev_assign rfl rfl) ?_
       refine ho_nil ?_
       refine hx_then ?_
       refine ht_ret ?_
       refine hx_through trivial ?_
       exact hx_ret1 (.inl rfl) rfl rfl () rfl (Ent.cons (by (repeat constructor); done) Ent.nil)
      )
     ·first | (exfalso; first | omega | (simp at g3; done) | contradiction) | skip
      all_goals (
       refine ho_ev rfl rfl rfl (ev_pick_f rfl rfl rfl) ?_
       refine ho_nil ?_
       refine hx_then ?_
       refine ht_else rfl ?_
       refine ht_skip ?_
       refine hx_then ?_
       refine ht_seq ?_
       refine ht_region ?_
       refine ho_ev rfl rfl rfl (ev_move rfl rfl) ?_
       refine ho_ev rfl rfl rfl (ev_convI (r := (sg : Int)) rfl ⟨_, Tryd.underlying5⟩ Tryd.underlying3 rfl (by exact in_i64 (by omega))) ?_
       refine ho_ev rfl rfl rfl (ev_rem (r := ((sg % 6 : Nat) : Int)) rfl rfl rfl (by omega) (by rw [Int.tmod_eq_emod_of_nonneg (by omega)]; omega)) ?_
       refine ho_ev rfl rfl rfl (ev_add (r := (n : Int)) rfl rfl rfl (by exact (in_i64 (by omega)).trans (by omega))) ?_
       refine ho_ev rfl rfl rfl (ev_move rfl rfl) ?_
       refine ho_ev rfl rfl rfl (ev_convI (r := (sc : Int)) rfl ⟨_, Tryd.underlying5⟩ Tryd.underlying3 rfl (by exact in_i64 (by omega))) ?_
       refine ho_ev rfl rfl rfl (ev_rem (r := ((sc % 4 : Nat) : Int)) rfl rfl rfl (by omega) (by rw [Int.tmod_eq_emod_of_nonneg (by omega)]; omega)) ?_
       refine ho_ev rfl rfl rfl (ev_add (r := (s : Int)) rfl rfl rfl (by exact (in_i64 (by omega)).trans (by omega))) ?_
       refine ho_ev rfl rfl rfl (ev_assign rfl rfl) ?_
       refine ho_ev rfl rfl rfl (ev_assign rfl rfl) ?_
       refine ho_nil ?_
       refine hx_then ?_
       refine ht_seq ?_
       refine ht_region ?_
       refine ho_ev rfl rfl rfl (ev_move rfl rfl) ?_
       refine ho_ev rfl rfl rfl (ev_move rfl rfl) ?_
       refine ho_ev rfl rfl rfl (ev_move rfl rfl) ?_
       refine ho_eff rfl rfl rfl (eff_call rfl rfl (.cons rfl (.cons rfl (.cons rfl (.cons rfl (.cons rfl .nil))))) rfl (wal_Open b0 n s 0 0 (Dk.Disk.new 200) (by omega) (by omega) (by omega) (by decide) (by decide)) (by repeat (first | exact Picks.nil | (apply Picks.ro; focus ((repeat constructor); done)) | (apply Picks.cons; focus ((repeat constructor); done)))) (fun _ => by repeat (first | exact App.nil | apply App.cons))) (fun y => ?_)
       rw [Wl.found_none rfl, Wl.open_new]
       dsimp only
       rw [show max 0 0 = 0 from rfl]
       refine ho_ev rfl rfl rfl (ev_move rfl rfl) ?_
       refine ho_ev rfl rfl rfl (ev_extract rfl rfl rfl) ?_
       refine ho_ev rfl rfl rfl (ev_extract rfl rfl rfl) ?_
       refine ho_ev rfl rfl rfl (ev_extract rfl rfl rfl) ?_
       refine ho_ev rfl rfl rfl (ev_assign rfl rfl) ?_
       refine ho_ev rfl rfl rfl (ev_assign rfl rfl) ?_
       refine ho_ev rfl rfl rfl (ev_assign rfl rfl) ?_
       refine ho_nil ?_
       refine hx_then ?_
       refine ht_seq ?_
       refine ht_seq ?_
       refine ht_region ?_
       refine ho_ev rfl rfl rfl (ev_move rfl rfl) ?_
       refine ho_ne rfl rfl rfl rfl rfl rfl (fun g4 => ?_) (fun g4 => ?_)
       ·(exfalso; first | omega | (simp at g4; done) | contradiction)
       ·first | (exfalso; first | omega | (simp at g4; done) | contradiction) | skip
        all_goals (
         refine ho_ev rfl rfl rfl (ev_move rfl rfl) ?_
         refine ho_evg rfl rfl rfl rfl (ev_move rfl rfl) ?_
         refine ho_evg rfl rfl rfl rfl (ev_ptrNil rfl Tryd.underlying63 rfl rfl rfl) ?_
         refine ho_ev rfl rfl rfl (ev_pick_f rfl rfl rfl) ?_
         refine ho_nil ?_
         refine hx_then ?_
         refine ht_bool (t := 64) rfl (fun g5 => ?_) (fun g5 => ?_)
         ·first | (exfalso; first | omega | (simp at g5; done) | contradiction) | skip
          all_goals (
           refine ht_then rfl ?_
           refine ht_seq ?_
           refine ht_region ?_
           refine ho_ev rfl rfl rfl (ev_assign rfl rfl) ?_
           refine ho_nil ?_
           refine hx_then ?_
           refine ht_ret ?_
           refine hx_through trivial ?_
           exact hx_ret1 (.inl rfl) rfl rfl () rfl (Ent.cons (by (repeat constructor); done) Ent.nil)
          )
         ·first | (exfalso; first | omega | (simp at g5; done) | contradiction) | skip
          all_goals (
           refine ht_else rfl ?_
           refine ht_skip ?_
           refine hx_then ?_
           refine ht_seq ?_
           refine ht_region ?_
           refine ho_eff rfl rfl rfl (eff_buildAll (α := Wl.Rec) [] rfl Tryd.underlying64 Tryd.ty71 .nil .nil rfl (Nat.le_of_ble_eq_true rfl)) (fun b65 => ?_)
           refine ho_ev rfl rfl rfl (ev_assign rfl rfl) ?_
           refine ho_nil ?_
           refine hx_then ?_
           refine ht_seq ?_
           refine ht_seq ?_
           refine ht_region ?_
           refine ho_ev rfl rfl rfl (ev_assign rfl rfl) ?_
           refine ho_nil ?_
           refine hx_then ?_
           refine ht_block ?_
           refine ht_loop (fun q : Nat × Wl.Lg × List (List Wl.Rec) × List Wl.Rec × Option Addr × Nat => ([LogAt y.1 (lgOf b0 q.2.1), DiskAt b0 q.2.1.d, ownS 71 q.2.2.2.2.1 q.2.2.2.1.length q.2.2.2.2.2 q.2.2.2.1, ro bitsR, ro (roS a xs.length xs), pu (Wl.Inv n s q.1 q.2.1 q.2.2.1 ∧ q.1 ≤ xs.length ∧ q.2.2.2.1 = q.2.2.1.flatten), F], [(2, .slice a xs.length c), (7, .pointer (some ⟨b0, 0, none⟩)), (9, .int .i64 (n : Int)), (10, .int .i64 (s : Int)), (11, .pointer (some ⟨y.1, 0, none⟩)), (14, .slice q.2.2.2.2.1 q.2.2.2.1.length q.2.2.2.2.2), (15, .int .i64 q.1)])) (fun q : Nat × Wl.Lg × List (List Wl.Rec) × List Wl.Rec × Option Addr × Nat => xs.length - q.1) (0, ⟨0, n, s, [], [], 0, 0, Dk.Disk.new 200⟩, [], [], some ⟨b65, 0, none⟩, 0) ?_ (by repeat (first | exact EnvSub.nil _ | (refine EnvSub.cons rfl ?_))) (fun q => ?_)
           ·(first | dsimp only | skip)
            exact Ent.cons (by (repeat constructor); done) (Ent.cons (by (repeat constructor); done) (Ent.cons (by (repeat constructor); done) (Ent.roD (by (with_reducible repeat constructor); done) (Ent.roD (by (with_reducible repeat constructor); done) (Ent.pu ⟨Wl.inv_new (by omega), by omega, rfl⟩ (Ent.cons (by (repeat constructor); done) Ent.nil))))))
           obtain ⟨q, l, gs, want, ad, cp⟩ := q
           dsimp only
           refine ht_pick (A := pu (Wl.Inv n s q l gs ∧ q ≤ xs.length ∧ want = gs.flatten)) (by (repeat constructor); done) (ht_pure fun hq => ?_)
           obtain ⟨hinv, hql, hwant⟩ := hq
           have hfew := hinv.few
           have hwl : want.length = Wl.total gs := congrArg List.length hwant
           have hok := hinv.ok (by omega) (by omega) (by omega)
           refine ht_seq ?_
           refine ht_seq ?_
           refine ht_region ?_
           refine ho_ev rfl rfl rfl (ev_move rfl rfl) ?_
           refine ho_ev rfl rfl rfl (ev_move rfl rfl) ?_
           refine ho_ev rfl rfl rfl (ev_lenSl rfl Tryd.underlying35 rfl) ?_
           refine ho_lt rfl rfl rfl rfl rfl rfl (fun g6 => ?_) (fun g6 => ?_)
           ·first | (exfalso; first | omega | (simp at g6; done) | contradiction) | skip
            all_goals (
             refine ho_nil ?_
             refine hx_then ?_
             refine ht_then rfl ?_
             refine ht_skip ?_
             refine hx_then ?_
             refine ht_seq ?_
             refine ht_block ?_
             refine ht_seq ?_
             refine ht_seq ?_
             obtain ⟨x, hx⟩ : ∃ x, xs[q]? = some x := ⟨_, List.getElem?_eq_getElem (by omega)⟩
             refine ht_someS (α := Str) (reads_ro (by (with_reducible repeat constructor); done)) (by omega) (fun ab ao ha => ?_)
             refine ht_region ?_
             refine ho_ev rfl rfl rfl (ev_move rfl rfl) ?_
             refine ho_ev rfl rfl rfl (ev_move rfl rfl) ?_
             refine ho_ev rfl rfl rfl (ev_indexAddr rfl Tryd.underlying35 Tryd.ty9 (congrArg (fun z => some (Value.slice z xs.length c)) ha) rfl (by omega) (by omega)) ?_
             refine ho_ev rfl rfl rfl (ev_load rfl Tryd.underlying9 rfl rfl (cell_Sa0 ha (reads_ro (by (with_reducible repeat constructor); done)) hx rfl)) ?_
             refine ho_ev rfl rfl rfl (ev_lenS rfl Tryd.underlying9 rfl) ?_
             refine ho_gt rfl rfl rfl rfl rfl rfl (fun g7 => ?_) (fun g7 => ?_)
             ·first | (exfalso; first | omega | (simp at g7; done) | contradiction) | skip
              all_goals (
               refine ho_nil ?_
               refine hx_then ?_
               refine ht_then rfl ?_
               refine ht_seq ?_
               refine ht_region ?_
               refine ho_ev rfl rfl rfl (ev_assign rfl rfl) ?_
               refine ho_nil ?_
               refine hx_then ?_
               refine ht_ret ?_
               refine hx_through trivial ?_
               refine hx_block_ret ?_
               refine hx_through trivial ?_
               refine hx_through trivial ?_
               refine hx_block_ret ?_
               refine hx_through trivial ?_
               exact hx_ret1 (.inl rfl) rfl rfl () rfl (Ent.cons (by (repeat constructor); done) Ent.nil)
              )
             ·first | (exfalso; first | omega | (simp at g7; done) | contradiction) | skip
              all_goals (
               refine ho_nil ?_
               refine hx_then ?_
               refine ht_else rfl ?_
               refine ht_skip ?_
               refine hx_then ?_
               refine ht_seq ?_
               refine ht_region ?_
               refine ho_ev rfl rfl rfl (ev_move rfl rfl) ?_
               refine ho_ev rfl rfl rfl (ev_move rfl rfl) ?_
               refine ho_ev rfl rfl rfl (ev_move rfl rfl) ?_
               refine ho_ev rfl rfl rfl (ev_indexAddr rfl Tryd.underlying35 Tryd.ty9 (congrArg (fun z => some (Value.slice z xs.length c)) ha) rfl (by omega) (by omega)) ?_
               refine ho_ev rfl rfl rfl (ev_load rfl Tryd.underlying9 rfl rfl (cell_Sa0 ha (reads_ro (by (with_reducible repeat constructor); done)) hx rfl)) ?_
               refine ho_eff rfl rfl rfl (eff_call rfl rfl (.cons rfl (.cons rfl .nil)) rfl (wal_Append y.1 b0 l x.s hok.1 hok.2.1 (by omega)) (by repeat (first | exact Picks.nil | (apply Picks.ro; focus ((repeat constructor); done)) | (apply Picks.cons; focus ((repeat constructor); done)))) (fun _ => by repeat (first | exact App.nil | apply App.cons))) (fun _ => ?_)
               refine ho_ev rfl rfl rfl (ev_move rfl rfl) ?_
               refine ho_ev rfl rfl rfl (ev_extract rfl rfl rfl) ?_
               refine ho_ev rfl rfl rfl (ev_extract rfl rfl rfl) ?_
               refine ho_ev rfl rfl rfl (ev_assign rfl rfl) ?_
               refine ho_ev rfl rfl rfl (ev_assign rfl rfl) ?_
               refine ho_nil ?_
               refine hx_then ?_
               refine ht_seq ?_
               rcases Wl.inv_append (body := x.s) hinv (by omega) (by omega) (by omega) (by omega) with ⟨e1, e2, _⟩ | ⟨gs', e1, i1, f1, _⟩
               ·skip
                rw [e1]
                refine ht_region ?_
                refine ho_ev rfl rfl rfl (ev_move rfl rfl) ?_
                refine ho_eq rfl rfl rfl rfl rfl rfl (fun g8 => ?_) (fun g8 => ?_)
                ·(exfalso; first | omega | (simp at g8; done) | contradiction)
                ·first | (exfalso; first | omega | (simp at g8; done) | contradiction) | skip
                 all_goals (
                  refine ho_nil ?_
                  refine hx_then ?_
                  refine ht_else rfl ?_
                  refine ht_skip ?_
                  refine hx_block_normal ?_
                  refine hx_then ?_
                  refine ht_region ?_
                  refine ho_ev rfl rfl rfl (ev_move rfl rfl) ?_
                  refine ho_ev rfl rfl rfl (ev_add rfl rfl rfl (by first | exact in_i64 (by omega) | rfl)) ?_
                  refine ho_ev rfl rfl rfl (ev_assign rfl rfl) ?_
                  refine ho_nil ?_
                  refine hx_again (I := (fun q : Nat × Wl.Lg × List (List Wl.Rec) × List Wl.Rec × Option Addr × Nat => ([LogAt y.1 (lgOf b0 q.2.1), DiskAt b0 q.2.1.d, ownS 71 q.2.2.2.2.1 q.2.2.2.1.length q.2.2.2.2.2 q.2.2.2.1, ro bitsR, ro (roS a xs.length xs), pu (Wl.Inv n s q.1 q.2.1 q.2.2.1 ∧ q.1 ≤ xs.length ∧ q.2.2.2.1 = q.2.2.1.flatten), F], [(2, .slice a xs.length c), (7, .pointer (some ⟨b0, 0, none⟩)), (9, .int .i64 (n : Int)), (10, .int .i64 (s : Int)), (11, .pointer (some ⟨y.1, 0, none⟩)), (14, .slice q.2.2.2.2.1 q.2.2.2.1.length q.2.2.2.2.2), (15, .int .i64 q.1)]))) (μ := (fun q : Nat × Wl.Lg × List (List Wl.Rec) × List Wl.Rec × Option Addr × Nat => xs.length - q.1)) (i := (q, l, gs, want, ad, cp)) (q + 1, l, gs, want, ad, cp) ?_ ?_ ?_
                  ·(first | dsimp only | skip); omega
                  ·repeat (first | exact EnvSub.nil _ | (refine EnvSub.cons rfl ?_))
                  ·(first | dsimp only | skip)
                   exact Ent.cons (by (repeat constructor); done) (Ent.cons (by (repeat constructor); done) (Ent.cons (by (repeat constructor); done) (Ent.roD (by (with_reducible repeat constructor); done) (Ent.roD (by (with_reducible repeat constructor); done) (Ent.pu ⟨hinv.more, by omega, hwant⟩ (Ent.cons (by (repeat constructor); done) Ent.nil))))))
                 )
               ·skip
                rw [e1]
                generalize (l.append x.s).1 = l' at i1 ⊢
                dsimp only
                refine ht_region ?_
                refine ho_ev rfl rfl rfl (ev_move rfl rfl) ?_
                refine ho_eq rfl rfl rfl rfl rfl rfl (fun g9 => ?_) (fun g9 => ?_)
                ·first | (exfalso; first | omega | (simp at g9; done) | contradiction) | skip
                 all_goals (
                  refine ho_nil ?_
                  refine hx_then ?_
                  refine ht_then rfl ?_
                  refine ht_region ?_
                  refine ho_ev rfl rfl rfl (ev_move rfl rfl) ?_
                  refine ho_ev rfl rfl rfl (ev_move rfl rfl) ?_
                  refine ho_ev rfl rfl rfl (ev_move rfl rfl) ?_
                  refine ho_ev rfl rfl rfl (ev_move rfl rfl) ?_
                  refine ho_ev rfl rfl rfl (ev_indexAddr rfl Tryd.underlying35 Tryd.ty9 (congrArg (fun z => some (Value.slice z xs.length c)) ha) rfl (by omega) (by omega)) ?_
                  refine ho_ev rfl rfl rfl (ev_load rfl Tryd.underlying9 rfl rfl (cell_Sa0 ha (reads_ro (by (with_reducible repeat constructor); done)) hx rfl)) ?_
                  refine ho_ev rfl rfl rfl (ev_build1 (csl := [_, _]) rfl Tryd.st71 (.cons rfl (.cons rfl .nil)) (.cons rfl (.cons rfl .nil)) rfl rfl) ?_
                  refine ho_eff rfl rfl rfl (eff_buildAll (α := Wl.Rec) [(⟨Wl.total gs + 1, x.s⟩ : Wl.Rec)] rfl Tryd.underlying64 Tryd.ty71 (.cons rfl .nil) (.cons rfl .nil) rfl (Nat.le_of_ble_eq_true rfl)) (fun b96 => ?_)
                  refine ho_eff rfl rfl rfl (eff_append (α := Wl.Rec) rfl Tryd.underlying64 Tryd.ty71 rfl (by decide) Tryd.underlying64 rfl rfl (by (with_reducible repeat constructor); done) (by first | exact reads_ro (by (with_reducible repeat constructor); done) | exact reads_own (by (with_reducible repeat constructor); done) | exact reads_nil _) (by first | omega | (simp only [List.length_append, List.length_cons, List.length_nil, List.length_drop, List.length_take]; omega) | (simp; omega))) (fun p97 => ?_)
                  refine ho_ev rfl rfl rfl (ev_assign rfl rfl) ?_
                  refine ho_nil ?_
                  refine hx_block_normal ?_
                  refine hx_then ?_
                  refine ht_region ?_
                  refine ho_ev rfl rfl rfl (ev_move rfl rfl) ?_
                  refine ho_ev rfl rfl rfl (ev_add rfl rfl rfl (by first | exact in_i64 (by omega) | rfl)) ?_
                  refine ho_ev rfl rfl rfl (ev_assign rfl rfl) ?_
                  refine ho_nil ?_
                  refine hx_again (I := (fun q : Nat × Wl.Lg × List (List Wl.Rec) × List Wl.Rec × Option Addr × Nat => ([LogAt y.1 (lgOf b0 q.2.1), DiskAt b0 q.2.1.d, ownS 71 q.2.2.2.2.1 q.2.2.2.1.length q.2.2.2.2.2 q.2.2.2.1, ro bitsR, ro (roS a xs.length xs), pu (Wl.Inv n s q.1 q.2.1 q.2.2.1 ∧ q.1 ≤ xs.length ∧ q.2.2.2.1 = q.2.2.1.flatten), F], [(2, .slice a xs.length c), (7, .pointer (some ⟨b0, 0, none⟩)), (9, .int .i64 (n : Int)), (10, .int .i64 (s : Int)), (11, .pointer (some ⟨y.1, 0, none⟩)), (14, .slice q.2.2.2.2.1 q.2.2.2.1.length q.2.2.2.2.2), (15, .int .i64 q.1)]))) (μ := (fun q : Nat × Wl.Lg × List (List Wl.Rec) × List Wl.Rec × Option Addr × Nat => xs.length - q.1)) (i := (q, l, gs, want, ad, cp)) (q + 1, l', gs', want ++ [⟨Wl.total gs + 1, x.s⟩], p97.1, p97.2) ?_ ?_ ?_
                  ·(first | dsimp only | skip); omega
                  ·repeat (first | exact EnvSub.nil _ | (refine EnvSub.cons rfl ?_))
                  ·(first | dsimp only | skip)
                   exact Ent.cons (by (repeat constructor); done) (Ent.cons (by (repeat constructor); done) (Ent.cons (by (repeat constructor); done) (Ent.roD (by (with_reducible repeat constructor); done) (Ent.roD (by (with_reducible repeat constructor); done) (Ent.pu ⟨i1, by omega, by rw [f1, hwant]⟩ (Ent.cons (by (repeat constructor); done) Ent.nil))))))
                 )
                ·(exfalso; first | omega | (simp at g9; done) | contradiction)
              )
            )
           ·first | (exfalso; first | omega | (simp at g6; done) | contradiction) | skip
            all_goals (
             refine ho_nil ?_
             refine hx_then ?_
             refine ht_else rfl ?_
             refine ht_exit ?_
             refine hx_through trivial ?_
             refine hx_through trivial ?_
             refine hx_block_here ?_
             refine hx_then ?_
             refine ht_seq ?_
             refine ht_seq ?_
             refine ht_cap (xs := want) (by (with_reducible repeat constructor); done) (fun hl2 hcap => ?_)
             refine ht_freezeS (xs := want) (by (with_reducible repeat constructor); done) ?_
             have hpend := hinv.pend
             refine ht_region ?_
             refine ho_ev rfl rfl rfl (ev_assign rfl rfl) ?_
             refine ho_nil ?_
             refine hx_then ?_
             refine ht_block ?_
             refine ht_loop (fun q : Nat => ([LogAt y.1 (lgOf b0 l), DiskAt b0 l.d, ro (roS ad want.length want), pu (q ≤ want.length + 1), F], [(7, .pointer (some ⟨b0, 0, none⟩)), (9, .int .i64 (n : Int)), (10, .int .i64 (s : Int)), (11, .pointer (some ⟨y.1, 0, none⟩)), (14, .slice ad want.length cp), (18, .int .i64 q)])) (fun q : Nat => want.length + 1 - q) 0 ?_ (by repeat (first | exact EnvSub.nil _ | (refine EnvSub.cons rfl ?_))) (fun q => ?_)
             ·(first | dsimp only | skip)
              exact Ent.cons (by (repeat constructor); done) (Ent.cons (by (repeat constructor); done) (Ent.roD (by (with_reducible repeat constructor); done) (Ent.pu (by omega) (Ent.cons (by (repeat constructor); done) Ent.nil))))
             obtain q := q
             dsimp only
             refine ht_pick (A := pu (q ≤ want.length + 1)) (by (repeat constructor); done) (ht_pure fun hqw => ?_)
             refine ht_seq ?_
             refine ht_seq ?_
             refine ht_region ?_
             refine ho_ev rfl rfl rfl (ev_move rfl rfl) ?_
             refine ho_ev rfl rfl rfl (ev_move rfl rfl) ?_
             refine ho_ev rfl rfl rfl (ev_lenSl rfl Tryd.underlying64 rfl) ?_
             refine ho_le rfl rfl rfl rfl rfl rfl (fun g10 => ?_) (fun g10 => ?_)
             ·first | (exfalso; first | omega | (simp at g10; done) | contradiction) | skip
              all_goals (
               refine ho_nil ?_
               refine hx_then ?_
               refine ht_then rfl ?_
               refine ht_skip ?_
               refine hx_then ?_
               refine ht_seq ?_
               refine ht_block ?_
               refine ht_seq ?_
               refine ht_region ?_
               refine ho_ev rfl rfl rfl (ev_move rfl rfl) ?_
               refine ho_eff rfl rfl rfl (eff_call rfl rfl (.cons rfl .nil) rfl (disk_Copy b0 l.d (by omega)) (by repeat (first | exact Picks.nil | (apply Picks.ro; focus ((repeat constructor); done)) | (apply Picks.cons; focus ((repeat constructor); done)))) (fun _ => by repeat (first | exact App.nil | apply App.cons))) (fun cq => ?_)
               refine ho_ev rfl rfl rfl (ev_assign rfl rfl) ?_
               refine ho_nil ?_
               refine hx_then ?_
               refine ht_seq ?_
               refine ht_seq ?_
               refine ht_region ?_
               refine ho_ev rfl rfl rfl (ev_move rfl rfl) ?_
               refine ho_ev rfl rfl rfl (ev_ptrNil rfl Tryd.underlying23 rfl rfl rfl) ?_
               refine ho_nil ?_
               refine hx_then ?_
               refine ht_bool (t := 107) rfl (fun g11 => ?_) (fun g11 => ?_)
               ·(exfalso; first | omega | (simp at g11; done) | contradiction)
               ·first | (exfalso; first | omega | (simp at g11; done) | contradiction) | skip
                all_goals (
                 refine ht_else rfl ?_
                 refine ht_skip ?_
                 refine hx_then ?_
                 refine ht_seq ?_
                 have hfl := Wl.found_law hinv.laid hinv.groups (by show _ < 18446744073709551616; omega) (k := q) (by omega)
                 refine ht_region ?_
                 refine ho_ev rfl rfl rfl (ev_move rfl rfl) ?_
                 refine ho_ev rfl rfl rfl (ev_move rfl rfl) ?_
                 refine ho_ev rfl rfl rfl (ev_move rfl rfl) ?_
                 refine ho_ev rfl rfl rfl (ev_move rfl rfl) ?_
                 refine ho_ev rfl rfl rfl (ev_convI (r := ((q : Nat) : Int)) rfl ⟨_, Tryd.underlying3⟩ Tryd.underlying41 rfl (by exact IntWalk.u64_in _ (by omega))) ?_
                 refine ho_eff rfl rfl rfl (eff_call rfl rfl (.cons rfl (.cons rfl (.cons rfl (.cons rfl (.cons rfl .nil))))) rfl (wal_Open cq n s q 0 l.d (by omega) (by omega) (by omega) (by omega) (by omega)) (by repeat (first | exact Picks.nil | (apply Picks.ro; focus ((repeat constructor); done)) | (apply Picks.cons; focus ((repeat constructor); done)))) (fun _ => by repeat (first | exact App.nil | apply App.cons))) (fun z => ?_)
                 rw [hfl.1, hfl.2, ← hwant]
                 refine ho_ev rfl rfl rfl (ev_move rfl rfl) ?_
                 refine ho_ev rfl rfl rfl (ev_extract rfl rfl rfl) ?_
                 refine ho_ev rfl rfl rfl (ev_extract rfl rfl rfl) ?_
                 refine ho_ev rfl rfl rfl (ev_extract rfl rfl rfl) ?_
                 refine ho_ev rfl rfl rfl (ev_assign rfl rfl) ?_
                 refine ho_ev rfl rfl rfl (ev_assign rfl rfl) ?_
                 refine ho_ev rfl rfl rfl (ev_assign rfl rfl) ?_
                 refine ho_nil ?_
                 refine hx_then ?_
                 refine ht_seq ?_
                 refine ht_region ?_
                 refine ho_ev rfl rfl rfl (ev_move rfl rfl) ?_
                 refine ho_ne rfl rfl rfl rfl rfl rfl (fun g12 => ?_) (fun g12 => ?_)
                 ·(exfalso; first | omega | (simp at g12; done) | contradiction)
                 ·first | (exfalso; first | omega | (simp at g12; done) | contradiction) | skip
                  all_goals (
                   refine ho_ev rfl rfl rfl (ev_move rfl rfl) ?_
                   refine ho_evg rfl rfl rfl rfl (ev_move rfl rfl) ?_
                   refine ho_evg rfl rfl rfl rfl (ev_ptrNil rfl Tryd.underlying63 rfl rfl rfl) ?_
                   refine ho_ev rfl rfl rfl (ev_pick_f rfl rfl rfl) ?_
                   refine ho_ev rfl rfl rfl (ev_move rfl rfl) ?_
                   refine ho_bool (t := 124) rfl (fun g13 => ?_) (fun g13 => ?_)
                   ·first | (exfalso; first | omega | (simp at g13; done) | contradiction) | skip
                    all_goals (
                     refine ho_pass rfl rfl rfl rfl ?_
                     refine ho_pass rfl rfl rfl rfl ?_
                     refine ho_pass rfl rfl rfl rfl ?_
                     refine ho_pass rfl rfl rfl rfl ?_
                     refine ho_pass rfl rfl rfl rfl ?_
                     refine ho_pass rfl rfl rfl rfl ?_
                     refine ho_ev rfl rfl rfl (ev_pick_t rfl rfl rfl) ?_
                     refine ho_ev rfl rfl rfl (ev_move rfl rfl) ?_
                     refine ho_pass rfl rfl rfl rfl ?_
                     refine ho_pass rfl rfl rfl rfl ?_
                     refine ho_pass rfl rfl rfl rfl ?_
                     refine ho_pass rfl rfl rfl rfl ?_
                     refine ho_pass rfl rfl rfl rfl ?_
                     refine ho_pass rfl rfl rfl rfl ?_
                     refine ho_ev rfl rfl rfl (ev_pick_t rfl rfl rfl) ?_
                     refine ho_nil ?_
                     refine hx_then ?_
                     refine ht_then rfl ?_
                     refine ht_seq ?_
                     refine ht_region ?_
                     refine ho_ev rfl rfl rfl (ev_assign rfl rfl) ?_
                     refine ho_nil ?_
                     refine hx_then ?_
                     refine ht_ret ?_
                     refine hx_block_ret ?_
                     refine hx_through trivial ?_
                     refine hx_through trivial ?_
                     refine hx_block_ret ?_
                     refine hx_through trivial ?_
                     exact hx_ret1 (.inl rfl) rfl rfl () rfl (Ent.cons (by (repeat constructor); done) Ent.nil)
                    )
                   ·first | (exfalso; first | omega | (simp at g13; done) | contradiction) | skip
                    all_goals (
                     refine ho_evg rfl rfl rfl rfl (ev_move rfl rfl) ?_
                     refine ho_effg rfl rfl rfl rfl (eff_call rfl rfl (.cons rfl .nil) rfl (wal_Last z.1 (⟨cq, 0, n, s, (Wl.found l.d 0 s n q).live, [], Wl.total gs, Wl.total gs⟩ : LG)) (by repeat (first | exact Picks.nil | (apply Picks.ro; focus ((repeat constructor); done)) | (apply Picks.cons; focus ((repeat constructor); done)))) (fun _ => by repeat (first | exact App.nil | apply App.cons))) (fun _ => ?_)
                     dsimp only
                     refine ho_evg rfl rfl rfl rfl (ev_move rfl rfl) ?_
                     refine ho_evg rfl rfl rfl rfl (ev_lenSl rfl Tryd.underlying64 rfl) ?_
                     refine ho_evg rfl rfl rfl rfl (ev_convI (r := ((want.length : Nat) : Int)) rfl ⟨_, Tryd.underlying3⟩ Tryd.underlying41 rfl (by exact IntWalk.u64_in _ (by omega))) ?_
                     refine ho_neg rfl rfl rfl rfl rfl rfl rfl (fun g14 => ?_) (fun g14 => ?_)
                     ·(exfalso; first | omega | (simp at g14; done) | contradiction)
                     ·first | (exfalso; first | omega | (simp at g14; done) | contradiction) | skip
                      all_goals (
                       refine ho_ev rfl rfl rfl (ev_pick_f rfl rfl rfl) ?_
                       refine ho_ev rfl rfl rfl (ev_move rfl rfl) ?_
                       refine ho_evg rfl rfl rfl rfl (ev_move rfl rfl) ?_
                       refine ho_evg rfl rfl rfl rfl (ev_move rfl rfl) ?_
                       refine ho_evg rfl rfl rfl rfl (ev_move rfl rfl) ?_
                       refine ho_effg rfl rfl rfl rfl (eff_slice (α := Wl.Rec) rfl Tryd.underlying64 Tryd.ty71 rfl (by (with_reducible repeat constructor); done) ⟨_, rfl⟩ rfl rfl (by decide) (by omega) (by omega) (by omega) (by omega)) (fun a136 => ?_)
                       rw [List.take_length]
                       refine ho_effg rfl rfl rfl rfl (eff_call rfl rfl (.cons rfl (.cons rfl .nil)) rfl (wal_Same z.2.1 _ z.2.2 _ (want.drop q) (by rw [List.length_drop]; omega)) (by repeat (first | exact Picks.nil | (apply Picks.ro; focus ((repeat constructor); done)) | (apply Picks.cons; focus ((repeat constructor); done)))) (fun _ => by repeat (first | exact App.nil | apply App.cons))) (fun _ => ?_)
                       refine ho_evg rfl rfl rfl rfl (ev_not rfl rfl) ?_
                       refine ho_ev rfl rfl rfl (ev_pick_f rfl rfl rfl) ?_
                       refine ho_nil ?_
                       refine hx_then ?_
                       refine ht_else rfl ?_
                       refine ht_skip ?_
                       refine hx_block_normal ?_
                       refine hx_then ?_
                       refine ht_region ?_
                       refine ho_ev rfl rfl rfl (ev_move rfl rfl) ?_
                       refine ho_ev rfl rfl rfl (ev_add rfl rfl rfl (by first | exact in_i64 (by omega) | rfl)) ?_
                       refine ho_ev rfl rfl rfl (ev_assign rfl rfl) ?_
                       refine ho_nil ?_
                       refine hx_again (I := (fun q : Nat => ([LogAt y.1 (lgOf b0 l), DiskAt b0 l.d, ro (roS ad want.length want), pu (q ≤ want.length + 1), F], [(7, .pointer (some ⟨b0, 0, none⟩)), (9, .int .i64 (n : Int)), (10, .int .i64 (s : Int)), (11, .pointer (some ⟨y.1, 0, none⟩)), (14, .slice ad want.length cp), (18, .int .i64 q)]))) (μ := (fun q : Nat => want.length + 1 - q)) (i := q) (q + 1) ?_ ?_ ?_
                       ·(first | dsimp only | skip); omega
                       ·repeat (first | exact EnvSub.nil _ | (refine EnvSub.cons rfl ?_))
                       ·(first | dsimp only | skip)
                        exact Ent.cons (by (repeat constructor); done) (Ent.cons (by (repeat constructor); done) (Ent.roD (by (with_reducible repeat constructor); done) (Ent.pu (by omega) (Ent.cons (by (repeat constructor); done) Ent.nil))))
                      )
                    )
                  )
                )
              )
             ·first | (exfalso; first | omega | (simp at g10; done) | contradiction) | skip
              all_goals (
               refine ho_nil ?_
               refine hx_then ?_
               refine ht_else rfl ?_
               refine ht_exit ?_
               refine hx_through trivial ?_
               refine hx_through trivial ?_
               refine hx_block_here ?_
               refine hx_then ?_
               refine ht_seq ?_
               refine ht_region ?_
               refine ho_ev rfl rfl rfl (ev_move rfl rfl) ?_
               refine ho_eff rfl rfl rfl (eff_call rfl rfl (.cons rfl .nil) rfl (wal_Last y.1 (lgOf b0 l)) (by repeat (first | exact Picks.nil | (apply Picks.ro; focus ((repeat constructor); done)) | (apply Picks.cons; focus ((repeat constructor); done)))) (fun _ => by repeat (first | exact App.nil | apply App.cons))) (fun _ => ?_)
               dsimp only
               rw [hinv.last]
               refine ho_ev rfl rfl rfl (ev_move rfl rfl) ?_
               refine ho_ev rfl rfl rfl (ev_lenSl rfl Tryd.underlying64 rfl) ?_
               refine ho_ev rfl rfl rfl (ev_convI (r := ((want.length : Nat) : Int)) rfl ⟨_, Tryd.underlying3⟩ Tryd.underlying41 rfl (by exact IntWalk.u64_in _ (by omega))) ?_
               refine ho_eq rfl rfl rfl rfl rfl rfl (fun g15 => ?_) (fun g15 => ?_)
               ·first | (exfalso; first | omega | (simp at g15; done) | contradiction) | skip
                all_goals (
                 refine ho_ev rfl rfl rfl (ev_move rfl rfl) ?_
                 refine ho_evg rfl rfl rfl rfl (ev_move rfl rfl) ?_
                 refine ho_effg rfl rfl rfl rfl (eff_call rfl rfl (.cons rfl .nil) rfl (wal_Live y.1 (lgOf b0 l)) (by repeat (first | exact Picks.nil | (apply Picks.ro; focus ((repeat constructor); done)) | (apply Picks.cons; focus ((repeat constructor); done)))) (fun _ => by repeat (first | exact App.nil | apply App.cons))) (fun _ => ?_)
                 dsimp only
                 refine ho_evg rfl rfl rfl rfl (ev_move rfl rfl) ?_
                 refine ho_leg rfl rfl rfl rfl rfl rfl rfl (fun g16 => ?_) (fun g16 => ?_)
                 ·first | (exfalso; first | omega | (simp at g16; done) | contradiction) | skip
                  all_goals (
                   refine ho_ev rfl rfl rfl (ev_pick_t rfl rfl rfl) ?_
                   refine ho_ev rfl rfl rfl (ev_assign rfl rfl) ?_
                   refine ho_nil ?_
                   refine hx_then ?_
                   refine ht_ret ?_
                   exact hx_ret1 (.inl rfl) rfl rfl () rfl (Ent.cons (by (repeat constructor); done) Ent.nil)
                  )
                 ·(exfalso; first | omega | (simp at g16; done) | contradiction)
                )
               ·(exfalso; first | omega | (simp at g15; done) | contradiction)
              )
            )
          )
        )
      )
    )
  )
end Go.Proofs.YtlejcepbcfijiaaDoor
