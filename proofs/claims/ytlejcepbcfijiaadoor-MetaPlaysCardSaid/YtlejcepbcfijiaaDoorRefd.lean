/-
  THE DOCUMENT'S DISK (06): the walks. Conditions: as each contract says.
-/
import Derived.Test.YtlejcepbcfijiaaDoorRef
import Derived.Test.YtlejcepbcfijiaaDoorRefDM
import Derived.Test.YtlejcepbcfijiaaDoorWire
import Derived.Test.YtlejcepbcfijiaaDoorDisk
set_option maxRecDepth 100000
set_option linter.unusedVariables false
set_option linter.unusedSimpArgs false
namespace Go.Proofs.YtlejcepbcfijiaaDoor
open Go Go.SL


instance : Enc (Int × List UInt8) := ⟨2, fun x => [.int .i64 x.1, vS x.2], fun _ => rfl, fun x v h => by simp at h; rcases h with rfl | rfl <;> rfl, by decide⟩
instance : Enc Rf.RPend := ⟨3, fun x => [.int .i64 x.place, .bool x.free, vS x.b], fun _ => rfl, fun x v h => by simp at h; rcases h with rfl | rfl | rfl <;> rfl, by decide⟩
/-- where the document's disk has its lists -/
structure RX where mk ::
  va : Option Addr
  vc : Nat
  ga : Option Addr
  gc : Nat
  la : Option Addr
  lc : Nat
abbrev rdV (r : Rf.RDisk) (x : RX) : Value := .agg #[.int .i64 r.size, .int .i64 r.limit, .slice x.va r.view.length x.vc, .slice x.ga r.ground.length x.gc, .slice x.la r.L.length x.lc]
def rdR (r : Rf.RDisk) (x : RX) : RoP := RoP.and (roS x.va r.view.length r.view) (RoP.and (roS x.ga r.ground.length r.ground) (roS x.la r.L.length r.L))
section
variable {P : Program} {κ : World} {n : Nat} {L M R R1 R2 R3 : List Assn} {ρ : Env} {ops : Array Oper} {l : List Oper} {Q : Exit → Act → World → Prop}
theorem ht_rd3 {r : Rf.RDisk} {x : RX} {c : Code} (k : Pick (ro (rdR r x)) L R) (h : HT P κ n (ro (roS x.va r.view.length r.view) :: ro (roS x.ga r.ground.length r.ground) :: ro (roS x.la r.L.length r.L) :: L) ρ c Q) : HT P κ n L ρ c Q :=
  ht_ent (Ent.roWeak k (fun _ h => h.1) (Ent.roWeak k (fun _ h => h.2.1) (Ent.roWeak k (fun _ h => h.2.2) (Ent.refl _)))) h
theorem ho_rd3 {r : Rf.RDisk} {x : RX} (k : Pick (ro (rdR r x)) L R) (h : HOps P κ n ops (ro (roS x.va r.view.length r.view) :: ro (roS x.ga r.ground.length r.ground) :: ro (roS x.la r.L.length r.L) :: L) ρ l Q) : HOps P κ n ops L ρ l Q :=
  ho_ent (Ent.roWeak k (fun _ h => h.1) (Ent.roWeak k (fun _ h => h.2.1) (Ent.roWeak k (fun _ h => h.2.2) (Ent.refl _)))) h
theorem Ent.rd3 {r : Rf.RDisk} {x : RX} {v g : List (Int × List UInt8)} {l : List Rf.RPend} {m1 m2 m3 : Nat} (k1 : Pick (ro (roS x.va m1 v)) L R1) (k2 : Pick (ro (roS x.ga m2 g)) L R2) (k3 : Pick (ro (roS x.la m3 l)) L R3) (e1 : v = r.view) (e2 : g = r.ground) (e3 : l = r.L) (f1 : m1 = r.view.length) (f2 : m2 = r.ground.length) (f3 : m3 = r.L.length) (h : Ent L M) : Ent L (ro (rdR r x) :: M) := by
  subst e1 e2 e3 f1 f2 f3
  exact Ent.roAnd k2 k3 (Ent.roWeak2 (φ := roS x.va r.view.length r.view) (φ' := RoP.and (roS x.ga r.ground.length r.ground) (roS x.la r.L.length r.L)) (.there k1) .here (fun _ h1 h2 => ⟨h1, h2⟩) (Ent.drop h))
theorem Ent.rdNil {r : Rf.RDisk} (e1 : r.view = []) (e2 : r.ground = []) (e3 : r.L = []) (h : Ent L M) : Ent L (ro (rdR r ⟨none, 0, none, 0, none, 0⟩) :: M) :=
  Ent.roTrue (fun q => by
    obtain ⟨a, b, v, g, l⟩ := r
    dsimp only at e1 e2 e3
    subst e1 e2 e3
    exact ⟨SliceIn.empty _ _, SliceIn.empty _ _, SliceIn.empty _ _⟩) h
end

theorem rf_New_no (n : Int) (h : n < 1 ∨ 65536 < n) : Ctr Tryd.prog 18 #[.int .i64 n] [] (fun _ : Unit => .tuple #[.agg #[.int .i64 0, .int .i64 0, .slice none 0 0, .slice none 0 0, .slice none 0 0], .int .i64 60]) (fun _ => []) := by
 refine fn_intro Tryd.func18 rfl rfl Tryd.ntmps18 (Nat.le_of_ble_eq_true rfl) (fun _ => by repeat (first | exact App.nil | apply App.cons)) (fun κ F => ?_)
 refine ht_seq ?_
 refine ht_region ?_
 refine ho_eff rfl rfl rfl (eff_alloc rfl Tryd.ty49 (by first | exact cells_agg _ | exact rfl)) (fun b2 => ?_)
 refine ho_ev rfl rfl rfl (ev_assign rfl rfl) ?_
 refine ho_nil ?_
 refine hx_then ?_
 refine ht_seq ?_
 refine ht_seq ?_
 refine ht_region ?_
 refine ho_ev rfl rfl rfl (ev_move rfl rfl) ?_
 refine ho_lt rfl rfl rfl rfl rfl rfl (fun g1 => ?_) (fun g1 => ?_)
 ·skip
  refine ho_ev rfl rfl rfl (ev_move rfl rfl) ?_
  refine ho_pass rfl rfl rfl rfl ?_
  refine ho_pass rfl rfl rfl rfl ?_
  refine ho_ev rfl rfl rfl (ev_pick_t rfl rfl rfl) ?_
  refine ho_nil ?_
  refine hx_then ?_
  refine ht_then rfl ?_
  refine ht_seq ?_
  refine ht_region ?_
  refine ho_ev rfl rfl rfl (ev_build1 (csl := [.int .i64 0, .int .i64 0, .slice none 0 0, .slice none 0 0, .slice none 0 0]) rfl Tryd.st49 .nil .nil rfl rfl) ?_
  refine ho_eff0 rfl rfl (eff_storeA rfl Tryd.ty49 rfl rfl (by (with_reducible repeat constructor); done) rfl rfl rfl (by simp only [setRange, List.setIfInBounds_toArray, List.set_cons_zero, List.set_cons_succ, Nat.zero_add]; rfl)) (fun _ => ?_)
  refine ho_ev rfl rfl rfl (ev_assign rfl rfl) ?_
  refine ho_nil ?_
  refine hx_then ?_
  refine ht_ret ?_
  refine hx_through trivial ?_
  exact hx_ret2A (.inl rfl) rfl rfl rfl Tryd.underlying49 Tryd.ty49 rfl (cells_pt (by (with_reducible repeat constructor); done) (Nat.le_of_ble_eq_true rfl) rfl) () rfl (Ent.cons (by (repeat constructor); done) Ent.nil)
 ·skip
  refine ho_ev rfl rfl rfl (ev_move rfl rfl) ?_
  refine ho_evg rfl rfl rfl rfl (ev_move rfl rfl) ?_
  refine ho_gtg rfl rfl rfl rfl rfl rfl rfl (fun g2 => ?_) (fun g2 => ?_)
  ·skip
   refine ho_ev rfl rfl rfl (ev_pick_f rfl rfl rfl) ?_
   refine ho_nil ?_
   refine hx_then ?_
   refine ht_then rfl ?_
   refine ht_seq ?_
   refine ht_region ?_
   refine ho_ev rfl rfl rfl (ev_build1 (csl := [.int .i64 0, .int .i64 0, .slice none 0 0, .slice none 0 0, .slice none 0 0]) rfl Tryd.st49 .nil .nil rfl rfl) ?_
   refine ho_eff0 rfl rfl (eff_storeA rfl Tryd.ty49 rfl rfl (by (with_reducible repeat constructor); done) rfl rfl rfl (by simp only [setRange, List.setIfInBounds_toArray, List.set_cons_zero, List.set_cons_succ, Nat.zero_add]; rfl)) (fun _ => ?_)
   refine ho_ev rfl rfl rfl (ev_assign rfl rfl) ?_
   refine ho_nil ?_
   refine hx_then ?_
   refine ht_ret ?_
   refine hx_through trivial ?_
   exact hx_ret2A (.inl rfl) rfl rfl rfl Tryd.underlying49 Tryd.ty49 rfl (cells_pt (by (with_reducible repeat constructor); done) (Nat.le_of_ble_eq_true rfl) rfl) () rfl (Ent.cons (by (repeat constructor); done) Ent.nil)
  ·omega
theorem rf_New (n : Int) (h : 1 ≤ n ∧ n ≤ 65536) : Ctr Tryd.prog 18 #[.int .i64 n] [] (fun _ : Unit => .tuple #[rdV (Rf.RDisk.new n) ⟨none, 0, none, 0, none, 0⟩, .int .i64 0]) (fun _ => [ro (rdR (Rf.RDisk.new n) ⟨none, 0, none, 0, none, 0⟩)]) := by
 refine fn_intro Tryd.func18 rfl rfl Tryd.ntmps18 (Nat.le_of_ble_eq_true rfl) (fun _ => by repeat (first | exact App.nil | apply App.cons)) (fun κ F => ?_)
 refine ht_seq ?_
 refine ht_region ?_
 refine ho_eff rfl rfl rfl (eff_alloc rfl Tryd.ty49 (by first | exact cells_agg _ | exact rfl)) (fun b2 => ?_)
 refine ho_ev rfl rfl rfl (ev_assign rfl rfl) ?_
 refine ho_nil ?_
 refine hx_then ?_
 refine ht_seq ?_
 refine ht_seq ?_
 refine ht_region ?_
 refine ho_ev rfl rfl rfl (ev_move rfl rfl) ?_
 refine ho_lt rfl rfl rfl rfl rfl rfl (fun g1 => ?_) (fun g1 => ?_)
 ·omega
 ·skip
  refine ho_ev rfl rfl rfl (ev_move rfl rfl) ?_
  refine ho_evg rfl rfl rfl rfl (ev_move rfl rfl) ?_
  refine ho_gtg rfl rfl rfl rfl rfl rfl rfl (fun g2 => ?_) (fun g2 => ?_)
  ·omega
  ·skip
   refine ho_ev rfl rfl rfl (ev_pick_f rfl rfl rfl) ?_
   refine ho_nil ?_
   refine hx_then ?_
   refine ht_else rfl ?_
   refine ht_skip ?_
   refine hx_then ?_
   refine ht_seq ?_
   refine ht_region ?_
   refine ho_ev rfl rfl rfl (ev_move rfl rfl) ?_
   refine ho_ev rfl rfl rfl (ev_move rfl rfl) ?_
   refine ho_ev rfl rfl rfl (ev_build1 (csl := [_, _, .slice none 0 0, .slice none 0 0, .slice none 0 0]) rfl Tryd.st49 (.cons rfl (.cons rfl .nil)) (.cons rfl (.cons rfl .nil)) rfl rfl) ?_
   refine ho_eff0 rfl rfl (eff_storeA rfl Tryd.ty49 rfl rfl (by (with_reducible repeat constructor); done) rfl rfl rfl (by simp only [setRange, List.setIfInBounds_toArray, List.set_cons_zero, List.set_cons_succ, Nat.zero_add]; rfl)) (fun _ => ?_)
   refine ho_ev rfl rfl rfl (ev_assign rfl rfl) ?_
   refine ho_nil ?_
   refine hx_then ?_
   refine ht_ret ?_
   exact hx_ret2A (.inl rfl) rfl rfl rfl Tryd.underlying49 Tryd.ty49 rfl (cells_pt (by (with_reducible repeat constructor); done) (Nat.le_of_ble_eq_true rfl) rfl) () rfl (Ent.rdNil rfl rfl rfl (Ent.cons (by (repeat constructor); done) Ent.nil))
theorem rf_Find (a : Option Addr) (c : Nat) (xs : List (Int × List UInt8)) (k : Int) (hxs : xs.length ≤ 1000000) : Ctr Tryd.prog 40 #[.slice a xs.length c, .int .i64 k] [ro (roS a xs.length xs)] (fun _ : Unit => .tuple #[vS ((Rf.rfind xs k).getD []), .bool (Rf.rfind xs k).isSome]) (fun _ => []) := by
 refine fn_intro Tryd.func40 rfl rfl Tryd.ntmps40 (Nat.le_of_ble_eq_true rfl) (fun _ => by repeat (first | exact App.nil | apply App.cons)) (fun κ F => ?_)
 refine ht_seq ?_
 refine ht_region ?_
 refine ho_ev rfl rfl rfl (ev_assign rfl rfl) ?_
 refine ho_ev rfl rfl rfl (ev_assign rfl rfl) ?_
 refine ho_nil ?_
 refine hx_then ?_
 refine ht_seq ?_
 refine ht_seq ?_
 refine ht_region ?_
 refine ho_ev rfl rfl rfl (ev_assign rfl rfl) ?_
 refine ho_nil ?_
 refine hx_then ?_
 refine ht_block ?_
 refine ht_loop (fun q : Nat => ([ro (roS a xs.length xs), pu ((xs.take q).find? (·.1 == k) = none ∧ q ≤ xs.length), F], [(0, .slice a xs.length c), (1, .int .i64 k), (6, .int .i64 q)])) (fun q : Nat => xs.length - q) 0 ?_ (by repeat (first | exact EnvSub.nil _ | (refine EnvSub.cons rfl ?_))) (fun q => ?_)
 ·(first | dsimp only | skip)
  exact Ent.roD (by (with_reducible repeat constructor); done) (Ent.pu ⟨rfl, by omega⟩ (Ent.cons (by (repeat constructor); done) Ent.nil))
 obtain q := q
 dsimp only
 refine ht_pick (A := pu ((xs.take q).find? (·.1 == k) = none ∧ q ≤ xs.length)) (by (repeat constructor); done) (ht_pure fun hq => ?_)
 obtain ⟨hnf, hq⟩ := hq
 refine ht_seq ?_
 refine ht_seq ?_
 refine ht_region ?_
 refine ho_ev rfl rfl rfl (ev_move rfl rfl) ?_
 refine ho_ev rfl rfl rfl (ev_move rfl rfl) ?_
 refine ho_ev rfl rfl rfl (ev_lenSl rfl Tryd.underlying46 rfl) ?_
 refine ho_lt rfl rfl rfl rfl rfl rfl (fun g1 => ?_) (fun g1 => ?_)
 ·skip
  refine ho_nil ?_
  refine hx_then ?_
  refine ht_then rfl ?_
  refine ht_skip ?_
  refine hx_then ?_
  refine ht_seq ?_
  refine ht_block ?_
  refine ht_seq ?_
  obtain ⟨x, hx⟩ : ∃ x, xs[q]? = some x := ⟨_, List.getElem?_eq_getElem (by omega)⟩
  refine ht_someS (α := Int × List UInt8) (a := a) (reads_ro (by (with_reducible repeat constructor); done)) (by omega) (fun ab ao ha => ?_)
  refine ht_region ?_
  refine ho_ev rfl rfl rfl (ev_move rfl rfl) ?_
  refine ho_ev rfl rfl rfl (ev_move rfl rfl) ?_
  refine ho_ev rfl rfl rfl (ev_indexAddr rfl Tryd.underlying46 Tryd.ty136 (congrArg (fun z => some (Value.slice z xs.length c)) ha) rfl (by omega) (by omega)) ?_
  refine ho_ev rfl rfl rfl (by first | exact ev_fieldAddr0 rfl Tryd.fld136_0 rfl | exact ev_fieldAddr rfl Tryd.fld136_0 rfl) ?_
  refine ho_ev rfl rfl rfl (ev_load rfl Tryd.underlying3 rfl rfl (cell_Sa (α := Int × List UInt8) (k := 0) ha (reads_ro (by (with_reducible repeat constructor); done)) hx rfl)) ?_
  refine ho_ev rfl rfl rfl (ev_move rfl rfl) ?_
  refine ho_eq rfl rfl rfl rfl rfl rfl (fun g2 => ?_) (fun g2 => ?_)
  ·skip
   refine ho_nil ?_
   refine hx_then ?_
   refine ht_then rfl ?_
   refine ht_seq ?_
   refine ht_region ?_
   refine ho_ev rfl rfl rfl (ev_move rfl rfl) ?_
   refine ho_ev rfl rfl rfl (ev_move rfl rfl) ?_
   refine ho_ev rfl rfl rfl (ev_indexAddr rfl Tryd.underlying46 Tryd.ty136 (congrArg (fun z => some (Value.slice z xs.length c)) ha) rfl (by omega) (by omega)) ?_
   refine ho_ev rfl rfl rfl (by first | exact ev_fieldAddr0 rfl Tryd.fld136_1 rfl | exact ev_fieldAddr rfl Tryd.fld136_1 rfl) ?_
   refine ho_ev rfl rfl rfl (ev_load rfl Tryd.underlying9 rfl rfl (cell_Sa (α := Int × List UInt8) (k := 1) ha (reads_ro (by (with_reducible repeat constructor); done)) hx rfl)) ?_
   refine ho_ev rfl rfl rfl (ev_assign rfl rfl) ?_
   refine ho_ev rfl rfl rfl (ev_assign rfl rfl) ?_
   refine ho_nil ?_
   refine hx_then ?_
   refine ht_ret ?_
   refine hx_block_ret ?_
   refine hx_through trivial ?_
   refine hx_through trivial ?_
   refine hx_block_ret ?_
   refine hx_through trivial ?_
   rw [Rf.rf_here hnf hx (by omega)]
   exact hx_ret2 (.inl rfl) rfl rfl rfl () rfl (Ent.cons (by (repeat constructor); done) Ent.nil)
  ·skip
   refine ho_nil ?_
   refine hx_then ?_
   refine ht_else rfl ?_
   refine ht_skip ?_
   refine hx_block_normal ?_
   refine hx_then ?_
   refine ht_region ?_
   refine ho_ev rfl rfl rfl (ev_move rfl rfl) ?_
   refine ho_ev rfl rfl rfl (ev_add rfl rfl rfl (by first | exact in_i64 (by omega) | rfl)) ?_
   refine ho_ev rfl rfl rfl (ev_assign rfl rfl) ?_
   refine ho_nil ?_
   refine hx_again (I := (fun q : Nat => ([ro (roS a xs.length xs), pu ((xs.take q).find? (·.1 == k) = none ∧ q ≤ xs.length), F], [(0, .slice a xs.length c), (1, .int .i64 k), (6, .int .i64 q)]))) (μ := (fun q : Nat => xs.length - q)) (i := q) (q + 1) ?_ ?_ ?_
   ·(first | dsimp only | skip); omega
   ·repeat (first | exact EnvSub.nil _ | (refine EnvSub.cons rfl ?_))
   ·(first | dsimp only | skip)
    exact Ent.roD (by (with_reducible repeat constructor); done) (Ent.pu ⟨Rf.rf_step hnf hx (by omega), by omega⟩ (Ent.cons (by (repeat constructor); done) Ent.nil))
 ·skip
  refine ho_nil ?_
  refine hx_then ?_
  refine ht_else rfl ?_
  refine ht_exit ?_
  refine hx_through trivial ?_
  refine hx_through trivial ?_
  refine hx_block_here ?_
  refine hx_then ?_
  refine ht_seq ?_
  refine ht_region ?_
  refine ho_ev rfl rfl rfl (ev_assign rfl rfl) ?_
  refine ho_ev rfl rfl rfl (ev_assign rfl rfl) ?_
  refine ho_nil ?_
  refine hx_then ?_
  refine ht_ret ?_
  obtain rfl : q = xs.length := by omega
  rw [List.take_length] at hnf
  rw [show Rf.rfind xs k = none by unfold Rf.rfind; rw [hnf]; rfl]
  exact hx_ret2 (.inl rfl) rfl rfl rfl () rfl (Ent.cons (by (repeat constructor); done) Ent.nil)
theorem rf_done (a : Option Addr) (c : Nat) (xs : List (Int × List UInt8)) (pk : Int) (pf : Bool) (pb : List UInt8) (n : Int) (hxs : xs.length ≤ 1000000) (hpb : pb.length ≤ 1099511627776) (hold : ((Rf.rfind xs pk).getD []).length ≤ 1099511627776) : Ctr Tryd.prog 46 #[.slice a xs.length c, .agg #[.int .i64 pk, .bool pf, vS pb], .int .i64 n] [ro (roS a xs.length xs)] (fun q : Option Addr × Nat => .slice q.1 (Rf.rdone xs ⟨pk, pf, pb⟩ n).length q.2) (fun q => [ro (roS q.1 (Rf.rdone xs ⟨pk, pf, pb⟩ n).length (Rf.rdone xs ⟨pk, pf, pb⟩ n))]) := by
 refine fn_intro Tryd.func46 rfl rfl Tryd.ntmps46 (Nat.le_of_ble_eq_true rfl) (fun _ => by repeat (first | exact App.nil | apply App.cons)) (fun κ F => ?_)
 rcases pf with _ | _
 ·skip
  refine ht_seq ?_
  refine ht_region ?_
  refine ho_eff rfl rfl rfl (eff_boxA rfl rfl) (fun b4 => ?_)
  refine ho_ev rfl rfl rfl (ev_assign rfl rfl) ?_
  refine ho_nil ?_
  refine hx_then ?_
  refine ht_seq ?_
  refine ht_region ?_
  refine ho_ev rfl rfl rfl (ev_move rfl rfl) ?_
  refine ho_ev rfl rfl rfl (by first | exact ev_fieldAddr0 rfl Tryd.fld109_0 rfl | exact ev_fieldAddr rfl Tryd.fld109_0 rfl) ?_
  refine ho_ev rfl rfl rfl (ev_load rfl Tryd.underlying3 rfl rfl (by first | exact cell_pt (by (with_reducible repeat constructor); done) rfl | exact cell_ro (by (with_reducible repeat constructor); done) rfl)) ?_
  refine ho_eff rfl rfl rfl (eff_call rfl rfl (.cons rfl (.cons rfl .nil)) rfl (rf_Find a c xs pk hxs) (by repeat (first | exact Picks.nil | (apply Picks.ro; focus ((with_reducible repeat constructor); done)) | (apply Picks.cons; focus ((with_reducible repeat constructor); done)))) (fun _ => by repeat (first | exact App.nil | apply App.cons))) (fun _ => ?_)
  refine ho_ev rfl rfl rfl (ev_move rfl rfl) ?_
  refine ho_ev rfl rfl rfl (ev_extract rfl rfl rfl) ?_
  refine ho_ev rfl rfl rfl (ev_extract rfl rfl rfl) ?_
  refine ho_ev rfl rfl rfl (ev_assign rfl rfl) ?_
  refine ho_ev rfl rfl rfl (ev_assign rfl rfl) ?_
  refine ho_nil ?_
  refine hx_then ?_
  refine ht_seq ?_
  refine ht_region ?_
  refine ho_eff rfl rfl rfl (eff_buildAll (α := (Int × List UInt8)) [] rfl Tryd.underlying46 Tryd.ty136 .nil .nil rfl (Nat.le_of_ble_eq_true rfl)) (fun b19 => ?_)
  refine ho_ev rfl rfl rfl (ev_assign rfl rfl) ?_
  refine ho_nil ?_
  refine hx_then ?_
  refine ht_seq ?_
  refine ht_seq ?_
  refine ht_region ?_
  refine ho_ev rfl rfl rfl (ev_assign rfl rfl) ?_
  refine ho_nil ?_
  refine hx_then ?_
  refine ht_block ?_
  refine ht_loop (fun q : Nat × Option Addr × Nat => ([ownS 136 q.2.1 (Rf.filt xs pk q.1).length q.2.2 (Rf.filt xs pk q.1), pt b4 (.cells #[.int .i64 pk, .bool false, vS pb] 109 (0, 0)), ro (roS a xs.length xs), pu (q.1 ≤ xs.length), F], [(0, .slice a xs.length c), (4, .pointer (some ⟨b4, 0, none⟩)), (2, .int .i64 n), (7, vS ((Rf.rfind xs pk).getD [])), (9, .slice q.2.1 (Rf.filt xs pk q.1).length q.2.2), (10, .int .i64 q.1)])) (fun q : Nat × Option Addr × Nat => xs.length - q.1) (0, some ⟨b19, 0, none⟩, 0) ?_ (by repeat (first | exact EnvSub.nil _ | (refine EnvSub.cons rfl ?_))) (fun q => ?_)
  ·(first | dsimp only | skip)
   rw [Rf.filt_zero]
   exact Ent.cons (by (repeat constructor); done) (Ent.cons (by (repeat constructor); done) (Ent.roD (by (with_reducible repeat constructor); done) (Ent.pu (by omega) (Ent.cons (by (repeat constructor); done) Ent.nil))))
  obtain ⟨q, ad, cp⟩ := q
  dsimp only
  refine ht_pick (A := pu (q ≤ xs.length)) (by (repeat constructor); done) (ht_pure fun hq => ?_)
  have hfl := Rf.filt_len xs pk q
  refine ht_seq ?_
  refine ht_seq ?_
  refine ht_region ?_
  refine ho_ev rfl rfl rfl (ev_move rfl rfl) ?_
  refine ho_ev rfl rfl rfl (ev_move rfl rfl) ?_
  refine ho_ev rfl rfl rfl (ev_lenSl rfl Tryd.underlying46 rfl) ?_
  refine ho_lt rfl rfl rfl rfl rfl rfl (fun g1 => ?_) (fun g1 => ?_)
  ·skip
   refine ho_nil ?_
   refine hx_then ?_
   refine ht_then rfl ?_
   refine ht_skip ?_
   refine hx_then ?_
   refine ht_seq ?_
   refine ht_block ?_
   refine ht_seq ?_
   obtain ⟨x, hx⟩ : ∃ x, xs[q]? = some x := ⟨_, List.getElem?_eq_getElem (by omega)⟩
   refine ht_someS (α := Int × List UInt8) (a := a) (reads_ro (by (with_reducible repeat constructor); done)) (by omega) (fun ab ao ha => ?_)
   refine ht_draw (.op 0 (.op 1 (.op 2 (.op 3 (.op 4 (.op 5 (.op 6 (.op 7 .done)))))))) [] Tryd.mixed rfl ?_
   refine hd_ev rfl rfl rfl rfl (EvG.of rfl (ev_move rfl rfl)) ?_
   refine hd_ev rfl rfl rfl rfl (EvG.of rfl (ev_move rfl rfl)) ?_
   refine hd_ev rfl rfl rfl rfl (EvG.of rfl (ev_indexAddr rfl Tryd.underlying46 Tryd.ty136 (congrArg (fun z => some (Value.slice z xs.length c)) ha) rfl (by omega) (by omega))) ?_
   refine hd_ev rfl rfl rfl rfl (EvG.of rfl (by first | exact ev_fieldAddr0 rfl Tryd.fld136_0 rfl | exact ev_fieldAddr rfl Tryd.fld136_0 rfl)) ?_
   refine hd_ev rfl rfl rfl rfl (EvG.of rfl (ev_load rfl Tryd.underlying3 rfl rfl (cell_Sa (α := Int × List UInt8) (k := 0) ha (reads_ro (by (with_reducible repeat constructor); done)) hx rfl))) ?_
   refine hd_ev rfl rfl rfl rfl (EvG.of rfl (by first | exact ev_fieldAddr0 rfl Tryd.fld109_0 rfl | exact ev_fieldAddr rfl Tryd.fld109_0 rfl)) ?_
   refine hd_ev rfl rfl rfl rfl (EvG.of rfl (ev_load rfl Tryd.underlying3 rfl rfl (by first | exact cell_pt (by (with_reducible repeat constructor); done) rfl | exact cell_ro (by (with_reducible repeat constructor); done) rfl))) ?_
   refine hd_ne rfl rfl rfl rfl rfl rfl rfl rfl (fun g2 => ?_) (fun g2 => ?_)
   ·skip
    refine hd_nil ?_
    refine hx_then ?_
    refine ht_then rfl ?_
    refine ht_region ?_
    refine ho_ev rfl rfl rfl (ev_move rfl rfl) ?_
    refine ho_ev rfl rfl rfl (ev_move rfl rfl) ?_
    refine ho_ev rfl rfl rfl (ev_move rfl rfl) ?_
    refine ho_ev rfl rfl rfl (ev_indexAddr rfl Tryd.underlying46 Tryd.ty136 (congrArg (fun z => some (Value.slice z xs.length c)) ha) rfl (by omega) (by omega)) ?_
    refine ho_ev rfl rfl rfl (ev_loadA rfl Tryd.underlying136 Tryd.ty136 rfl rfl (cells_Sa ha (reads_ro (by (with_reducible repeat constructor); done)) hx)) ?_
    refine ho_eff rfl rfl rfl (eff_buildAll (α := (Int × List UInt8)) [x] rfl Tryd.underlying46 Tryd.ty136 (.cons rfl .nil) (.cons rfl .nil) rfl (Nat.le_of_ble_eq_true rfl)) (fun b39 => ?_)
    refine ho_eff rfl rfl rfl (eff_append (α := (Int × List UInt8)) rfl Tryd.underlying46 Tryd.ty136 rfl (by decide) Tryd.underlying46 rfl rfl (by (with_reducible repeat constructor); done) (by first | exact reads_ro (by (with_reducible repeat constructor); done) | exact reads_own (by (with_reducible repeat constructor); done) | exact reads_nil _) (by first | omega | (simp only [List.length_append, List.length_cons, List.length_nil, List.length_drop, List.length_take]; omega) | (simp; omega))) (fun p40 => ?_)
    refine ho_ev rfl rfl rfl (ev_assign rfl rfl) ?_
    refine ho_nil ?_
    refine hx_block_normal ?_
    refine hx_then ?_
    refine ht_region ?_
    refine ho_ev rfl rfl rfl (ev_move rfl rfl) ?_
    refine ho_ev rfl rfl rfl (ev_add rfl rfl rfl (by first | exact in_i64 (by omega) | rfl)) ?_
    refine ho_ev rfl rfl rfl (ev_assign rfl rfl) ?_
    refine ho_nil ?_
    have hfs := Rf.filt_yes hx (show x.1 ≠ pk by omega)
    rw [← hfs]
    refine hx_again (I := (fun q : Nat × Option Addr × Nat => ([ownS 136 q.2.1 (Rf.filt xs pk q.1).length q.2.2 (Rf.filt xs pk q.1), pt b4 (.cells #[.int .i64 pk, .bool false, vS pb] 109 (0, 0)), ro (roS a xs.length xs), pu (q.1 ≤ xs.length), F], [(0, .slice a xs.length c), (4, .pointer (some ⟨b4, 0, none⟩)), (2, .int .i64 n), (7, vS ((Rf.rfind xs pk).getD [])), (9, .slice q.2.1 (Rf.filt xs pk q.1).length q.2.2), (10, .int .i64 q.1)]))) (μ := (fun q : Nat × Option Addr × Nat => xs.length - q.1)) (i := (q, ad, cp)) (q + 1, p40.1, p40.2) ?_ ?_ ?_
    ·(first | dsimp only | skip); omega
    ·repeat (first | exact EnvSub.nil _ | (refine EnvSub.cons rfl ?_))
    ·(first | dsimp only | skip)
     exact Ent.cons (by (repeat constructor); done) (Ent.cons (by (repeat constructor); done) (Ent.roD (by (with_reducible repeat constructor); done) (Ent.pu (by omega) (Ent.cons (by (repeat constructor); done) Ent.nil))))
   ·skip
    refine hd_nil ?_
    refine hx_then ?_
    refine ht_else rfl ?_
    refine ht_skip ?_
    refine hx_block_normal ?_
    refine hx_then ?_
    refine ht_region ?_
    refine ho_ev rfl rfl rfl (ev_move rfl rfl) ?_
    refine ho_ev rfl rfl rfl (ev_add rfl rfl rfl (by first | exact in_i64 (by omega) | rfl)) ?_
    refine ho_ev rfl rfl rfl (ev_assign rfl rfl) ?_
    refine ho_nil ?_
    have hfs := Rf.filt_no hx (show x.1 = pk by omega)
    rw [← hfs]
    refine hx_again (I := (fun q : Nat × Option Addr × Nat => ([ownS 136 q.2.1 (Rf.filt xs pk q.1).length q.2.2 (Rf.filt xs pk q.1), pt b4 (.cells #[.int .i64 pk, .bool false, vS pb] 109 (0, 0)), ro (roS a xs.length xs), pu (q.1 ≤ xs.length), F], [(0, .slice a xs.length c), (4, .pointer (some ⟨b4, 0, none⟩)), (2, .int .i64 n), (7, vS ((Rf.rfind xs pk).getD [])), (9, .slice q.2.1 (Rf.filt xs pk q.1).length q.2.2), (10, .int .i64 q.1)]))) (μ := (fun q : Nat × Option Addr × Nat => xs.length - q.1)) (i := (q, ad, cp)) (q + 1, ad, cp) ?_ ?_ ?_
    ·(first | dsimp only | skip); omega
    ·repeat (first | exact EnvSub.nil _ | (refine EnvSub.cons rfl ?_))
    ·(first | dsimp only | skip)
     exact Ent.cons (by (repeat constructor); done) (Ent.cons (by (repeat constructor); done) (Ent.roD (by (with_reducible repeat constructor); done) (Ent.pu (by omega) (Ent.cons (by (repeat constructor); done) Ent.nil))))
  ·skip
   refine ho_nil ?_
   refine hx_then ?_
   refine ht_else rfl ?_
   refine ht_exit ?_
   refine hx_through trivial ?_
   refine hx_through trivial ?_
   refine hx_block_here ?_
   refine hx_then ?_
   refine ht_seq ?_
   refine ht_seq ?_
   obtain rfl : q = xs.length := by omega
   refine ht_region ?_
   refine ho_ev rfl rfl rfl (by first | exact ev_fieldAddr0 rfl Tryd.fld109_1 rfl | exact ev_fieldAddr rfl Tryd.fld109_1 rfl) ?_
   refine ho_ev rfl rfl rfl (ev_load rfl Tryd.underlying4 rfl rfl (by first | exact cell_pt (by (with_reducible repeat constructor); done) rfl | exact cell_ro (by (with_reducible repeat constructor); done) rfl)) ?_
   refine ho_nil ?_
   refine hx_then ?_
   refine ht_bool (t := 42) rfl (fun g3 => ?_) (fun g3 => ?_)
   ·simp at g3
   ·skip
    refine ht_else rfl ?_
    refine ht_skip ?_
    refine hx_then ?_
    refine ht_seq ?_
    refine ht_region ?_
    refine ho_ev rfl rfl rfl (by first | exact ev_fieldAddr0 rfl Tryd.fld109_2 rfl | exact ev_fieldAddr rfl Tryd.fld109_2 rfl) ?_
    refine ho_ev rfl rfl rfl (ev_load rfl Tryd.underlying9 rfl rfl (by first | exact cell_pt (by (with_reducible repeat constructor); done) rfl | exact cell_ro (by (with_reducible repeat constructor); done) rfl)) ?_
    refine ho_ev rfl rfl rfl (ev_assign rfl rfl) ?_
    refine ho_nil ?_
    refine hx_then ?_
    refine ht_seq ?_
    refine ht_seq ?_
    refine ht_region ?_
    refine ho_ev rfl rfl rfl (ev_move rfl rfl) ?_
    refine ho_ev rfl rfl rfl (ev_move rfl rfl) ?_
    refine ho_ev rfl rfl rfl (ev_lenS rfl Tryd.underlying9 rfl) ?_
    refine ho_lt rfl rfl rfl rfl rfl rfl (fun g4 => ?_) (fun g4 => ?_)
    ·skip
     refine ho_nil ?_
     refine hx_then ?_
     refine ht_then rfl ?_
     refine ht_seq ?_
     refine ht_region ?_
     refine ho_ev rfl rfl rfl (ev_move rfl rfl) ?_
     refine ho_ev rfl rfl rfl (ev_maxI (r := ((n.toNat : Nat) : Int)) rfl rfl rfl (by omega)) ?_
     refine ho_ev rfl rfl rfl (ev_assign rfl rfl) ?_
     refine ho_nil ?_
     refine hx_then ?_
     refine ht_seq ?_
     refine ht_region ?_
     refine ho_ev rfl rfl rfl (ev_move rfl rfl) ?_
     refine ho_ev rfl rfl rfl (ev_move rfl rfl) ?_
     refine ho_ev rfl rfl rfl (ev_sliceS rfl Tryd.underlying9 rfl rfl ⟨_, rfl⟩ (by omega) (by omega)) ?_
     refine ho_ev rfl rfl rfl (ev_assign rfl rfl) ?_
     refine ho_nil ?_
     refine hx_then ?_
     refine ht_seq ?_
     refine ht_region ?_
     refine ho_ev rfl rfl rfl (ev_move rfl rfl) ?_
     refine ho_ev rfl rfl rfl (ev_move rfl rfl) ?_
     refine ho_ev rfl rfl rfl (ev_lenS rfl Tryd.underlying9 rfl) ?_
     refine ho_lt rfl rfl rfl rfl rfl rfl (fun g5 => ?_) (fun g5 => ?_)
     ·skip
      refine ho_nil ?_
      refine hx_then ?_
      refine ht_then rfl ?_
      refine ht_region ?_
      refine ho_ev rfl rfl rfl (ev_move rfl rfl) ?_
      refine ho_ev rfl rfl rfl (ev_move rfl rfl) ?_
      refine ho_ev rfl rfl rfl (ev_move rfl rfl) ?_
      refine ho_ev rfl rfl rfl (ev_sliceS rfl Tryd.underlying9 rfl ⟨_, rfl⟩ rfl (by omega) (by omega)) ?_
      refine ho_ev rfl rfl rfl (ev_addS rfl rfl rfl (by first | omega | (simp; omega))) ?_
      refine ho_ev rfl rfl rfl (ev_assign rfl rfl) ?_
      refine ho_nil ?_
      refine hx_then ?_
      refine ht_seq ?_
      refine ht_region ?_
      refine ho_ev rfl rfl rfl (ev_move rfl rfl) ?_
      refine ho_ev rfl rfl rfl (by first | exact ev_fieldAddr0 rfl Tryd.fld109_0 rfl | exact ev_fieldAddr rfl Tryd.fld109_0 rfl) ?_
      refine ho_ev rfl rfl rfl (ev_load rfl Tryd.underlying3 rfl rfl (by first | exact cell_pt (by (with_reducible repeat constructor); done) rfl | exact cell_ro (by (with_reducible repeat constructor); done) rfl)) ?_
      refine ho_ev rfl rfl rfl (ev_move rfl rfl) ?_
      refine ho_ev rfl rfl rfl (ev_build1 (csl := [_, _]) rfl Tryd.st136 (.cons rfl (.cons rfl .nil)) (.cons rfl (.cons rfl .nil)) rfl rfl) ?_
      refine ho_eff rfl rfl rfl (eff_buildAll (α := (Int × List UInt8)) [(pk, _)] rfl Tryd.underlying46 Tryd.ty136 (.cons rfl .nil) (.cons rfl .nil) rfl (Nat.le_of_ble_eq_true rfl)) (fun b69 => ?_)
      refine ho_eff rfl rfl rfl (eff_append (α := (Int × List UInt8)) rfl Tryd.underlying46 Tryd.ty136 rfl (by decide) Tryd.underlying46 rfl rfl (by (with_reducible repeat constructor); done) (by first | exact reads_ro (by (with_reducible repeat constructor); done) | exact reads_own (by (with_reducible repeat constructor); done) | exact reads_nil _) (by first | omega | (simp only [List.length_append, List.length_cons, List.length_nil, List.length_drop, List.length_take]; omega) | (simp; omega))) (fun p70 => ?_)
      refine ho_ev rfl rfl rfl (ev_assign rfl rfl) ?_
      refine ho_nil ?_
      refine hx_then ?_
      refine ht_ret ?_
      have ht : Dk.torn ((Rf.rfind xs pk).getD []) pb n = (pb.take n.toNat).drop 0 ++ ((((Rf.rfind xs pk).getD []).take ((Rf.rfind xs pk).getD []).length).drop n.toNat) := by unfold Dk.torn; rw [if_pos (by omega), if_pos (by omega)]; simp
      have hr : Rf.rdone xs ⟨pk, false, pb⟩ n = Rf.filt xs pk xs.length ++ [(pk, (pb.take n.toNat).drop 0 ++ ((((Rf.rfind xs pk).getD []).take ((Rf.rfind xs pk).getD []).length).drop n.toNat))] := by rw [Rf.filt_all]; show _ ++ [(pk, Dk.torn ((Rf.rfind xs pk).getD []) pb n)] = _; rw [ht]
      rw [hr]
      exact hx_freezeS (α := Int × List UInt8) (xs := Rf.filt xs pk xs.length ++ [(pk, (pb.take n.toNat).drop 0 ++ ((((Rf.rfind xs pk).getD []).take ((Rf.rfind xs pk).getD []).length).drop n.toNat))]) (by (repeat constructor); done) (hx_ret1 (.inl rfl) rfl rfl p70 rfl (Ent.roD .here (Ent.cons (by (repeat constructor); done) Ent.nil)))
     ·skip
      refine ho_nil ?_
      refine hx_then ?_
      refine ht_else rfl ?_
      refine ht_skip ?_
      refine hx_then ?_
      refine ht_seq ?_
      refine ht_region ?_
      refine ho_ev rfl rfl rfl (ev_move rfl rfl) ?_
      refine ho_ev rfl rfl rfl (by first | exact ev_fieldAddr0 rfl Tryd.fld109_0 rfl | exact ev_fieldAddr rfl Tryd.fld109_0 rfl) ?_
      refine ho_ev rfl rfl rfl (ev_load rfl Tryd.underlying3 rfl rfl (by first | exact cell_pt (by (with_reducible repeat constructor); done) rfl | exact cell_ro (by (with_reducible repeat constructor); done) rfl)) ?_
      refine ho_ev rfl rfl rfl (ev_move rfl rfl) ?_
      refine ho_ev rfl rfl rfl (ev_build1 (csl := [_, _]) rfl Tryd.st136 (.cons rfl (.cons rfl .nil)) (.cons rfl (.cons rfl .nil)) rfl rfl) ?_
      refine ho_eff rfl rfl rfl (eff_buildAll (α := (Int × List UInt8)) [(pk, _)] rfl Tryd.underlying46 Tryd.ty136 (.cons rfl .nil) (.cons rfl .nil) rfl (Nat.le_of_ble_eq_true rfl)) (fun b69 => ?_)
      refine ho_eff rfl rfl rfl (eff_append (α := (Int × List UInt8)) rfl Tryd.underlying46 Tryd.ty136 rfl (by decide) Tryd.underlying46 rfl rfl (by (with_reducible repeat constructor); done) (by first | exact reads_ro (by (with_reducible repeat constructor); done) | exact reads_own (by (with_reducible repeat constructor); done) | exact reads_nil _) (by first | omega | (simp only [List.length_append, List.length_cons, List.length_nil, List.length_drop, List.length_take]; omega) | (simp; omega))) (fun p70 => ?_)
      refine ho_ev rfl rfl rfl (ev_assign rfl rfl) ?_
      refine ho_nil ?_
      refine hx_then ?_
      refine ht_ret ?_
      have ht : Dk.torn ((Rf.rfind xs pk).getD []) pb n = (pb.take n.toNat).drop 0 := by unfold Dk.torn; rw [if_pos (by omega), if_neg (by omega)]; simp
      have hr : Rf.rdone xs ⟨pk, false, pb⟩ n = Rf.filt xs pk xs.length ++ [(pk, (pb.take n.toNat).drop 0)] := by rw [Rf.filt_all]; show _ ++ [(pk, Dk.torn ((Rf.rfind xs pk).getD []) pb n)] = _; rw [ht]
      rw [hr]
      exact hx_freezeS (α := Int × List UInt8) (xs := Rf.filt xs pk xs.length ++ [(pk, (pb.take n.toNat).drop 0)]) (by (repeat constructor); done) (hx_ret1 (.inl rfl) rfl rfl p70 rfl (Ent.roD .here (Ent.cons (by (repeat constructor); done) Ent.nil)))
    ·skip
     refine ho_nil ?_
     refine hx_then ?_
     refine ht_else rfl ?_
     refine ht_skip ?_
     refine hx_then ?_
     refine ht_seq ?_
     refine ht_region ?_
     refine ho_ev rfl rfl rfl (ev_move rfl rfl) ?_
     refine ho_ev rfl rfl rfl (by first | exact ev_fieldAddr0 rfl Tryd.fld109_0 rfl | exact ev_fieldAddr rfl Tryd.fld109_0 rfl) ?_
     refine ho_ev rfl rfl rfl (ev_load rfl Tryd.underlying3 rfl rfl (by first | exact cell_pt (by (with_reducible repeat constructor); done) rfl | exact cell_ro (by (with_reducible repeat constructor); done) rfl)) ?_
     refine ho_ev rfl rfl rfl (ev_move rfl rfl) ?_
     refine ho_ev rfl rfl rfl (ev_build1 (csl := [_, _]) rfl Tryd.st136 (.cons rfl (.cons rfl .nil)) (.cons rfl (.cons rfl .nil)) rfl rfl) ?_
     refine ho_eff rfl rfl rfl (eff_buildAll (α := (Int × List UInt8)) [(pk, _)] rfl Tryd.underlying46 Tryd.ty136 (.cons rfl .nil) (.cons rfl .nil) rfl (Nat.le_of_ble_eq_true rfl)) (fun b69 => ?_)
     refine ho_eff rfl rfl rfl (eff_append (α := (Int × List UInt8)) rfl Tryd.underlying46 Tryd.ty136 rfl (by decide) Tryd.underlying46 rfl rfl (by (with_reducible repeat constructor); done) (by first | exact reads_ro (by (with_reducible repeat constructor); done) | exact reads_own (by (with_reducible repeat constructor); done) | exact reads_nil _) (by first | omega | (simp only [List.length_append, List.length_cons, List.length_nil, List.length_drop, List.length_take]; omega) | (simp; omega))) (fun p70 => ?_)
     refine ho_ev rfl rfl rfl (ev_assign rfl rfl) ?_
     refine ho_nil ?_
     refine hx_then ?_
     refine ht_ret ?_
     have ht : Dk.torn ((Rf.rfind xs pk).getD []) pb n = pb := by unfold Dk.torn; rw [if_neg (by omega)]
     have hr : Rf.rdone xs ⟨pk, false, pb⟩ n = Rf.filt xs pk xs.length ++ [(pk, pb)] := by rw [Rf.filt_all]; show _ ++ [(pk, Dk.torn ((Rf.rfind xs pk).getD []) pb n)] = _; rw [ht]
     rw [hr]
     exact hx_freezeS (α := Int × List UInt8) (xs := Rf.filt xs pk xs.length ++ [(pk, pb)]) (by (repeat constructor); done) (hx_ret1 (.inl rfl) rfl rfl p70 rfl (Ent.roD .here (Ent.cons (by (repeat constructor); done) Ent.nil)))
 ·skip
  refine ht_seq ?_
  refine ht_region ?_
  refine ho_eff rfl rfl rfl (eff_boxA rfl rfl) (fun b4 => ?_)
  refine ho_ev rfl rfl rfl (ev_assign rfl rfl) ?_
  refine ho_nil ?_
  refine hx_then ?_
  refine ht_seq ?_
  refine ht_region ?_
  refine ho_ev rfl rfl rfl (ev_move rfl rfl) ?_
  refine ho_ev rfl rfl rfl (by first | exact ev_fieldAddr0 rfl Tryd.fld109_0 rfl | exact ev_fieldAddr rfl Tryd.fld109_0 rfl) ?_
  refine ho_ev rfl rfl rfl (ev_load rfl Tryd.underlying3 rfl rfl (by first | exact cell_pt (by (with_reducible repeat constructor); done) rfl | exact cell_ro (by (with_reducible repeat constructor); done) rfl)) ?_
  refine ho_eff rfl rfl rfl (eff_call rfl rfl (.cons rfl (.cons rfl .nil)) rfl (rf_Find a c xs pk hxs) (by repeat (first | exact Picks.nil | (apply Picks.ro; focus ((with_reducible repeat constructor); done)) | (apply Picks.cons; focus ((with_reducible repeat constructor); done)))) (fun _ => by repeat (first | exact App.nil | apply App.cons))) (fun _ => ?_)
  refine ho_ev rfl rfl rfl (ev_move rfl rfl) ?_
  refine ho_ev rfl rfl rfl (ev_extract rfl rfl rfl) ?_
  refine ho_ev rfl rfl rfl (ev_extract rfl rfl rfl) ?_
  refine ho_ev rfl rfl rfl (ev_assign rfl rfl) ?_
  refine ho_ev rfl rfl rfl (ev_assign rfl rfl) ?_
  refine ho_nil ?_
  refine hx_then ?_
  refine ht_seq ?_
  refine ht_region ?_
  refine ho_eff rfl rfl rfl (eff_buildAll (α := (Int × List UInt8)) [] rfl Tryd.underlying46 Tryd.ty136 .nil .nil rfl (Nat.le_of_ble_eq_true rfl)) (fun b19 => ?_)
  refine ho_ev rfl rfl rfl (ev_assign rfl rfl) ?_
  refine ho_nil ?_
  refine hx_then ?_
  refine ht_seq ?_
  refine ht_seq ?_
  refine ht_region ?_
  refine ho_ev rfl rfl rfl (ev_assign rfl rfl) ?_
  refine ho_nil ?_
  refine hx_then ?_
  refine ht_block ?_
  refine ht_loop (fun q : Nat × Option Addr × Nat => ([ownS 136 q.2.1 (Rf.filt xs pk q.1).length q.2.2 (Rf.filt xs pk q.1), pt b4 (.cells #[.int .i64 pk, .bool true, vS pb] 109 (0, 0)), ro (roS a xs.length xs), pu (q.1 ≤ xs.length), F], [(0, .slice a xs.length c), (4, .pointer (some ⟨b4, 0, none⟩)), (2, .int .i64 n), (7, vS ((Rf.rfind xs pk).getD [])), (9, .slice q.2.1 (Rf.filt xs pk q.1).length q.2.2), (10, .int .i64 q.1)])) (fun q : Nat × Option Addr × Nat => xs.length - q.1) (0, some ⟨b19, 0, none⟩, 0) ?_ (by repeat (first | exact EnvSub.nil _ | (refine EnvSub.cons rfl ?_))) (fun q => ?_)
  ·(first | dsimp only | skip)
   rw [Rf.filt_zero]
   exact Ent.cons (by (repeat constructor); done) (Ent.cons (by (repeat constructor); done) (Ent.roD (by (with_reducible repeat constructor); done) (Ent.pu (by omega) (Ent.cons (by (repeat constructor); done) Ent.nil))))
  obtain ⟨q, ad, cp⟩ := q
  dsimp only
  refine ht_pick (A := pu (q ≤ xs.length)) (by (repeat constructor); done) (ht_pure fun hq => ?_)
  have hfl := Rf.filt_len xs pk q
  refine ht_seq ?_
  refine ht_seq ?_
  refine ht_region ?_
  refine ho_ev rfl rfl rfl (ev_move rfl rfl) ?_
  refine ho_ev rfl rfl rfl (ev_move rfl rfl) ?_
  refine ho_ev rfl rfl rfl (ev_lenSl rfl Tryd.underlying46 rfl) ?_
  refine ho_lt rfl rfl rfl rfl rfl rfl (fun g1 => ?_) (fun g1 => ?_)
  ·skip
   refine ho_nil ?_
   refine hx_then ?_
   refine ht_then rfl ?_
   refine ht_skip ?_
   refine hx_then ?_
   refine ht_seq ?_
   refine ht_block ?_
   refine ht_seq ?_
   obtain ⟨x, hx⟩ : ∃ x, xs[q]? = some x := ⟨_, List.getElem?_eq_getElem (by omega)⟩
   refine ht_someS (α := Int × List UInt8) (a := a) (reads_ro (by (with_reducible repeat constructor); done)) (by omega) (fun ab ao ha => ?_)
   refine ht_draw (.op 0 (.op 1 (.op 2 (.op 3 (.op 4 (.op 5 (.op 6 (.op 7 .done)))))))) [] Tryd.mixed rfl ?_
   refine hd_ev rfl rfl rfl rfl (EvG.of rfl (ev_move rfl rfl)) ?_
   refine hd_ev rfl rfl rfl rfl (EvG.of rfl (ev_move rfl rfl)) ?_
   refine hd_ev rfl rfl rfl rfl (EvG.of rfl (ev_indexAddr rfl Tryd.underlying46 Tryd.ty136 (congrArg (fun z => some (Value.slice z xs.length c)) ha) rfl (by omega) (by omega))) ?_
   refine hd_ev rfl rfl rfl rfl (EvG.of rfl (by first | exact ev_fieldAddr0 rfl Tryd.fld136_0 rfl | exact ev_fieldAddr rfl Tryd.fld136_0 rfl)) ?_
   refine hd_ev rfl rfl rfl rfl (EvG.of rfl (ev_load rfl Tryd.underlying3 rfl rfl (cell_Sa (α := Int × List UInt8) (k := 0) ha (reads_ro (by (with_reducible repeat constructor); done)) hx rfl))) ?_
   refine hd_ev rfl rfl rfl rfl (EvG.of rfl (by first | exact ev_fieldAddr0 rfl Tryd.fld109_0 rfl | exact ev_fieldAddr rfl Tryd.fld109_0 rfl)) ?_
   refine hd_ev rfl rfl rfl rfl (EvG.of rfl (ev_load rfl Tryd.underlying3 rfl rfl (by first | exact cell_pt (by (with_reducible repeat constructor); done) rfl | exact cell_ro (by (with_reducible repeat constructor); done) rfl))) ?_
   refine hd_ne rfl rfl rfl rfl rfl rfl rfl rfl (fun g2 => ?_) (fun g2 => ?_)
   ·skip
    refine hd_nil ?_
    refine hx_then ?_
    refine ht_then rfl ?_
    refine ht_region ?_
    refine ho_ev rfl rfl rfl (ev_move rfl rfl) ?_
    refine ho_ev rfl rfl rfl (ev_move rfl rfl) ?_
    refine ho_ev rfl rfl rfl (ev_move rfl rfl) ?_
    refine ho_ev rfl rfl rfl (ev_indexAddr rfl Tryd.underlying46 Tryd.ty136 (congrArg (fun z => some (Value.slice z xs.length c)) ha) rfl (by omega) (by omega)) ?_
    refine ho_ev rfl rfl rfl (ev_loadA rfl Tryd.underlying136 Tryd.ty136 rfl rfl (cells_Sa ha (reads_ro (by (with_reducible repeat constructor); done)) hx)) ?_
    refine ho_eff rfl rfl rfl (eff_buildAll (α := (Int × List UInt8)) [x] rfl Tryd.underlying46 Tryd.ty136 (.cons rfl .nil) (.cons rfl .nil) rfl (Nat.le_of_ble_eq_true rfl)) (fun b39 => ?_)
    refine ho_eff rfl rfl rfl (eff_append (α := (Int × List UInt8)) rfl Tryd.underlying46 Tryd.ty136 rfl (by decide) Tryd.underlying46 rfl rfl (by (with_reducible repeat constructor); done) (by first | exact reads_ro (by (with_reducible repeat constructor); done) | exact reads_own (by (with_reducible repeat constructor); done) | exact reads_nil _) (by first | omega | (simp only [List.length_append, List.length_cons, List.length_nil, List.length_drop, List.length_take]; omega) | (simp; omega))) (fun p40 => ?_)
    refine ho_ev rfl rfl rfl (ev_assign rfl rfl) ?_
    refine ho_nil ?_
    refine hx_block_normal ?_
    refine hx_then ?_
    refine ht_region ?_
    refine ho_ev rfl rfl rfl (ev_move rfl rfl) ?_
    refine ho_ev rfl rfl rfl (ev_add rfl rfl rfl (by first | exact in_i64 (by omega) | rfl)) ?_
    refine ho_ev rfl rfl rfl (ev_assign rfl rfl) ?_
    refine ho_nil ?_
    have hfs := Rf.filt_yes hx (show x.1 ≠ pk by omega)
    rw [← hfs]
    refine hx_again (I := (fun q : Nat × Option Addr × Nat => ([ownS 136 q.2.1 (Rf.filt xs pk q.1).length q.2.2 (Rf.filt xs pk q.1), pt b4 (.cells #[.int .i64 pk, .bool true, vS pb] 109 (0, 0)), ro (roS a xs.length xs), pu (q.1 ≤ xs.length), F], [(0, .slice a xs.length c), (4, .pointer (some ⟨b4, 0, none⟩)), (2, .int .i64 n), (7, vS ((Rf.rfind xs pk).getD [])), (9, .slice q.2.1 (Rf.filt xs pk q.1).length q.2.2), (10, .int .i64 q.1)]))) (μ := (fun q : Nat × Option Addr × Nat => xs.length - q.1)) (i := (q, ad, cp)) (q + 1, p40.1, p40.2) ?_ ?_ ?_
    ·(first | dsimp only | skip); omega
    ·repeat (first | exact EnvSub.nil _ | (refine EnvSub.cons rfl ?_))
    ·(first | dsimp only | skip)
     exact Ent.cons (by (repeat constructor); done) (Ent.cons (by (repeat constructor); done) (Ent.roD (by (with_reducible repeat constructor); done) (Ent.pu (by omega) (Ent.cons (by (repeat constructor); done) Ent.nil))))
   ·skip
    refine hd_nil ?_
    refine hx_then ?_
    refine ht_else rfl ?_
    refine ht_skip ?_
    refine hx_block_normal ?_
    refine hx_then ?_
    refine ht_region ?_
    refine ho_ev rfl rfl rfl (ev_move rfl rfl) ?_
    refine ho_ev rfl rfl rfl (ev_add rfl rfl rfl (by first | exact in_i64 (by omega) | rfl)) ?_
    refine ho_ev rfl rfl rfl (ev_assign rfl rfl) ?_
    refine ho_nil ?_
    have hfs := Rf.filt_no hx (show x.1 = pk by omega)
    rw [← hfs]
    refine hx_again (I := (fun q : Nat × Option Addr × Nat => ([ownS 136 q.2.1 (Rf.filt xs pk q.1).length q.2.2 (Rf.filt xs pk q.1), pt b4 (.cells #[.int .i64 pk, .bool true, vS pb] 109 (0, 0)), ro (roS a xs.length xs), pu (q.1 ≤ xs.length), F], [(0, .slice a xs.length c), (4, .pointer (some ⟨b4, 0, none⟩)), (2, .int .i64 n), (7, vS ((Rf.rfind xs pk).getD [])), (9, .slice q.2.1 (Rf.filt xs pk q.1).length q.2.2), (10, .int .i64 q.1)]))) (μ := (fun q : Nat × Option Addr × Nat => xs.length - q.1)) (i := (q, ad, cp)) (q + 1, ad, cp) ?_ ?_ ?_
    ·(first | dsimp only | skip); omega
    ·repeat (first | exact EnvSub.nil _ | (refine EnvSub.cons rfl ?_))
    ·(first | dsimp only | skip)
     exact Ent.cons (by (repeat constructor); done) (Ent.cons (by (repeat constructor); done) (Ent.roD (by (with_reducible repeat constructor); done) (Ent.pu (by omega) (Ent.cons (by (repeat constructor); done) Ent.nil))))
  ·skip
   refine ho_nil ?_
   refine hx_then ?_
   refine ht_else rfl ?_
   refine ht_exit ?_
   refine hx_through trivial ?_
   refine hx_through trivial ?_
   refine hx_block_here ?_
   refine hx_then ?_
   refine ht_seq ?_
   refine ht_seq ?_
   obtain rfl : q = xs.length := by omega
   refine ht_region ?_
   refine ho_ev rfl rfl rfl (by first | exact ev_fieldAddr0 rfl Tryd.fld109_1 rfl | exact ev_fieldAddr rfl Tryd.fld109_1 rfl) ?_
   refine ho_ev rfl rfl rfl (ev_load rfl Tryd.underlying4 rfl rfl (by first | exact cell_pt (by (with_reducible repeat constructor); done) rfl | exact cell_ro (by (with_reducible repeat constructor); done) rfl)) ?_
   refine ho_nil ?_
   refine hx_then ?_
   refine ht_bool (t := 42) rfl (fun g3 => ?_) (fun g3 => ?_)
   ·skip
    refine ht_then rfl ?_
    refine ht_seq ?_
    refine ht_region ?_
    refine ho_ev rfl rfl rfl (ev_move rfl rfl) ?_
    refine ho_ev rfl rfl rfl (ev_assign rfl rfl) ?_
    refine ho_nil ?_
    refine hx_then ?_
    refine ht_ret ?_
    refine hx_through trivial ?_
    have hr : Rf.rdone xs ⟨pk, true, pb⟩ n = Rf.filt xs pk xs.length := by rw [Rf.filt_all]; rfl
    rw [hr]
    exact hx_freezeS (α := Int × List UInt8) (xs := Rf.filt xs pk xs.length) (by (repeat constructor); done) (hx_ret1 (.inl rfl) rfl rfl (ad, cp) rfl (Ent.roD .here (Ent.cons (by (repeat constructor); done) Ent.nil)))
   ·simp at g3
theorem rf_put (r : Rf.RDisk) (x : RX) (pk : Int) (pf : Bool) (pb : List UInt8) (h1 : r.view.length ≤ 1000000) (h2 : r.L.length ≤ 1000000) (hpb : pb.length ≤ 1099511627776) (hold : ((Rf.rfind r.view pk).getD []).length ≤ 1099511627776) : Ctr Tryd.prog 70 #[rdV r x, .agg #[.int .i64 pk, .bool pf, vS pb]] [ro (rdR r x)] (fun y : RX => rdV (r.put ⟨pk, pf, pb⟩) y) (fun y => [ro (rdR (r.put ⟨pk, pf, pb⟩) y)]) := by
 refine fn_intro Tryd.func70 rfl rfl Tryd.ntmps70 (Nat.le_of_ble_eq_true rfl) (fun _ => by repeat (first | exact App.nil | apply App.cons)) (fun κ F => ?_)
 refine ht_rd3 (by (with_reducible repeat constructor); done) ?_
 refine ht_seq ?_
 refine ht_region ?_
 refine ho_eff rfl rfl rfl (eff_boxA rfl rfl) (fun b2 => ?_)
 refine ho_eff rfl rfl rfl (eff_boxA rfl rfl) (fun b3 => ?_)
 refine ho_eff rfl rfl rfl (eff_alloc rfl Tryd.ty49 (by first | exact cells_agg _ | exact rfl)) (fun b4 => ?_)
 refine ho_nil ?_
 refine hx_then ?_
 refine ht_seq ?_
 refine ht_draw (.op 1 (.op 2 (.op 4 (.fork (.op 0 (.fork (.op 3 (.op 5 (.op 6 (.op 7 (.op 8 .done))))) (.op 5 (.op 3 (.op 6 (.op 7 (.op 8 .done))))))) (.op 5 (.op 0 (.op 3 (.op 6 (.op 7 (.op 8 .done)))))))))) [0, 3, 5, 6, 8] Tryd.mixed rfl ?_
 refine hd_ev rfl rfl rfl rfl (EvG.of rfl (by first | exact ev_fieldAddr0 rfl Tryd.fld49_4 rfl | exact ev_fieldAddr rfl Tryd.fld49_4 rfl)) ?_
 refine hd_ev rfl rfl rfl rfl (EvG.of rfl (ev_load rfl Tryd.underlying47 rfl rfl (by first | exact cell_pt (by (with_reducible repeat constructor); done) rfl | exact cell_ro (by (with_reducible repeat constructor); done) rfl))) ?_
 refine hd_ev rfl rfl rfl rfl (EvG.of rfl (ev_loadA rfl Tryd.underlying109 Tryd.ty109 rfl rfl (by first | exact cells_pt (by (with_reducible repeat constructor); done) (Nat.le_of_ble_eq_true rfl) (by simp only [List.extract_toArray, List.extract_eq_take_drop, Nat.zero_add, Nat.sub_zero, Nat.add_sub_cancel_left, List.drop_zero, List.take_succ_cons, List.take_zero, List.drop_succ_cons] <;> rfl) | exact cells_ro (by (with_reducible repeat constructor); done) (Nat.le_of_ble_eq_true rfl) (by simp only [List.extract_toArray, List.extract_eq_take_drop, Nat.zero_add, Nat.sub_zero, Nat.add_sub_cancel_left, List.drop_zero, List.take_succ_cons, List.take_zero, List.drop_succ_cons] <;> rfl)))) ?_
 refine hd_fork ?_ ?_
 ·skip
  refine hd_eff rfl rfl rfl rfl rfl (eff_buildAll (α := Rf.RPend) [] rfl Tryd.underlying47 Tryd.ty109 .nil .nil rfl (Nat.le_of_ble_eq_true rfl)) (fun _ => by (refine FL.ev rfl (EvG.of rfl (ev_loadA rfl Tryd.underlying109 Tryd.ty109 rfl rfl (by first | exact cells_pt (by (with_reducible repeat constructor); done) (Nat.le_of_ble_eq_true rfl) (by simp only [List.extract_toArray, List.extract_eq_take_drop, Nat.zero_add, Nat.sub_zero, Nat.add_sub_cancel_left, List.drop_zero, List.take_succ_cons, List.take_zero, List.drop_succ_cons] <;> rfl) | exact cells_ro (by (with_reducible repeat constructor); done) (Nat.le_of_ble_eq_true rfl) (by simp only [List.extract_toArray, List.extract_eq_take_drop, Nat.zero_add, Nat.sub_zero, Nat.add_sub_cancel_left, List.drop_zero, List.take_succ_cons, List.take_zero, List.drop_succ_cons] <;> rfl)))) ?_); (refine FL.ev rfl (EvG.of rfl (ev_load rfl Tryd.underlying47 rfl rfl (by first | exact cell_pt (by (with_reducible repeat constructor); done) rfl | exact cell_ro (by (with_reducible repeat constructor); done) rfl))) ?_); (refine FL.ev rfl (EvG.of rfl (by first | exact ev_fieldAddr0 rfl Tryd.fld49_4 rfl | exact ev_fieldAddr rfl Tryd.fld49_4 rfl)) ?_); exact FL.nil) (fun b5 => ?_)
  refine hd_fork ?_ ?_
  ·skip
   refine hd_eff rfl rfl rfl rfl rfl (eff_append (α := Rf.RPend) rfl Tryd.underlying47 Tryd.ty109 rfl (by decide) Tryd.underlying47 rfl rfl (by (with_reducible repeat constructor); done) (by first | exact reads_ro (by (with_reducible repeat constructor); done) | exact reads_own (by (with_reducible repeat constructor); done) | exact reads_nil _) (by first | omega | (simp only [List.length_append, List.length_cons, List.length_nil, List.length_drop, List.length_take]; omega) | (simp; omega))) (fun _ => by (refine FL.ev rfl (EvG.of rfl (ev_loadA rfl Tryd.underlying109 Tryd.ty109 rfl rfl (by first | exact cells_pt (by (with_reducible repeat constructor); done) (Nat.le_of_ble_eq_true rfl) (by simp only [List.extract_toArray, List.extract_eq_take_drop, Nat.zero_add, Nat.sub_zero, Nat.add_sub_cancel_left, List.drop_zero, List.take_succ_cons, List.take_zero, List.drop_succ_cons] <;> rfl) | exact cells_ro (by (with_reducible repeat constructor); done) (Nat.le_of_ble_eq_true rfl) (by simp only [List.extract_toArray, List.extract_eq_take_drop, Nat.zero_add, Nat.sub_zero, Nat.add_sub_cancel_left, List.drop_zero, List.take_succ_cons, List.take_zero, List.drop_succ_cons] <;> rfl)))) ?_); (refine FL.skip rfl ?_); (refine FL.skip rfl ?_); exact FL.nil) (fun p8 => ?_)
   refine hd_eff rfl rfl rfl rfl rfl (eff_buildAll (α := Rf.RPend) [(⟨pk, pf, pb⟩ : Rf.RPend)] rfl Tryd.underlying47 Tryd.ty109 (.cons rfl .nil) (.cons rfl .nil) rfl (Nat.le_of_ble_eq_true rfl)) (fun _ => by (refine FL.skip rfl ?_); (refine FL.ev rfl (EvG.of rfl (ev_load rfl Tryd.underlying47 rfl rfl (by first | exact cell_pt (by (with_reducible repeat constructor); done) rfl | exact cell_ro (by (with_reducible repeat constructor); done) rfl))) ?_); (refine FL.ev rfl (EvG.of rfl (by first | exact ev_fieldAddr0 rfl Tryd.fld49_4 rfl | exact ev_fieldAddr rfl Tryd.fld49_4 rfl)) ?_); exact FL.nil) (fun b10 => ?_)
   refine hd_eff rfl rfl rfl rfl rfl (eff_append (α := Rf.RPend) rfl Tryd.underlying47 Tryd.ty109 rfl (by decide) Tryd.underlying47 rfl rfl (by (with_reducible repeat constructor); done) (by first | exact reads_ro (by (with_reducible repeat constructor); done) | exact reads_own (by (with_reducible repeat constructor); done) | exact reads_nil _) (by first | omega | (simp only [List.length_append, List.length_cons, List.length_nil, List.length_drop, List.length_take]; omega) | (simp; omega))) (fun _ => by (refine FL.skip rfl ?_); (refine FL.skip rfl ?_); (refine FL.skip rfl ?_); exact FL.nil) (fun p11 => ?_)
   refine hd_ev rfl rfl rfl rfl (EvG.of rfl (by first | exact ev_fieldAddr0 rfl Tryd.fld49_4 rfl | exact ev_fieldAddr rfl Tryd.fld49_4 rfl)) ?_
   refine hd_eff0 rfl rfl rfl rfl (eff_store1 rfl Tryd.ty47 rfl rfl (by (with_reducible repeat constructor); done) rfl rfl (lt_of_blt rfl) (by simp only [List.setIfInBounds_toArray, List.set_cons_zero, List.set_cons_succ]; rfl)) (fun _ => by (refine FL.skip rfl ?_); (refine FL.skip rfl ?_); (refine FL.skip rfl ?_); (refine FL.skip rfl ?_); exact FL.nil) (fun _ => ?_)
   refine hd_nil ?_
   refine hx_then ?_
   refine ht_seq ?_
   refine ht_region ?_
   refine ho_ev rfl rfl rfl (by first | exact ev_fieldAddr0 rfl Tryd.fld49_2 rfl | exact ev_fieldAddr rfl Tryd.fld49_2 rfl) ?_
   refine ho_ev rfl rfl rfl (ev_load rfl Tryd.underlying46 rfl rfl (by first | exact cell_pt (by (with_reducible repeat constructor); done) rfl | exact cell_ro (by (with_reducible repeat constructor); done) rfl)) ?_
   refine ho_ev rfl rfl rfl (ev_loadA rfl Tryd.underlying109 Tryd.ty109 rfl rfl (by first | exact cells_pt (by (with_reducible repeat constructor); done) (Nat.le_of_ble_eq_true rfl) (by simp only [List.extract_toArray, List.extract_eq_take_drop, Nat.zero_add, Nat.sub_zero, Nat.add_sub_cancel_left, List.drop_zero, List.take_succ_cons, List.take_zero, List.drop_succ_cons] <;> rfl) | exact cells_ro (by (with_reducible repeat constructor); done) (Nat.le_of_ble_eq_true rfl) (by simp only [List.extract_toArray, List.extract_eq_take_drop, Nat.zero_add, Nat.sub_zero, Nat.add_sub_cancel_left, List.drop_zero, List.take_succ_cons, List.take_zero, List.drop_succ_cons] <;> rfl))) ?_
   refine ho_ev rfl rfl rfl (by first | exact ev_fieldAddr0 rfl Tryd.fld109_2 rfl | exact ev_fieldAddr rfl Tryd.fld109_2 rfl) ?_
   refine ho_ev rfl rfl rfl (ev_load rfl Tryd.underlying9 rfl rfl (by first | exact cell_pt (by (with_reducible repeat constructor); done) rfl | exact cell_ro (by (with_reducible repeat constructor); done) rfl)) ?_
   refine ho_ev rfl rfl rfl (ev_lenS rfl Tryd.underlying9 rfl) ?_
   refine ho_eff rfl rfl rfl (eff_call rfl rfl (.cons rfl (.cons rfl (.cons rfl .nil))) rfl (rf_done x.va x.vc r.view pk pf pb pb.length h1 hpb hold) (by repeat (first | exact Picks.nil | (apply Picks.ro; focus ((repeat constructor); done)) | (apply Picks.cons; focus ((repeat constructor); done)))) (fun _ => by repeat (first | exact App.nil | apply App.cons))) (fun y => ?_)
   refine ho_ev rfl rfl rfl (by first | exact ev_fieldAddr0 rfl Tryd.fld49_2 rfl | exact ev_fieldAddr rfl Tryd.fld49_2 rfl) ?_
   refine ho_eff0 rfl rfl (eff_store1 rfl Tryd.ty46 rfl rfl (by (with_reducible repeat constructor); done) rfl rfl (lt_of_blt rfl) (by simp only [List.setIfInBounds_toArray, List.set_cons_zero, List.set_cons_succ]; rfl)) (fun _ => ?_)
   refine ho_nil ?_
   refine hx_then ?_
   refine ht_seq ?_
   refine ht_region ?_
   refine ho_ev rfl rfl rfl (ev_loadA rfl Tryd.underlying49 Tryd.ty49 rfl rfl (by first | exact cells_pt (by (with_reducible repeat constructor); done) (Nat.le_of_ble_eq_true rfl) (by simp only [List.extract_toArray, List.extract_eq_take_drop, Nat.zero_add, Nat.sub_zero, Nat.add_sub_cancel_left, List.drop_zero, List.take_succ_cons, List.take_zero, List.drop_succ_cons] <;> rfl) | exact cells_ro (by (with_reducible repeat constructor); done) (Nat.le_of_ble_eq_true rfl) (by simp only [List.extract_toArray, List.extract_eq_take_drop, Nat.zero_add, Nat.sub_zero, Nat.add_sub_cancel_left, List.drop_zero, List.take_succ_cons, List.take_zero, List.drop_succ_cons] <;> rfl))) ?_
   refine ho_eff0 rfl rfl (eff_storeA rfl Tryd.ty49 rfl rfl (by (with_reducible repeat constructor); done) rfl rfl rfl (by simp only [setRange, List.setIfInBounds_toArray, List.set_cons_zero, List.set_cons_succ, Nat.zero_add]; rfl)) (fun _ => ?_)
   refine ho_nil ?_
   refine hx_then ?_
   refine ht_ret ?_
   refine hx_freezeS (α := Rf.RPend) (xs := [] ++ r.L ++ [(⟨pk, pf, pb⟩ : Rf.RPend)]) (by (with_reducible repeat constructor); done) ?_
   exact hx_ret1A (.inl rfl) rfl rfl Tryd.underlying49 Tryd.ty49 rfl (cells_pt (by (with_reducible repeat constructor); done) (Nat.le_of_ble_eq_true rfl) rfl) (⟨y.1, y.2, x.ga, x.gc, p11.1, p11.2⟩ : RX) rfl (Ent.rd3 (r := r.put ⟨pk, pf, pb⟩) (by (repeat constructor); done) (by (repeat constructor); done) (by (repeat constructor); done) rfl rfl rfl rfl rfl rfl (Ent.cons (by (repeat constructor); done) Ent.nil))
  ·skip
   refine hd_eff rfl rfl rfl rfl rfl (eff_buildAll (α := Rf.RPend) [(⟨pk, pf, pb⟩ : Rf.RPend)] rfl Tryd.underlying47 Tryd.ty109 (.cons rfl .nil) (.cons rfl .nil) rfl (Nat.le_of_ble_eq_true rfl)) (fun _ => by (refine FL.skip rfl ?_); (refine FL.ev rfl (EvG.of rfl (ev_load rfl Tryd.underlying47 rfl rfl (by first | exact cell_pt (by (with_reducible repeat constructor); done) rfl | exact cell_ro (by (with_reducible repeat constructor); done) rfl))) ?_); (refine FL.ev rfl (EvG.of rfl (by first | exact ev_fieldAddr0 rfl Tryd.fld49_4 rfl | exact ev_fieldAddr rfl Tryd.fld49_4 rfl)) ?_); exact FL.nil) (fun b10 => ?_)
   refine hd_eff rfl rfl rfl rfl rfl (eff_append (α := Rf.RPend) rfl Tryd.underlying47 Tryd.ty109 rfl (by decide) Tryd.underlying47 rfl rfl (by (with_reducible repeat constructor); done) (by first | exact reads_ro (by (with_reducible repeat constructor); done) | exact reads_own (by (with_reducible repeat constructor); done) | exact reads_nil _) (by first | omega | (simp only [List.length_append, List.length_cons, List.length_nil, List.length_drop, List.length_take]; omega) | (simp; omega))) (fun _ => by (refine FL.ev rfl (EvG.of rfl (ev_loadA rfl Tryd.underlying109 Tryd.ty109 rfl rfl (by first | exact cells_pt (by (with_reducible repeat constructor); done) (Nat.le_of_ble_eq_true rfl) (by simp only [List.extract_toArray, List.extract_eq_take_drop, Nat.zero_add, Nat.sub_zero, Nat.add_sub_cancel_left, List.drop_zero, List.take_succ_cons, List.take_zero, List.drop_succ_cons] <;> rfl) | exact cells_ro (by (with_reducible repeat constructor); done) (Nat.le_of_ble_eq_true rfl) (by simp only [List.extract_toArray, List.extract_eq_take_drop, Nat.zero_add, Nat.sub_zero, Nat.add_sub_cancel_left, List.drop_zero, List.take_succ_cons, List.take_zero, List.drop_succ_cons] <;> rfl)))) ?_); (refine FL.skip rfl ?_); (refine FL.skip rfl ?_); exact FL.nil) (fun p8 => ?_)
   refine hd_eff rfl rfl rfl rfl rfl (eff_append (α := Rf.RPend) rfl Tryd.underlying47 Tryd.ty109 rfl (by decide) Tryd.underlying47 rfl rfl (by (with_reducible repeat constructor); done) (by first | exact reads_ro (by (with_reducible repeat constructor); done) | exact reads_own (by (with_reducible repeat constructor); done) | exact reads_nil _) (by first | omega | (simp only [List.length_append, List.length_cons, List.length_nil, List.length_drop, List.length_take]; omega) | (simp; omega))) (fun _ => by (refine FL.skip rfl ?_); (refine FL.skip rfl ?_); (refine FL.skip rfl ?_); exact FL.nil) (fun p11 => ?_)
   refine hd_ev rfl rfl rfl rfl (EvG.of rfl (by first | exact ev_fieldAddr0 rfl Tryd.fld49_4 rfl | exact ev_fieldAddr rfl Tryd.fld49_4 rfl)) ?_
   refine hd_eff0 rfl rfl rfl rfl (eff_store1 rfl Tryd.ty47 rfl rfl (by (with_reducible repeat constructor); done) rfl rfl (lt_of_blt rfl) (by simp only [List.setIfInBounds_toArray, List.set_cons_zero, List.set_cons_succ]; rfl)) (fun _ => by (refine FL.skip rfl ?_); (refine FL.skip rfl ?_); (refine FL.skip rfl ?_); (refine FL.skip rfl ?_); exact FL.nil) (fun _ => ?_)
   refine hd_nil ?_
   refine hx_then ?_
   refine ht_seq ?_
   refine ht_region ?_
   refine ho_ev rfl rfl rfl (by first | exact ev_fieldAddr0 rfl Tryd.fld49_2 rfl | exact ev_fieldAddr rfl Tryd.fld49_2 rfl) ?_
   refine ho_ev rfl rfl rfl (ev_load rfl Tryd.underlying46 rfl rfl (by first | exact cell_pt (by (with_reducible repeat constructor); done) rfl | exact cell_ro (by (with_reducible repeat constructor); done) rfl)) ?_
   refine ho_ev rfl rfl rfl (ev_loadA rfl Tryd.underlying109 Tryd.ty109 rfl rfl (by first | exact cells_pt (by (with_reducible repeat constructor); done) (Nat.le_of_ble_eq_true rfl) (by simp only [List.extract_toArray, List.extract_eq_take_drop, Nat.zero_add, Nat.sub_zero, Nat.add_sub_cancel_left, List.drop_zero, List.take_succ_cons, List.take_zero, List.drop_succ_cons] <;> rfl) | exact cells_ro (by (with_reducible repeat constructor); done) (Nat.le_of_ble_eq_true rfl) (by simp only [List.extract_toArray, List.extract_eq_take_drop, Nat.zero_add, Nat.sub_zero, Nat.add_sub_cancel_left, List.drop_zero, List.take_succ_cons, List.take_zero, List.drop_succ_cons] <;> rfl))) ?_
   refine ho_ev rfl rfl rfl (by first | exact ev_fieldAddr0 rfl Tryd.fld109_2 rfl | exact ev_fieldAddr rfl Tryd.fld109_2 rfl) ?_
   refine ho_ev rfl rfl rfl (ev_load rfl Tryd.underlying9 rfl rfl (by first | exact cell_pt (by (with_reducible repeat constructor); done) rfl | exact cell_ro (by (with_reducible repeat constructor); done) rfl)) ?_
   refine ho_ev rfl rfl rfl (ev_lenS rfl Tryd.underlying9 rfl) ?_
   refine ho_eff rfl rfl rfl (eff_call rfl rfl (.cons rfl (.cons rfl (.cons rfl .nil))) rfl (rf_done x.va x.vc r.view pk pf pb pb.length h1 hpb hold) (by repeat (first | exact Picks.nil | (apply Picks.ro; focus ((repeat constructor); done)) | (apply Picks.cons; focus ((repeat constructor); done)))) (fun _ => by repeat (first | exact App.nil | apply App.cons))) (fun y => ?_)
   refine ho_ev rfl rfl rfl (by first | exact ev_fieldAddr0 rfl Tryd.fld49_2 rfl | exact ev_fieldAddr rfl Tryd.fld49_2 rfl) ?_
   refine ho_eff0 rfl rfl (eff_store1 rfl Tryd.ty46 rfl rfl (by (with_reducible repeat constructor); done) rfl rfl (lt_of_blt rfl) (by simp only [List.setIfInBounds_toArray, List.set_cons_zero, List.set_cons_succ]; rfl)) (fun _ => ?_)
   refine ho_nil ?_
   refine hx_then ?_
   refine ht_seq ?_
   refine ht_region ?_
   refine ho_ev rfl rfl rfl (ev_loadA rfl Tryd.underlying49 Tryd.ty49 rfl rfl (by first | exact cells_pt (by (with_reducible repeat constructor); done) (Nat.le_of_ble_eq_true rfl) (by simp only [List.extract_toArray, List.extract_eq_take_drop, Nat.zero_add, Nat.sub_zero, Nat.add_sub_cancel_left, List.drop_zero, List.take_succ_cons, List.take_zero, List.drop_succ_cons] <;> rfl) | exact cells_ro (by (with_reducible repeat constructor); done) (Nat.le_of_ble_eq_true rfl) (by simp only [List.extract_toArray, List.extract_eq_take_drop, Nat.zero_add, Nat.sub_zero, Nat.add_sub_cancel_left, List.drop_zero, List.take_succ_cons, List.take_zero, List.drop_succ_cons] <;> rfl))) ?_
   refine ho_eff0 rfl rfl (eff_storeA rfl Tryd.ty49 rfl rfl (by (with_reducible repeat constructor); done) rfl rfl rfl (by simp only [setRange, List.setIfInBounds_toArray, List.set_cons_zero, List.set_cons_succ, Nat.zero_add]; rfl)) (fun _ => ?_)
   refine ho_nil ?_
   refine hx_then ?_
   refine ht_ret ?_
   refine hx_freezeS (α := Rf.RPend) (xs := [] ++ r.L ++ [(⟨pk, pf, pb⟩ : Rf.RPend)]) (by (with_reducible repeat constructor); done) ?_
   exact hx_ret1A (.inl rfl) rfl rfl Tryd.underlying49 Tryd.ty49 rfl (cells_pt (by (with_reducible repeat constructor); done) (Nat.le_of_ble_eq_true rfl) rfl) (⟨y.1, y.2, x.ga, x.gc, p11.1, p11.2⟩ : RX) rfl (Ent.rd3 (r := r.put ⟨pk, pf, pb⟩) (by (repeat constructor); done) (by (repeat constructor); done) (by (repeat constructor); done) rfl rfl rfl rfl rfl rfl (Ent.cons (by (repeat constructor); done) Ent.nil))
 ·skip
  refine hd_eff rfl rfl rfl rfl rfl (eff_buildAll (α := Rf.RPend) [(⟨pk, pf, pb⟩ : Rf.RPend)] rfl Tryd.underlying47 Tryd.ty109 (.cons rfl .nil) (.cons rfl .nil) rfl (Nat.le_of_ble_eq_true rfl)) (fun _ => by (refine FL.skip rfl ?_); (refine FL.ev rfl (EvG.of rfl (ev_load rfl Tryd.underlying47 rfl rfl (by first | exact cell_pt (by (with_reducible repeat constructor); done) rfl | exact cell_ro (by (with_reducible repeat constructor); done) rfl))) ?_); (refine FL.ev rfl (EvG.of rfl (by first | exact ev_fieldAddr0 rfl Tryd.fld49_4 rfl | exact ev_fieldAddr rfl Tryd.fld49_4 rfl)) ?_); exact FL.nil) (fun b10 => ?_)
  refine hd_eff rfl rfl rfl rfl rfl (eff_buildAll (α := Rf.RPend) [] rfl Tryd.underlying47 Tryd.ty109 .nil .nil rfl (Nat.le_of_ble_eq_true rfl)) (fun _ => by (refine FL.ev rfl (EvG.of rfl (ev_loadA rfl Tryd.underlying109 Tryd.ty109 rfl rfl (by first | exact cells_pt (by (with_reducible repeat constructor); done) (Nat.le_of_ble_eq_true rfl) (by simp only [List.extract_toArray, List.extract_eq_take_drop, Nat.zero_add, Nat.sub_zero, Nat.add_sub_cancel_left, List.drop_zero, List.take_succ_cons, List.take_zero, List.drop_succ_cons] <;> rfl) | exact cells_ro (by (with_reducible repeat constructor); done) (Nat.le_of_ble_eq_true rfl) (by simp only [List.extract_toArray, List.extract_eq_take_drop, Nat.zero_add, Nat.sub_zero, Nat.add_sub_cancel_left, List.drop_zero, List.take_succ_cons, List.take_zero, List.drop_succ_cons] <;> rfl)))) ?_); (refine FL.ev rfl (EvG.of rfl (ev_load rfl Tryd.underlying47 rfl rfl (by first | exact cell_pt (by (with_reducible repeat constructor); done) rfl | exact cell_ro (by (with_reducible repeat constructor); done) rfl))) ?_); (refine FL.ev rfl (EvG.of rfl (by first | exact ev_fieldAddr0 rfl Tryd.fld49_4 rfl | exact ev_fieldAddr rfl Tryd.fld49_4 rfl)) ?_); exact FL.nil) (fun b5 => ?_)
  refine hd_eff rfl rfl rfl rfl rfl (eff_append (α := Rf.RPend) rfl Tryd.underlying47 Tryd.ty109 rfl (by decide) Tryd.underlying47 rfl rfl (by (with_reducible repeat constructor); done) (by first | exact reads_ro (by (with_reducible repeat constructor); done) | exact reads_own (by (with_reducible repeat constructor); done) | exact reads_nil _) (by first | omega | (simp only [List.length_append, List.length_cons, List.length_nil, List.length_drop, List.length_take]; omega) | (simp; omega))) (fun _ => by (refine FL.ev rfl (EvG.of rfl (ev_loadA rfl Tryd.underlying109 Tryd.ty109 rfl rfl (by first | exact cells_pt (by (with_reducible repeat constructor); done) (Nat.le_of_ble_eq_true rfl) (by simp only [List.extract_toArray, List.extract_eq_take_drop, Nat.zero_add, Nat.sub_zero, Nat.add_sub_cancel_left, List.drop_zero, List.take_succ_cons, List.take_zero, List.drop_succ_cons] <;> rfl) | exact cells_ro (by (with_reducible repeat constructor); done) (Nat.le_of_ble_eq_true rfl) (by simp only [List.extract_toArray, List.extract_eq_take_drop, Nat.zero_add, Nat.sub_zero, Nat.add_sub_cancel_left, List.drop_zero, List.take_succ_cons, List.take_zero, List.drop_succ_cons] <;> rfl)))) ?_); (refine FL.skip rfl ?_); (refine FL.skip rfl ?_); exact FL.nil) (fun p8 => ?_)
  refine hd_eff rfl rfl rfl rfl rfl (eff_append (α := Rf.RPend) rfl Tryd.underlying47 Tryd.ty109 rfl (by decide) Tryd.underlying47 rfl rfl (by (with_reducible repeat constructor); done) (by first | exact reads_ro (by (with_reducible repeat constructor); done) | exact reads_own (by (with_reducible repeat constructor); done) | exact reads_nil _) (by first | omega | (simp only [List.length_append, List.length_cons, List.length_nil, List.length_drop, List.length_take]; omega) | (simp; omega))) (fun _ => by (refine FL.skip rfl ?_); (refine FL.skip rfl ?_); (refine FL.skip rfl ?_); exact FL.nil) (fun p11 => ?_)
  refine hd_ev rfl rfl rfl rfl (EvG.of rfl (by first | exact ev_fieldAddr0 rfl Tryd.fld49_4 rfl | exact ev_fieldAddr rfl Tryd.fld49_4 rfl)) ?_
  refine hd_eff0 rfl rfl rfl rfl (eff_store1 rfl Tryd.ty47 rfl rfl (by (with_reducible repeat constructor); done) rfl rfl (lt_of_blt rfl) (by simp only [List.setIfInBounds_toArray, List.set_cons_zero, List.set_cons_succ]; rfl)) (fun _ => by (refine FL.skip rfl ?_); (refine FL.skip rfl ?_); (refine FL.skip rfl ?_); (refine FL.skip rfl ?_); exact FL.nil) (fun _ => ?_)
  refine hd_nil ?_
  refine hx_then ?_
  refine ht_seq ?_
  refine ht_region ?_
  refine ho_ev rfl rfl rfl (by first | exact ev_fieldAddr0 rfl Tryd.fld49_2 rfl | exact ev_fieldAddr rfl Tryd.fld49_2 rfl) ?_
  refine ho_ev rfl rfl rfl (ev_load rfl Tryd.underlying46 rfl rfl (by first | exact cell_pt (by (with_reducible repeat constructor); done) rfl | exact cell_ro (by (with_reducible repeat constructor); done) rfl)) ?_
  refine ho_ev rfl rfl rfl (ev_loadA rfl Tryd.underlying109 Tryd.ty109 rfl rfl (by first | exact cells_pt (by (with_reducible repeat constructor); done) (Nat.le_of_ble_eq_true rfl) (by simp only [List.extract_toArray, List.extract_eq_take_drop, Nat.zero_add, Nat.sub_zero, Nat.add_sub_cancel_left, List.drop_zero, List.take_succ_cons, List.take_zero, List.drop_succ_cons] <;> rfl) | exact cells_ro (by (with_reducible repeat constructor); done) (Nat.le_of_ble_eq_true rfl) (by simp only [List.extract_toArray, List.extract_eq_take_drop, Nat.zero_add, Nat.sub_zero, Nat.add_sub_cancel_left, List.drop_zero, List.take_succ_cons, List.take_zero, List.drop_succ_cons] <;> rfl))) ?_
  refine ho_ev rfl rfl rfl (by first | exact ev_fieldAddr0 rfl Tryd.fld109_2 rfl | exact ev_fieldAddr rfl Tryd.fld109_2 rfl) ?_
  refine ho_ev rfl rfl rfl (ev_load rfl Tryd.underlying9 rfl rfl (by first | exact cell_pt (by (with_reducible repeat constructor); done) rfl | exact cell_ro (by (with_reducible repeat constructor); done) rfl)) ?_
  refine ho_ev rfl rfl rfl (ev_lenS rfl Tryd.underlying9 rfl) ?_
  refine ho_eff rfl rfl rfl (eff_call rfl rfl (.cons rfl (.cons rfl (.cons rfl .nil))) rfl (rf_done x.va x.vc r.view pk pf pb pb.length h1 hpb hold) (by repeat (first | exact Picks.nil | (apply Picks.ro; focus ((repeat constructor); done)) | (apply Picks.cons; focus ((repeat constructor); done)))) (fun _ => by repeat (first | exact App.nil | apply App.cons))) (fun y => ?_)
  refine ho_ev rfl rfl rfl (by first | exact ev_fieldAddr0 rfl Tryd.fld49_2 rfl | exact ev_fieldAddr rfl Tryd.fld49_2 rfl) ?_
  refine ho_eff0 rfl rfl (eff_store1 rfl Tryd.ty46 rfl rfl (by (with_reducible repeat constructor); done) rfl rfl (lt_of_blt rfl) (by simp only [List.setIfInBounds_toArray, List.set_cons_zero, List.set_cons_succ]; rfl)) (fun _ => ?_)
  refine ho_nil ?_
  refine hx_then ?_
  refine ht_seq ?_
  refine ht_region ?_
  refine ho_ev rfl rfl rfl (ev_loadA rfl Tryd.underlying49 Tryd.ty49 rfl rfl (by first | exact cells_pt (by (with_reducible repeat constructor); done) (Nat.le_of_ble_eq_true rfl) (by simp only [List.extract_toArray, List.extract_eq_take_drop, Nat.zero_add, Nat.sub_zero, Nat.add_sub_cancel_left, List.drop_zero, List.take_succ_cons, List.take_zero, List.drop_succ_cons] <;> rfl) | exact cells_ro (by (with_reducible repeat constructor); done) (Nat.le_of_ble_eq_true rfl) (by simp only [List.extract_toArray, List.extract_eq_take_drop, Nat.zero_add, Nat.sub_zero, Nat.add_sub_cancel_left, List.drop_zero, List.take_succ_cons, List.take_zero, List.drop_succ_cons] <;> rfl))) ?_
  refine ho_eff0 rfl rfl (eff_storeA rfl Tryd.ty49 rfl rfl (by (with_reducible repeat constructor); done) rfl rfl rfl (by simp only [setRange, List.setIfInBounds_toArray, List.set_cons_zero, List.set_cons_succ, Nat.zero_add]; rfl)) (fun _ => ?_)
  refine ho_nil ?_
  refine hx_then ?_
  refine ht_ret ?_
  refine hx_freezeS (α := Rf.RPend) (xs := [] ++ r.L ++ [(⟨pk, pf, pb⟩ : Rf.RPend)]) (by (with_reducible repeat constructor); done) ?_
  exact hx_ret1A (.inl rfl) rfl rfl Tryd.underlying49 Tryd.ty49 rfl (cells_pt (by (with_reducible repeat constructor); done) (Nat.le_of_ble_eq_true rfl) rfl) (⟨y.1, y.2, x.ga, x.gc, p11.1, p11.2⟩ : RX) rfl (Ent.rd3 (r := r.put ⟨pk, pf, pb⟩) (by (repeat constructor); done) (by (repeat constructor); done) (by (repeat constructor); done) rfl rfl rfl rfl rfl rfl (Ent.cons (by (repeat constructor); done) Ent.nil))
theorem rf_Write (r : Rf.RDisk) (x : RX) (k : Int) (b : List UInt8) (h1 : r.view.length ≤ 1000000) (h2 : r.L.length ≤ 1000000) (hold : ((Rf.rfind r.view k).getD []).length ≤ 1099511627776) : Ctr Tryd.prog 45 #[rdV r x, .int .i64 k, vS b] [ro (rdR r x)] (fun y : RX => .tuple #[rdV (r.write k b) y, .int .i64 (r.werr k b)]) (fun y => [ro (rdR (r.write k b) y)]) := by
 refine fn_intro Tryd.func45 rfl rfl Tryd.ntmps45 (Nat.le_of_ble_eq_true rfl) (fun _ => by repeat (first | exact App.nil | apply App.cons)) (fun κ F => ?_)
 refine ht_rd3 (by (with_reducible repeat constructor); done) ?_
 refine ht_seq ?_
 refine ht_region ?_
 refine ho_eff rfl rfl rfl (eff_boxA rfl rfl) (fun b3 => ?_)
 refine ho_eff rfl rfl rfl (eff_alloc rfl Tryd.ty49 (by first | exact cells_agg _ | exact rfl)) (fun b6 => ?_)
 refine ho_ev rfl rfl rfl (ev_assign rfl rfl) ?_
 refine ho_nil ?_
 refine hx_then ?_
 refine ht_seq ?_
 refine ht_seq ?_
 refine ht_region ?_
 refine ho_ev rfl rfl rfl (ev_move rfl rfl) ?_
 refine ho_lt rfl rfl rfl rfl rfl rfl (fun g1 => ?_) (fun g1 => ?_)
 ·skip
  refine ho_ev rfl rfl rfl (ev_move rfl rfl) ?_
  refine ho_pass rfl rfl rfl rfl ?_
  refine ho_pass rfl rfl rfl rfl ?_
  refine ho_pass rfl rfl rfl rfl ?_
  refine ho_pass rfl rfl rfl rfl ?_
  refine ho_ev rfl rfl rfl (ev_pick_t rfl rfl rfl) ?_
  refine ho_nil ?_
  refine hx_then ?_
  refine ht_then rfl ?_
  refine ht_seq ?_
  refine ht_region ?_
  refine ho_ev rfl rfl rfl (ev_loadA rfl Tryd.underlying49 Tryd.ty49 rfl rfl (by first | exact cells_pt (by (with_reducible repeat constructor); done) (Nat.le_of_ble_eq_true rfl) (by simp only [List.extract_toArray, List.extract_eq_take_drop, Nat.zero_add, Nat.sub_zero, Nat.add_sub_cancel_left, List.drop_zero, List.take_succ_cons, List.take_zero, List.drop_succ_cons] <;> rfl) | exact cells_ro (by (with_reducible repeat constructor); done) (Nat.le_of_ble_eq_true rfl) (by simp only [List.extract_toArray, List.extract_eq_take_drop, Nat.zero_add, Nat.sub_zero, Nat.add_sub_cancel_left, List.drop_zero, List.take_succ_cons, List.take_zero, List.drop_succ_cons] <;> rfl))) ?_
  refine ho_eff0 rfl rfl (eff_storeA rfl Tryd.ty49 rfl rfl (by (with_reducible repeat constructor); done) rfl rfl rfl (by simp only [setRange, List.setIfInBounds_toArray, List.set_cons_zero, List.set_cons_succ, Nat.zero_add]; rfl)) (fun _ => ?_)
  refine ho_ev rfl rfl rfl (ev_assign rfl rfl) ?_
  refine ho_nil ?_
  refine hx_then ?_
  refine ht_ret ?_
  refine hx_through trivial ?_
  have hw : r.werr k b = 61 := by unfold Rf.RDisk.werr; rw [if_pos (by omega)]
  have hr : r.write k b = r := by unfold Rf.RDisk.write; rw [if_neg (by omega)]
  rw [hr, hw]
  exact hx_ret2A (.inl rfl) rfl rfl rfl Tryd.underlying49 Tryd.ty49 rfl (cells_pt (by (with_reducible repeat constructor); done) (Nat.le_of_ble_eq_true rfl) rfl) x rfl (Ent.rd3 (r := r) (by (repeat constructor); done) (by (repeat constructor); done) (by (repeat constructor); done) rfl rfl rfl rfl rfl rfl (Ent.cons (by (repeat constructor); done) Ent.nil))
 ·skip
  refine ho_ev rfl rfl rfl (ev_move rfl rfl) ?_
  refine ho_evg rfl rfl rfl rfl (ev_move rfl rfl) ?_
  refine ho_evg rfl rfl rfl rfl (by first | exact ev_fieldAddr0 rfl Tryd.fld49_0 rfl | exact ev_fieldAddr rfl Tryd.fld49_0 rfl) ?_
  refine ho_evg rfl rfl rfl rfl (ev_load rfl Tryd.underlying3 rfl rfl (by first | exact cell_pt (by (with_reducible repeat constructor); done) rfl | exact cell_ro (by (with_reducible repeat constructor); done) rfl)) ?_
  refine ho_geg rfl rfl rfl rfl rfl rfl rfl (fun g2 => ?_) (fun g2 => ?_)
  ·skip
   refine ho_ev rfl rfl rfl (ev_pick_f rfl rfl rfl) ?_
   refine ho_nil ?_
   refine hx_then ?_
   refine ht_then rfl ?_
   refine ht_seq ?_
   refine ht_region ?_
   refine ho_ev rfl rfl rfl (ev_loadA rfl Tryd.underlying49 Tryd.ty49 rfl rfl (by first | exact cells_pt (by (with_reducible repeat constructor); done) (Nat.le_of_ble_eq_true rfl) (by simp only [List.extract_toArray, List.extract_eq_take_drop, Nat.zero_add, Nat.sub_zero, Nat.add_sub_cancel_left, List.drop_zero, List.take_succ_cons, List.take_zero, List.drop_succ_cons] <;> rfl) | exact cells_ro (by (with_reducible repeat constructor); done) (Nat.le_of_ble_eq_true rfl) (by simp only [List.extract_toArray, List.extract_eq_take_drop, Nat.zero_add, Nat.sub_zero, Nat.add_sub_cancel_left, List.drop_zero, List.take_succ_cons, List.take_zero, List.drop_succ_cons] <;> rfl))) ?_
   refine ho_eff0 rfl rfl (eff_storeA rfl Tryd.ty49 rfl rfl (by (with_reducible repeat constructor); done) rfl rfl rfl (by simp only [setRange, List.setIfInBounds_toArray, List.set_cons_zero, List.set_cons_succ, Nat.zero_add]; rfl)) (fun _ => ?_)
   refine ho_ev rfl rfl rfl (ev_assign rfl rfl) ?_
   refine ho_nil ?_
   refine hx_then ?_
   refine ht_ret ?_
   refine hx_through trivial ?_
   have hw : r.werr k b = 61 := by unfold Rf.RDisk.werr; rw [if_pos (by omega)]
   have hr : r.write k b = r := by unfold Rf.RDisk.write; rw [if_neg (by omega)]
   rw [hr, hw]
   exact hx_ret2A (.inl rfl) rfl rfl rfl Tryd.underlying49 Tryd.ty49 rfl (cells_pt (by (with_reducible repeat constructor); done) (Nat.le_of_ble_eq_true rfl) rfl) x rfl (Ent.rd3 (r := r) (by (repeat constructor); done) (by (repeat constructor); done) (by (repeat constructor); done) rfl rfl rfl rfl rfl rfl (Ent.cons (by (repeat constructor); done) Ent.nil))
  ·skip
   refine ho_ev rfl rfl rfl (ev_pick_f rfl rfl rfl) ?_
   refine ho_nil ?_
   refine hx_then ?_
   refine ht_else rfl ?_
   refine ht_skip ?_
   refine hx_then ?_
   refine ht_seq ?_
   refine ht_seq ?_
   refine ht_region ?_
   refine ho_ev rfl rfl rfl (ev_move rfl rfl) ?_
   refine ho_ev rfl rfl rfl (ev_lenS rfl Tryd.underlying9 rfl) ?_
   refine ho_gt rfl rfl rfl rfl rfl rfl (fun g3 => ?_) (fun g3 => ?_)
   ·skip
    refine ho_nil ?_
    refine hx_then ?_
    refine ht_then rfl ?_
    refine ht_seq ?_
    refine ht_region ?_
    refine ho_ev rfl rfl rfl (ev_loadA rfl Tryd.underlying49 Tryd.ty49 rfl rfl (by first | exact cells_pt (by (with_reducible repeat constructor); done) (Nat.le_of_ble_eq_true rfl) (by simp only [List.extract_toArray, List.extract_eq_take_drop, Nat.zero_add, Nat.sub_zero, Nat.add_sub_cancel_left, List.drop_zero, List.take_succ_cons, List.take_zero, List.drop_succ_cons] <;> rfl) | exact cells_ro (by (with_reducible repeat constructor); done) (Nat.le_of_ble_eq_true rfl) (by simp only [List.extract_toArray, List.extract_eq_take_drop, Nat.zero_add, Nat.sub_zero, Nat.add_sub_cancel_left, List.drop_zero, List.take_succ_cons, List.take_zero, List.drop_succ_cons] <;> rfl))) ?_
    refine ho_eff0 rfl rfl (eff_storeA rfl Tryd.ty49 rfl rfl (by (with_reducible repeat constructor); done) rfl rfl rfl (by simp only [setRange, List.setIfInBounds_toArray, List.set_cons_zero, List.set_cons_succ, Nat.zero_add]; rfl)) (fun _ => ?_)
    refine ho_ev rfl rfl rfl (ev_assign rfl rfl) ?_
    refine ho_nil ?_
    refine hx_then ?_
    refine ht_ret ?_
    refine hx_through trivial ?_
    have hw : r.werr k b = 62 := by unfold Rf.RDisk.werr; rw [if_neg (by omega), if_pos (by omega)]
    have hr : r.write k b = r := by unfold Rf.RDisk.write; rw [if_neg (by omega)]
    rw [hr, hw]
    exact hx_ret2A (.inl rfl) rfl rfl rfl Tryd.underlying49 Tryd.ty49 rfl (cells_pt (by (with_reducible repeat constructor); done) (Nat.le_of_ble_eq_true rfl) rfl) x rfl (Ent.rd3 (r := r) (by (repeat constructor); done) (by (repeat constructor); done) (by (repeat constructor); done) rfl rfl rfl rfl rfl rfl (Ent.cons (by (repeat constructor); done) Ent.nil))
   ·skip
    refine ho_nil ?_
    refine hx_then ?_
    refine ht_else rfl ?_
    refine ht_skip ?_
    refine hx_then ?_
    refine ht_seq ?_
    refine ht_seq ?_
    refine ht_region ?_
    refine ho_ev rfl rfl rfl (by first | exact ev_fieldAddr0 rfl Tryd.fld49_2 rfl | exact ev_fieldAddr rfl Tryd.fld49_2 rfl) ?_
    refine ho_ev rfl rfl rfl (ev_load rfl Tryd.underlying46 rfl rfl (by first | exact cell_pt (by (with_reducible repeat constructor); done) rfl | exact cell_ro (by (with_reducible repeat constructor); done) rfl)) ?_
    refine ho_ev rfl rfl rfl (ev_move rfl rfl) ?_
    refine ho_eff rfl rfl rfl (eff_call rfl rfl (.cons rfl (.cons rfl .nil)) rfl (rf_Find x.va x.vc r.view k h1) (by repeat (first | exact Picks.nil | (apply Picks.ro; focus ((repeat constructor); done)) | (apply Picks.cons; focus ((repeat constructor); done)))) (fun _ => by repeat (first | exact App.nil | apply App.cons))) (fun _ => ?_)
    refine ho_ev rfl rfl rfl (ev_move rfl rfl) ?_
    refine ho_ev rfl rfl rfl (ev_extract rfl rfl rfl) ?_
    refine ho_ev rfl rfl rfl (ev_extract rfl rfl rfl) ?_
    refine ho_ev rfl rfl rfl (ev_assign rfl rfl) ?_
    refine ho_ev rfl rfl rfl (ev_assign rfl rfl) ?_
    refine ho_nil ?_
    refine hx_then ?_
    refine ht_seq ?_
    rcases hf : Rf.rfind r.view k with _ | old
    ·skip
     refine ht_region ?_
     refine ho_ev rfl rfl rfl (ev_move rfl rfl) ?_
     refine ho_ev rfl rfl rfl (ev_not rfl rfl) ?_
     refine ho_ev rfl rfl rfl (ev_move rfl rfl) ?_
     refine ho_evg rfl rfl rfl rfl (by first | exact ev_fieldAddr0 rfl Tryd.fld49_2 rfl | exact ev_fieldAddr rfl Tryd.fld49_2 rfl) ?_
     refine ho_evg rfl rfl rfl rfl (ev_load rfl Tryd.underlying46 rfl rfl (by first | exact cell_pt (by (with_reducible repeat constructor); done) rfl | exact cell_ro (by (with_reducible repeat constructor); done) rfl)) ?_
     refine ho_evg rfl rfl rfl rfl (ev_lenSl rfl Tryd.underlying46 rfl) ?_
     refine ho_evg rfl rfl rfl rfl (by first | exact ev_fieldAddr0 rfl Tryd.fld49_1 rfl | exact ev_fieldAddr rfl Tryd.fld49_1 rfl) ?_
     refine ho_evg rfl rfl rfl rfl (ev_load rfl Tryd.underlying3 rfl rfl (by first | exact cell_pt (by (with_reducible repeat constructor); done) rfl | exact cell_ro (by (with_reducible repeat constructor); done) rfl)) ?_
     refine ho_geg rfl rfl rfl rfl rfl rfl rfl (fun g4 => ?_) (fun g4 => ?_)
     ·skip
      refine ho_ev rfl rfl rfl (ev_pick_t rfl rfl rfl) ?_
      refine ho_nil ?_
      refine hx_then ?_
      refine ht_then rfl ?_
      refine ht_seq ?_
      refine ht_region ?_
      refine ho_ev rfl rfl rfl (ev_loadA rfl Tryd.underlying49 Tryd.ty49 rfl rfl (by first | exact cells_pt (by (with_reducible repeat constructor); done) (Nat.le_of_ble_eq_true rfl) (by simp only [List.extract_toArray, List.extract_eq_take_drop, Nat.zero_add, Nat.sub_zero, Nat.add_sub_cancel_left, List.drop_zero, List.take_succ_cons, List.take_zero, List.drop_succ_cons] <;> rfl) | exact cells_ro (by (with_reducible repeat constructor); done) (Nat.le_of_ble_eq_true rfl) (by simp only [List.extract_toArray, List.extract_eq_take_drop, Nat.zero_add, Nat.sub_zero, Nat.add_sub_cancel_left, List.drop_zero, List.take_succ_cons, List.take_zero, List.drop_succ_cons] <;> rfl))) ?_
      refine ho_eff0 rfl rfl (eff_storeA rfl Tryd.ty49 rfl rfl (by (with_reducible repeat constructor); done) rfl rfl rfl (by simp only [setRange, List.setIfInBounds_toArray, List.set_cons_zero, List.set_cons_succ, Nat.zero_add]; rfl)) (fun _ => ?_)
      refine ho_ev rfl rfl rfl (ev_assign rfl rfl) ?_
      refine ho_nil ?_
      refine hx_then ?_
      refine ht_ret ?_
      refine hx_through trivial ?_
      have hw : r.werr k b = 63 := by unfold Rf.RDisk.werr; rw [if_neg (by omega), if_neg (by omega), if_pos ⟨hf, by omega⟩]
      have hr : r.write k b = r := by unfold Rf.RDisk.write; rw [if_neg (by omega)]
      rw [hr, hw]
      exact hx_ret2A (.inl rfl) rfl rfl rfl Tryd.underlying49 Tryd.ty49 rfl (cells_pt (by (with_reducible repeat constructor); done) (Nat.le_of_ble_eq_true rfl) rfl) x rfl (Ent.rd3 (r := r) (by (repeat constructor); done) (by (repeat constructor); done) (by (repeat constructor); done) rfl rfl rfl rfl rfl rfl (Ent.cons (by (repeat constructor); done) Ent.nil))
     ·skip
      refine ho_ev rfl rfl rfl (ev_pick_t rfl rfl rfl) ?_
      refine ho_nil ?_
      refine hx_then ?_
      refine ht_else rfl ?_
      refine ht_skip ?_
      refine hx_then ?_
      refine ht_seq ?_
      refine ht_region ?_
      refine ho_ev rfl rfl rfl (ev_loadA rfl Tryd.underlying49 Tryd.ty49 rfl rfl (by first | exact cells_pt (by (with_reducible repeat constructor); done) (Nat.le_of_ble_eq_true rfl) (by simp only [List.extract_toArray, List.extract_eq_take_drop, Nat.zero_add, Nat.sub_zero, Nat.add_sub_cancel_left, List.drop_zero, List.take_succ_cons, List.take_zero, List.drop_succ_cons] <;> rfl) | exact cells_ro (by (with_reducible repeat constructor); done) (Nat.le_of_ble_eq_true rfl) (by simp only [List.extract_toArray, List.extract_eq_take_drop, Nat.zero_add, Nat.sub_zero, Nat.add_sub_cancel_left, List.drop_zero, List.take_succ_cons, List.take_zero, List.drop_succ_cons] <;> rfl))) ?_
      refine ho_ev rfl rfl rfl (ev_move rfl rfl) ?_
      refine ho_ev rfl rfl rfl (ev_move rfl rfl) ?_
      refine ho_ev rfl rfl rfl (ev_build1 (csl := [_, .bool false, _]) rfl Tryd.st109 (.cons rfl (.cons rfl .nil)) (.cons rfl (.cons rfl .nil)) rfl rfl) ?_
      refine ho_eff rfl rfl rfl (eff_call rfl rfl (.cons rfl (.cons rfl .nil)) rfl (rf_put r x k false b h1 h2 (by omega) hold) (by repeat (first | exact Picks.nil | (apply Picks.ro; focus ((repeat constructor); done)) | (apply Picks.cons; focus ((repeat constructor); done)))) (fun _ => by repeat (first | exact App.nil | apply App.cons))) (fun y => ?_)
      refine ho_eff0 rfl rfl (eff_storeA rfl Tryd.ty49 rfl rfl (by (with_reducible repeat constructor); done) rfl rfl rfl (by simp only [setRange, List.setIfInBounds_toArray, List.set_cons_zero, List.set_cons_succ, Nat.zero_add]; rfl)) (fun _ => ?_)
      refine ho_ev rfl rfl rfl (ev_assign rfl rfl) ?_
      refine ho_nil ?_
      refine hx_then ?_
      refine ht_ret ?_
      have hw : r.werr k b = 0 := by
       unfold Rf.RDisk.werr
       rw [if_neg (by omega), if_neg (by omega), if_neg (by rintro ⟨h1, h2⟩; first | omega | (rw [hf] at h1; cases h1))]
      have hr : r.write k b = r.put ⟨k, false, b⟩ := by unfold Rf.RDisk.write; rw [if_pos hw]
      rw [hr, hw]
      exact hx_ret2A (.inl rfl) rfl rfl rfl Tryd.underlying49 Tryd.ty49 rfl (cells_pt (by (with_reducible repeat constructor); done) (Nat.le_of_ble_eq_true rfl) rfl) y rfl (Ent.roD (by (with_reducible repeat constructor); done) (Ent.cons (by (repeat constructor); done) Ent.nil))
    ·skip
     refine ht_region ?_
     refine ho_ev rfl rfl rfl (ev_move rfl rfl) ?_
     refine ho_ev rfl rfl rfl (ev_not rfl rfl) ?_
     refine ho_ev rfl rfl rfl (ev_move rfl rfl) ?_
     refine ho_pass rfl rfl rfl rfl ?_
     refine ho_pass rfl rfl rfl rfl ?_
     refine ho_pass rfl rfl rfl rfl ?_
     refine ho_pass rfl rfl rfl rfl ?_
     refine ho_pass rfl rfl rfl rfl ?_
     refine ho_pass rfl rfl rfl rfl ?_
     refine ho_ev rfl rfl rfl (ev_pick_f rfl rfl rfl) ?_
     refine ho_nil ?_
     refine hx_then ?_
     refine ht_else rfl ?_
     refine ht_skip ?_
     refine hx_then ?_
     refine ht_seq ?_
     refine ht_region ?_
     refine ho_ev rfl rfl rfl (ev_loadA rfl Tryd.underlying49 Tryd.ty49 rfl rfl (by first | exact cells_pt (by (with_reducible repeat constructor); done) (Nat.le_of_ble_eq_true rfl) (by simp only [List.extract_toArray, List.extract_eq_take_drop, Nat.zero_add, Nat.sub_zero, Nat.add_sub_cancel_left, List.drop_zero, List.take_succ_cons, List.take_zero, List.drop_succ_cons] <;> rfl) | exact cells_ro (by (with_reducible repeat constructor); done) (Nat.le_of_ble_eq_true rfl) (by simp only [List.extract_toArray, List.extract_eq_take_drop, Nat.zero_add, Nat.sub_zero, Nat.add_sub_cancel_left, List.drop_zero, List.take_succ_cons, List.take_zero, List.drop_succ_cons] <;> rfl))) ?_
     refine ho_ev rfl rfl rfl (ev_move rfl rfl) ?_
     refine ho_ev rfl rfl rfl (ev_move rfl rfl) ?_
     refine ho_ev rfl rfl rfl (ev_build1 (csl := [_, .bool false, _]) rfl Tryd.st109 (.cons rfl (.cons rfl .nil)) (.cons rfl (.cons rfl .nil)) rfl rfl) ?_
     refine ho_eff rfl rfl rfl (eff_call rfl rfl (.cons rfl (.cons rfl .nil)) rfl (rf_put r x k false b h1 h2 (by omega) hold) (by repeat (first | exact Picks.nil | (apply Picks.ro; focus ((repeat constructor); done)) | (apply Picks.cons; focus ((repeat constructor); done)))) (fun _ => by repeat (first | exact App.nil | apply App.cons))) (fun y => ?_)
     refine ho_eff0 rfl rfl (eff_storeA rfl Tryd.ty49 rfl rfl (by (with_reducible repeat constructor); done) rfl rfl rfl (by simp only [setRange, List.setIfInBounds_toArray, List.set_cons_zero, List.set_cons_succ, Nat.zero_add]; rfl)) (fun _ => ?_)
     refine ho_ev rfl rfl rfl (ev_assign rfl rfl) ?_
     refine ho_nil ?_
     refine hx_then ?_
     refine ht_ret ?_
     have hw : r.werr k b = 0 := by
      unfold Rf.RDisk.werr
      rw [if_neg (by omega), if_neg (by omega), if_neg (by rintro ⟨h1, h2⟩; first | omega | (rw [hf] at h1; cases h1))]
     have hr : r.write k b = r.put ⟨k, false, b⟩ := by unfold Rf.RDisk.write; rw [if_pos hw]
     rw [hr, hw]
     exact hx_ret2A (.inl rfl) rfl rfl rfl Tryd.underlying49 Tryd.ty49 rfl (cells_pt (by (with_reducible repeat constructor); done) (Nat.le_of_ble_eq_true rfl) rfl) y rfl (Ent.roD (by (with_reducible repeat constructor); done) (Ent.cons (by (repeat constructor); done) Ent.nil))
theorem rf_Free (r : Rf.RDisk) (x : RX) (k : Int) (h1 : r.view.length ≤ 1000000) (h2 : r.L.length ≤ 1000000) (hold : ((Rf.rfind r.view k).getD []).length ≤ 1099511627776) : Ctr Tryd.prog 42 #[rdV r x, .int .i64 k] [ro (rdR r x)] (fun y : RX => .tuple #[rdV (r.free k) y, .int .i64 (if (Rf.rfind r.view k).isSome then 0 else 61)]) (fun y => [ro (rdR (r.free k) y)]) := by
 refine fn_intro Tryd.func42 rfl rfl Tryd.ntmps42 (Nat.le_of_ble_eq_true rfl) (fun _ => by repeat (first | exact App.nil | apply App.cons)) (fun κ F => ?_)
 refine ht_rd3 (by (with_reducible repeat constructor); done) ?_
 refine ht_seq ?_
 refine ht_region ?_
 refine ho_eff rfl rfl rfl (eff_boxA rfl rfl) (fun b2 => ?_)
 refine ho_eff rfl rfl rfl (eff_alloc rfl Tryd.ty49 (by first | exact cells_agg _ | exact rfl)) (fun b4 => ?_)
 refine ho_ev rfl rfl rfl (ev_assign rfl rfl) ?_
 refine ho_nil ?_
 refine hx_then ?_
 refine ht_seq ?_
 refine ht_seq ?_
 refine ht_region ?_
 refine ho_ev rfl rfl rfl (by first | exact ev_fieldAddr0 rfl Tryd.fld49_2 rfl | exact ev_fieldAddr rfl Tryd.fld49_2 rfl) ?_
 refine ho_ev rfl rfl rfl (ev_load rfl Tryd.underlying46 rfl rfl (by first | exact cell_pt (by (with_reducible repeat constructor); done) rfl | exact cell_ro (by (with_reducible repeat constructor); done) rfl)) ?_
 refine ho_ev rfl rfl rfl (ev_move rfl rfl) ?_
 refine ho_eff rfl rfl rfl (eff_call rfl rfl (.cons rfl (.cons rfl .nil)) rfl (rf_Find x.va x.vc r.view k h1) (by repeat (first | exact Picks.nil | (apply Picks.ro; focus ((repeat constructor); done)) | (apply Picks.cons; focus ((repeat constructor); done)))) (fun _ => by repeat (first | exact App.nil | apply App.cons))) (fun _ => ?_)
 refine ho_ev rfl rfl rfl (ev_move rfl rfl) ?_
 refine ho_ev rfl rfl rfl (ev_extract rfl rfl rfl) ?_
 refine ho_ev rfl rfl rfl (ev_extract rfl rfl rfl) ?_
 refine ho_ev rfl rfl rfl (ev_assign rfl rfl) ?_
 refine ho_ev rfl rfl rfl (ev_assign rfl rfl) ?_
 refine ho_nil ?_
 refine hx_then ?_
 refine ht_seq ?_
 rcases hf : Rf.rfind r.view k with _ | old
 ·skip
  refine ht_region ?_
  refine ho_ev rfl rfl rfl (ev_move rfl rfl) ?_
  refine ho_ev rfl rfl rfl (ev_not rfl rfl) ?_
  refine ho_nil ?_
  refine hx_then ?_
  refine ht_then rfl ?_
  refine ht_seq ?_
  refine ht_region ?_
  refine ho_ev rfl rfl rfl (ev_loadA rfl Tryd.underlying49 Tryd.ty49 rfl rfl (by first | exact cells_pt (by (with_reducible repeat constructor); done) (Nat.le_of_ble_eq_true rfl) (by simp only [List.extract_toArray, List.extract_eq_take_drop, Nat.zero_add, Nat.sub_zero, Nat.add_sub_cancel_left, List.drop_zero, List.take_succ_cons, List.take_zero, List.drop_succ_cons] <;> rfl) | exact cells_ro (by (with_reducible repeat constructor); done) (Nat.le_of_ble_eq_true rfl) (by simp only [List.extract_toArray, List.extract_eq_take_drop, Nat.zero_add, Nat.sub_zero, Nat.add_sub_cancel_left, List.drop_zero, List.take_succ_cons, List.take_zero, List.drop_succ_cons] <;> rfl))) ?_
  refine ho_eff0 rfl rfl (eff_storeA rfl Tryd.ty49 rfl rfl (by (with_reducible repeat constructor); done) rfl rfl rfl (by simp only [setRange, List.setIfInBounds_toArray, List.set_cons_zero, List.set_cons_succ, Nat.zero_add]; rfl)) (fun _ => ?_)
  refine ho_ev rfl rfl rfl (ev_assign rfl rfl) ?_
  refine ho_nil ?_
  refine hx_then ?_
  refine ht_ret ?_
  refine hx_through trivial ?_
  have hr : r.free k = r := by unfold Rf.RDisk.free; rw [hf]; rfl
  rw [hr]
  exact hx_ret2A (.inl rfl) rfl rfl rfl Tryd.underlying49 Tryd.ty49 rfl (cells_pt (by (with_reducible repeat constructor); done) (Nat.le_of_ble_eq_true rfl) rfl) x rfl (Ent.rd3 (r := r) (by (repeat constructor); done) (by (repeat constructor); done) (by (repeat constructor); done) rfl rfl rfl rfl rfl rfl (Ent.cons (by (repeat constructor); done) Ent.nil))
 ·skip
  refine ht_region ?_
  refine ho_ev rfl rfl rfl (ev_move rfl rfl) ?_
  refine ho_ev rfl rfl rfl (ev_not rfl rfl) ?_
  refine ho_nil ?_
  refine hx_then ?_
  refine ht_else rfl ?_
  refine ht_skip ?_
  refine hx_then ?_
  refine ht_seq ?_
  refine ht_region ?_
  refine ho_ev rfl rfl rfl (ev_loadA rfl Tryd.underlying49 Tryd.ty49 rfl rfl (by first | exact cells_pt (by (with_reducible repeat constructor); done) (Nat.le_of_ble_eq_true rfl) (by simp only [List.extract_toArray, List.extract_eq_take_drop, Nat.zero_add, Nat.sub_zero, Nat.add_sub_cancel_left, List.drop_zero, List.take_succ_cons, List.take_zero, List.drop_succ_cons] <;> rfl) | exact cells_ro (by (with_reducible repeat constructor); done) (Nat.le_of_ble_eq_true rfl) (by simp only [List.extract_toArray, List.extract_eq_take_drop, Nat.zero_add, Nat.sub_zero, Nat.add_sub_cancel_left, List.drop_zero, List.take_succ_cons, List.take_zero, List.drop_succ_cons] <;> rfl))) ?_
  refine ho_ev rfl rfl rfl (ev_move rfl rfl) ?_
  refine ho_ev rfl rfl rfl (ev_build1 (csl := [_, _, .string (mkS [])]) rfl Tryd.st109 (.cons rfl (.cons rfl .nil)) (.cons rfl (.cons rfl .nil)) rfl rfl) ?_
  refine ho_eff rfl rfl rfl (eff_call rfl rfl (.cons rfl (.cons rfl .nil)) rfl (rf_put r x k true [] h1 h2 (by decide) hold) (by repeat (first | exact Picks.nil | (apply Picks.ro; focus ((repeat constructor); done)) | (apply Picks.cons; focus ((repeat constructor); done)))) (fun _ => by repeat (first | exact App.nil | apply App.cons))) (fun y => ?_)
  refine ho_eff0 rfl rfl (eff_storeA rfl Tryd.ty49 rfl rfl (by (with_reducible repeat constructor); done) rfl rfl rfl (by simp only [setRange, List.setIfInBounds_toArray, List.set_cons_zero, List.set_cons_succ, Nat.zero_add]; rfl)) (fun _ => ?_)
  refine ho_ev rfl rfl rfl (ev_assign rfl rfl) ?_
  refine ho_nil ?_
  refine hx_then ?_
  refine ht_ret ?_
  have hr : r.free k = r.put ⟨k, true, []⟩ := by unfold Rf.RDisk.free; rw [hf]; rfl
  rw [hr]
  exact hx_ret2A (.inl rfl) rfl rfl rfl Tryd.underlying49 Tryd.ty49 rfl (cells_pt (by (with_reducible repeat constructor); done) (Nat.le_of_ble_eq_true rfl) rfl) y rfl (Ent.roD (by (with_reducible repeat constructor); done) (Ent.cons (by (repeat constructor); done) Ent.nil))
theorem rf_Sync (r : Rf.RDisk) (x : RX) : Ctr Tryd.prog 43 #[rdV r x] [ro (rdR r x)] (fun _ : Unit => rdV r.sync ⟨x.va, x.vc, x.va, x.vc, none, 0⟩) (fun _ => [ro (rdR r.sync ⟨x.va, x.vc, x.va, x.vc, none, 0⟩)]) := by
 refine fn_intro Tryd.func43 rfl rfl Tryd.ntmps43 (Nat.le_of_ble_eq_true rfl) (fun _ => by repeat (first | exact App.nil | apply App.cons)) (fun κ F => ?_)
 refine ht_rd3 (by (with_reducible repeat constructor); done) ?_
 refine ht_seq ?_
 refine ht_region ?_
 refine ho_eff rfl rfl rfl (eff_boxA rfl rfl) (fun b1 => ?_)
 refine ho_eff rfl rfl rfl (eff_alloc rfl Tryd.ty49 (by first | exact cells_agg _ | exact rfl)) (fun b2 => ?_)
 refine ho_nil ?_
 refine hx_then ?_
 refine ht_seq ?_
 refine ht_region ?_
 refine ho_ev rfl rfl rfl (by first | exact ev_fieldAddr0 rfl Tryd.fld49_2 rfl | exact ev_fieldAddr rfl Tryd.fld49_2 rfl) ?_
 refine ho_ev rfl rfl rfl (ev_load rfl Tryd.underlying46 rfl rfl (by first | exact cell_pt (by (with_reducible repeat constructor); done) rfl | exact cell_ro (by (with_reducible repeat constructor); done) rfl)) ?_
 refine ho_ev rfl rfl rfl (by first | exact ev_fieldAddr0 rfl Tryd.fld49_3 rfl | exact ev_fieldAddr rfl Tryd.fld49_3 rfl) ?_
 refine ho_eff0 rfl rfl (eff_store1 rfl Tryd.ty46 rfl rfl (by (with_reducible repeat constructor); done) rfl rfl (lt_of_blt rfl) (by simp only [List.setIfInBounds_toArray, List.set_cons_zero, List.set_cons_succ]; rfl)) (fun _ => ?_)
 refine ho_ev rfl rfl rfl (by first | exact ev_fieldAddr0 rfl Tryd.fld49_4 rfl | exact ev_fieldAddr rfl Tryd.fld49_4 rfl) ?_
 refine ho_eff0 rfl rfl (eff_store1 rfl Tryd.ty47 rfl rfl (by (with_reducible repeat constructor); done) rfl rfl (lt_of_blt rfl) (by simp only [List.setIfInBounds_toArray, List.set_cons_zero, List.set_cons_succ]; rfl)) (fun _ => ?_)
 refine ho_nil ?_
 refine hx_then ?_
 refine ht_seq ?_
 refine ht_region ?_
 refine ho_ev rfl rfl rfl (ev_loadA rfl Tryd.underlying49 Tryd.ty49 rfl rfl (by first | exact cells_pt (by (with_reducible repeat constructor); done) (Nat.le_of_ble_eq_true rfl) (by simp only [List.extract_toArray, List.extract_eq_take_drop, Nat.zero_add, Nat.sub_zero, Nat.add_sub_cancel_left, List.drop_zero, List.take_succ_cons, List.take_zero, List.drop_succ_cons] <;> rfl) | exact cells_ro (by (with_reducible repeat constructor); done) (Nat.le_of_ble_eq_true rfl) (by simp only [List.extract_toArray, List.extract_eq_take_drop, Nat.zero_add, Nat.sub_zero, Nat.add_sub_cancel_left, List.drop_zero, List.take_succ_cons, List.take_zero, List.drop_succ_cons] <;> rfl))) ?_
 refine ho_eff0 rfl rfl (eff_storeA rfl Tryd.ty49 rfl rfl (by (with_reducible repeat constructor); done) rfl rfl rfl (by simp only [setRange, List.setIfInBounds_toArray, List.set_cons_zero, List.set_cons_succ, Nat.zero_add]; rfl)) (fun _ => ?_)
 refine ho_nil ?_
 refine hx_then ?_
 refine ht_ret ?_
 refine hx_ent (Ent.roTrue (ψ := roS (α := Rf.RPend) none 0 []) (fun r => SliceIn.empty _ _) (Ent.refl _)) ?_
 exact hx_ret1A (.inl rfl) rfl rfl Tryd.underlying49 Tryd.ty49 rfl (cells_pt (by (with_reducible repeat constructor); done) (Nat.le_of_ble_eq_true rfl) rfl) () rfl (Ent.rd3 (r := r.sync) (by (repeat constructor); done) (by (repeat constructor); done) (by (repeat constructor); done) rfl rfl rfl rfl rfl rfl (Ent.cons (by (repeat constructor); done) Ent.nil))
theorem rf_Crash (r : Rf.RDisk) (x : RX) (la : Option Addr) (lc : Nat) (l : List (Int × Int)) (hl : l.length ≤ 1000000) (h2 : r.L.length ≤ 1000) (h3 : r.ground.length ≤ 1000) (hg0 : ∀ y ∈ r.ground, y.2.length ≤ 1048576) (hL0 : ∀ p ∈ r.L, p.b.length ≤ 524288) : Ctr Tryd.prog 22 #[rdV r x, .slice la l.length lc] [ro (rdR r x), ro (roS la l.length l)] (fun y : RX => rdV (r.crash l) y) (fun y => [ro (rdR (r.crash l) y)]) := by
 refine fn_intro Tryd.func22 rfl rfl Tryd.ntmps22 (Nat.le_of_ble_eq_true rfl) (fun _ => by repeat (first | exact App.nil | apply App.cons)) (fun κ F => ?_)
 refine ht_rd3 (by (with_reducible repeat constructor); done) ?_
 refine ht_seq ?_
 refine ht_region ?_
 refine ho_eff rfl rfl rfl (eff_boxA rfl rfl) (fun b2 => ?_)
 refine ho_eff rfl rfl rfl (eff_alloc rfl Tryd.ty49 (by first | exact cells_agg _ | exact rfl)) (fun b4 => ?_)
 refine ho_nil ?_
 refine hx_then ?_
 refine ht_seq ?_
 refine ht_seq ?_
 refine ht_region ?_
 refine ho_ev rfl rfl rfl (ev_assign rfl rfl) ?_
 refine ho_nil ?_
 refine hx_then ?_
 refine ht_block ?_
 refine ht_loop (fun q : Nat × List (Int × List UInt8) × Option Addr × Nat => ([pt b2 (.cells #[.int .i64 r.size, .int .i64 r.limit, .slice x.va r.view.length x.vc, .slice q.2.2.1 q.2.1.length q.2.2.2, .slice x.la r.L.length x.lc] 49 (0, 0)), ro (roS q.2.2.1 q.2.1.length q.2.1), ro (roS x.la r.L.length r.L), ro (roS la l.length l), pt b4 (.cells #[.int .i64 0, .int .i64 0, .slice none 0 0, .slice none 0 0, .slice none 0 0] 49 (0, 0)), pu (Rf.rcrashFrom l 0 r.L r.ground = Rf.rcrashFrom l q.1 (r.L.drop q.1) q.2.1 ∧ q.1 ≤ r.L.length ∧ q.2.1.length ≤ r.ground.length + q.1 ∧ (∀ y ∈ q.2.1, y.2.length ≤ 1048576)), F], [(2, .pointer (some ⟨b2, 0, none⟩)), (4, .pointer (some ⟨b4, 0, none⟩)), (1, .slice la l.length lc), (5, .int .i64 q.1)])) (fun q : Nat × List (Int × List UInt8) × Option Addr × Nat => r.L.length - q.1) (0, r.ground, x.ga, x.gc) ?_ (by repeat (first | exact EnvSub.nil _ | (refine EnvSub.cons rfl ?_))) (fun q => ?_)
 ·(first | dsimp only | skip)
  exact Ent.cons (by (repeat constructor); done) (Ent.roD (by (with_reducible repeat constructor); done) (Ent.roD (by (with_reducible repeat constructor); done) (Ent.roD (by (with_reducible repeat constructor); done) (Ent.cons (by (repeat constructor); done) (Ent.pu ⟨rfl, by omega, by omega, hg0⟩ (Ent.cons (by (repeat constructor); done) Ent.nil))))))
 obtain ⟨i, g, ga, gc⟩ := q
 dsimp only
 refine ht_pick (A := pu (Rf.rcrashFrom l 0 r.L r.ground = Rf.rcrashFrom l i (r.L.drop i) g ∧ i ≤ r.L.length ∧ g.length ≤ r.ground.length + i ∧ (∀ y ∈ g, y.2.length ≤ 1048576))) (by (repeat constructor); done) (ht_pure fun hq => ?_)
 obtain ⟨hinv, hil, hgl, hgb⟩ := hq
 refine ht_seq ?_
 refine ht_seq ?_
 refine ht_region ?_
 refine ho_ev rfl rfl rfl (ev_move rfl rfl) ?_
 refine ho_ev rfl rfl rfl (by first | exact ev_fieldAddr0 rfl Tryd.fld49_4 rfl | exact ev_fieldAddr rfl Tryd.fld49_4 rfl) ?_
 refine ho_ev rfl rfl rfl (ev_load rfl Tryd.underlying47 rfl rfl (by first | exact cell_pt (by (with_reducible repeat constructor); done) rfl | exact cell_ro (by (with_reducible repeat constructor); done) rfl)) ?_
 refine ho_ev rfl rfl rfl (ev_lenSl rfl Tryd.underlying47 rfl) ?_
 refine ho_lt rfl rfl rfl rfl rfl rfl (fun g1 => ?_) (fun g1 => ?_)
 ·skip
  refine ho_nil ?_
  refine hx_then ?_
  refine ht_then rfl ?_
  refine ht_skip ?_
  refine hx_then ?_
  obtain ⟨p0, hp0⟩ : ∃ p, r.L[i]? = some p := ⟨_, List.getElem?_eq_getElem (by omega)⟩
  have hpb0 := hL0 p0 (List.mem_of_getElem? hp0)
  obtain ⟨gg, hgg⟩ : ∃ gg, gg = g := ⟨g, rfl⟩
  refine ht_join (fun g : List (Int × List UInt8) × Option Addr × Nat => ([pt b2 (.cells #[.int .i64 r.size, .int .i64 r.limit, .slice x.va r.view.length x.vc, .slice g.2.1 g.1.length g.2.2, .slice x.la r.L.length x.lc] 49 (0, 0)), ro (roS g.2.1 g.1.length g.1), ro (roS x.la r.L.length r.L), ro (roS la l.length l), pt b4 (.cells #[.int .i64 0, .int .i64 0, .slice none 0 0, .slice none 0 0, .slice none 0 0] 49 (0, 0)), pu (g.1 = (match Dk.stays l i with | some m => Rf.rdone gg p0 m | none => gg)), F], [(2, .pointer (some ⟨b2, 0, none⟩)), (4, .pointer (some ⟨b4, 0, none⟩)), (1, .slice la l.length lc), (5, .int .i64 i)])) ?_ (fun g => ?_)
  ·skip
   refine ht_block ?_
   refine ht_seq ?_
   refine ht_region ?_
   refine ho_ev rfl rfl rfl (ev_assign rfl rfl) ?_
   refine ho_nil ?_
   refine hx_then ?_
   refine ht_block ?_
   refine ht_loop (fun q : Nat => ([pt b2 (.cells #[.int .i64 r.size, .int .i64 r.limit, .slice x.va r.view.length x.vc, .slice ga g.length gc, .slice x.la r.L.length x.lc] 49 (0, 0)), ro (roS ga g.length g), ro (roS x.la r.L.length r.L), ro (roS la l.length l), pt b4 (.cells #[.int .i64 0, .int .i64 0, .slice none 0 0, .slice none 0 0, .slice none 0 0] 49 (0, 0)), pu ((l.take q).find? (·.1 == (i : Int)) = none ∧ q ≤ l.length), F], [(2, .pointer (some ⟨b2, 0, none⟩)), (4, .pointer (some ⟨b4, 0, none⟩)), (1, .slice la l.length lc), (5, .int .i64 i), (6, .int .i64 q)])) (fun q : Nat => l.length - q) 0 ?_ (by repeat (first | exact EnvSub.nil _ | (refine EnvSub.cons rfl ?_))) (fun q => ?_)
   ·(first | dsimp only | skip)
    exact Ent.cons (by (repeat constructor); done) (Ent.roD (by (with_reducible repeat constructor); done) (Ent.roD (by (with_reducible repeat constructor); done) (Ent.roD (by (with_reducible repeat constructor); done) (Ent.cons (by (repeat constructor); done) (Ent.pu ⟨rfl, by omega⟩ (Ent.cons (by (repeat constructor); done) Ent.nil))))))
   obtain q := q
   dsimp only
   refine ht_pick (A := pu ((l.take q).find? (·.1 == (i : Int)) = none ∧ q ≤ l.length)) (by (repeat constructor); done) (ht_pure fun hq => ?_)
   obtain ⟨hnf, hql⟩ := hq
   refine ht_seq ?_
   refine ht_seq ?_
   refine ht_region ?_
   refine ho_ev rfl rfl rfl (ev_move rfl rfl) ?_
   refine ho_ev rfl rfl rfl (ev_move rfl rfl) ?_
   refine ho_ev rfl rfl rfl (ev_lenSl rfl Tryd.underlying31 rfl) ?_
   refine ho_lt rfl rfl rfl rfl rfl rfl (fun g2 => ?_) (fun g2 => ?_)
   ·skip
    refine ho_nil ?_
    refine hx_then ?_
    refine ht_then rfl ?_
    refine ht_skip ?_
    refine hx_then ?_
    refine ht_seq ?_
    refine ht_block ?_
    refine ht_seq ?_
    obtain ⟨x0, hx⟩ : ∃ x, l[q]? = some x := ⟨_, List.getElem?_eq_getElem (by omega)⟩
    refine ht_someS (α := Int × Int) (a := la) (xs := l) (reads_ro (by (with_reducible repeat constructor); done)) (by omega) (fun ab ao ha => ?_)
    refine ht_someS (α := Rf.RPend) (a := x.la) (xs := r.L) (reads_ro (by (with_reducible repeat constructor); done)) (by omega) (fun pb po hpa => ?_)
    refine ht_region ?_
    refine ho_ev rfl rfl rfl (ev_move rfl rfl) ?_
    refine ho_ev rfl rfl rfl (ev_move rfl rfl) ?_
    refine ho_ev rfl rfl rfl (ev_indexAddr rfl Tryd.underlying31 Tryd.ty81 (congrArg (fun z => some (Value.slice z l.length lc)) ha) rfl (by omega) (by omega)) ?_
    refine ho_ev rfl rfl rfl (by first | exact ev_fieldAddr0 rfl Tryd.fld81_0 rfl | exact ev_fieldAddr rfl Tryd.fld81_0 rfl) ?_
    refine ho_ev rfl rfl rfl (ev_load rfl Tryd.underlying3 rfl rfl (cell_Sa (α := Int × Int) (k := 0) ha (reads_ro (by (with_reducible repeat constructor); done)) hx rfl)) ?_
    refine ho_ev rfl rfl rfl (ev_move rfl rfl) ?_
    refine ho_eq rfl rfl rfl rfl rfl rfl (fun g3 => ?_) (fun g3 => ?_)
    ·skip
     refine ho_nil ?_
     refine hx_then ?_
     refine ht_then rfl ?_
     refine ht_seq ?_
     refine ht_draw (.op 0 (.op 1 (.op 2 (.op 3 (.op 4 (.op 5 (.op 6 (.op 7 (.op 8 (.op 9 (.op 10 (.op 11 (.op 12 (.op 13 (.op 14 .done))))))))))))))) [12, 14] Tryd.mixed rfl ?_
     refine hd_ev rfl rfl rfl rfl (EvG.of rfl (by first | exact ev_fieldAddr0 rfl Tryd.fld49_3 rfl | exact ev_fieldAddr rfl Tryd.fld49_3 rfl)) ?_
     refine hd_ev rfl rfl rfl rfl (EvG.of rfl (ev_load rfl Tryd.underlying46 rfl rfl (by first | exact cell_pt (by (with_reducible repeat constructor); done) rfl | exact cell_ro (by (with_reducible repeat constructor); done) rfl))) ?_
     refine hd_ev rfl rfl rfl rfl (EvG.of rfl (by first | exact ev_fieldAddr0 rfl Tryd.fld49_4 rfl | exact ev_fieldAddr rfl Tryd.fld49_4 rfl)) ?_
     refine hd_ev rfl rfl rfl rfl (EvG.of rfl (ev_load rfl Tryd.underlying47 rfl rfl (by first | exact cell_pt (by (with_reducible repeat constructor); done) rfl | exact cell_ro (by (with_reducible repeat constructor); done) rfl))) ?_
     refine hd_ev rfl rfl rfl rfl (EvG.of rfl (ev_move rfl rfl)) ?_
     refine hd_ev rfl rfl rfl rfl (EvG.of rfl (ev_indexAddr rfl Tryd.underlying47 Tryd.ty109 (congrArg (fun z => some (Value.slice z r.L.length x.lc)) hpa) rfl (by omega) (by omega))) ?_
     refine hd_ev rfl rfl rfl rfl (EvG.of rfl (ev_loadA rfl Tryd.underlying109 Tryd.ty109 rfl rfl (cells_Sa hpa (reads_ro (by (with_reducible repeat constructor); done)) hp0))) ?_
     refine hd_ev rfl rfl rfl rfl (EvG.of rfl (ev_move rfl rfl)) ?_
     refine hd_ev rfl rfl rfl rfl (EvG.of rfl (ev_move rfl rfl)) ?_
     refine hd_ev rfl rfl rfl rfl (EvG.of rfl (ev_indexAddr rfl Tryd.underlying31 Tryd.ty81 (congrArg (fun z => some (Value.slice z l.length lc)) ha) rfl (by omega) (by omega))) ?_
     refine hd_ev rfl rfl rfl rfl (EvG.of rfl (by first | exact ev_fieldAddr0 rfl Tryd.fld81_1 rfl | exact ev_fieldAddr rfl Tryd.fld81_1 rfl)) ?_
     refine hd_ev rfl rfl rfl rfl (EvG.of rfl (ev_load rfl Tryd.underlying3 rfl rfl (cell_Sa (α := Int × Int) (k := 1) ha (reads_ro (by (with_reducible repeat constructor); done)) hx rfl))) ?_
     refine hd_eff rfl rfl rfl rfl rfl (eff_call rfl rfl (.cons rfl (.cons rfl (.cons rfl .nil))) rfl (rf_done ga gc g p0.place p0.free p0.b x0.2 (by omega) (by omega) (Rf.rfind_short hgb)) (by repeat (first | exact Picks.nil | (apply Picks.ro; focus ((repeat constructor); done)) | (apply Picks.cons; focus ((repeat constructor); done)))) (fun _ => by repeat (first | exact App.nil | apply App.cons))) (fun _ => by (refine FL.skip rfl ?_); (refine FL.skip rfl ?_); (refine FL.skip rfl ?_); (refine FL.skip rfl ?_); (refine FL.skip rfl ?_); (refine FL.skip rfl ?_); (refine FL.skip rfl ?_); (refine FL.skip rfl ?_); (refine FL.skip rfl ?_); (refine FL.skip rfl ?_); (refine FL.skip rfl ?_); (refine FL.skip rfl ?_); exact FL.nil) (fun y => ?_)
     refine hd_ev rfl rfl rfl rfl (EvG.of rfl (by first | exact ev_fieldAddr0 rfl Tryd.fld49_3 rfl | exact ev_fieldAddr rfl Tryd.fld49_3 rfl)) ?_
     refine hd_eff0 rfl rfl rfl rfl (eff_store1 rfl Tryd.ty46 rfl rfl (by (with_reducible repeat constructor); done) rfl rfl (lt_of_blt rfl) (by simp only [List.setIfInBounds_toArray, List.set_cons_zero, List.set_cons_succ]; rfl)) (fun _ => by (refine FL.skip rfl ?_); (refine FL.skip rfl ?_); (refine FL.skip rfl ?_); (refine FL.skip rfl ?_); (refine FL.skip rfl ?_); (refine FL.skip rfl ?_); (refine FL.skip rfl ?_); (refine FL.skip rfl ?_); (refine FL.skip rfl ?_); (refine FL.skip rfl ?_); (refine FL.skip rfl ?_); (refine FL.skip rfl ?_); (refine FL.skip rfl ?_); exact FL.nil) (fun _ => ?_)
     refine hd_nil ?_
     refine hx_then ?_
     refine ht_exit ?_
     refine hx_block_past (by decide) ?_
     refine hx_through trivial ?_
     refine hx_through trivial ?_
     refine hx_block_here ?_
     refine hx_block_normal ?_
     refine hx_joined (I := (fun g : List (Int × List UInt8) × Option Addr × Nat => ([pt b2 (.cells #[.int .i64 r.size, .int .i64 r.limit, .slice x.va r.view.length x.vc, .slice g.2.1 g.1.length g.2.2, .slice x.la r.L.length x.lc] 49 (0, 0)), ro (roS g.2.1 g.1.length g.1), ro (roS x.la r.L.length r.L), ro (roS la l.length l), pt b4 (.cells #[.int .i64 0, .int .i64 0, .slice none 0 0, .slice none 0 0, .slice none 0 0] 49 (0, 0)), pu (g.1 = (match Dk.stays l i with | some m => Rf.rdone gg p0 m | none => gg)), F], [(2, .pointer (some ⟨b2, 0, none⟩)), (4, .pointer (some ⟨b4, 0, none⟩)), (1, .slice la l.length lc), (5, .int .i64 i)]))) (Rf.rdone g p0 x0.2, y.1, y.2) ?_ ?_
     ·repeat (first | exact EnvSub.nil _ | (refine EnvSub.cons rfl ?_))
     ·(first | dsimp only | skip)
      exact Ent.cons (by (repeat constructor); done) (Ent.roD (by (with_reducible repeat constructor); done) (Ent.roD (by (with_reducible repeat constructor); done) (Ent.roD (by (with_reducible repeat constructor); done) (Ent.cons (by (repeat constructor); done) (Ent.pu (by rw [hgg, Rf.st_here hnf hx (by omega)]) (Ent.cons (by (repeat constructor); done) Ent.nil))))))
    ·skip
     refine ho_nil ?_
     refine hx_then ?_
     refine ht_else rfl ?_
     refine ht_skip ?_
     refine hx_block_normal ?_
     refine hx_then ?_
     refine ht_region ?_
     refine ho_ev rfl rfl rfl (ev_move rfl rfl) ?_
     refine ho_ev rfl rfl rfl (ev_add rfl rfl rfl (by first | exact in_i64 (by omega) | rfl)) ?_
     refine ho_ev rfl rfl rfl (ev_assign rfl rfl) ?_
     refine ho_nil ?_
     refine hx_again (I := (fun q : Nat => ([pt b2 (.cells #[.int .i64 r.size, .int .i64 r.limit, .slice x.va r.view.length x.vc, .slice ga g.length gc, .slice x.la r.L.length x.lc] 49 (0, 0)), ro (roS ga g.length g), ro (roS x.la r.L.length r.L), ro (roS la l.length l), pt b4 (.cells #[.int .i64 0, .int .i64 0, .slice none 0 0, .slice none 0 0, .slice none 0 0] 49 (0, 0)), pu ((l.take q).find? (·.1 == (i : Int)) = none ∧ q ≤ l.length), F], [(2, .pointer (some ⟨b2, 0, none⟩)), (4, .pointer (some ⟨b4, 0, none⟩)), (1, .slice la l.length lc), (5, .int .i64 i), (6, .int .i64 q)]))) (μ := (fun q : Nat => l.length - q)) (i := q) (q + 1) ?_ ?_ ?_
     ·(first | dsimp only | skip); omega
     ·repeat (first | exact EnvSub.nil _ | (refine EnvSub.cons rfl ?_))
     ·(first | dsimp only | skip)
      exact Ent.cons (by (repeat constructor); done) (Ent.roD (by (with_reducible repeat constructor); done) (Ent.roD (by (with_reducible repeat constructor); done) (Ent.roD (by (with_reducible repeat constructor); done) (Ent.cons (by (repeat constructor); done) (Ent.pu ⟨Rf.st_step hnf hx (by omega), by omega⟩ (Ent.cons (by (repeat constructor); done) Ent.nil))))))
   ·skip
    refine ho_nil ?_
    refine hx_then ?_
    refine ht_else rfl ?_
    refine ht_exit ?_
    refine hx_through trivial ?_
    refine hx_through trivial ?_
    refine hx_block_here ?_
    refine hx_block_normal ?_
    refine hx_joined (I := (fun g : List (Int × List UInt8) × Option Addr × Nat => ([pt b2 (.cells #[.int .i64 r.size, .int .i64 r.limit, .slice x.va r.view.length x.vc, .slice g.2.1 g.1.length g.2.2, .slice x.la r.L.length x.lc] 49 (0, 0)), ro (roS g.2.1 g.1.length g.1), ro (roS x.la r.L.length r.L), ro (roS la l.length l), pt b4 (.cells #[.int .i64 0, .int .i64 0, .slice none 0 0, .slice none 0 0, .slice none 0 0] 49 (0, 0)), pu (g.1 = (match Dk.stays l i with | some m => Rf.rdone gg p0 m | none => gg)), F], [(2, .pointer (some ⟨b2, 0, none⟩)), (4, .pointer (some ⟨b4, 0, none⟩)), (1, .slice la l.length lc), (5, .int .i64 i)]))) (g, ga, gc) ?_ ?_
    ·repeat (first | exact EnvSub.nil _ | (refine EnvSub.cons rfl ?_))
    ·(first | dsimp only | skip)
     exact Ent.cons (by (repeat constructor); done) (Ent.roD (by (with_reducible repeat constructor); done) (Ent.roD (by (with_reducible repeat constructor); done) (Ent.roD (by (with_reducible repeat constructor); done) (Ent.cons (by (repeat constructor); done) (Ent.pu (by rw [hgg, Rf.st_none (show (l.take l.length).find? (·.1 == (i : Int)) = none by rw [← show q = l.length by omega]; exact hnf)]) (Ent.cons (by (repeat constructor); done) Ent.nil))))))
  ·skip
   obtain ⟨g2, ga2, gc2⟩ := g
   (first | dsimp only | skip)
   refine ht_pick (A := pu (g2 = (match Dk.stays l i with | some m => Rf.rdone gg p0 m | none => gg))) (by (repeat constructor); done) (ht_pure fun hg2 => ?_)
   rw [hgg] at hg2
   have hgl2 : g2.length ≤ g.length + 1 := by rw [hg2]; cases Dk.stays l i with | none => simp | some m => exact Rf.rdone_len g p0 m
   have hgb2 : ∀ y ∈ g2, y.2.length ≤ 1048576 := by rw [hg2]; cases Dk.stays l i with | none => exact hgb | some m => exact Rf.rdone_short hgb hpb0 m
   refine ht_region ?_
   refine ho_ev rfl rfl rfl (ev_move rfl rfl) ?_
   refine ho_ev rfl rfl rfl (ev_add rfl rfl rfl (by first | exact in_i64 (by omega) | rfl)) ?_
   refine ho_ev rfl rfl rfl (ev_assign rfl rfl) ?_
   refine ho_nil ?_
   refine hx_again (I := (fun q : Nat × List (Int × List UInt8) × Option Addr × Nat => ([pt b2 (.cells #[.int .i64 r.size, .int .i64 r.limit, .slice x.va r.view.length x.vc, .slice q.2.2.1 q.2.1.length q.2.2.2, .slice x.la r.L.length x.lc] 49 (0, 0)), ro (roS q.2.2.1 q.2.1.length q.2.1), ro (roS x.la r.L.length r.L), ro (roS la l.length l), pt b4 (.cells #[.int .i64 0, .int .i64 0, .slice none 0 0, .slice none 0 0, .slice none 0 0] 49 (0, 0)), pu (Rf.rcrashFrom l 0 r.L r.ground = Rf.rcrashFrom l q.1 (r.L.drop q.1) q.2.1 ∧ q.1 ≤ r.L.length ∧ q.2.1.length ≤ r.ground.length + q.1 ∧ (∀ y ∈ q.2.1, y.2.length ≤ 1048576)), F], [(2, .pointer (some ⟨b2, 0, none⟩)), (4, .pointer (some ⟨b4, 0, none⟩)), (1, .slice la l.length lc), (5, .int .i64 q.1)]))) (μ := (fun q : Nat × List (Int × List UInt8) × Option Addr × Nat => r.L.length - q.1)) (i := (i, g, ga, gc)) (i + 1, g2, ga2, gc2) ?_ ?_ ?_
   ·(first | dsimp only | skip); omega
   ·repeat (first | exact EnvSub.nil _ | (refine EnvSub.cons rfl ?_))
   ·(first | dsimp only | skip)
    exact Ent.cons (by (repeat constructor); done) (Ent.roD (by (with_reducible repeat constructor); done) (Ent.roD (by (with_reducible repeat constructor); done) (Ent.roD (by (with_reducible repeat constructor); done) (Ent.cons (by (repeat constructor); done) (Ent.pu ⟨by rw [hinv, Rf.rcrash_step hp0, hg2] <;> rfl, by omega, by omega, hgb2⟩ (Ent.cons (by (repeat constructor); done) Ent.nil))))))
 ·skip
  refine ho_nil ?_
  refine hx_then ?_
  refine ht_else rfl ?_
  refine ht_exit ?_
  refine hx_through trivial ?_
  refine hx_through trivial ?_
  refine hx_block_here ?_
  refine hx_then ?_
  refine ht_seq ?_
  have hii : i = r.L.length := by omega
  subst hii
  rw [List.drop_length] at hinv
  refine ht_region ?_
  refine ho_ev rfl rfl rfl (by first | exact ev_fieldAddr0 rfl Tryd.fld49_3 rfl | exact ev_fieldAddr rfl Tryd.fld49_3 rfl) ?_
  refine ho_ev rfl rfl rfl (ev_load rfl Tryd.underlying46 rfl rfl (by first | exact cell_pt (by (with_reducible repeat constructor); done) rfl | exact cell_ro (by (with_reducible repeat constructor); done) rfl)) ?_
  refine ho_ev rfl rfl rfl (by first | exact ev_fieldAddr0 rfl Tryd.fld49_2 rfl | exact ev_fieldAddr rfl Tryd.fld49_2 rfl) ?_
  refine ho_eff0 rfl rfl (eff_store1 rfl Tryd.ty46 rfl rfl (by (with_reducible repeat constructor); done) rfl rfl (lt_of_blt rfl) (by simp only [List.setIfInBounds_toArray, List.set_cons_zero, List.set_cons_succ]; rfl)) (fun _ => ?_)
  refine ho_ev rfl rfl rfl (by first | exact ev_fieldAddr0 rfl Tryd.fld49_4 rfl | exact ev_fieldAddr rfl Tryd.fld49_4 rfl) ?_
  refine ho_eff0 rfl rfl (eff_store1 rfl Tryd.ty47 rfl rfl (by (with_reducible repeat constructor); done) rfl rfl (lt_of_blt rfl) (by simp only [List.setIfInBounds_toArray, List.set_cons_zero, List.set_cons_succ]; rfl)) (fun _ => ?_)
  refine ho_nil ?_
  refine hx_then ?_
  refine ht_seq ?_
  refine ht_region ?_
  refine ho_ev rfl rfl rfl (ev_loadA rfl Tryd.underlying49 Tryd.ty49 rfl rfl (by first | exact cells_pt (by (with_reducible repeat constructor); done) (Nat.le_of_ble_eq_true rfl) (by simp only [List.extract_toArray, List.extract_eq_take_drop, Nat.zero_add, Nat.sub_zero, Nat.add_sub_cancel_left, List.drop_zero, List.take_succ_cons, List.take_zero, List.drop_succ_cons] <;> rfl) | exact cells_ro (by (with_reducible repeat constructor); done) (Nat.le_of_ble_eq_true rfl) (by simp only [List.extract_toArray, List.extract_eq_take_drop, Nat.zero_add, Nat.sub_zero, Nat.add_sub_cancel_left, List.drop_zero, List.take_succ_cons, List.take_zero, List.drop_succ_cons] <;> rfl))) ?_
  refine ho_eff0 rfl rfl (eff_storeA rfl Tryd.ty49 rfl rfl (by (with_reducible repeat constructor); done) rfl rfl rfl (by simp only [setRange, List.setIfInBounds_toArray, List.set_cons_zero, List.set_cons_succ, Nat.zero_add]; rfl)) (fun _ => ?_)
  refine ho_nil ?_
  refine hx_then ?_
  refine ht_ret ?_
  refine hx_ent (Ent.roTrue (ψ := roS (α := Rf.RPend) none 0 []) (fun r => SliceIn.empty _ _) (Ent.refl _)) ?_
  have hcr : Rf.rcrashFrom l 0 r.L r.ground = g := hinv
  have hrc : r.crash l = { r with ground := g, view := g, L := [] } := by unfold Rf.RDisk.crash; rw [hcr]
  rw [hrc]
  exact hx_ret1A (.inl rfl) rfl rfl Tryd.underlying49 Tryd.ty49 rfl (cells_pt (by (with_reducible repeat constructor); done) (Nat.le_of_ble_eq_true rfl) rfl) (⟨ga, gc, ga, gc, none, 0⟩ : RX) rfl (Ent.rd3 (r := { r with ground := g, view := g, L := [] }) (by (repeat constructor); done) (by (repeat constructor); done) (by (repeat constructor); done) rfl rfl rfl rfl rfl rfl (Ent.cons (by (repeat constructor); done) Ent.nil))
end Go.Proofs.YtlejcepbcfijiaaDoor
