/-
  PACKAGE wal (layer 8): the walks. Conditions: as each contract says.
-/
import Derived.Test.YtlejcepbcfijiaaDoorDisk
import Derived.Test.YtlejcepbcfijiaaDoorWireC
import Derived.Test.YtlejcepbcfijiaaDoorWalM
import Derived.Laws.StructEq
set_option maxRecDepth 100000
set_option linter.unusedVariables false
set_option linter.unusedSimpArgs false
namespace Go.Proofs.YtlejcepbcfijiaaDoor
open Go Go.SL


instance : Enc Wl.Seg := ⟨3, fun x => [.int .i64 (x.place : Int), .int .u64 (x.base : Int), .int .u64 (x.count : Int)], fun _ => rfl, fun x v h => by simp at h; rcases h with rfl | rfl | rfl <;> rfl, by decide⟩
instance : Enc Wl.Rec := ⟨2, fun x => [.int .u64 (x.seq : Int), vS x.body], fun _ => rfl, fun x v h => by simp at h; rcases h with rfl | rfl <;> rfl, by decide⟩
abbrev segV (x : Wl.Seg) : Value := .agg #[.int .i64 (x.place : Int), .int .u64 (x.base : Int), .int .u64 (x.count : Int)]
abbrev recV (x : Wl.Rec) : Value := .agg #[.int .u64 (x.seq : Int), vS x.body]
section
variable {κ : World} {n : Nat} {L M R R1 R2 : List Assn} {ρ : Env} {ops : Array Oper} {o : Oper} {l : List Oper} {Q : Exit → Act → World → Prop}
theorem ev_neqRec {x y : Operand} {u : TypeId} {r : Wl.Rec} (ho : o.op = .binOp .neq 71 x y u) (hx : oev ρ x = some (recV r)) (hy : oev ρ y = some (recV r)) : Ev Tryd.prog κ n L ρ o (.bool false) := fun a w ha hw => by
  have hS : Tryd.prog.underlying 71 = some (.struct (Tryd.prog.fieldsOf 71)) := by kernel_rfl
  have hp : Tryd.prog.stoodInHeld 71 = false := by kernel_rfl
  have u1 := Tryd.underlying41
  have u2 := Tryd.underlying9
  have hg : (eqGuard .neq 71 x y (recV r) (recV r)).run Tryd.prog w = .ok () w := run_eqGuard_agg w .neq _ _ _ _ _ (by kernel_rfl)
  have hb : (binOp .neq 71 (recV r) (recV r)).run Tryd.prog w = .ok (.bool false) w := by
    have a1 := Tryd.isAgg41
    have z1 := Tryd.sizeOf41
    have a2 := Tryd.isAgg9
    have z2 := Tryd.sizeOf9
    rw [run_neq_struct, show (10000 : Nat) = 9999 + 1 from rfl, run_equalIn_agg w 9999 71 _ _ hS hp]
    simp only [Program.fieldsOf, Tryd.underlying71]
    go_simp
  simp only [execOp, ho, ha.eval hx, ha.eval hy, Sem.run_bind, hg, Result.andThen_ok, hb]; rfl
end
/-- a log in memory -/
structure LG where mk ::
  dk : Nat
  at_ : Int
  n : Nat
  size : Nat
  live : List Wl.Seg
  stream : List UInt8
  last : Nat
  synced : Nat
structure LX where mk ::
  la : Option Addr
  lc : Nat
  sa : Option Addr
  sc : Nat
abbrev lgCells (g : LG) (x : LX) : Array Value := #[.pointer (some ⟨g.dk, 0, none⟩), .int .i64 g.at_, .int .i64 (g.n : Int), .int .i64 (g.size : Int), .slice x.la g.live.length x.lc, .slice x.sa g.stream.length x.sc, .int .u64 (g.last : Int), .int .u64 (g.synced : Int)]
def lgC (p : Nat) (g : LG) (x : LX) : List Assn := [pt p (.cells (lgCells g x) 112 (0, 0)), ownS 116 x.la g.live.length x.lc g.live, ro (roS x.sa g.stream.length g.stream), pu (g.stream.length ≤ x.sc)]
def LogAt (p : Nat) (g : LG) : Assn := ex fun x : LX => star (lgC p g x)
section
variable {P : Program} {κ : World} {n : Nat} {L M R R1 R2 : List Assn} {ρ : Env} {ops : Array Oper} {l : List Oper} {Q : Exit → Act → World → Prop}
theorem ht_log {p : Nat} {g : LG} {c : Code} (k : Pick (LogAt p g) L R) (h : ∀ x : LX, g.stream.length ≤ x.sc → HT P κ n (pt p (.cells (lgCells g x) 112 (0, 0)) :: ownS 116 x.la g.live.length x.lc g.live :: ro (roS x.sa g.stream.length g.stream) :: R) ρ c Q) : HT P κ n L ρ c Q :=
  ht_pick k (ht_ex fun x => ht_star (.cons (.cons (.cons (.cons .nil)))) (ht_pick (.there (.there (.there .here))) (ht_pure fun hx => h x hx)))
theorem Ent.log {p m1 m2 : Nat} {g : LG} {x : LX} {dk : Nat} {a nn sz lst syn : Int} {lv : List Wl.Seg} {st : List UInt8} (k : Picks [pt p (.cells #[.pointer (some ⟨dk, 0, none⟩), .int .i64 a, .int .i64 nn, .int .i64 sz, .slice x.la m1 x.lc, .slice x.sa m2 x.sc, .int .u64 lst, .int .u64 syn] 112 (0, 0)), ownS 116 x.la m1 x.lc lv, ro (roS x.sa m2 st)] L R)
    (e1 : dk = g.dk) (e2 : a = g.at_) (e3 : nn = (g.n : Int)) (e4 : sz = (g.size : Int)) (e5 : lv = g.live) (e6 : st = g.stream) (e7 : lst = (g.last : Int)) (e8 : syn = (g.synced : Int)) (f1 : m1 = g.live.length) (f2 : m2 = g.stream.length) (hc : m2 ≤ x.sc) (h : Ent R M) : Ent L (LogAt p g :: M) := by
  subst e1 e2 e3 e4 e5 e6 e7 e8 f1 f2
  exact Ent.ex x (Ent.star (k.ent.trans (Ent.cons .here (Ent.cons .here (Ent.cons .here (Ent.pu hc h))))))
end


theorem add_wrap (a b : Nat) : IntKind.u64.wrap (((a : Nat) : Int) + ((b : Nat) : Int)) = (((a + b) % 18446744073709551616 : Nat) : Int) := by
  have h : IntKind.u64.wrap (((a : Nat) : Int) + ((b : Nat) : Int)) = (((a : Nat) : Int) + ((b : Nat) : Int)) % 18446744073709551616 := by simp [IntKind.wrap, IntKind.bits, IntKind.signed]
  rw [h]; exact (Int.natCast_emod (a + b) 18446744073709551616).symm
section
variable {P : Program} {κ : World} {n : Nat} {L R : List Assn} {ρ : Env} {Q : Exit → Act → World → Prop}
theorem ht_dkOkW {p : Nat} {d : Dk.Disk} {c : Code} (k : Pick (DiskAt p d) L R) (h : DkOk d → HT P κ n L ρ c Q) : HT P κ n L ρ c Q := fun a w ha hw => by
  obtain ⟨x, hx⟩ := (hw.ent (Ent.pick k)).exists
  have h2 := hx.unstar
  have h3 : Sat κ (pu (DkOk d) :: _) w := h2.ent (Ent.pick (.there (.there (.there (.there (.there (.there (.there .here))))))))
  exact h h3.pure a w ha hw
end
section
variable {α : Type} [Enc α] {P : Program} {κ : World} {n : Nat} {L M R R1 R2 : List Assn} {ρ : Env} {ops : Array Oper} {l : List Oper} {Q : Exit → Act → World → Prop}
theorem ht_ownNone {E : TypeId} {m cap : Nat} {xs : List α} {c : Code} (k : Pick (ownS E none m cap xs) L R) (h : xs = [] → HT P κ n L ρ c Q) : HT P κ n L ρ c Q := fun ac w ha hw => by
  obtain ⟨h1, h2, h3⟩ := ownS_open (hw.ent (Ent.pick k))
  rcases h3 with ⟨_, hc, _⟩ | ⟨b, c, e, _⟩
  · exact h (List.eq_nil_of_length_eq_zero (by omega)) ac w ha hw
  · cases e
theorem ht_roNone {m : Nat} {xs : List α} {c : Code} (k : Pick (ro (roS none m xs)) L R) (h : xs = [] → HT P κ n L ρ c Q) : HT P κ n L ρ c Q := fun ac w ha hw => by
  have hs : SliceIn (hp w) none m xs := hw.ro k
  refine h ?_ ac w ha hw
  rcases Nat.eq_zero_or_pos m with e | e
  · exact List.eq_nil_of_length_eq_zero (by rw [hs.len, e])
  · obtain ⟨b, off, c, E, fr, e, _⟩ := hs.at_ e; cases e
end

theorem wal_Same (a1 a2 : Option Addr) (c1 c2 : Nat) (xs : List Wl.Rec) (hxs : xs.length ≤ 1000000) : Ctr Tryd.prog 30 #[.slice a1 xs.length c1, .slice a2 xs.length c2] [ro (roS a1 xs.length xs), ro (roS a2 xs.length xs)] (fun _ : Unit => .bool true) (fun _ => []) := by
 refine fn_intro Tryd.func30 rfl rfl Tryd.ntmps30 (Nat.le_of_ble_eq_true rfl) (fun _ => by repeat (first | exact App.nil | apply App.cons)) (fun κ F => ?_)
 refine ht_seq ?_
 refine ht_region ?_
 refine ho_ev rfl rfl rfl (ev_assign rfl rfl) ?_
 refine ho_nil ?_
 refine hx_then ?_
 refine ht_seq ?_
 refine ht_seq ?_
 refine ht_region ?_
 refine ho_ev rfl rfl rfl (ev_move rfl rfl) ?_
 refine ho_ev rfl rfl rfl (ev_lenSl rfl Tryd.underlying64 rfl) ?_
 refine ho_ev rfl rfl rfl (ev_move rfl rfl) ?_
 refine ho_ev rfl rfl rfl (ev_lenSl rfl Tryd.underlying64 rfl) ?_
 refine ho_ne rfl rfl rfl rfl rfl rfl (fun g1 => ?_) (fun g1 => ?_)
 ·(exfalso; first | omega | (simp at g1; done) | contradiction)
 ·first | (exfalso; first | omega | (simp at g1; done) | contradiction) | skip
  all_goals (
   refine ho_nil ?_
   refine hx_then ?_
   refine ht_else rfl ?_
   refine ht_skip ?_
   refine hx_then ?_
   refine ht_seq ?_
   refine ht_seq ?_
   refine ht_region ?_
   refine ho_ev rfl rfl rfl (ev_assign rfl rfl) ?_
   refine ho_nil ?_
   refine hx_then ?_
   refine ht_block ?_
   refine ht_loop (fun q : Nat => ([ro (roS a1 xs.length xs), ro (roS a2 xs.length xs), pu (q ≤ xs.length), F], [(0, .slice a1 xs.length c1), (1, .slice a2 xs.length c2), (5, .int .i64 q)])) (fun q : Nat => xs.length - q) 0 ?_ (by repeat (first | exact EnvSub.nil _ | (refine EnvSub.cons rfl ?_))) (fun q => ?_)
   ·(first | dsimp only | skip)
    exact Ent.roD (by (with_reducible repeat constructor); done) (Ent.roD (by (with_reducible repeat constructor); done) (Ent.pu (by omega) (Ent.cons (by (repeat constructor); done) Ent.nil)))
   obtain q := q
   dsimp only
   refine ht_pick (A := pu (q ≤ xs.length)) (by (repeat constructor); done) (ht_pure fun hq => ?_)
   refine ht_seq ?_
   refine ht_seq ?_
   refine ht_region ?_
   refine ho_ev rfl rfl rfl (ev_move rfl rfl) ?_
   refine ho_ev rfl rfl rfl (ev_move rfl rfl) ?_
   refine ho_ev rfl rfl rfl (ev_lenSl rfl Tryd.underlying64 rfl) ?_
   refine ho_lt rfl rfl rfl rfl rfl rfl (fun g2 => ?_) (fun g2 => ?_)
   ·first | (exfalso; first | omega | (simp at g2; done) | contradiction) | skip
    all_goals (
     refine ho_nil ?_
     refine hx_then ?_
     refine ht_then rfl ?_
     refine ht_skip ?_
     refine hx_then ?_
     refine ht_seq ?_
     refine ht_block ?_
     refine ht_seq ?_
     obtain ⟨x, hx⟩ : ∃ x, xs[q]? = some x := ⟨_, List.getElem?_eq_getElem (by omega)⟩
     refine ht_someS (α := Wl.Rec) (a := a1) (reads_ro (by (with_reducible repeat constructor); done)) (by omega) (fun ab ao ha => ?_)
     refine ht_someS (α := Wl.Rec) (a := a2) (reads_ro (by (with_reducible repeat constructor); done)) (by omega) (fun bb bo hb => ?_)
     refine ht_draw (.op 0 (.op 1 (.op 2 (.op 3 (.op 4 (.op 5 (.op 6 (.op 7 (.op 8 .done))))))))) [] Tryd.mixed rfl ?_
     refine hd_ev rfl rfl rfl rfl (EvG.of rfl (ev_move rfl rfl)) ?_
     refine hd_ev rfl rfl rfl rfl (EvG.of rfl (ev_move rfl rfl)) ?_
     refine hd_ev rfl rfl rfl rfl (EvG.of rfl (ev_indexAddr rfl Tryd.underlying64 Tryd.ty71 (congrArg (fun z => some (Value.slice z xs.length c1)) ha) rfl (by omega) (by omega))) ?_
     refine hd_ev rfl rfl rfl rfl (EvG.of rfl (ev_loadA rfl Tryd.underlying71 Tryd.ty71 rfl rfl (cells_Sa ha (reads_ro (by (with_reducible repeat constructor); done)) hx))) ?_
     refine hd_ev rfl rfl rfl rfl (EvG.of rfl (ev_move rfl rfl)) ?_
     refine hd_ev rfl rfl rfl rfl (EvG.of rfl (ev_move rfl rfl)) ?_
     refine hd_ev rfl rfl rfl rfl (EvG.of rfl (ev_indexAddr rfl Tryd.underlying64 Tryd.ty71 (congrArg (fun z => some (Value.slice z xs.length c2)) hb) rfl (by omega) (by omega))) ?_
     refine hd_ev rfl rfl rfl rfl (EvG.of rfl (ev_loadA rfl Tryd.underlying71 Tryd.ty71 rfl rfl (cells_Sa hb (reads_ro (by (with_reducible repeat constructor); done)) hx))) ?_
     refine hd_evb rfl rfl rfl rfl (EvG.of rfl (ev_neqRec (r := x) rfl rfl rfl)) (fun g3 => ?_) (fun g3 => ?_)
     ·(exfalso; first | omega | (simp at g3; done) | contradiction)
     ·first | (exfalso; first | omega | (simp at g3; done) | contradiction) | skip
      all_goals (
       refine hd_nil ?_
       refine hx_then ?_
       refine ht_else rfl ?_
       refine ht_skip ?_
       refine hx_block_normal ?_
       refine hx_then ?_
       refine ht_region ?_
       refine ho_ev rfl rfl rfl (ev_move rfl rfl) ?_
       refine ho_ev rfl rfl rfl (ev_add rfl rfl rfl (by first | exact in_i64 (by omega) | rfl)) ?_
       refine ho_ev rfl rfl rfl (ev_assign rfl rfl) ?_
       refine ho_nil ?_
       refine hx_again (I := (fun q : Nat => ([ro (roS a1 xs.length xs), ro (roS a2 xs.length xs), pu (q ≤ xs.length), F], [(0, .slice a1 xs.length c1), (1, .slice a2 xs.length c2), (5, .int .i64 q)]))) (μ := (fun q : Nat => xs.length - q)) (i := q) (q + 1) ?_ ?_ ?_
       ·(first | dsimp only | skip); omega
       ·repeat (first | exact EnvSub.nil _ | (refine EnvSub.cons rfl ?_))
       ·(first | dsimp only | skip)
        exact Ent.roD (by (with_reducible repeat constructor); done) (Ent.roD (by (with_reducible repeat constructor); done) (Ent.pu (by omega) (Ent.cons (by (repeat constructor); done) Ent.nil)))
      )
    )
   ·first | (exfalso; first | omega | (simp at g2; done) | contradiction) | skip
    all_goals (
     refine ho_nil ?_
     refine hx_then ?_
     refine ht_else rfl ?_
     refine ht_exit ?_
     refine hx_through trivial ?_
     refine hx_through trivial ?_
     refine hx_block_here ?_
     refine hx_then ?_
     refine ht_seq ?_
     refine ht_region ?_
     refine ho_ev rfl rfl rfl (ev_assign rfl rfl) ?_
     refine ho_nil ?_
     refine hx_then ?_
     refine ht_ret ?_
     exact hx_ret1 (.inl rfl) rfl rfl () rfl (Ent.cons (by (repeat constructor); done) Ent.nil)
    )
  )
theorem wal_CloneB (a : Option Addr) (c : Nat) (xs : List UInt8) (hxs : xs.length ≤ 1099511627776) : Ctr Tryd.prog 56 #[.slice a xs.length c] [ro (roS a xs.length xs)] (fun q : Option Addr × Nat => .slice q.1 xs.length q.2) (fun q => [ownS 5 q.1 xs.length q.2 xs]) := by
 refine fn_intro Tryd.func56 rfl rfl Tryd.ntmps56 (Nat.le_of_ble_eq_true rfl) (fun _ => by repeat (first | exact App.nil | apply App.cons)) (fun κ F => ?_)
 rcases a with _ | a0
 ·skip
  refine ht_roNone (by (with_reducible repeat constructor); done) (fun hnil => ?_)
  subst hnil
  refine ht_seq ?_
  refine ht_region ?_
  refine ho_ev rfl rfl rfl (ev_assign rfl rfl) ?_
  refine ho_nil ?_
  refine hx_then ?_
  refine ht_seq ?_
  refine ht_seq ?_
  refine ht_region ?_
  refine ho_ev rfl rfl rfl (ev_move rfl rfl) ?_
  refine ho_ev rfl rfl rfl (ev_sliceNil rfl Tryd.underlying86 rfl rfl rfl) ?_
  refine ho_nil ?_
  refine hx_then ?_
  refine ht_bool (t := 4) rfl (fun g1 => ?_) (fun g1 => ?_)
  ·first | (exfalso; first | omega | (simp at g1; done) | contradiction) | skip
   all_goals (
    refine ht_then rfl ?_
    refine ht_seq ?_
    refine ht_region ?_
    refine ho_ev rfl rfl rfl (ev_assign rfl rfl) ?_
    refine ho_nil ?_
    refine hx_then ?_
    refine ht_ret ?_
    refine hx_through trivial ?_
    refine hx_ent (ownS_nil (α := UInt8) 5) ?_
    exact hx_ret1 (.inl rfl) rfl rfl (none, 0) rfl (Ent.cons (by (repeat constructor); done) (Ent.cons (by (repeat constructor); done) Ent.nil))
   )
  ·(exfalso; first | omega | (simp at g1; done) | contradiction)
 ·skip
  refine ht_seq ?_
  refine ht_region ?_
  refine ho_ev rfl rfl rfl (ev_assign rfl rfl) ?_
  refine ho_nil ?_
  refine hx_then ?_
  refine ht_seq ?_
  refine ht_seq ?_
  refine ht_region ?_
  refine ho_ev rfl rfl rfl (ev_move rfl rfl) ?_
  refine ho_ev rfl rfl rfl (ev_sliceNil rfl Tryd.underlying86 rfl rfl rfl) ?_
  refine ho_nil ?_
  refine hx_then ?_
  refine ht_bool (t := 4) rfl (fun g1 => ?_) (fun g1 => ?_)
  ·(exfalso; first | omega | (simp at g1; done) | contradiction)
  ·first | (exfalso; first | omega | (simp at g1; done) | contradiction) | skip
   all_goals (
    refine ht_else rfl ?_
    refine ht_skip ?_
    refine hx_then ?_
    refine ht_seq ?_
    refine ht_region ?_
    refine ho_eff rfl rfl rfl (eff_buildAll (α := UInt8) [] rfl Tryd.underlying86 Tryd.ty5 .nil .nil rfl (Nat.le_of_ble_eq_true rfl)) (fun b5 => ?_)
    refine ho_ev rfl rfl rfl (ev_move rfl rfl) ?_
    refine ho_eff rfl rfl rfl (eff_append (α := UInt8) rfl Tryd.underlying86 Tryd.ty5 rfl (by decide) Tryd.underlying86 rfl rfl (by (with_reducible repeat constructor); done) (by first | exact reads_ro (by (with_reducible repeat constructor); done) | exact reads_own (by (with_reducible repeat constructor); done) | exact reads_nil _) (by first | omega | (simp only [List.length_append, List.length_cons, List.length_nil, List.length_drop, List.length_take]; omega) | (simp; omega))) (fun p7 => ?_)
    refine ho_ev rfl rfl rfl (ev_assign rfl rfl) ?_
    refine ho_nil ?_
    refine hx_then ?_
    refine ht_ret ?_
    rw [List.nil_append]
    exact hx_ret1 (.inl rfl) rfl rfl p7 rfl (Ent.cons (by (repeat constructor); done) (Ent.cons (by (repeat constructor); done) Ent.nil))
   )
theorem wal_CloneS (a : Option Addr) (c : Nat) (xs : List Wl.Seg) (hxs : xs.length ≤ 1000000) : Ctr Tryd.prog 55 #[.slice a xs.length c] [ownS 116 a xs.length c xs] (fun q : Option Addr × Nat => .slice q.1 xs.length q.2) (fun q => [ownS 116 a xs.length c xs, ownS 116 q.1 xs.length q.2 xs]) := by
 refine fn_intro Tryd.func55 rfl rfl Tryd.ntmps55 (Nat.le_of_ble_eq_true rfl) (fun _ => by repeat (first | exact App.nil | apply App.cons)) (fun κ F => ?_)
 rcases a with _ | a0
 ·skip
  refine ht_ownNone (α := Wl.Seg) (by (with_reducible repeat constructor); done) (fun hnil => ?_)
  subst hnil
  refine ht_seq ?_
  refine ht_region ?_
  refine ho_ev rfl rfl rfl (ev_assign rfl rfl) ?_
  refine ho_nil ?_
  refine hx_then ?_
  refine ht_seq ?_
  refine ht_seq ?_
  refine ht_region ?_
  refine ho_ev rfl rfl rfl (ev_move rfl rfl) ?_
  refine ho_ev rfl rfl rfl (ev_sliceNil rfl Tryd.underlying110 rfl rfl rfl) ?_
  refine ho_nil ?_
  refine hx_then ?_
  refine ht_bool (t := 4) rfl (fun g1 => ?_) (fun g1 => ?_)
  ·first | (exfalso; first | omega | (simp at g1; done) | contradiction) | skip
   all_goals (
    refine ht_then rfl ?_
    refine ht_seq ?_
    refine ht_region ?_
    refine ho_ev rfl rfl rfl (ev_assign rfl rfl) ?_
    refine ho_nil ?_
    refine hx_then ?_
    refine ht_ret ?_
    refine hx_through trivial ?_
    refine hx_ent (ownS_nil (α := Wl.Seg) 116) ?_
    exact hx_ret1 (.inl rfl) rfl rfl (none, 0) rfl (Ent.cons (.there .here) (Ent.cons .here (Ent.cons (by (repeat constructor); done) Ent.nil)))
   )
  ·(exfalso; first | omega | (simp at g1; done) | contradiction)
 ·skip
  refine ht_seq ?_
  refine ht_region ?_
  refine ho_ev rfl rfl rfl (ev_assign rfl rfl) ?_
  refine ho_nil ?_
  refine hx_then ?_
  refine ht_seq ?_
  refine ht_seq ?_
  refine ht_region ?_
  refine ho_ev rfl rfl rfl (ev_move rfl rfl) ?_
  refine ho_ev rfl rfl rfl (ev_sliceNil rfl Tryd.underlying110 rfl rfl rfl) ?_
  refine ho_nil ?_
  refine hx_then ?_
  refine ht_bool (t := 4) rfl (fun g1 => ?_) (fun g1 => ?_)
  ·(exfalso; first | omega | (simp at g1; done) | contradiction)
  ·first | (exfalso; first | omega | (simp at g1; done) | contradiction) | skip
   all_goals (
    refine ht_else rfl ?_
    refine ht_skip ?_
    refine hx_then ?_
    refine ht_seq ?_
    refine ht_region ?_
    refine ho_eff rfl rfl rfl (eff_buildAll (α := Wl.Seg) [] rfl Tryd.underlying110 Tryd.ty116 .nil .nil rfl (Nat.le_of_ble_eq_true rfl)) (fun b5 => ?_)
    refine ho_ev rfl rfl rfl (ev_move rfl rfl) ?_
    refine ho_eff rfl rfl rfl (eff_append (α := Wl.Seg) rfl Tryd.underlying110 Tryd.ty116 rfl (by decide) Tryd.underlying110 rfl rfl (by (with_reducible repeat constructor); done) (by first | exact reads_ro (by (with_reducible repeat constructor); done) | exact reads_own (by (with_reducible repeat constructor); done) | exact reads_nil _) (by first | omega | (simp only [List.length_append, List.length_cons, List.length_nil, List.length_drop, List.length_take]; omega) | (simp; omega))) (fun p7 => ?_)
    refine ho_ev rfl rfl rfl (ev_assign rfl rfl) ?_
    refine ho_nil ?_
    refine hx_then ?_
    refine ht_ret ?_
    rw [List.nil_append]
    exact hx_ret1 (.inl rfl) rfl rfl p7 rfl (Ent.cons (by (repeat constructor); done) (Ent.cons (by (repeat constructor); done) (Ent.cons (by (repeat constructor); done) Ent.nil)))
   )
theorem wal_used1 (b3 : Nat) (x : Wl.Seg) (i : Int) : Ctr Tryd.prog 78 #[segV x, .pointer (some ⟨b3, 0, none⟩)] [pt b3 (.cells #[.int .i64 i] 3 (0, 0))] (fun _ : Unit => .bool (decide ((x.place : Int) = i))) (fun _ => [pt b3 (.cells #[.int .i64 i] 3 (0, 0))]) := by
 refine fn_intro Tryd.func78 rfl rfl Tryd.ntmps78 (Nat.le_of_ble_eq_true rfl) (fun _ => by repeat (first | exact App.nil | apply App.cons)) (fun κ F => ?_)
 refine ht_seq ?_
 refine ht_region ?_
 refine ho_eff rfl rfl rfl (eff_boxA rfl rfl) (fun b2 => ?_)
 refine ho_ev rfl rfl rfl (ev_assign rfl rfl) ?_
 refine ho_nil ?_
 refine hx_then ?_
 refine ht_seq ?_
 refine ht_region ?_
 refine ho_ev rfl rfl rfl (by first | exact ev_fieldAddr0 rfl Tryd.fld116_0 rfl | exact ev_fieldAddr rfl Tryd.fld116_0 rfl) ?_
 refine ho_ev rfl rfl rfl (ev_load rfl Tryd.underlying3 rfl rfl (by first | exact cell_pt (by (with_reducible repeat constructor); done) rfl | exact cell_ro (by (with_reducible repeat constructor); done) rfl)) ?_
 refine ho_ev rfl rfl rfl (ev_load rfl Tryd.underlying3 rfl rfl (by first | exact cell_pt (by (with_reducible repeat constructor); done) rfl | exact cell_ro (by (with_reducible repeat constructor); done) rfl)) ?_
 refine ho_eq rfl rfl rfl rfl rfl rfl (fun g7 => ?_) (fun g7 => ?_)
 ·first | (exfalso; first | omega | (simp at g7; done) | contradiction) | skip
  all_goals (
   refine ho_ev rfl rfl rfl (ev_assign rfl rfl) ?_
   refine ho_nil ?_
   refine hx_then ?_
   refine ht_ret ?_
   exact hx_ret1 (.inl rfl) rfl rfl () (by congr 1; symm; simpa using g7) (Ent.cons (by (repeat constructor); done) (Ent.cons (by (repeat constructor); done) Ent.nil))
  )
 ·first | (exfalso; first | omega | (simp at g7; done) | contradiction) | skip
  all_goals (
   refine ho_ev rfl rfl rfl (ev_assign rfl rfl) ?_
   refine ho_nil ?_
   refine hx_then ?_
   refine ht_ret ?_
   exact hx_ret1 (.inl rfl) rfl rfl () (by congr 1; symm; simpa using g7) (Ent.cons (by (repeat constructor); done) (Ent.cons (by (repeat constructor); done) Ent.nil))
  )
theorem wal_IndexS (a : Option Addr) (c : Nat) (xs : List Wl.Seg) (b3 : Nat) (i : Int) (hxs : xs.length ≤ 1000000) : Ctr Tryd.prog 96 #[.slice a xs.length c, .func (.func 78) #[] #[.pointer (some ⟨b3, 0, none⟩)]] [ownS 116 a xs.length c xs, pt b3 (.cells #[.int .i64 i] 3 (0, 0))] (fun v : Int => .int .i64 v) (fun v => [ownS 116 a xs.length c xs, pt b3 (.cells #[.int .i64 i] 3 (0, 0)), pu (decide (0 ≤ v) = Wl.has xs i)]) := by
 refine fn_intro Tryd.func96 rfl rfl Tryd.ntmps96 (Nat.le_of_ble_eq_true rfl) (fun _ => by repeat (first | exact App.nil | apply App.cons)) (fun κ F => ?_)
 refine ht_seq ?_
 refine ht_region ?_
 refine ho_ev rfl rfl rfl (ev_assign rfl rfl) ?_
 refine ho_nil ?_
 refine hx_then ?_
 refine ht_seq ?_
 refine ht_seq ?_
 refine ht_region ?_
 refine ho_ev rfl rfl rfl (ev_move rfl rfl) ?_
 refine ho_ev rfl rfl rfl (ev_lenSl rfl Tryd.underlying110 rfl) ?_
 refine ho_ev rfl rfl rfl (ev_move rfl rfl) ?_
 refine ho_nil ?_
 refine hx_then ?_
 refine ht_block ?_
 refine ht_loop (fun q : Nat => ([ownS 116 a xs.length c xs, pt b3 (.cells #[.int .i64 i] 3 (0, 0)), pu (Wl.has (xs.take q) i = false ∧ q ≤ xs.length), F], [(0, .slice a xs.length c), (1, .func (.func 78) #[] #[.pointer (some ⟨b3, 0, none⟩)]), (7, .int .i64 xs.length), (8, .int .i64 q)])) (fun q : Nat => xs.length - q) 0 ?_ (by repeat (first | exact EnvSub.nil _ | (refine EnvSub.cons rfl ?_))) (fun q => ?_)
 ·(first | dsimp only | skip)
  exact Ent.cons (by (repeat constructor); done) (Ent.cons (by (repeat constructor); done) (Ent.pu ⟨rfl, by omega⟩ (Ent.cons (by (repeat constructor); done) Ent.nil)))
 obtain q := q
 dsimp only
 refine ht_pick (A := pu (Wl.has (xs.take q) i = false ∧ q ≤ xs.length)) (by (repeat constructor); done) (ht_pure fun hq => ?_)
 obtain ⟨hnf, hq⟩ := hq
 refine ht_seq ?_
 refine ht_region ?_
 refine ho_lt rfl rfl rfl rfl rfl rfl (fun g1 => ?_) (fun g1 => ?_)
 ·first | (exfalso; first | omega | (simp at g1; done) | contradiction) | skip
  all_goals (
   refine ho_nil ?_
   refine hx_then ?_
   refine ht_seq ?_
   refine ht_then rfl ?_
   refine ht_skip ?_
   refine hx_then ?_
   refine ht_seq ?_
   refine ht_block ?_
   refine ht_seq ?_
   refine ht_region ?_
   refine ho_ev rfl rfl rfl (ev_move rfl rfl) ?_
   refine ho_ev rfl rfl rfl (ev_assign rfl rfl) ?_
   refine ho_nil ?_
   refine hx_then ?_
   refine ht_seq ?_
   obtain ⟨x, hx⟩ : ∃ x, xs[q]? = some x := ⟨_, List.getElem?_eq_getElem (by omega)⟩
   refine ht_someS (α := Wl.Seg) (a := a) (reads_own (by (with_reducible repeat constructor); done)) (by omega) (fun ab ao ha => ?_)
   refine ht_region ?_
   refine ho_ev rfl rfl rfl (ev_move rfl rfl) ?_
   refine ho_ev rfl rfl rfl (ev_move rfl rfl) ?_
   refine ho_ev rfl rfl rfl (ev_move rfl rfl) ?_
   refine ho_ev rfl rfl rfl (ev_indexAddr rfl Tryd.underlying110 Tryd.ty116 (congrArg (fun z => some (Value.slice z xs.length c)) ha) rfl (by omega) (by omega)) ?_
   refine ho_ev rfl rfl rfl (ev_loadA rfl Tryd.underlying116 Tryd.ty116 rfl rfl (cells_Sa ha (reads_own (by (with_reducible repeat constructor); done)) hx)) ?_
   refine ho_eff rfl rfl rfl (eff_call rfl rfl (.cons rfl .nil) rfl (wal_used1 b3 x i) (by repeat (first | exact Picks.nil | (apply Picks.ro; focus ((repeat constructor); done)) | (apply Picks.cons; focus ((repeat constructor); done)))) (fun _ => by repeat (first | exact App.nil | apply App.cons))) (fun _ => ?_)
   refine ho_nil ?_
   refine hx_then ?_
   refine ht_bool (t := 16) rfl (fun g16 => ?_) (fun g16 => ?_)
   ·first | (exfalso; first | omega | (simp at g16; done) | contradiction) | skip
    all_goals (
     refine ht_then rfl ?_
     refine ht_seq ?_
     refine ht_region ?_
     refine ho_ev rfl rfl rfl (ev_move rfl rfl) ?_
     refine ho_ev rfl rfl rfl (ev_assign rfl rfl) ?_
     refine ho_nil ?_
     refine hx_then ?_
     refine ht_ret ?_
     refine hx_block_ret ?_
     refine hx_through trivial ?_
     refine hx_through trivial ?_
     refine hx_block_ret ?_
     refine hx_through trivial ?_
     exact hx_ret1 (.inl rfl) rfl rfl ((q : Int)) rfl (Ent.cons (by (repeat constructor); done) (Ent.cons (by (repeat constructor); done) (Ent.pu (by rw [Wl.has_here hx (by simpa using g16)]; simp) (Ent.cons (by (repeat constructor); done) Ent.nil))))
    )
   ·first | (exfalso; first | omega | (simp at g16; done) | contradiction) | skip
    all_goals (
     refine ht_else rfl ?_
     refine ht_skip ?_
     refine hx_block_normal ?_
     refine hx_then ?_
     refine ht_region ?_
     refine ho_ev rfl rfl rfl (ev_add rfl rfl rfl (by first | exact in_i64 (by omega) | rfl)) ?_
     refine ho_ev rfl rfl rfl (ev_move rfl rfl) ?_
     refine ho_nil ?_
     refine hx_again (I := (fun q : Nat => ([ownS 116 a xs.length c xs, pt b3 (.cells #[.int .i64 i] 3 (0, 0)), pu (Wl.has (xs.take q) i = false ∧ q ≤ xs.length), F], [(0, .slice a xs.length c), (1, .func (.func 78) #[] #[.pointer (some ⟨b3, 0, none⟩)]), (7, .int .i64 xs.length), (8, .int .i64 q)]))) (μ := (fun q : Nat => xs.length - q)) (i := q) (q + 1) ?_ ?_ ?_
     ·(first | dsimp only | skip); omega
     ·repeat (first | exact EnvSub.nil _ | (refine EnvSub.cons rfl ?_))
     ·(first | dsimp only | skip)
      exact Ent.cons (by (repeat constructor); done) (Ent.cons (by (repeat constructor); done) (Ent.pu ⟨Wl.has_step hnf hx (by simpa using g16), by omega⟩ (Ent.cons (by (repeat constructor); done) Ent.nil)))
    )
  )
 ·first | (exfalso; first | omega | (simp at g1; done) | contradiction) | skip
  all_goals (
   refine ho_nil ?_
   refine hx_then ?_
   refine ht_seq ?_
   refine ht_else rfl ?_
   refine ht_exit ?_
   refine hx_through trivial ?_
   refine hx_through trivial ?_
   refine hx_block_here ?_
   refine hx_then ?_
   refine ht_seq ?_
   refine ht_region ?_
   refine ho_ev rfl rfl rfl (ev_assign rfl rfl) ?_
   refine ho_nil ?_
   refine hx_then ?_
   refine ht_ret ?_
   have hqq : q = xs.length := by omega
   subst hqq
   exact hx_ret1 (.inl rfl) rfl rfl (-1) rfl (Ent.cons (by (repeat constructor); done) (Ent.cons (by (repeat constructor); done) (Ent.pu (by rw [Wl.has_none hnf]; rfl) (Ent.cons (by (repeat constructor); done) Ent.nil))))
  )
theorem wal_ContainsS (a : Option Addr) (c : Nat) (xs : List Wl.Seg) (b3 : Nat) (i : Int) (hxs : xs.length ≤ 1000000) : Ctr Tryd.prog 77 #[.slice a xs.length c, .func (.func 78) #[] #[.pointer (some ⟨b3, 0, none⟩)]] [ownS 116 a xs.length c xs, pt b3 (.cells #[.int .i64 i] 3 (0, 0))] (fun _ : Unit => .bool (Wl.has xs i)) (fun _ => [ownS 116 a xs.length c xs, pt b3 (.cells #[.int .i64 i] 3 (0, 0))]) := by
 refine fn_intro Tryd.func77 rfl rfl Tryd.ntmps77 (Nat.le_of_ble_eq_true rfl) (fun _ => by repeat (first | exact App.nil | apply App.cons)) (fun κ F => ?_)
 refine ht_seq ?_
 refine ht_region ?_
 refine ho_ev rfl rfl rfl (ev_assign rfl rfl) ?_
 refine ho_nil ?_
 refine hx_then ?_
 refine ht_seq ?_
 refine ht_region ?_
 refine ho_ev rfl rfl rfl (ev_move rfl rfl) ?_
 refine ho_ev rfl rfl rfl (ev_move rfl rfl) ?_
 refine ho_eff rfl rfl rfl (eff_call rfl rfl (.cons rfl (.cons rfl .nil)) rfl (wal_IndexS a c xs b3 i hxs) (by repeat (first | exact Picks.nil | (apply Picks.ro; focus ((repeat constructor); done)) | (apply Picks.cons; focus ((repeat constructor); done)))) (fun _ => by repeat (first | exact App.nil | apply App.cons))) (fun v => ?_)
 refine ho_pick (A := pu (decide (0 ≤ v) = Wl.has xs i)) (by (repeat constructor); done) (ho_pure fun hv => ?_)
 refine ho_ge rfl rfl rfl rfl rfl rfl (fun g8 => ?_) (fun g8 => ?_)
 ·first | (exfalso; first | omega | (simp at g8; done) | contradiction) | skip
  all_goals (
   refine ho_ev rfl rfl rfl (ev_assign rfl rfl) ?_
   refine ho_nil ?_
   refine hx_then ?_
   refine ht_ret ?_
   exact hx_ret1 (.inl rfl) rfl rfl () (by rw [← hv]; congr 1; symm; simpa using g8) (Ent.cons (by (repeat constructor); done) (Ent.cons (by (repeat constructor); done) (Ent.cons (by (repeat constructor); done) Ent.nil)))
  )
 ·first | (exfalso; first | omega | (simp at g8; done) | contradiction) | skip
  all_goals (
   refine ho_ev rfl rfl rfl (ev_assign rfl rfl) ?_
   refine ho_nil ?_
   refine hx_then ?_
   refine ht_ret ?_
   exact hx_ret1 (.inl rfl) rfl rfl () (by rw [← hv]; congr 1; symm; simpa using g8) (Ent.cons (by (repeat constructor); done) (Ent.cons (by (repeat constructor); done) (Ent.cons (by (repeat constructor); done) Ent.nil)))
  )
theorem wal_used (p : Nat) (g : LG) (i : Int) (hl : g.live.length ≤ 1000000) : Ctr Tryd.prog 52 #[.pointer (some ⟨p, 0, none⟩), .int .i64 i] [LogAt p g] (fun _ : Unit => .bool (Wl.has g.live i)) (fun _ => [LogAt p g]) := by
 refine fn_intro Tryd.func52 rfl rfl Tryd.ntmps52 (Nat.le_of_ble_eq_true rfl) (fun _ => by repeat (first | exact App.nil | apply App.cons)) (fun κ F => ?_)
 refine ht_log (by (with_reducible repeat constructor); done) (fun x hx => ?_)
 refine ht_seq ?_
 refine ht_region ?_
 refine ho_eff rfl rfl rfl (eff_box1 rfl rfl rfl) (fun b3 => ?_)
 refine ho_ev rfl rfl rfl (ev_assign rfl rfl) ?_
 refine ho_nil ?_
 refine hx_then ?_
 refine ht_seq ?_
 refine ht_region ?_
 refine ho_ev rfl rfl rfl (ev_move rfl rfl) ?_
 refine ho_ev rfl rfl rfl (ev_nilCheck rfl rfl) ?_
 refine ho_ev rfl rfl rfl (by first | exact ev_fieldAddr0 rfl Tryd.fld112_4 rfl | exact ev_fieldAddr rfl Tryd.fld112_4 rfl) ?_
 refine ho_ev rfl rfl rfl (ev_load rfl Tryd.underlying110 rfl rfl (by first | exact cell_pt (by (with_reducible repeat constructor); done) rfl | exact cell_ro (by (with_reducible repeat constructor); done) rfl)) ?_
 refine ho_ev rfl rfl rfl (ev_makeFunc rfl .nil (.cons rfl .nil)) ?_
 refine ho_eff rfl rfl rfl (eff_call rfl rfl (.cons rfl (.cons rfl .nil)) rfl (wal_ContainsS x.la x.lc g.live b3 i hl) (by repeat (first | exact Picks.nil | (apply Picks.ro; focus ((repeat constructor); done)) | (apply Picks.cons; focus ((repeat constructor); done)))) (fun _ => by repeat (first | exact App.nil | apply App.cons))) (fun _ => ?_)
 refine ho_ev rfl rfl rfl (ev_assign rfl rfl) ?_
 refine ho_nil ?_
 refine hx_then ?_
 refine ht_ret ?_
 exact hx_ret1 (.inl rfl) rfl rfl () rfl (Ent.log (g := g) (x := x) (by repeat (first | exact Picks.nil | (apply Picks.ro; focus ((repeat constructor); done)) | (apply Picks.cons; focus ((repeat constructor); done)))) rfl rfl rfl rfl rfl rfl rfl rfl rfl rfl hx (Ent.cons (by (repeat constructor); done) Ent.nil))
theorem wal_Last (p : Nat) (g : LG) : Ctr Tryd.prog 25 #[.pointer (some ⟨p, 0, none⟩)] [LogAt p g] (fun _ : Unit => .int .u64 ((g.last : Nat) : Int)) (fun _ => [LogAt p g]) := by
 refine fn_intro Tryd.func25 rfl rfl Tryd.ntmps25 (Nat.le_of_ble_eq_true rfl) (fun _ => by repeat (first | exact App.nil | apply App.cons)) (fun κ F => ?_)
 refine ht_log (by (with_reducible repeat constructor); done) (fun x hx => ?_)
 refine ht_seq ?_
 refine ht_region ?_
 refine ho_ev rfl rfl rfl (ev_assign rfl rfl) ?_
 refine ho_nil ?_
 refine hx_then ?_
 refine ht_seq ?_
 refine ht_region ?_
 refine ho_ev rfl rfl rfl (ev_move rfl rfl) ?_
 refine ho_ev rfl rfl rfl (ev_nilCheck rfl rfl) ?_
 refine ho_ev rfl rfl rfl (by first | exact ev_fieldAddr0 rfl Tryd.fld112_6 rfl | exact ev_fieldAddr rfl Tryd.fld112_6 rfl) ?_
 refine ho_ev rfl rfl rfl (ev_load rfl Tryd.underlying41 rfl rfl (by first | exact cell_pt (by (with_reducible repeat constructor); done) rfl | exact cell_ro (by (with_reducible repeat constructor); done) rfl)) ?_
 refine ho_ev rfl rfl rfl (ev_assign rfl rfl) ?_
 refine ho_nil ?_
 refine hx_then ?_
 refine ht_ret ?_
 exact hx_ret1 (.inl rfl) rfl rfl () rfl (Ent.log (g := g) (x := x) (by repeat (first | exact Picks.nil | (apply Picks.ro; focus ((repeat constructor); done)) | (apply Picks.cons; focus ((repeat constructor); done)))) rfl rfl rfl rfl rfl rfl rfl rfl rfl rfl hx (Ent.cons (by (repeat constructor); done) Ent.nil))
theorem wal_Live (p : Nat) (g : LG) : Ctr Tryd.prog 26 #[.pointer (some ⟨p, 0, none⟩)] [LogAt p g] (fun _ : Unit => .int .i64 (g.live.length : Int)) (fun _ => [LogAt p g]) := by
 refine fn_intro Tryd.func26 rfl rfl Tryd.ntmps26 (Nat.le_of_ble_eq_true rfl) (fun _ => by repeat (first | exact App.nil | apply App.cons)) (fun κ F => ?_)
 refine ht_log (by (with_reducible repeat constructor); done) (fun x hx => ?_)
 refine ht_seq ?_
 refine ht_region ?_
 refine ho_ev rfl rfl rfl (ev_assign rfl rfl) ?_
 refine ho_nil ?_
 refine hx_then ?_
 refine ht_seq ?_
 refine ht_region ?_
 refine ho_ev rfl rfl rfl (ev_move rfl rfl) ?_
 refine ho_ev rfl rfl rfl (ev_nilCheck rfl rfl) ?_
 refine ho_ev rfl rfl rfl (by first | exact ev_fieldAddr0 rfl Tryd.fld112_4 rfl | exact ev_fieldAddr rfl Tryd.fld112_4 rfl) ?_
 refine ho_ev rfl rfl rfl (ev_load rfl Tryd.underlying110 rfl rfl (by first | exact cell_pt (by (with_reducible repeat constructor); done) rfl | exact cell_ro (by (with_reducible repeat constructor); done) rfl)) ?_
 refine ho_ev rfl rfl rfl (ev_lenSl rfl Tryd.underlying110 rfl) ?_
 refine ho_ev rfl rfl rfl (ev_assign rfl rfl) ?_
 refine ho_nil ?_
 refine hx_then ?_
 refine ht_ret ?_
 exact hx_ret1 (.inl rfl) rfl rfl () rfl (Ent.log (g := g) (x := x) (by repeat (first | exact Picks.nil | (apply Picks.ro; focus ((repeat constructor); done)) | (apply Picks.cons; focus ((repeat constructor); done)))) rfl rfl rfl rfl rfl rfl rfl rfl rfl rfl hx (Ent.cons (by (repeat constructor); done) Ent.nil))
theorem wal_Synced (p : Nat) (g : LG) : Ctr Tryd.prog 27 #[.pointer (some ⟨p, 0, none⟩)] [LogAt p g] (fun _ : Unit => .int .u64 ((g.synced : Nat) : Int)) (fun _ => [LogAt p g]) := by
 refine fn_intro Tryd.func27 rfl rfl Tryd.ntmps27 (Nat.le_of_ble_eq_true rfl) (fun _ => by repeat (first | exact App.nil | apply App.cons)) (fun κ F => ?_)
 refine ht_log (by (with_reducible repeat constructor); done) (fun x hx => ?_)
 refine ht_seq ?_
 refine ht_region ?_
 refine ho_ev rfl rfl rfl (ev_assign rfl rfl) ?_
 refine ho_nil ?_
 refine hx_then ?_
 refine ht_seq ?_
 refine ht_region ?_
 refine ho_ev rfl rfl rfl (ev_move rfl rfl) ?_
 refine ho_ev rfl rfl rfl (ev_nilCheck rfl rfl) ?_
 refine ho_ev rfl rfl rfl (by first | exact ev_fieldAddr0 rfl Tryd.fld112_7 rfl | exact ev_fieldAddr rfl Tryd.fld112_7 rfl) ?_
 refine ho_ev rfl rfl rfl (ev_load rfl Tryd.underlying41 rfl rfl (by first | exact cell_pt (by (with_reducible repeat constructor); done) rfl | exact cell_ro (by (with_reducible repeat constructor); done) rfl)) ?_
 refine ho_ev rfl rfl rfl (ev_assign rfl rfl) ?_
 refine ho_nil ?_
 refine hx_then ?_
 refine ht_ret ?_
 exact hx_ret1 (.inl rfl) rfl rfl () rfl (Ent.log (g := g) (x := x) (by repeat (first | exact Picks.nil | (apply Picks.ro; focus ((repeat constructor); done)) | (apply Picks.cons; focus ((repeat constructor); done)))) rfl rfl rfl rfl rfl rfl rfl rfl rfl rfl hx (Ent.cons (by (repeat constructor); done) Ent.nil))
theorem wal_Sync (p : Nat) (g : LG) (d : Dk.Disk) : Ctr Tryd.prog 47 #[.pointer (some ⟨p, 0, none⟩)] [LogAt p g, DiskAt g.dk d] (fun _ : Unit => .tuple #[]) (fun _ => [LogAt p { g with synced := g.last }, DiskAt g.dk d.sync]) := by
 refine fn_intro Tryd.func47 rfl rfl Tryd.ntmps47 (Nat.le_of_ble_eq_true rfl) (fun _ => by repeat (first | exact App.nil | apply App.cons)) (fun κ F => ?_)
 refine ht_log (by (with_reducible repeat constructor); done) (fun x hx => ?_)
 refine ht_seq ?_
 refine ht_region ?_
 refine ho_ev rfl rfl rfl (ev_move rfl rfl) ?_
 refine ho_ev rfl rfl rfl (ev_nilCheck rfl rfl) ?_
 refine ho_ev rfl rfl rfl (by first | exact ev_fieldAddr0 rfl Tryd.fld112_0 rfl | exact ev_fieldAddr rfl Tryd.fld112_0 rfl) ?_
 refine ho_ev rfl rfl rfl (ev_load rfl Tryd.underlying23 rfl rfl (by first | exact cell_pt (by (with_reducible repeat constructor); done) rfl | exact cell_ro (by (with_reducible repeat constructor); done) rfl)) ?_
 refine ho_eff rfl rfl rfl (eff_call rfl rfl (.cons rfl .nil) rfl (disk_Sync g.dk d) (by repeat (first | exact Picks.nil | (apply Picks.ro; focus ((repeat constructor); done)) | (apply Picks.cons; focus ((repeat constructor); done)))) (fun _ => by repeat (first | exact App.nil | apply App.cons))) (fun _ => ?_)
 refine ho_nil ?_
 refine hx_then ?_
 refine ht_region ?_
 refine ho_ev rfl rfl rfl (ev_move rfl rfl) ?_
 refine ho_ev rfl rfl rfl (ev_move rfl rfl) ?_
 refine ho_ev rfl rfl rfl (ev_nilCheck rfl rfl) ?_
 refine ho_ev rfl rfl rfl (by first | exact ev_fieldAddr0 rfl Tryd.fld112_6 rfl | exact ev_fieldAddr rfl Tryd.fld112_6 rfl) ?_
 refine ho_ev rfl rfl rfl (ev_load rfl Tryd.underlying41 rfl rfl (by first | exact cell_pt (by (with_reducible repeat constructor); done) rfl | exact cell_ro (by (with_reducible repeat constructor); done) rfl)) ?_
 refine ho_ev rfl rfl rfl (ev_nilCheck rfl rfl) ?_
 refine ho_ev rfl rfl rfl (by first | exact ev_fieldAddr0 rfl Tryd.fld112_7 rfl | exact ev_fieldAddr rfl Tryd.fld112_7 rfl) ?_
 refine ho_eff0 rfl rfl (eff_store1 rfl Tryd.ty41 rfl rfl (by (with_reducible repeat constructor); done) rfl rfl (lt_of_blt rfl) (by simp only [List.setIfInBounds_toArray, List.set_cons_zero, List.set_cons_succ]; rfl)) (fun _ => ?_)
 refine ho_nil ?_
 exact hx_ret0 (.inr rfl) rfl () rfl (Ent.log (g := { g with synced := g.last }) (x := x) (by repeat (first | exact Picks.nil | (apply Picks.ro; focus ((repeat constructor); done)) | (apply Picks.cons; focus ((repeat constructor); done)))) rfl rfl rfl rfl rfl rfl rfl rfl rfl rfl hx (Ent.cons (by (repeat constructor); done) (Ent.cons (by (repeat constructor); done) Ent.nil)))
theorem wal_free (p : Nat) (g : LG) (d : Dk.Disk) (i o : Nat) (hm : (i : Int) * (g.size : Int) = (o : Int)) (hat : 0 ≤ g.at_ ∧ g.at_ + (o : Int) + (g.size : Int) ≤ 65536) (hsz : g.size ≤ 64) (hp : d.pend.length ≤ 1000000) : Ctr Tryd.prog 53 #[.pointer (some ⟨p, 0, none⟩), .int .i64 (i : Int)] [LogAt p g, DiskAt g.dk d] (fun _ : Unit => .tuple #[]) (fun _ => [LogAt p g, DiskAt g.dk (Wl.freeAll d (g.at_ + (o : Int)) g.size)]) := by
 refine fn_intro Tryd.func53 rfl rfl Tryd.ntmps53 (Nat.le_of_ble_eq_true rfl) (fun _ => by repeat (first | exact App.nil | apply App.cons)) (fun κ F => ?_)
 refine ht_log (by (with_reducible repeat constructor); done) (fun x hx => ?_)
 refine ht_seq ?_
 refine ht_region ?_
 refine ho_ev rfl rfl rfl (ev_move rfl rfl) ?_
 refine ho_ev rfl rfl rfl (ev_nilCheck rfl rfl) ?_
 refine ho_ev rfl rfl rfl (by first | exact ev_fieldAddr0 rfl Tryd.fld112_3 rfl | exact ev_fieldAddr rfl Tryd.fld112_3 rfl) ?_
 refine ho_ev rfl rfl rfl (ev_load rfl Tryd.underlying3 rfl rfl (by first | exact cell_pt (by (with_reducible repeat constructor); done) rfl | exact cell_ro (by (with_reducible repeat constructor); done) rfl)) ?_
 refine ho_ev rfl rfl rfl (ev_move rfl rfl) ?_
 refine ho_nil ?_
 refine hx_then ?_
 refine ht_block ?_
 refine ht_loop (fun q : Nat => ([pt p (.cells (lgCells g x) 112 (0, 0)), ownS 116 x.la g.live.length x.lc g.live, ro (roS x.sa g.stream.length g.stream), DiskAt g.dk (Wl.freeAll d (g.at_ + (o : Int)) q), pu (q ≤ g.size), F], [(0, .pointer (some ⟨p, 0, none⟩)), (1, .int .i64 (i : Int)), (8, .int .i64 (g.size : Int)), (9, .int .i64 q)])) (fun q : Nat => g.size - q) 0 ?_ (by repeat (first | exact EnvSub.nil _ | (refine EnvSub.cons rfl ?_))) (fun q => ?_)
 ·(first | dsimp only | skip)
  exact Ent.cons (by (repeat constructor); done) (Ent.cons (by (repeat constructor); done) (Ent.roD (by (with_reducible repeat constructor); done) (Ent.cons (by (repeat constructor); done) (Ent.pu (by omega) (Ent.cons (by (repeat constructor); done) Ent.nil)))))
 obtain q := q
 dsimp only
 refine ht_pick (A := pu (q ≤ g.size)) (by (repeat constructor); done) (ht_pure fun hq => ?_)
 have hpl := Wl.freeAll_pend d (g.at_ + (o : Int)) q
 refine ht_seq ?_
 refine ht_region ?_
 refine ho_lt rfl rfl rfl rfl rfl rfl (fun g1 => ?_) (fun g1 => ?_)
 ·first | (exfalso; first | omega | (simp at g1; done) | contradiction) | skip
  all_goals (
   refine ho_nil ?_
   refine hx_then ?_
   refine ht_seq ?_
   refine ht_then rfl ?_
   refine ht_skip ?_
   refine hx_then ?_
   refine ht_seq ?_
   refine ht_block ?_
   refine ht_seq ?_
   refine ht_region ?_
   refine ho_ev rfl rfl rfl (ev_move rfl rfl) ?_
   refine ho_ev rfl rfl rfl (ev_assign rfl rfl) ?_
   refine ho_nil ?_
   refine hx_then ?_
   refine ht_draw (.op 0 (.op 1 (.op 2 (.op 3 (.op 4 (.op 5 (.op 6 (.op 7 (.op 8 (.op 9 (.op 10 (.op 11 (.op 12 (.op 13 (.op 14 (.op 15 (.op 16 (.op 17 .done)))))))))))))))))) [17] Tryd.mixed rfl ?_
   refine hd_ev rfl rfl rfl rfl (EvG.of rfl (ev_move rfl rfl)) ?_
   refine hd_ev rfl rfl rfl rfl (EvG.of rfl (ev_nilCheck rfl rfl)) ?_
   refine hd_ev rfl rfl rfl rfl (EvG.of rfl (by first | exact ev_fieldAddr0 rfl Tryd.fld112_0 rfl | exact ev_fieldAddr rfl Tryd.fld112_0 rfl)) ?_
   refine hd_ev rfl rfl rfl rfl (EvG.of rfl (ev_load rfl Tryd.underlying23 rfl rfl (by first | exact cell_pt (by (with_reducible repeat constructor); done) rfl | exact cell_ro (by (with_reducible repeat constructor); done) rfl))) ?_
   refine hd_ev rfl rfl rfl rfl (EvG.of rfl (ev_move rfl rfl)) ?_
   refine hd_ev rfl rfl rfl rfl (EvG.of rfl (ev_nilCheck rfl rfl)) ?_
   refine hd_ev rfl rfl rfl rfl (EvG.of rfl (by first | exact ev_fieldAddr0 rfl Tryd.fld112_1 rfl | exact ev_fieldAddr rfl Tryd.fld112_1 rfl)) ?_
   refine hd_ev rfl rfl rfl rfl (EvG.of rfl (ev_load rfl Tryd.underlying3 rfl rfl (by first | exact cell_pt (by (with_reducible repeat constructor); done) rfl | exact cell_ro (by (with_reducible repeat constructor); done) rfl))) ?_
   refine hd_ev rfl rfl rfl rfl (EvG.of rfl (ev_move rfl rfl)) ?_
   refine hd_ev rfl rfl rfl rfl (EvG.of rfl (ev_move rfl rfl)) ?_
   refine hd_ev rfl rfl rfl rfl (EvG.of rfl (ev_nilCheck rfl rfl)) ?_
   refine hd_ev rfl rfl rfl rfl (EvG.of rfl (by first | exact ev_fieldAddr0 rfl Tryd.fld112_3 rfl | exact ev_fieldAddr rfl Tryd.fld112_3 rfl)) ?_
   refine hd_ev rfl rfl rfl rfl (EvG.of rfl (ev_load rfl Tryd.underlying3 rfl rfl (by first | exact cell_pt (by (with_reducible repeat constructor); done) rfl | exact cell_ro (by (with_reducible repeat constructor); done) rfl))) ?_
   refine hd_ev rfl rfl rfl rfl (EvG.of rfl (ev_mul (r := (o : Int)) rfl rfl rfl (by rw [hm]; exact in_i64 (by omega)))) ?_
   refine hd_ev rfl rfl rfl rfl (EvG.of rfl (ev_add rfl rfl rfl (by first | exact in_i64 (by omega) | rfl))) ?_
   refine hd_ev rfl rfl rfl rfl (EvG.of rfl (ev_move rfl rfl)) ?_
   refine hd_ev rfl rfl rfl rfl (EvG.of rfl (ev_add rfl rfl rfl (by first | exact in_i64 (by omega) | rfl))) ?_
   refine hd_eff rfl rfl rfl rfl rfl (eff_call rfl rfl (.cons rfl (.cons rfl .nil)) rfl (disk_Free g.dk (Wl.freeAll d (g.at_ + (o : Int)) q) (g.at_ + (o : Int) + (q : Int)) (by omega)) (by repeat (first | exact Picks.nil | (apply Picks.ro; focus ((repeat constructor); done)) | (apply Picks.cons; focus ((repeat constructor); done)))) (fun _ => by repeat (first | exact App.nil | apply App.cons))) (fun _ => by (refine FL.skip rfl ?_); (refine FL.skip rfl ?_); (refine FL.skip rfl ?_); (refine FL.skip rfl ?_); (refine FL.skip rfl ?_); (refine FL.skip rfl ?_); (refine FL.skip rfl ?_); (refine FL.skip rfl ?_); (refine FL.skip rfl ?_); (refine FL.skip rfl ?_); (refine FL.skip rfl ?_); (refine FL.skip rfl ?_); (refine FL.skip rfl ?_); (refine FL.skip rfl ?_); (refine FL.skip rfl ?_); (refine FL.skip rfl ?_); (refine FL.skip rfl ?_); exact FL.nil) (fun _ => ?_)
   refine hd_nil ?_
   refine hx_block_normal ?_
   refine hx_then ?_
   refine ht_region ?_
   refine ho_ev rfl rfl rfl (ev_add rfl rfl rfl (by first | exact in_i64 (by omega) | rfl)) ?_
   refine ho_ev rfl rfl rfl (ev_move rfl rfl) ?_
   refine ho_nil ?_
   refine hx_again (I := (fun q : Nat => ([pt p (.cells (lgCells g x) 112 (0, 0)), ownS 116 x.la g.live.length x.lc g.live, ro (roS x.sa g.stream.length g.stream), DiskAt g.dk (Wl.freeAll d (g.at_ + (o : Int)) q), pu (q ≤ g.size), F], [(0, .pointer (some ⟨p, 0, none⟩)), (1, .int .i64 (i : Int)), (8, .int .i64 (g.size : Int)), (9, .int .i64 q)]))) (μ := (fun q : Nat => g.size - q)) (i := q) (q + 1) ?_ ?_ ?_
   ·(first | dsimp only | skip); omega
   ·repeat (first | exact EnvSub.nil _ | (refine EnvSub.cons rfl ?_))
   ·(first | dsimp only | skip)
    exact Ent.cons (by (repeat constructor); done) (Ent.cons (by (repeat constructor); done) (Ent.roD (by (with_reducible repeat constructor); done) (Ent.cons (by (repeat constructor); done) (Ent.pu (by omega) (Ent.cons (by (repeat constructor); done) Ent.nil)))))
  )
 ·first | (exfalso; first | omega | (simp at g1; done) | contradiction) | skip
  all_goals (
   refine ho_nil ?_
   refine hx_then ?_
   refine ht_seq ?_
   refine ht_else rfl ?_
   refine ht_exit ?_
   refine hx_through trivial ?_
   refine hx_through trivial ?_
   refine hx_block_here ?_
   have hqq : q = g.size := by omega
   subst hqq
   exact hx_ret0 (.inr rfl) rfl () rfl (Ent.log (g := g) (x := x) (by repeat (first | exact Picks.nil | (apply Picks.ro; focus ((repeat constructor); done)) | (apply Picks.cons; focus ((repeat constructor); done)))) rfl rfl rfl rfl rfl rfl rfl rfl rfl rfl hx (Ent.cons (by (repeat constructor); done) (Ent.cons (by (repeat constructor); done) Ent.nil)))
  )
theorem wal_bytes (p : Nat) (g : LG) (d : Dk.Disk) (i o : Nat) (hm : (i : Int) * (g.size : Int) = (o : Int)) (hat : 0 ≤ g.at_ ∧ g.at_ + (o : Int) + (g.size : Int) ≤ 65536) (hsz : g.size ≤ 64) : Ctr Tryd.prog 75 #[.pointer (some ⟨p, 0, none⟩), .int .i64 (i : Int)] [LogAt p g, DiskAt g.dk d] (fun q : Option Addr × Nat => .slice q.1 (Wl.segBytes d.view (g.at_ + (o : Int)) g.size).length q.2) (fun q => [LogAt p g, DiskAt g.dk d, ro (roS q.1 (Wl.segBytes d.view (g.at_ + (o : Int)) g.size).length (Wl.segBytes d.view (g.at_ + (o : Int)) g.size)), pu ((Wl.segBytes d.view (g.at_ + (o : Int)) g.size).length ≤ q.2)]) := by
 refine fn_intro Tryd.func75 rfl rfl Tryd.ntmps75 (Nat.le_of_ble_eq_true rfl) (fun _ => by repeat (first | exact App.nil | apply App.cons)) (fun κ F => ?_)
 refine ht_log (by (with_reducible repeat constructor); done) (fun x hx => ?_)
 refine ht_dkOkW (by (with_reducible repeat constructor); done) (fun hok => ?_)
 refine ht_seq ?_
 refine ht_region ?_
 refine ho_ev rfl rfl rfl (ev_assign rfl rfl) ?_
 refine ho_nil ?_
 refine hx_then ?_
 refine ht_seq ?_
 refine ht_region ?_
 refine ho_ev rfl rfl rfl (ev_assign rfl rfl) ?_
 refine ho_nil ?_
 refine hx_then ?_
 refine ht_seq ?_
 refine ht_seq ?_
 refine ht_region ?_
 refine ho_ev rfl rfl rfl (ev_move rfl rfl) ?_
 refine ho_ev rfl rfl rfl (ev_nilCheck rfl rfl) ?_
 refine ho_ev rfl rfl rfl (by first | exact ev_fieldAddr0 rfl Tryd.fld112_3 rfl | exact ev_fieldAddr rfl Tryd.fld112_3 rfl) ?_
 refine ho_ev rfl rfl rfl (ev_load rfl Tryd.underlying3 rfl rfl (by first | exact cell_pt (by (with_reducible repeat constructor); done) rfl | exact cell_ro (by (with_reducible repeat constructor); done) rfl)) ?_
 refine ho_ev rfl rfl rfl (ev_move rfl rfl) ?_
 refine ho_nil ?_
 refine hx_then ?_
 refine ht_block ?_
 refine ht_loop (fun q : Nat × List UInt8 × Option Addr × Nat => ([pt p (.cells (lgCells g x) 112 (0, 0)), ownS 116 x.la g.live.length x.lc g.live, ro (roS x.sa g.stream.length g.stream), DiskAt g.dk d, ownS 5 q.2.2.1 q.2.1.length q.2.2.2 q.2.1, pu (q.2.1 ++ Wl.segBytes d.view (g.at_ + (o : Int) + (q.1 : Int)) (g.size - q.1) = (Wl.segBytes d.view (g.at_ + (o : Int)) g.size) ∧ q.1 ≤ g.size ∧ q.2.1.length ≤ 512 * q.1), F], [(0, .pointer (some ⟨p, 0, none⟩)), (1, .int .i64 (i : Int)), (5, .slice q.2.2.1 q.2.1.length q.2.2.2), (12, .int .i64 (g.size : Int)), (13, .int .i64 q.1)])) (fun q : Nat × List UInt8 × Option Addr × Nat => g.size - q.1) (0, [], none, 0) ?_ (by repeat (first | exact EnvSub.nil _ | (refine EnvSub.cons rfl ?_))) (fun q => ?_)
 ·(first | dsimp only | skip)
  refine (ownS_nil (α := UInt8) 5).trans ?_
  exact Ent.cons (by (repeat constructor); done) (Ent.cons (by (repeat constructor); done) (Ent.roD (by (with_reducible repeat constructor); done) (Ent.cons (by (repeat constructor); done) (Ent.cons (by (repeat constructor); done) (Ent.pu ⟨by simp, by omega, by simp⟩ (Ent.cons (by (repeat constructor); done) Ent.nil))))))
 obtain ⟨q, out, ad, cp⟩ := q
 dsimp only
 refine ht_pick (A := pu (out ++ Wl.segBytes d.view (g.at_ + (o : Int) + (q : Int)) (g.size - q) = (Wl.segBytes d.view (g.at_ + (o : Int)) g.size) ∧ q ≤ g.size ∧ out.length ≤ 512 * q)) (by (repeat constructor); done) (ht_pure fun hq => ?_)
 obtain ⟨hinv, hq, hol⟩ := hq
 refine ht_seq ?_
 refine ht_region ?_
 refine ho_lt rfl rfl rfl rfl rfl rfl (fun g1 => ?_) (fun g1 => ?_)
 ·first | (exfalso; first | omega | (simp at g1; done) | contradiction | (rw [hv] at *; cases g1; done)) | skip
  all_goals (
   refine ho_nil ?_
   refine hx_then ?_
   refine ht_seq ?_
   refine ht_then rfl ?_
   refine ht_skip ?_
   refine hx_then ?_
   refine ht_seq ?_
   refine ht_block ?_
   refine ht_seq ?_
   refine ht_region ?_
   refine ho_ev rfl rfl rfl (ev_move rfl rfl) ?_
   refine ho_ev rfl rfl rfl (ev_assign rfl rfl) ?_
   refine ho_nil ?_
   refine hx_then ?_
   refine ht_seq ?_
   refine ht_draw (.op 0 (.op 1 (.op 2 (.op 3 (.op 4 (.op 5 (.op 6 (.op 7 (.op 8 (.op 9 (.op 10 (.op 11 (.op 12 (.op 13 (.op 14 (.op 15 (.op 16 (.op 17 (.op 18 (.op 19 (.op 20 (.op 21 (.op 22 .done))))))))))))))))))))))) [17] Tryd.mixed rfl ?_
   refine hd_ev rfl rfl rfl rfl (EvG.of rfl (ev_move rfl rfl)) ?_
   refine hd_ev rfl rfl rfl rfl (EvG.of rfl (ev_nilCheck rfl rfl)) ?_
   refine hd_ev rfl rfl rfl rfl (EvG.of rfl (by first | exact ev_fieldAddr0 rfl Tryd.fld112_0 rfl | exact ev_fieldAddr rfl Tryd.fld112_0 rfl)) ?_
   refine hd_ev rfl rfl rfl rfl (EvG.of rfl (ev_load rfl Tryd.underlying23 rfl rfl (by first | exact cell_pt (by (with_reducible repeat constructor); done) rfl | exact cell_ro (by (with_reducible repeat constructor); done) rfl))) ?_
   refine hd_ev rfl rfl rfl rfl (EvG.of rfl (ev_move rfl rfl)) ?_
   refine hd_ev rfl rfl rfl rfl (EvG.of rfl (ev_nilCheck rfl rfl)) ?_
   refine hd_ev rfl rfl rfl rfl (EvG.of rfl (by first | exact ev_fieldAddr0 rfl Tryd.fld112_1 rfl | exact ev_fieldAddr rfl Tryd.fld112_1 rfl)) ?_
   refine hd_ev rfl rfl rfl rfl (EvG.of rfl (ev_load rfl Tryd.underlying3 rfl rfl (by first | exact cell_pt (by (with_reducible repeat constructor); done) rfl | exact cell_ro (by (with_reducible repeat constructor); done) rfl))) ?_
   refine hd_ev rfl rfl rfl rfl (EvG.of rfl (ev_move rfl rfl)) ?_
   refine hd_ev rfl rfl rfl rfl (EvG.of rfl (ev_move rfl rfl)) ?_
   refine hd_ev rfl rfl rfl rfl (EvG.of rfl (ev_nilCheck rfl rfl)) ?_
   refine hd_ev rfl rfl rfl rfl (EvG.of rfl (by first | exact ev_fieldAddr0 rfl Tryd.fld112_3 rfl | exact ev_fieldAddr rfl Tryd.fld112_3 rfl)) ?_
   refine hd_ev rfl rfl rfl rfl (EvG.of rfl (ev_load rfl Tryd.underlying3 rfl rfl (by first | exact cell_pt (by (with_reducible repeat constructor); done) rfl | exact cell_ro (by (with_reducible repeat constructor); done) rfl))) ?_
   refine hd_ev rfl rfl rfl rfl (EvG.of rfl (ev_mul (r := (o : Int)) rfl rfl rfl (by rw [hm]; exact in_i64 (by omega)))) ?_
   refine hd_ev rfl rfl rfl rfl (EvG.of rfl (ev_add rfl rfl rfl (by first | exact in_i64 (by omega) | rfl))) ?_
   refine hd_ev rfl rfl rfl rfl (EvG.of rfl (ev_move rfl rfl)) ?_
   refine hd_ev rfl rfl rfl rfl (EvG.of rfl (ev_add rfl rfl rfl (by first | exact in_i64 (by omega) | rfl))) ?_
   rcases hv : d.view (g.at_ + (o : Int) + (q : Int)) with _ | s
   ·skip
    refine hd_eff rfl rfl rfl rfl rfl (eff_call rfl rfl (.cons rfl (.cons rfl .nil)) rfl (disk_Read_no g.dk d (g.at_ + (o : Int) + (q : Int)) hv) (by repeat (first | exact Picks.nil | (apply Picks.ro; focus ((repeat constructor); done)) | (apply Picks.cons; focus ((repeat constructor); done)))) (fun _ => by repeat (first | exact App.nil | apply App.cons))) (fun _ => by (refine FL.skip rfl ?_); (refine FL.skip rfl ?_); (refine FL.skip rfl ?_); (refine FL.skip rfl ?_); (refine FL.skip rfl ?_); (refine FL.skip rfl ?_); (refine FL.skip rfl ?_); (refine FL.skip rfl ?_); (refine FL.skip rfl ?_); (refine FL.skip rfl ?_); (refine FL.skip rfl ?_); (refine FL.skip rfl ?_); (refine FL.skip rfl ?_); (refine FL.skip rfl ?_); (refine FL.skip rfl ?_); (refine FL.skip rfl ?_); (refine FL.skip rfl ?_); exact FL.nil) (fun _ => ?_)
    refine hd_ev rfl rfl rfl rfl (EvG.of rfl (ev_move rfl rfl)) ?_
    refine hd_ev rfl rfl rfl rfl (EvG.of rfl (ev_extract rfl rfl rfl)) ?_
    refine hd_ev rfl rfl rfl rfl (EvG.of rfl (ev_extract rfl rfl rfl)) ?_
    refine hd_ev rfl rfl rfl rfl (EvG.of rfl (ev_assign rfl rfl)) ?_
    refine hd_ev rfl rfl rfl rfl (EvG.of rfl (ev_assign rfl rfl)) ?_
    refine hd_nil ?_
    refine hx_then ?_
    refine ht_seq ?_
    refine ht_seq ?_
    refine ht_region ?_
    refine ho_ev rfl rfl rfl (ev_move rfl rfl) ?_
    refine ho_ne rfl rfl rfl rfl rfl rfl (fun g2 => ?_) (fun g2 => ?_)
    ·first | (exfalso; first | omega | (simp at g2; done) | contradiction | (rw [hv] at *; cases g2; done)) | skip
     all_goals (
      refine ho_nil ?_
      refine hx_then ?_
      refine ht_then rfl ?_
      refine ht_exit ?_
      refine hx_through trivial ?_
      refine hx_block_past (by decide) ?_
      refine hx_through trivial ?_
      refine hx_through trivial ?_
      refine hx_block_here ?_
      refine hx_then ?_
      refine ht_seq ?_
      refine ht_region ?_
      refine ho_ev rfl rfl rfl (ev_move rfl rfl) ?_
      refine ho_ev rfl rfl rfl (ev_assign rfl rfl) ?_
      refine ho_nil ?_
      refine hx_then ?_
      refine ht_ret ?_
      have hb0 : Wl.segBytes d.view (g.at_ + (o : Int) + (q : Int)) (g.size - q) = [] := Wl.segBytes_none hv
      rw [hb0, List.append_nil] at hinv
      refine hx_cap (xs := out) (by (repeat constructor); done) (fun hl hcap => ?_)
      refine hx_freezeS (xs := out) (by (repeat constructor); done) ?_
      rw [hinv] at hl hcap ⊢
      exact hx_ret1 (.inl rfl) rfl rfl (ad, cp) rfl (Ent.log (g := g) (x := x) (by repeat (first | exact Picks.nil | (apply Picks.ro; focus ((repeat constructor); done)) | (apply Picks.cons; focus ((repeat constructor); done)))) rfl rfl rfl rfl rfl rfl rfl rfl rfl rfl hx (Ent.cons (by (repeat constructor); done) (Ent.roD (by (repeat constructor); done) (Ent.pu hcap (Ent.cons (by (repeat constructor); done) Ent.nil)))))
     )
    ·first | (exfalso; first | omega | (simp at g2; done) | contradiction | (rw [hv] at *; cases g2; done)) | skip
     all_goals (
      refine ho_nil ?_
      refine hx_then ?_
      refine ht_else rfl ?_
      refine ht_skip ?_
      refine hx_then ?_
      refine ht_seq ?_
      refine ht_region ?_
      refine ho_ev rfl rfl rfl (ev_move rfl rfl) ?_
      refine ho_ev rfl rfl rfl (ev_move rfl rfl) ?_
      refine ho_eff rfl rfl rfl (eff_append (α := UInt8) rfl Tryd.underlying86 Tryd.ty5 rfl (by decide) Tryd.underlying86 rfl rfl (by (with_reducible repeat constructor); done) (by first | exact reads_ro (by (with_reducible repeat constructor); done) | exact reads_own (by (with_reducible repeat constructor); done) | exact reads_nil _) (by first | omega | (simp only [List.length_append, List.length_cons, List.length_nil, List.length_drop, List.length_take]; omega) | (simp; omega))) (fun p41 => ?_)
      refine ho_ev rfl rfl rfl (ev_assign rfl rfl) ?_
      refine ho_nil ?_
      refine hx_then ?_
      refine ht_seq ?_
      refine ht_region ?_
      refine ho_ev rfl rfl rfl (ev_move rfl rfl) ?_
      refine ho_ev rfl rfl rfl (ev_lenSl rfl Tryd.underlying86 rfl) ?_
      refine ho_lt rfl rfl rfl rfl rfl rfl (fun g44 => ?_) (fun g44 => ?_)
      ·first | (exfalso; first | omega | (simp at g44; done) | contradiction | (rw [hv] at *; cases g44; done)) | skip
       all_goals (
        refine ho_nil ?_
        refine hx_then ?_
        refine ht_then rfl ?_
        refine ht_exit ?_
        refine hx_block_past (by decide) ?_
        refine hx_through trivial ?_
        refine hx_through trivial ?_
        refine hx_block_here ?_
        refine hx_then ?_
        refine ht_seq ?_
        refine ht_region ?_
        refine ho_ev rfl rfl rfl (ev_move rfl rfl) ?_
        refine ho_ev rfl rfl rfl (ev_assign rfl rfl) ?_
        refine ho_nil ?_
        refine hx_then ?_
        refine ht_ret ?_
        rw [show g.size - q = g.size - (q + 1) + 1 by omega, Wl.segBytes_short hv (by omega)] at hinv
        refine hx_cap (xs := out ++ s) (by (repeat constructor); done) (fun hl hcap => ?_)
        refine hx_freezeS (xs := out ++ s) (by (repeat constructor); done) ?_
        rw [hinv] at hl hcap ⊢
        exact hx_ret1 (.inl rfl) rfl rfl p41 rfl (Ent.log (g := g) (x := x) (by repeat (first | exact Picks.nil | (apply Picks.ro; focus ((repeat constructor); done)) | (apply Picks.cons; focus ((repeat constructor); done)))) rfl rfl rfl rfl rfl rfl rfl rfl rfl rfl hx (Ent.cons (by (repeat constructor); done) (Ent.roD (by (repeat constructor); done) (Ent.pu hcap (Ent.cons (by (repeat constructor); done) Ent.nil)))))
       )
      ·first | (exfalso; first | omega | (simp at g44; done) | contradiction | (rw [hv] at *; cases g44; done)) | skip
       all_goals (
        refine ho_nil ?_
        refine hx_then ?_
        refine ht_else rfl ?_
        refine ht_skip ?_
        refine hx_block_normal ?_
        refine hx_then ?_
        refine ht_region ?_
        refine ho_ev rfl rfl rfl (ev_add rfl rfl rfl (by first | exact in_i64 (by omega) | rfl)) ?_
        refine ho_ev rfl rfl rfl (ev_move rfl rfl) ?_
        refine ho_nil ?_
        refine hx_again (I := (fun q : Nat × List UInt8 × Option Addr × Nat => ([pt p (.cells (lgCells g x) 112 (0, 0)), ownS 116 x.la g.live.length x.lc g.live, ro (roS x.sa g.stream.length g.stream), DiskAt g.dk d, ownS 5 q.2.2.1 q.2.1.length q.2.2.2 q.2.1, pu (q.2.1 ++ Wl.segBytes d.view (g.at_ + (o : Int) + (q.1 : Int)) (g.size - q.1) = (Wl.segBytes d.view (g.at_ + (o : Int)) g.size) ∧ q.1 ≤ g.size ∧ q.2.1.length ≤ 512 * q.1), F], [(0, .pointer (some ⟨p, 0, none⟩)), (1, .int .i64 (i : Int)), (5, .slice q.2.2.1 q.2.1.length q.2.2.2), (12, .int .i64 (g.size : Int)), (13, .int .i64 q.1)]))) (μ := (fun q : Nat × List UInt8 × Option Addr × Nat => g.size - q.1)) (i := (q, out, ad, cp)) (q + 1, out ++ s, p41.1, p41.2) ?_ ?_ ?_
        ·(first | dsimp only | skip); omega
        ·repeat (first | exact EnvSub.nil _ | (refine EnvSub.cons rfl ?_))
        ·(first | dsimp only | skip)
         exact Ent.cons (by (repeat constructor); done) (Ent.cons (by (repeat constructor); done) (Ent.roD (by (with_reducible repeat constructor); done) (Ent.cons (by (repeat constructor); done) (Ent.cons (by (repeat constructor); done) (Ent.pu ⟨by rw [← hinv, show g.size - q = g.size - (q + 1) + 1 by omega, Wl.segBytes_long hv (by omega), List.append_assoc, show g.at_ + (o : Int) + ((q + 1 : Nat) : Int) = g.at_ + (o : Int) + (q : Int) + 1 by omega], by omega, by rw [List.length_append]; omega⟩ (Ent.cons (by (repeat constructor); done) Ent.nil))))))
       )
     )
   ·skip
    refine hd_eff rfl rfl rfl rfl rfl (eff_call rfl rfl (.cons rfl (.cons rfl .nil)) rfl (disk_Read g.dk d (g.at_ + (o : Int) + (q : Int)) s hv) (by repeat (first | exact Picks.nil | (apply Picks.ro; focus ((repeat constructor); done)) | (apply Picks.cons; focus ((repeat constructor); done)))) (fun _ => by repeat (first | exact App.nil | apply App.cons))) (fun _ => by (refine FL.skip rfl ?_); (refine FL.skip rfl ?_); (refine FL.skip rfl ?_); (refine FL.skip rfl ?_); (refine FL.skip rfl ?_); (refine FL.skip rfl ?_); (refine FL.skip rfl ?_); (refine FL.skip rfl ?_); (refine FL.skip rfl ?_); (refine FL.skip rfl ?_); (refine FL.skip rfl ?_); (refine FL.skip rfl ?_); (refine FL.skip rfl ?_); (refine FL.skip rfl ?_); (refine FL.skip rfl ?_); (refine FL.skip rfl ?_); (refine FL.skip rfl ?_); exact FL.nil) (fun y => ?_)
    have hsl : s.length ≤ 512 := hok.view _ _ hv
    refine hd_ev rfl rfl rfl rfl (EvG.of rfl (ev_move rfl rfl)) ?_
    refine hd_ev rfl rfl rfl rfl (EvG.of rfl (ev_extract rfl rfl rfl)) ?_
    refine hd_ev rfl rfl rfl rfl (EvG.of rfl (ev_extract rfl rfl rfl)) ?_
    refine hd_ev rfl rfl rfl rfl (EvG.of rfl (ev_assign rfl rfl)) ?_
    refine hd_ev rfl rfl rfl rfl (EvG.of rfl (ev_assign rfl rfl)) ?_
    refine hd_nil ?_
    refine hx_then ?_
    refine ht_seq ?_
    refine ht_seq ?_
    refine ht_region ?_
    refine ho_ev rfl rfl rfl (ev_move rfl rfl) ?_
    refine ho_ne rfl rfl rfl rfl rfl rfl (fun g3 => ?_) (fun g3 => ?_)
    ·first | (exfalso; first | omega | (simp at g3; done) | contradiction | (rw [hv] at *; cases g3; done)) | skip
     all_goals (
      refine ho_nil ?_
      refine hx_then ?_
      refine ht_then rfl ?_
      refine ht_exit ?_
      refine hx_through trivial ?_
      refine hx_block_past (by decide) ?_
      refine hx_through trivial ?_
      refine hx_through trivial ?_
      refine hx_block_here ?_
      refine hx_then ?_
      refine ht_seq ?_
      refine ht_region ?_
      refine ho_ev rfl rfl rfl (ev_move rfl rfl) ?_
      refine ho_ev rfl rfl rfl (ev_assign rfl rfl) ?_
      refine ho_nil ?_
      refine hx_then ?_
      refine ht_ret ?_
      have hb0 : Wl.segBytes d.view (g.at_ + (o : Int) + (q : Int)) (g.size - q) = [] := Wl.segBytes_none hv
      rw [hb0, List.append_nil] at hinv
      refine hx_cap (xs := out) (by (repeat constructor); done) (fun hl hcap => ?_)
      refine hx_freezeS (xs := out) (by (repeat constructor); done) ?_
      rw [hinv] at hl hcap ⊢
      exact hx_ret1 (.inl rfl) rfl rfl (ad, cp) rfl (Ent.log (g := g) (x := x) (by repeat (first | exact Picks.nil | (apply Picks.ro; focus ((repeat constructor); done)) | (apply Picks.cons; focus ((repeat constructor); done)))) rfl rfl rfl rfl rfl rfl rfl rfl rfl rfl hx (Ent.cons (by (repeat constructor); done) (Ent.roD (by (repeat constructor); done) (Ent.pu hcap (Ent.cons (by (repeat constructor); done) Ent.nil)))))
     )
    ·first | (exfalso; first | omega | (simp at g3; done) | contradiction | (rw [hv] at *; cases g3; done)) | skip
     all_goals (
      refine ho_nil ?_
      refine hx_then ?_
      refine ht_else rfl ?_
      refine ht_skip ?_
      refine hx_then ?_
      refine ht_seq ?_
      refine ht_region ?_
      refine ho_ev rfl rfl rfl (ev_move rfl rfl) ?_
      refine ho_ev rfl rfl rfl (ev_move rfl rfl) ?_
      refine ho_eff rfl rfl rfl (eff_append (α := UInt8) rfl Tryd.underlying86 Tryd.ty5 rfl (by decide) Tryd.underlying86 rfl rfl (by (with_reducible repeat constructor); done) (by first | exact reads_ro (by (with_reducible repeat constructor); done) | exact reads_own (by (with_reducible repeat constructor); done) | exact reads_nil _) (by first | omega | (simp only [List.length_append, List.length_cons, List.length_nil, List.length_drop, List.length_take]; omega) | (simp; omega))) (fun p41 => ?_)
      refine ho_ev rfl rfl rfl (ev_assign rfl rfl) ?_
      refine ho_nil ?_
      refine hx_then ?_
      refine ht_seq ?_
      refine ht_region ?_
      refine ho_ev rfl rfl rfl (ev_move rfl rfl) ?_
      refine ho_ev rfl rfl rfl (ev_lenSl rfl Tryd.underlying86 rfl) ?_
      refine ho_lt rfl rfl rfl rfl rfl rfl (fun g44 => ?_) (fun g44 => ?_)
      ·first | (exfalso; first | omega | (simp at g44; done) | contradiction | (rw [hv] at *; cases g44; done)) | skip
       all_goals (
        refine ho_nil ?_
        refine hx_then ?_
        refine ht_then rfl ?_
        refine ht_exit ?_
        refine hx_block_past (by decide) ?_
        refine hx_through trivial ?_
        refine hx_through trivial ?_
        refine hx_block_here ?_
        refine hx_then ?_
        refine ht_seq ?_
        refine ht_region ?_
        refine ho_ev rfl rfl rfl (ev_move rfl rfl) ?_
        refine ho_ev rfl rfl rfl (ev_assign rfl rfl) ?_
        refine ho_nil ?_
        refine hx_then ?_
        refine ht_ret ?_
        rw [show g.size - q = g.size - (q + 1) + 1 by omega, Wl.segBytes_short hv (by omega)] at hinv
        refine hx_cap (xs := out ++ s) (by (repeat constructor); done) (fun hl hcap => ?_)
        refine hx_freezeS (xs := out ++ s) (by (repeat constructor); done) ?_
        rw [hinv] at hl hcap ⊢
        exact hx_ret1 (.inl rfl) rfl rfl p41 rfl (Ent.log (g := g) (x := x) (by repeat (first | exact Picks.nil | (apply Picks.ro; focus ((repeat constructor); done)) | (apply Picks.cons; focus ((repeat constructor); done)))) rfl rfl rfl rfl rfl rfl rfl rfl rfl rfl hx (Ent.cons (by (repeat constructor); done) (Ent.roD (by (repeat constructor); done) (Ent.pu hcap (Ent.cons (by (repeat constructor); done) Ent.nil)))))
       )
      ·first | (exfalso; first | omega | (simp at g44; done) | contradiction | (rw [hv] at *; cases g44; done)) | skip
       all_goals (
        refine ho_nil ?_
        refine hx_then ?_
        refine ht_else rfl ?_
        refine ht_skip ?_
        refine hx_block_normal ?_
        refine hx_then ?_
        refine ht_region ?_
        refine ho_ev rfl rfl rfl (ev_add rfl rfl rfl (by first | exact in_i64 (by omega) | rfl)) ?_
        refine ho_ev rfl rfl rfl (ev_move rfl rfl) ?_
        refine ho_nil ?_
        refine hx_again (I := (fun q : Nat × List UInt8 × Option Addr × Nat => ([pt p (.cells (lgCells g x) 112 (0, 0)), ownS 116 x.la g.live.length x.lc g.live, ro (roS x.sa g.stream.length g.stream), DiskAt g.dk d, ownS 5 q.2.2.1 q.2.1.length q.2.2.2 q.2.1, pu (q.2.1 ++ Wl.segBytes d.view (g.at_ + (o : Int) + (q.1 : Int)) (g.size - q.1) = (Wl.segBytes d.view (g.at_ + (o : Int)) g.size) ∧ q.1 ≤ g.size ∧ q.2.1.length ≤ 512 * q.1), F], [(0, .pointer (some ⟨p, 0, none⟩)), (1, .int .i64 (i : Int)), (5, .slice q.2.2.1 q.2.1.length q.2.2.2), (12, .int .i64 (g.size : Int)), (13, .int .i64 q.1)]))) (μ := (fun q : Nat × List UInt8 × Option Addr × Nat => g.size - q.1)) (i := (q, out, ad, cp)) (q + 1, out ++ s, p41.1, p41.2) ?_ ?_ ?_
        ·(first | dsimp only | skip); omega
        ·repeat (first | exact EnvSub.nil _ | (refine EnvSub.cons rfl ?_))
        ·(first | dsimp only | skip)
         exact Ent.cons (by (repeat constructor); done) (Ent.cons (by (repeat constructor); done) (Ent.roD (by (with_reducible repeat constructor); done) (Ent.cons (by (repeat constructor); done) (Ent.cons (by (repeat constructor); done) (Ent.pu ⟨by rw [← hinv, show g.size - q = g.size - (q + 1) + 1 by omega, Wl.segBytes_long hv (by omega), List.append_assoc, show g.at_ + (o : Int) + ((q + 1 : Nat) : Int) = g.at_ + (o : Int) + (q : Int) + 1 by omega], by omega, by rw [List.length_append]; omega⟩ (Ent.cons (by (repeat constructor); done) Ent.nil))))))
       )
     )
  )
 ·first | (exfalso; first | omega | (simp at g1; done) | contradiction | (rw [hv] at *; cases g1; done)) | skip
  all_goals (
   refine ho_nil ?_
   refine hx_then ?_
   refine ht_seq ?_
   refine ht_else rfl ?_
   refine ht_exit ?_
   refine hx_through trivial ?_
   refine hx_through trivial ?_
   refine hx_block_here ?_
   refine hx_then ?_
   refine ht_seq ?_
   refine ht_region ?_
   refine ho_ev rfl rfl rfl (ev_move rfl rfl) ?_
   refine ho_ev rfl rfl rfl (ev_assign rfl rfl) ?_
   refine ho_nil ?_
   refine hx_then ?_
   refine ht_ret ?_
   rw [show g.size - q = 0 by omega] at hinv
   rw [show Wl.segBytes d.view (g.at_ + (o : Int) + (q : Int)) 0 = [] from rfl, List.append_nil] at hinv
   refine hx_cap (xs := out) (by (repeat constructor); done) (fun hl hcap => ?_)
   refine hx_freezeS (xs := out) (by (repeat constructor); done) ?_
   rw [hinv] at hl hcap ⊢
   exact hx_ret1 (.inl rfl) rfl rfl (ad, cp) rfl (Ent.log (g := g) (x := x) (by repeat (first | exact Picks.nil | (apply Picks.ro; focus ((repeat constructor); done)) | (apply Picks.cons; focus ((repeat constructor); done)))) rfl rfl rfl rfl rfl rfl rfl rfl rfl rfl hx (Ent.cons (by (repeat constructor); done) (Ent.roD (by (repeat constructor); done) (Ent.pu hcap (Ent.cons (by (repeat constructor); done) Ent.nil)))))
  )
theorem rec_Scan1 (b2 b3 : Nat) (x : Wl.Rec) (n m : Int) (a : Option Addr) (c : Nat) (xs : List Wl.Rec) (hxs : xs.length ≤ 1000000) (hn : 0 ≤ n ∧ n ≤ 1000000) (hm : 0 ≤ m ∧ m ≤ 1000000) : Ctr Tryd.prog 95 #[recV x, .int .i64 n, .pointer (some ⟨b2, 0, none⟩), .pointer (some ⟨b3, 0, none⟩)] [pt b2 (.cells #[.slice a xs.length c] 64 (0, 0)), pt b3 (.cells #[.int .i64 m] 3 (0, 0)), ownS 71 a xs.length c xs] (fun _ : Option Addr × Nat => .tuple #[]) (fun q => [pt b2 (.cells #[.slice q.1 (xs ++ [x]).length q.2] 64 (0, 0)), pt b3 (.cells #[.int .i64 (m + n)] 3 (0, 0)), ownS 71 q.1 (xs ++ [x]).length q.2 (xs ++ [x])]) := by
 refine fn_intro Tryd.func95 rfl rfl Tryd.ntmps95 (Nat.le_of_ble_eq_true rfl) (fun _ => by repeat (first | exact App.nil | apply App.cons)) (fun κ F => ?_)
 refine ht_seq ?_
 refine ht_region ?_
 refine ho_eff rfl rfl rfl (eff_boxA rfl rfl) (fun b4 => ?_)
 refine ho_nil ?_
 refine hx_then ?_
 refine ht_draw (.op 0 (.op 1 (.op 4 (.op 5 (.op 6 (.op 2 (.op 3 (.op 7 (.op 8 .done))))))))) [2, 3, 7, 8] Tryd.mixed rfl ?_
 refine hd_ev rfl rfl rfl rfl (EvG.of rfl (ev_load rfl Tryd.underlying64 rfl rfl (by first | exact cell_pt (by (with_reducible repeat constructor); done) rfl | exact cell_ro (by (with_reducible repeat constructor); done) rfl))) ?_
 refine hd_ev rfl rfl rfl rfl (EvG.of rfl (ev_loadA rfl Tryd.underlying71 Tryd.ty71 rfl rfl (by first | exact cells_pt (by (with_reducible repeat constructor); done) (Nat.le_of_ble_eq_true rfl) (by simp only [List.extract_toArray, List.extract_eq_take_drop, Nat.zero_add, Nat.sub_zero, Nat.add_sub_cancel_left, List.drop_zero, List.take_succ_cons, List.take_zero, List.drop_succ_cons] <;> rfl) | exact cells_ro (by (with_reducible repeat constructor); done) (Nat.le_of_ble_eq_true rfl) (by simp only [List.extract_toArray, List.extract_eq_take_drop, Nat.zero_add, Nat.sub_zero, Nat.add_sub_cancel_left, List.drop_zero, List.take_succ_cons, List.take_zero, List.drop_succ_cons] <;> rfl)))) ?_
 refine hd_ev rfl rfl rfl rfl (EvG.of rfl (ev_load rfl Tryd.underlying3 rfl rfl (by first | exact cell_pt (by (with_reducible repeat constructor); done) rfl | exact cell_ro (by (with_reducible repeat constructor); done) rfl))) ?_
 refine hd_ev rfl rfl rfl rfl (EvG.of rfl (ev_move rfl rfl)) ?_
 refine hd_ev rfl rfl rfl rfl (EvG.of rfl (ev_add rfl rfl rfl (by first | exact in_i64 (by omega) | rfl))) ?_
 refine hd_eff rfl rfl rfl rfl rfl (eff_buildAll (α := Wl.Rec) [x] rfl Tryd.underlying64 Tryd.ty71 (.cons rfl .nil) (.cons rfl .nil) rfl (Nat.le_of_ble_eq_true rfl)) (fun _ => by (refine FL.ev rfl (EvG.of rfl (ev_add rfl rfl rfl (by first | exact in_i64 (by omega) | rfl))) ?_); (refine FL.ev rfl (EvG.of rfl (ev_move rfl rfl)) ?_); (refine FL.ev rfl (EvG.of rfl (ev_load rfl Tryd.underlying3 rfl rfl (by first | exact cell_pt (by (with_reducible repeat constructor); done) rfl | exact cell_ro (by (with_reducible repeat constructor); done) rfl))) ?_); (refine FL.skip rfl ?_); (refine FL.ev rfl (EvG.of rfl (ev_load rfl Tryd.underlying64 rfl rfl (by first | exact cell_pt (by (with_reducible repeat constructor); done) rfl | exact cell_ro (by (with_reducible repeat constructor); done) rfl))) ?_); exact FL.nil) (fun b8 => ?_)
 refine hd_eff rfl rfl rfl rfl rfl (eff_append (α := Wl.Rec) rfl Tryd.underlying64 Tryd.ty71 rfl (by decide) Tryd.underlying64 rfl rfl (by (with_reducible repeat constructor); done) (by first | exact reads_ro (by (with_reducible repeat constructor); done) | exact reads_own (by (with_reducible repeat constructor); done) | exact reads_nil _) (by first | omega | (simp only [List.length_append, List.length_cons, List.length_nil, List.length_drop, List.length_take]; omega) | (simp; omega))) (fun _ => by (refine FL.ev rfl (EvG.of rfl (ev_add rfl rfl rfl (by first | exact in_i64 (by omega) | rfl))) ?_); (refine FL.ev rfl (EvG.of rfl (ev_move rfl rfl)) ?_); (refine FL.ev rfl (EvG.of rfl (ev_load rfl Tryd.underlying3 rfl rfl (by first | exact cell_pt (by (with_reducible repeat constructor); done) rfl | exact cell_ro (by (with_reducible repeat constructor); done) rfl))) ?_); (refine FL.skip rfl ?_); (refine FL.skip rfl ?_); exact FL.nil) (fun p9 => ?_)
 refine hd_eff0 rfl rfl rfl rfl (eff_store1 rfl Tryd.ty64 rfl rfl (by (with_reducible repeat constructor); done) rfl rfl (lt_of_blt rfl) (by simp only [List.setIfInBounds_toArray, List.set_cons_zero, List.set_cons_succ]; rfl)) (fun _ => by (refine FL.ev rfl (EvG.of rfl (ev_add rfl rfl rfl (by first | exact in_i64 (by omega) | rfl))) ?_); (refine FL.ev rfl (EvG.of rfl (ev_move rfl rfl)) ?_); (refine FL.ev rfl (EvG.of rfl (ev_load rfl Tryd.underlying3 rfl rfl (by first | exact cell_pt (by (with_reducible repeat constructor); done) rfl | exact cell_ro (by (with_reducible repeat constructor); done) rfl))) ?_); (refine FL.skip rfl ?_); (refine FL.skip rfl ?_); exact FL.nil) (fun _ => ?_)
 refine hd_eff0 rfl rfl rfl rfl (eff_store1 rfl Tryd.ty3 rfl rfl (by (with_reducible repeat constructor); done) rfl rfl (lt_of_blt rfl) (by simp only [List.setIfInBounds_toArray, List.set_cons_zero, List.set_cons_succ]; rfl)) (fun _ => by (refine FL.skip rfl ?_); (refine FL.skip rfl ?_); (refine FL.skip rfl ?_); (refine FL.skip rfl ?_); (refine FL.skip rfl ?_); exact FL.nil) (fun _ => ?_)
 refine hd_nil ?_
 exact hx_ret0 (.inr rfl) rfl p9 rfl (Ent.cons (by (repeat constructor); done) (Ent.cons (by (repeat constructor); done) (Ent.cons (by (repeat constructor); done) (Ent.cons (by (repeat constructor); done) Ent.nil))))
theorem rec_Scan (a : Option Addr) (c : Nat) (b : List UInt8) (first : Nat) (hc : b.length ≤ c) (hb : b.length ≤ 100000) (hf : first < 18446744073709551616) : Ctr Tryd.prog 76 #[.slice a b.length c, .int .u64 (first : Int)] [ro (roS a b.length b)] (fun q : Option Addr × Nat × Nat => .tuple #[.slice q.1 (Wl.scan b.length b first).length q.2.1, .int .i64 (q.2.2 : Int)]) (fun q => [ro (roS q.1 (Wl.scan b.length b first).length (Wl.scan b.length b first))]) := by
 refine fn_intro Tryd.func76 rfl rfl Tryd.ntmps76 (Nat.le_of_ble_eq_true rfl) (fun _ => by repeat (first | exact App.nil | apply App.cons)) (fun κ F => ?_)
 refine ht_seq ?_
 refine ht_region ?_
 refine ho_ev rfl rfl rfl (ev_assign rfl rfl) ?_
 refine ho_ev rfl rfl rfl (ev_assign rfl rfl) ?_
 refine ho_nil ?_
 refine hx_then ?_
 refine ht_seq ?_
 refine ht_region ?_
 refine ho_eff rfl rfl rfl (eff_alloc rfl Tryd.ty64 (by first | exact cells_agg _ | exact rfl)) (fun b6 => ?_)
 refine ho_nil ?_
 refine hx_then ?_
 refine ht_seq ?_
 refine ht_region ?_
 refine ho_eff rfl rfl rfl (eff_alloc rfl Tryd.ty3 (by first | exact cells_agg _ | exact rfl)) (fun b7 => ?_)
 refine ho_eff0 rfl rfl (eff_store1 rfl Tryd.ty3 rfl rfl (by (with_reducible repeat constructor); done) rfl rfl (lt_of_blt rfl) (by simp only [List.setIfInBounds_toArray, List.set_cons_zero, List.set_cons_succ]; rfl)) (fun _ => ?_)
 refine ho_nil ?_
 refine hx_then ?_
 refine ht_seq ?_
 refine ht_region ?_
 refine ho_ev rfl rfl rfl (ev_makeFunc rfl .nil (.cons rfl (.cons rfl .nil))) ?_
 refine ho_ev rfl rfl rfl (ev_assign rfl rfl) ?_
 refine ho_nil ?_
 refine hx_then ?_
 refine ht_seq ?_
 refine ht_seq ?_
 refine ht_region ?_
 refine ho_ev rfl rfl rfl (ev_move rfl rfl) ?_
 refine ho_ev rfl rfl rfl (ev_lenSl rfl Tryd.underlying86 rfl) ?_
 refine ho_ev rfl rfl rfl (ev_move rfl rfl) ?_
 refine ho_nil ?_
 refine hx_then ?_
 refine ht_block ?_
 refine ht_loop (fun q : Nat × Nat × List Wl.Rec × Option Addr × Nat => ([pt b6 (.cells #[.slice q.2.2.2.1 q.2.2.1.length q.2.2.2.2] 64 (0, 0)), pt b7 (.cells #[.int .i64 (q.2.1 : Int)] 3 (0, 0)), ownS 71 q.2.2.2.1 q.2.2.1.length q.2.2.2.2 q.2.2.1, ro (roS a b.length b), pu (q.2.2.1 ++ Wl.scan (b.length - q.1) (b.drop q.2.1) (first + q.1) = Wl.scan b.length b first ∧ q.1 ≤ b.length ∧ q.2.1 ≤ b.length ∧ q.2.2.1.length ≤ q.1), F], [(0, .slice a b.length c), (1, .int .u64 (first : Int)), (6, .pointer (some ⟨b6, 0, none⟩)), (7, .pointer (some ⟨b7, 0, none⟩)), (8, .func (.func 95) #[] #[.pointer (some ⟨b6, 0, none⟩), .pointer (some ⟨b7, 0, none⟩)]), (15, .int .i64 b.length), (16, .int .i64 q.1)])) (fun q : Nat × Nat × List Wl.Rec × Option Addr × Nat => b.length - q.1) (0, 0, [], none, 0) ?_ (by repeat (first | exact EnvSub.nil _ | (refine EnvSub.cons rfl ?_))) (fun q => ?_)
 ·(first | dsimp only | skip)
  refine (ownS_nil (α := Wl.Rec) 71).trans ?_
  exact Ent.cons (by (repeat constructor); done) (Ent.cons (by (repeat constructor); done) (Ent.cons (by (repeat constructor); done) (Ent.roD (by (with_reducible repeat constructor); done) (Ent.pu ⟨rfl, by omega, by omega, by simp⟩ (Ent.cons (by (repeat constructor); done) Ent.nil)))))
 obtain ⟨i, t, acc, ad, cp⟩ := q
 dsimp only
 refine ht_pick (A := pu (acc ++ Wl.scan (b.length - i) (b.drop t) (first + i) = Wl.scan b.length b first ∧ i ≤ b.length ∧ t ≤ b.length ∧ acc.length ≤ i)) (by (repeat constructor); done) (ht_pure fun hq => ?_)
 obtain ⟨hinv, hi, ht, hal⟩ := hq
 refine ht_seq ?_
 refine ht_region ?_
 refine ho_lt rfl rfl rfl rfl rfl rfl (fun g1 => ?_) (fun g1 => ?_)
 ·first | (exfalso; first | omega | (simp at g1; done) | contradiction) | skip
  all_goals (
   refine ho_nil ?_
   refine hx_then ?_
   refine ht_seq ?_
   refine ht_then rfl ?_
   refine ht_skip ?_
   refine hx_then ?_
   refine ht_seq ?_
   refine ht_block ?_
   refine ht_seq ?_
   refine ht_region ?_
   refine ho_ev rfl rfl rfl (ev_move rfl rfl) ?_
   refine ho_ev rfl rfl rfl (ev_assign rfl rfl) ?_
   refine ho_nil ?_
   refine hx_then ?_
   refine ht_seq ?_
   refine ht_region ?_
   refine ho_ev rfl rfl rfl (ev_move rfl rfl) ?_
   refine ho_ev rfl rfl rfl (ev_load rfl Tryd.underlying3 rfl rfl (by first | exact cell_pt (by (with_reducible repeat constructor); done) rfl | exact cell_ro (by (with_reducible repeat constructor); done) rfl)) ?_
   refine ho_eff rfl rfl rfl (eff_slice (α := UInt8) rfl Tryd.underlying86 Tryd.ty5 rfl (by (with_reducible repeat constructor); done) ⟨_, rfl⟩ rfl rfl (by decide) (by omega) (by omega) (by omega) (by omega)) (fun a22 => ?_)
   rw [show ((b.take b.length).drop t) = b.drop t by rw [List.take_length]]
   have hdl : (b.drop t).length = b.length - t := List.length_drop
   refine ho_eff rfl rfl rfl (eff_call rfl rfl (.cons rfl .nil) rfl (rec_Get _ _ (b.drop t) (by omega) (by omega)) (by repeat (first | exact Picks.nil | (apply Picks.ro; focus ((with_reducible repeat constructor); done)) | (apply Picks.cons; focus ((with_reducible repeat constructor); done)))) (fun _ => by repeat (first | exact App.nil | apply App.cons))) (fun _ => ?_)
   refine ho_ev rfl rfl rfl (ev_move rfl rfl) ?_
   refine ho_ev rfl rfl rfl (ev_extract rfl rfl rfl) ?_
   refine ho_ev rfl rfl rfl (ev_extract rfl rfl rfl) ?_
   refine ho_ev rfl rfl rfl (ev_extract rfl rfl rfl) ?_
   refine ho_eff rfl rfl rfl (eff_alloc rfl Tryd.ty71 (by first | exact cells_agg _ | exact rfl)) (fun b10 => ?_)
   refine ho_eff0 rfl rfl (eff_storeA rfl Tryd.ty71 rfl rfl (by (with_reducible repeat constructor); done) rfl rfl rfl (by simp only [setRange, List.setIfInBounds_toArray, List.set_cons_zero, List.set_cons_succ, Nat.zero_add]; rfl)) (fun _ => ?_)
   refine ho_ev rfl rfl rfl (ev_assign rfl rfl) ?_
   refine ho_ev rfl rfl rfl (ev_assign rfl rfl) ?_
   refine ho_nil ?_
   refine hx_then ?_
   refine ht_seq ?_
   refine ht_seq ?_
   rcases hok : (Wire.getV (b.drop t)).2.2.2 with _ | _
   ·skip
    refine ht_region ?_
    refine ho_ev rfl rfl rfl (ev_move rfl rfl) ?_
    refine ho_ev rfl rfl rfl (ev_not rfl rfl) ?_
    refine ho_ev rfl rfl rfl (ev_move rfl rfl) ?_
    refine ho_pass rfl rfl rfl rfl ?_
    refine ho_pass rfl rfl rfl rfl ?_
    refine ho_pass rfl rfl rfl rfl ?_
    refine ho_pass rfl rfl rfl rfl ?_
    refine ho_pass rfl rfl rfl rfl ?_
    refine ho_pass rfl rfl rfl rfl ?_
    refine ho_pass rfl rfl rfl rfl ?_
    refine ho_ev rfl rfl rfl (ev_pick_t rfl rfl rfl) ?_
    refine ho_nil ?_
    refine hx_then ?_
    refine ht_then rfl ?_
    refine ht_exit ?_
    refine hx_through trivial ?_
    refine hx_block_past (by decide) ?_
    refine hx_through trivial ?_
    refine hx_through trivial ?_
    refine hx_block_here ?_
    refine hx_then ?_
    refine ht_seq ?_
    refine ht_draw (.op 0 (.op 1 (.op 2 (.op 3 .done)))) [] Tryd.mixed rfl ?_
    refine hd_ev rfl rfl rfl rfl (EvG.of rfl (ev_load rfl Tryd.underlying64 rfl rfl (by first | exact cell_pt (by (with_reducible repeat constructor); done) rfl | exact cell_ro (by (with_reducible repeat constructor); done) rfl))) ?_
    refine hd_ev rfl rfl rfl rfl (EvG.of rfl (ev_load rfl Tryd.underlying3 rfl rfl (by first | exact cell_pt (by (with_reducible repeat constructor); done) rfl | exact cell_ro (by (with_reducible repeat constructor); done) rfl))) ?_
    refine hd_ev rfl rfl rfl rfl (EvG.of rfl (ev_assign rfl rfl)) ?_
    refine hd_ev rfl rfl rfl rfl (EvG.of rfl (ev_assign rfl rfl)) ?_
    refine hd_nil ?_
    refine hx_then ?_
    refine ht_ret ?_
    rw [Wl.scan_none (Wl.getV_get_no hok), List.append_nil] at hinv
    refine hx_freezeS (xs := acc) (by (repeat constructor); done) ?_
    rw [hinv]
    exact hx_ret2 (.inl rfl) rfl rfl rfl (ad, cp, t) rfl (Ent.roD (by (repeat constructor); done) (Ent.cons (by (repeat constructor); done) Ent.nil))
   ·skip
    refine ht_region ?_
    refine ho_ev rfl rfl rfl (ev_move rfl rfl) ?_
    refine ho_ev rfl rfl rfl (ev_not rfl rfl) ?_
    refine ho_ev rfl rfl rfl (ev_move rfl rfl) ?_
    refine ho_evg rfl rfl rfl rfl (by first | exact ev_fieldAddr0 rfl Tryd.fld71_0 rfl | exact ev_fieldAddr rfl Tryd.fld71_0 rfl) ?_
    refine ho_evg rfl rfl rfl rfl (ev_load rfl Tryd.underlying41 rfl rfl (by first | exact cell_pt (by (with_reducible repeat constructor); done) rfl | exact cell_ro (by (with_reducible repeat constructor); done) rfl)) ?_
    refine ho_evg rfl rfl rfl rfl (ev_move rfl rfl) ?_
    refine ho_evg rfl rfl rfl rfl (ev_move rfl rfl) ?_
    refine ho_evg rfl rfl rfl rfl (ev_convI rfl ⟨_, Tryd.underlying3⟩ Tryd.underlying41 rfl (by first | exact IntWalk.u64_in _ (by omega) | rfl)) ?_
    refine ho_evg rfl rfl rfl rfl (ev_add (r := (((first + i) % 18446744073709551616 : Nat) : Int)) rfl rfl rfl (by exact add_wrap first i)) ?_
    refine ho_neg rfl rfl rfl rfl rfl rfl rfl (fun g2 => ?_) (fun g2 => ?_)
    ·first | (exfalso; first | omega | (simp at g2; done) | contradiction) | skip
     all_goals (
      refine ho_ev rfl rfl rfl (ev_pick_f rfl rfl rfl) ?_
      refine ho_nil ?_
      refine hx_then ?_
      refine ht_then rfl ?_
      refine ht_exit ?_
      refine hx_through trivial ?_
      refine hx_block_past (by decide) ?_
      refine hx_through trivial ?_
      refine hx_through trivial ?_
      refine hx_block_here ?_
      refine hx_then ?_
      refine ht_seq ?_
      refine ht_draw (.op 0 (.op 1 (.op 2 (.op 3 .done)))) [] Tryd.mixed rfl ?_
      refine hd_ev rfl rfl rfl rfl (EvG.of rfl (ev_load rfl Tryd.underlying64 rfl rfl (by first | exact cell_pt (by (with_reducible repeat constructor); done) rfl | exact cell_ro (by (with_reducible repeat constructor); done) rfl))) ?_
      refine hd_ev rfl rfl rfl rfl (EvG.of rfl (ev_load rfl Tryd.underlying3 rfl rfl (by first | exact cell_pt (by (with_reducible repeat constructor); done) rfl | exact cell_ro (by (with_reducible repeat constructor); done) rfl))) ?_
      refine hd_ev rfl rfl rfl rfl (EvG.of rfl (ev_assign rfl rfl)) ?_
      refine hd_ev rfl rfl rfl rfl (EvG.of rfl (ev_assign rfl rfl)) ?_
      refine hd_nil ?_
      refine hx_then ?_
      refine ht_ret ?_
      rw [Wl.scan_no (Wl.getV_get hok) (by show ¬ _ = (first + i) % 18446744073709551616; omega), List.append_nil] at hinv
      refine hx_freezeS (xs := acc) (by (repeat constructor); done) ?_
      rw [hinv]
      exact hx_ret2 (.inl rfl) rfl rfl rfl (ad, cp, t) rfl (Ent.roD (by (repeat constructor); done) (Ent.cons (by (repeat constructor); done) Ent.nil))
     )
    ·first | (exfalso; first | omega | (simp at g2; done) | contradiction) | skip
     all_goals (
      refine ho_ev rfl rfl rfl (ev_pick_f rfl rfl rfl) ?_
      refine ho_nil ?_
      refine hx_then ?_
      refine ht_else rfl ?_
      refine ht_skip ?_
      refine hx_then ?_
      refine ht_region ?_
      refine ho_ev rfl rfl rfl (ev_move rfl rfl) ?_
      refine ho_ev rfl rfl rfl (ev_loadA rfl Tryd.underlying71 Tryd.ty71 rfl rfl (by first | exact cells_pt (by (with_reducible repeat constructor); done) (Nat.le_of_ble_eq_true rfl) (by simp only [List.extract_toArray, List.extract_eq_take_drop, Nat.zero_add, Nat.sub_zero, Nat.add_sub_cancel_left, List.drop_zero, List.take_succ_cons, List.take_zero, List.drop_succ_cons] <;> rfl) | exact cells_ro (by (with_reducible repeat constructor); done) (Nat.le_of_ble_eq_true rfl) (by simp only [List.extract_toArray, List.extract_eq_take_drop, Nat.zero_add, Nat.sub_zero, Nat.add_sub_cancel_left, List.drop_zero, List.take_succ_cons, List.take_zero, List.drop_succ_cons] <;> rfl))) ?_
      refine ho_ev rfl rfl rfl (ev_move rfl rfl) ?_
      have hget := Wl.getV_get hok
      have hgl : 8 ≤ (Wire.getV (b.drop t)).2.2.1 ∧ (Wire.getV (b.drop t)).2.2.1 ≤ b.length - t ∧ (Wire.getV (b.drop t)).1 < 18446744073709551616 := by have h1 := Wl.get_len hget; rw [hdl] at h1; exact h1
      refine ho_eff rfl rfl rfl (eff_call rfl rfl (.cons rfl (.cons rfl .nil)) rfl (rec_Scan1 b6 b7 (⟨(Wire.getV (b.drop t)).1, (Wire.getV (b.drop t)).2.1⟩ : Wl.Rec) ((Wire.getV (b.drop t)).2.2.1 : Int) (t : Int) ad cp acc (by omega) (by omega) (by omega)) (by repeat (first | exact Picks.nil | (apply Picks.ro; focus ((repeat constructor); done)) | (apply Picks.cons; focus ((repeat constructor); done)))) (fun _ => by repeat (first | exact App.nil | apply App.cons))) (fun z => ?_)
      refine ho_nil ?_
      refine hx_block_normal ?_
      refine hx_then ?_
      refine ht_region ?_
      refine ho_ev rfl rfl rfl (ev_add rfl rfl rfl (by first | exact in_i64 (by omega) | rfl)) ?_
      refine ho_ev rfl rfl rfl (ev_move rfl rfl) ?_
      refine ho_nil ?_
      refine hx_again (I := (fun q : Nat × Nat × List Wl.Rec × Option Addr × Nat => ([pt b6 (.cells #[.slice q.2.2.2.1 q.2.2.1.length q.2.2.2.2] 64 (0, 0)), pt b7 (.cells #[.int .i64 (q.2.1 : Int)] 3 (0, 0)), ownS 71 q.2.2.2.1 q.2.2.1.length q.2.2.2.2 q.2.2.1, ro (roS a b.length b), pu (q.2.2.1 ++ Wl.scan (b.length - q.1) (b.drop q.2.1) (first + q.1) = Wl.scan b.length b first ∧ q.1 ≤ b.length ∧ q.2.1 ≤ b.length ∧ q.2.2.1.length ≤ q.1), F], [(0, .slice a b.length c), (1, .int .u64 (first : Int)), (6, .pointer (some ⟨b6, 0, none⟩)), (7, .pointer (some ⟨b7, 0, none⟩)), (8, .func (.func 95) #[] #[.pointer (some ⟨b6, 0, none⟩), .pointer (some ⟨b7, 0, none⟩)]), (15, .int .i64 b.length), (16, .int .i64 q.1)]))) (μ := (fun q : Nat × Nat × List Wl.Rec × Option Addr × Nat => b.length - q.1)) (i := (i, t, acc, ad, cp)) (i + 1, t + (Wire.getV (b.drop t)).2.2.1, acc ++ [(⟨(Wire.getV (b.drop t)).1, (Wire.getV (b.drop t)).2.1⟩ : Wl.Rec)], z.1, z.2) ?_ ?_ ?_
      ·(first | dsimp only | skip); omega
      ·repeat (first | exact EnvSub.nil _ | (refine EnvSub.cons rfl ?_))
      ·(first | dsimp only | skip)
       exact Ent.cons (by (repeat constructor); done) (Ent.cons (by (repeat constructor); done) (Ent.cons (by (repeat constructor); done) (Ent.roD (by (with_reducible repeat constructor); done) (Ent.pu ⟨by rw [← hinv, show b.length - i = b.length - (i + 1) + 1 by omega, Wl.scan_yes hget (by show _ = (first + i) % 18446744073709551616; omega), List.drop_drop, List.append_assoc]; rfl, by omega, by omega, by rw [List.length_append]; show acc.length + 1 ≤ i + 1; omega⟩ (Ent.cons (by (repeat constructor); done) Ent.nil)))))
     )
  )
 ·first | (exfalso; first | omega | (simp at g1; done) | contradiction) | skip
  all_goals (
   refine ho_nil ?_
   refine hx_then ?_
   refine ht_seq ?_
   refine ht_else rfl ?_
   refine ht_exit ?_
   refine hx_through trivial ?_
   refine hx_through trivial ?_
   refine hx_block_here ?_
   refine hx_then ?_
   refine ht_seq ?_
   refine ht_draw (.op 0 (.op 1 (.op 2 (.op 3 .done)))) [] Tryd.mixed rfl ?_
   refine hd_ev rfl rfl rfl rfl (EvG.of rfl (ev_load rfl Tryd.underlying64 rfl rfl (by first | exact cell_pt (by (with_reducible repeat constructor); done) rfl | exact cell_ro (by (with_reducible repeat constructor); done) rfl))) ?_
   refine hd_ev rfl rfl rfl rfl (EvG.of rfl (ev_load rfl Tryd.underlying3 rfl rfl (by first | exact cell_pt (by (with_reducible repeat constructor); done) rfl | exact cell_ro (by (with_reducible repeat constructor); done) rfl))) ?_
   refine hd_ev rfl rfl rfl rfl (EvG.of rfl (ev_assign rfl rfl)) ?_
   refine hd_ev rfl rfl rfl rfl (EvG.of rfl (ev_assign rfl rfl)) ?_
   refine hd_nil ?_
   refine hx_then ?_
   refine ht_ret ?_
   rw [show b.length - i = 0 by omega] at hinv
   rw [show Wl.scan 0 (b.drop t) (first + i) = [] from rfl, List.append_nil] at hinv
   refine hx_freezeS (xs := acc) (by (repeat constructor); done) ?_
   rw [hinv]
   exact hx_ret2 (.inl rfl) rfl rfl rfl (ad, cp, t) rfl (Ent.roD (by (repeat constructor); done) (Ent.cons (by (repeat constructor); done) Ent.nil))
  )

/-- a segment that was found, in memory -/
structure FdV where mk ::
  place : Nat
  base : Nat
  count : Nat
  a : Option Addr
  m : Nat
  c : Nat
instance : Enc FdV := ⟨4, fun x => [.int .i64 (x.place : Int), .int .u64 (x.base : Int), .int .u64 (x.count : Int), .slice x.a x.m x.c], fun _ => rfl, fun x v h => by simp at h; rcases h with rfl | rfl | rfl | rfl <;> rfl, by decide⟩
abbrev FdV.val (x : FdV) : Value := .agg #[.int .i64 (x.place : Int), .int .u64 (x.base : Int), .int .u64 (x.count : Int), .slice x.a x.m x.c]
structure FdOk (r : Part) (x : FdV) (f : Wl.Fd) : Prop where mk ::
  place : x.place = f.place
  base : x.base = f.base
  count : x.count = f.recs.length
  m : x.m = f.recs.length
  l : SliceIn r x.a f.recs.length f.recs
def fdR (x : FdV) (f : Wl.Fd) : RoP := ⟨fun r => FdOk r x f, fun h k => ⟨h.place, h.base, h.count, h.m, h.l.mono k⟩⟩
structure FdsOk (r : Part) (xs : List FdV) (fs : List Wl.Fd) : Prop where mk ::
  len : xs.length = fs.length
  at_ : ∀ (i : Nat) (x : FdV) (f : Wl.Fd), xs[i]? = some x → fs[i]? = some f → FdOk r x f
def fdsR (xs : List FdV) (fs : List Wl.Fd) : RoP := ⟨fun r => FdsOk r xs fs, fun h k => ⟨h.len, fun i x f h1 h2 => let a := h.at_ i x f h1 h2; ⟨a.place, a.base, a.count, a.m, a.l.mono k⟩⟩⟩
theorem cells_fd {L : List Assn} {a : Option Addr} {m b off i : Nat} {xs : List FdV} {v : FdV} {f : Wl.Fd} (ha : a = some ⟨b, off, none⟩) (h : Reads L a m xs) (hv : xs[i]? = some v) (e1 : v.place = f.place) (e2 : v.base = f.base) (e3 : v.count = f.recs.length) (e4 : v.m = f.recs.length) :
    Cells L b (off + i * 4) 4 #[.int .i64 (f.place : Int), .int .u64 (f.base : Int), .int .u64 (f.recs.length : Int), .slice v.a f.recs.length v.c] := by
  have h1 := cells_Sa ha h hv
  rw [← e1, ← e2]
  have h2 : (Enc.enc v).toArray = #[.int .i64 (v.place : Int), .int .u64 (v.base : Int), .int .u64 (f.recs.length : Int), .slice v.a f.recs.length v.c] := by
    show #[Value.int .i64 (v.place : Int), .int .u64 (v.base : Int), .int .u64 (v.count : Int), .slice v.a v.m v.c] = _
    rw [e3, e4]
  rw [h2] at h1
  exact h1
theorem FdsOk.nil (r : Part) : FdsOk r [] [] := ⟨rfl, fun i x f h => by simp at h⟩
theorem FdsOk.snoc {r : Part} {xs : List FdV} {fs : List Wl.Fd} (h : FdsOk r xs fs) {x : FdV} {f : Wl.Fd} (hx : FdOk r x f) : FdsOk r (xs ++ [x]) (fs ++ [f]) := by
  refine ⟨by simp [h.len], fun i u q h1 h2 => ?_⟩
  rcases Nat.lt_or_ge i xs.length with hi | hi
  · rw [List.getElem?_append_left hi] at h1
    rw [List.getElem?_append_left (by rw [← h.len]; exact hi)] at h2
    exact h.at_ i u q h1 h2
  · rw [List.getElem?_append_right hi] at h1
    rw [List.getElem?_append_right (by rw [← h.len]; exact hi), ← h.len] at h2
    cases hj : i - xs.length with
    | zero => rw [hj] at h1 h2; simp at h1 h2; subst h1; subst h2; exact hx
    | succ j => rw [hj] at h1; simp at h1
section
variable {P : Program} {κ : World} {n : Nat} {L M R R' : List Assn} {ρ : Env} {ops : Array Oper} {l : List Oper} {Q : Exit → Act → World → Prop}
theorem ht_fd {c : Code} {x : FdV} {f : Wl.Fd} (k : Pick (ro (fdR x f)) L R) (h : x.place = f.place → x.base = f.base → x.count = f.recs.length → x.m = f.recs.length → HT P κ n (ro (roS x.a f.recs.length f.recs) :: L) ρ c Q) : HT P κ n L ρ c Q := fun a w ha hw => by
  obtain ⟨p, r, h1, h2, h3, h4⟩ := hw.sep
  obtain ⟨p1, p2, k1, k2, k3, hA, hL⟩ := k.sep h4
  have hA : FdOk r x f := hA
  exact h hA.place hA.base hA.count hA.m a w ha ⟨hw.os, hw.tape, hw.output, p, r, h1, h2, h3, Sep.addRo (φ := roS x.a f.recs.length f.recs) hA.l h4⟩
theorem ht_fdAt {c : Code} {xs : List FdV} {fs : List Wl.Fd} {i : Nat} (hi : i < xs.length) (k : Pick (ro (fdsR xs fs)) L R) (h : ∀ x f, xs[i]? = some x → fs[i]? = some f → HT P κ n (ro (fdR x f) :: L) ρ c Q) : HT P κ n L ρ c Q := fun a w ha hw => by
  obtain ⟨p, r, h1, h2, h3, h4⟩ := hw.sep
  obtain ⟨p1, p2, k1, k2, k3, hA, hL⟩ := k.sep h4
  have hA : FdsOk r xs fs := hA
  have hi2 : i < fs.length := by rw [← hA.len]; exact hi
  have e1 := List.getElem?_eq_getElem hi
  have e2 := List.getElem?_eq_getElem hi2
  exact h _ _ e1 e2 a w ha ⟨hw.os, hw.tape, hw.output, p, r, h1, h2, h3, Sep.addRo (φ := fdR _ _) (hA.at_ i _ _ e1 e2) h4⟩
theorem ht_fdsLen {c : Code} {xs : List FdV} {fs : List Wl.Fd} (k : Pick (ro (fdsR xs fs)) L R) (h : xs.length = fs.length → HT P κ n L ρ c Q) : HT P κ n L ρ c Q := fun a w ha hw => by
  have : FdsOk _ xs fs := hw.ro k
  exact h this.len a w ha hw
end

theorem wal_look (p : Nat) (g : LG) (d : Dk.Disk) (hat : 0 ≤ g.at_ ∧ g.at_ + ((g.n * g.size : Nat) : Int) ≤ 65536) (hsz : g.size ≤ 64) (hn : g.n ≤ 64) : Ctr Tryd.prog 48 #[.pointer (some ⟨p, 0, none⟩)] [LogAt p g, DiskAt g.dk d] (fun q : List FdV × Option Addr × Nat => .slice q.2.1 q.1.length q.2.2) (fun q => [LogAt p g, DiskAt g.dk d, ro (roS q.2.1 q.1.length q.1), ro (fdsR q.1 (Wl.look d.view g.at_ g.size g.n))]) := by
 refine fn_intro Tryd.func48 rfl rfl Tryd.ntmps48 (Nat.le_of_ble_eq_true rfl) (fun _ => by repeat (first | exact App.nil | apply App.cons)) (fun κ F => ?_)
 refine ht_dkOkW (by (with_reducible repeat constructor); done) (fun hok => ?_)
 refine ht_log (by (with_reducible repeat constructor); done) (fun x hx => ?_)
 refine ht_seq ?_
 refine ht_region ?_
 refine ho_ev rfl rfl rfl (ev_assign rfl rfl) ?_
 refine ho_nil ?_
 refine hx_then ?_
 refine ht_seq ?_
 refine ht_region ?_
 refine ho_ev rfl rfl rfl (ev_assign rfl rfl) ?_
 refine ho_nil ?_
 refine hx_then ?_
 refine ht_seq ?_
 refine ht_seq ?_
 refine ht_region ?_
 refine ho_ev rfl rfl rfl (ev_move rfl rfl) ?_
 refine ho_ev rfl rfl rfl (ev_nilCheck rfl rfl) ?_
 refine ho_ev rfl rfl rfl (by first | exact ev_fieldAddr0 rfl Tryd.fld112_2 rfl | exact ev_fieldAddr rfl Tryd.fld112_2 rfl) ?_
 refine ho_ev rfl rfl rfl (ev_load rfl Tryd.underlying3 rfl rfl (by first | exact cell_pt (by (with_reducible repeat constructor); done) rfl | exact cell_ro (by (with_reducible repeat constructor); done) rfl)) ?_
 refine ho_ev rfl rfl rfl (ev_move rfl rfl) ?_
 refine ho_nil ?_
 refine hx_then ?_
 refine ht_block ?_
 refine ht_loop (fun q : Nat × List FdV × Option Addr × Nat => ([LogAt p g, DiskAt g.dk d, ownS 118 q.2.2.1 q.2.1.length q.2.2.2 q.2.1, ro (fdsR q.2.1 (Wl.look d.view g.at_ g.size q.1)), pu (q.1 ≤ g.n), F], [(0, .pointer (some ⟨p, 0, none⟩)), (3, .slice q.2.2.1 q.2.1.length q.2.2.2), (14, .int .i64 (g.n : Int)), (15, .int .i64 q.1)])) (fun q : Nat × List FdV × Option Addr × Nat => g.n - q.1) (0, [], none, 0) ?_ (by repeat (first | exact EnvSub.nil _ | (refine EnvSub.cons rfl ?_))) (fun q => ?_)
 ·(first | dsimp only | skip)
  refine Ent.trans (Ent.roTrue (ψ := fdsR [] (Wl.look d.view g.at_ g.size 0)) (fun r => FdsOk.nil r) (ownS_nil (α := FdV) 118)) ?_
  exact Ent.log (g := g) (x := x) (by repeat (first | exact Picks.nil | (apply Picks.ro; focus ((repeat constructor); done)) | (apply Picks.cons; focus ((repeat constructor); done)))) rfl rfl rfl rfl rfl rfl rfl rfl rfl rfl hx (Ent.cons (by (repeat constructor); done) (Ent.cons (by (repeat constructor); done) (Ent.roD (by (with_reducible repeat constructor); done) (Ent.pu (by omega) (Ent.cons (by (repeat constructor); done) Ent.nil)))))
 obtain ⟨i, xs, ad, cp⟩ := q
 dsimp only
 refine ht_pick (A := pu (i ≤ g.n)) (by (repeat constructor); done) (ht_pure fun hi => ?_)
 refine ht_fdsLen (by (with_reducible repeat constructor); done) (fun hxl => ?_)
 have hll := Wl.look_len d.view g.at_ g.size i
 refine ht_seq ?_
 refine ht_region ?_
 refine ho_lt rfl rfl rfl rfl rfl rfl (fun g1 => ?_) (fun g1 => ?_)
 ·first | (exfalso; first | omega | (simp at g1; done) | contradiction) | skip
  all_goals (
   refine ho_nil ?_
   refine hx_then ?_
   refine ht_seq ?_
   refine ht_then rfl ?_
   refine ht_skip ?_
   refine hx_then ?_
   refine ht_seq ?_
   refine ht_block ?_
   refine ht_seq ?_
   refine ht_region ?_
   refine ho_ev rfl rfl rfl (ev_move rfl rfl) ?_
   refine ho_ev rfl rfl rfl (ev_assign rfl rfl) ?_
   refine ho_nil ?_
   refine hx_then ?_
   refine ht_seq ?_
   refine ht_region ?_
   refine ho_ev rfl rfl rfl (ev_move rfl rfl) ?_
   refine ho_ev rfl rfl rfl (ev_move rfl rfl) ?_
   have hms : i * g.size + g.size ≤ g.n * g.size := by have h := Nat.mul_le_mul_right g.size (show i + 1 ≤ g.n by omega); rw [Nat.succ_mul] at h; exact h
   refine ho_eff rfl rfl rfl (eff_call rfl rfl (.cons rfl (.cons rfl .nil)) rfl (wal_bytes p g d i (i * g.size) (by push_cast; rfl) (by omega) hsz) (by repeat (first | exact Picks.nil | (apply Picks.ro; focus ((with_reducible repeat constructor); done)) | (apply Picks.cons; focus ((with_reducible repeat constructor); done)))) (fun _ => by repeat (first | exact App.nil | apply App.cons))) (fun y => ?_)
   refine ho_pick (A := pu ((Wl.segBytes d.view (g.at_ + ((i * g.size : Nat) : Int)) g.size).length ≤ y.2)) (by (repeat constructor); done) (ho_pure fun hyc => ?_)
   have hsl := Wl.segBytes_len d.view hok.view g.size (g.at_ + ((i * g.size : Nat) : Int))
   refine ho_ev rfl rfl rfl (ev_assign rfl rfl) ?_
   refine ho_nil ?_
   refine hx_then ?_
   refine ht_seq ?_
   refine ht_region ?_
   refine ho_ev rfl rfl rfl (ev_move rfl rfl) ?_
   refine ho_eff rfl rfl rfl (eff_call rfl rfl (.cons rfl .nil) rfl (rec_Get y.1 y.2 (Wl.segBytes d.view (g.at_ + ((i * g.size : Nat) : Int)) g.size) hyc (by omega)) (by repeat (first | exact Picks.nil | (apply Picks.ro; focus ((with_reducible repeat constructor); done)) | (apply Picks.cons; focus ((with_reducible repeat constructor); done)))) (fun _ => by repeat (first | exact App.nil | apply App.cons))) (fun _ => ?_)
   refine ho_ev rfl rfl rfl (ev_move rfl rfl) ?_
   refine ho_ev rfl rfl rfl (ev_extract rfl rfl rfl) ?_
   refine ho_ev rfl rfl rfl (ev_extract rfl rfl rfl) ?_
   refine ho_ev rfl rfl rfl (ev_extract rfl rfl rfl) ?_
   refine ho_eff rfl rfl rfl (eff_alloc rfl Tryd.ty71 (by first | exact cells_agg _ | exact rfl)) (fun b6 => ?_)
   refine ho_eff0 rfl rfl (eff_storeA rfl Tryd.ty71 rfl rfl (by (with_reducible repeat constructor); done) rfl rfl rfl (by simp only [setRange, List.setIfInBounds_toArray, List.set_cons_zero, List.set_cons_succ, Nat.zero_add]; rfl)) (fun _ => ?_)
   refine ho_ev rfl rfl rfl (ev_assign rfl rfl) ?_
   refine ho_ev rfl rfl rfl (ev_assign rfl rfl) ?_
   refine ho_nil ?_
   refine hx_then ?_
   refine ht_seq ?_
   refine ht_seq ?_
   rcases hok2 : (Wire.getV (Wl.segBytes d.view (g.at_ + ((i * g.size : Nat) : Int)) g.size)).2.2.2 with _ | _
   ·skip
    refine ht_region ?_
    refine ho_ev rfl rfl rfl (ev_move rfl rfl) ?_
    refine ho_ev rfl rfl rfl (ev_not rfl rfl) ?_
    refine ho_ev rfl rfl rfl (ev_move rfl rfl) ?_
    refine ho_pass rfl rfl rfl rfl ?_
    refine ho_pass rfl rfl rfl rfl ?_
    refine ho_pass rfl rfl rfl rfl ?_
    refine ho_ev rfl rfl rfl (ev_pick_t rfl rfl rfl) ?_
    refine ho_nil ?_
    refine hx_then ?_
    refine ht_then rfl ?_
    refine ht_exit ?_
    refine hx_through trivial ?_
    refine hx_block_here ?_
    refine hx_then ?_
    refine ht_region ?_
    refine ho_ev rfl rfl rfl (ev_add rfl rfl rfl (by first | exact in_i64 (by omega) | rfl)) ?_
    refine ho_ev rfl rfl rfl (ev_move rfl rfl) ?_
    refine ho_nil ?_
    refine hx_again (I := (fun q : Nat × List FdV × Option Addr × Nat => ([LogAt p g, DiskAt g.dk d, ownS 118 q.2.2.1 q.2.1.length q.2.2.2 q.2.1, ro (fdsR q.2.1 (Wl.look d.view g.at_ g.size q.1)), pu (q.1 ≤ g.n), F], [(0, .pointer (some ⟨p, 0, none⟩)), (3, .slice q.2.2.1 q.2.1.length q.2.2.2), (14, .int .i64 (g.n : Int)), (15, .int .i64 q.1)]))) (μ := (fun q : Nat × List FdV × Option Addr × Nat => g.n - q.1)) (i := (i, xs, ad, cp)) (i + 1, xs, ad, cp) ?_ ?_ ?_
    ·(first | dsimp only | skip); omega
    ·repeat (first | exact EnvSub.nil _ | (refine EnvSub.cons rfl ?_))
    ·(first | dsimp only | skip)
     have hno : Wl.fd d.view g.at_ g.size i = none := by first | exact Wl.fdOf_no1 (Wl.getV_get_no hok2) | exact Wl.fdOf_no2 (Wl.getV_get hok2) g32
     rw [Wl.look_no hno]
     exact Ent.cons (by (repeat constructor); done) (Ent.cons (by (repeat constructor); done) (Ent.cons (by (repeat constructor); done) (Ent.roD (by (with_reducible repeat constructor); done) (Ent.pu (by omega) (Ent.cons (by (repeat constructor); done) Ent.nil)))))
   ·skip
    refine ht_region ?_
    refine ho_ev rfl rfl rfl (ev_move rfl rfl) ?_
    refine ho_ev rfl rfl rfl (ev_not rfl rfl) ?_
    refine ho_ev rfl rfl rfl (ev_move rfl rfl) ?_
    refine ho_evg rfl rfl rfl rfl (by first | exact ev_fieldAddr0 rfl Tryd.fld71_1 rfl | exact ev_fieldAddr rfl Tryd.fld71_1 rfl) ?_
    refine ho_evg rfl rfl rfl rfl (ev_load rfl Tryd.underlying9 rfl rfl (by first | exact cell_pt (by (with_reducible repeat constructor); done) rfl | exact cell_ro (by (with_reducible repeat constructor); done) rfl)) ?_
    refine ho_neSg rfl rfl rfl rfl rfl rfl rfl (fun g32 => ?_) (fun g32 => ?_)
    ·first | (exfalso; first | omega | (simp at g32; done) | contradiction) | skip
     all_goals (
      refine ho_ev rfl rfl rfl (ev_pick_f rfl rfl rfl) ?_
      refine ho_nil ?_
      refine hx_then ?_
      refine ht_then rfl ?_
      refine ht_exit ?_
      refine hx_through trivial ?_
      refine hx_block_here ?_
      refine hx_then ?_
      refine ht_region ?_
      refine ho_ev rfl rfl rfl (ev_add rfl rfl rfl (by first | exact in_i64 (by omega) | rfl)) ?_
      refine ho_ev rfl rfl rfl (ev_move rfl rfl) ?_
      refine ho_nil ?_
      refine hx_again (I := (fun q : Nat × List FdV × Option Addr × Nat => ([LogAt p g, DiskAt g.dk d, ownS 118 q.2.2.1 q.2.1.length q.2.2.2 q.2.1, ro (fdsR q.2.1 (Wl.look d.view g.at_ g.size q.1)), pu (q.1 ≤ g.n), F], [(0, .pointer (some ⟨p, 0, none⟩)), (3, .slice q.2.2.1 q.2.1.length q.2.2.2), (14, .int .i64 (g.n : Int)), (15, .int .i64 q.1)]))) (μ := (fun q : Nat × List FdV × Option Addr × Nat => g.n - q.1)) (i := (i, xs, ad, cp)) (i + 1, xs, ad, cp) ?_ ?_ ?_
      ·(first | dsimp only | skip); omega
      ·repeat (first | exact EnvSub.nil _ | (refine EnvSub.cons rfl ?_))
      ·(first | dsimp only | skip)
       have hno : Wl.fd d.view g.at_ g.size i = none := by first | exact Wl.fdOf_no1 (Wl.getV_get_no hok2) | exact Wl.fdOf_no2 (Wl.getV_get hok2) g32
       rw [Wl.look_no hno]
       exact Ent.cons (by (repeat constructor); done) (Ent.cons (by (repeat constructor); done) (Ent.cons (by (repeat constructor); done) (Ent.roD (by (with_reducible repeat constructor); done) (Ent.pu (by omega) (Ent.cons (by (repeat constructor); done) Ent.nil)))))
     )
    ·first | (exfalso; first | omega | (simp at g32; done) | contradiction) | skip
     all_goals (
      refine ho_ev rfl rfl rfl (ev_pick_f rfl rfl rfl) ?_
      refine ho_nil ?_
      refine hx_then ?_
      refine ht_else rfl ?_
      refine ht_skip ?_
      refine hx_then ?_
      refine ht_seq ?_
      have hget := Wl.getV_get hok2
      have hgl : 8 ≤ (Wire.getV (Wl.segBytes d.view (g.at_ + ((i * g.size : Nat) : Int)) g.size)).2.2.1 ∧ (Wire.getV (Wl.segBytes d.view (g.at_ + ((i * g.size : Nat) : Int)) g.size)).2.2.1 ≤ (Wl.segBytes d.view (g.at_ + ((i * g.size : Nat) : Int)) g.size).length ∧ (Wire.getV (Wl.segBytes d.view (g.at_ + ((i * g.size : Nat) : Int)) g.size)).1 < 18446744073709551616 := Wl.get_len hget
      have hdl : ((Wl.segBytes d.view (g.at_ + ((i * g.size : Nat) : Int)) g.size).drop (Wire.getV (Wl.segBytes d.view (g.at_ + ((i * g.size : Nat) : Int)) g.size)).2.2.1).length = (Wl.segBytes d.view (g.at_ + ((i * g.size : Nat) : Int)) g.size).length - (Wire.getV (Wl.segBytes d.view (g.at_ + ((i * g.size : Nat) : Int)) g.size)).2.2.1 := List.length_drop
      have hscl := Wl.scan_len ((Wl.segBytes d.view (g.at_ + ((i * g.size : Nat) : Int)) g.size).drop (Wire.getV (Wl.segBytes d.view (g.at_ + ((i * g.size : Nat) : Int)) g.size)).2.2.1).length ((Wl.segBytes d.view (g.at_ + ((i * g.size : Nat) : Int)) g.size).drop (Wire.getV (Wl.segBytes d.view (g.at_ + ((i * g.size : Nat) : Int)) g.size)).2.2.1) (Wire.getV (Wl.segBytes d.view (g.at_ + ((i * g.size : Nat) : Int)) g.size)).1
      refine ht_draw (.op 0 (.op 1 (.op 3 (.op 4 (.op 2 (.op 5 (.op 6 (.op 7 (.op 8 (.op 9 (.op 10 .done))))))))))) [2, 5] Tryd.mixed rfl ?_
      refine hd_ev rfl rfl rfl rfl (EvG.of rfl (ev_move rfl rfl)) ?_
      refine hd_ev rfl rfl rfl rfl (EvG.of rfl (ev_move rfl rfl)) ?_
      refine hd_ev rfl rfl rfl rfl (EvG.of rfl (by first | exact ev_fieldAddr0 rfl Tryd.fld71_0 rfl | exact ev_fieldAddr rfl Tryd.fld71_0 rfl)) ?_
      refine hd_ev rfl rfl rfl rfl (EvG.of rfl (ev_load rfl Tryd.underlying41 rfl rfl (by first | exact cell_pt (by (with_reducible repeat constructor); done) rfl | exact cell_ro (by (with_reducible repeat constructor); done) rfl))) ?_
      refine hd_eff rfl rfl rfl rfl rfl (eff_slice (α := UInt8) rfl Tryd.underlying86 Tryd.ty5 rfl (by (with_reducible repeat constructor); done) ⟨_, rfl⟩ rfl rfl (by decide) (by omega) (by omega) (by omega) (by omega)) (fun _ => by (refine FL.ev rfl (EvG.of rfl (ev_load rfl Tryd.underlying41 rfl rfl (by first | exact cell_pt (by (with_reducible repeat constructor); done) rfl | exact cell_ro (by (with_reducible repeat constructor); done) rfl))) ?_); (refine FL.ev rfl (EvG.of rfl (by first | exact ev_fieldAddr0 rfl Tryd.fld71_0 rfl | exact ev_fieldAddr rfl Tryd.fld71_0 rfl)) ?_); (refine FL.skip rfl ?_); (refine FL.skip rfl ?_); exact FL.nil) (fun a37 => ?_)
      rw [show ((Wl.segBytes d.view (g.at_ + ((i * g.size : Nat) : Int)) g.size).take (Wl.segBytes d.view (g.at_ + ((i * g.size : Nat) : Int)) g.size).length).drop (Wire.getV (Wl.segBytes d.view (g.at_ + ((i * g.size : Nat) : Int)) g.size)).2.2.1 = ((Wl.segBytes d.view (g.at_ + ((i * g.size : Nat) : Int)) g.size).drop (Wire.getV (Wl.segBytes d.view (g.at_ + ((i * g.size : Nat) : Int)) g.size)).2.2.1) by rw [List.take_length]]
      refine hd_eff rfl rfl rfl rfl rfl (eff_call rfl rfl (.cons rfl (.cons rfl .nil)) rfl (rec_Scan a37 _ ((Wl.segBytes d.view (g.at_ + ((i * g.size : Nat) : Int)) g.size).drop (Wire.getV (Wl.segBytes d.view (g.at_ + ((i * g.size : Nat) : Int)) g.size)).2.2.1) (Wire.getV (Wl.segBytes d.view (g.at_ + ((i * g.size : Nat) : Int)) g.size)).1 (by omega) (by omega) (by omega)) (by repeat (first | exact Picks.nil | (apply Picks.ro; focus ((repeat constructor); done)) | (apply Picks.cons; focus ((repeat constructor); done)))) (fun _ => by repeat (first | exact App.nil | apply App.cons))) (fun _ => by (refine FL.skip rfl ?_); (refine FL.skip rfl ?_); (refine FL.skip rfl ?_); (refine FL.skip rfl ?_); exact FL.nil) (fun z => ?_)
      refine hd_ev rfl rfl rfl rfl (EvG.of rfl (ev_move rfl rfl)) ?_
      refine hd_ev rfl rfl rfl rfl (EvG.of rfl (ev_extract rfl rfl rfl)) ?_
      refine hd_ev rfl rfl rfl rfl (EvG.of rfl (ev_extract rfl rfl rfl)) ?_
      refine hd_ev rfl rfl rfl rfl (EvG.of rfl (ev_assign rfl rfl)) ?_
      refine hd_ev rfl rfl rfl rfl (EvG.of rfl (ev_assign rfl rfl)) ?_
      refine hd_nil ?_
      refine hx_then ?_
      refine ht_region ?_
      refine ho_ev rfl rfl rfl (ev_move rfl rfl) ?_
      refine ho_ev rfl rfl rfl (ev_move rfl rfl) ?_
      refine ho_ev rfl rfl rfl (by first | exact ev_fieldAddr0 rfl Tryd.fld71_0 rfl | exact ev_fieldAddr rfl Tryd.fld71_0 rfl) ?_
      refine ho_ev rfl rfl rfl (ev_load rfl Tryd.underlying41 rfl rfl (by first | exact cell_pt (by (with_reducible repeat constructor); done) rfl | exact cell_ro (by (with_reducible repeat constructor); done) rfl)) ?_
      refine ho_ev rfl rfl rfl (ev_move rfl rfl) ?_
      refine ho_ev rfl rfl rfl (ev_lenSl rfl Tryd.underlying64 rfl) ?_
      refine ho_ev rfl rfl rfl (ev_convI (r := (((Wl.scan ((Wl.segBytes d.view (g.at_ + ((i * g.size : Nat) : Int)) g.size).drop (Wire.getV (Wl.segBytes d.view (g.at_ + ((i * g.size : Nat) : Int)) g.size)).2.2.1).length ((Wl.segBytes d.view (g.at_ + ((i * g.size : Nat) : Int)) g.size).drop (Wire.getV (Wl.segBytes d.view (g.at_ + ((i * g.size : Nat) : Int)) g.size)).2.2.1) (Wire.getV (Wl.segBytes d.view (g.at_ + ((i * g.size : Nat) : Int)) g.size)).1).length : Nat) : Int)) rfl ⟨_, Tryd.underlying3⟩ Tryd.underlying41 rfl (by exact IntWalk.u64_in _ (by omega))) ?_
      refine ho_ev rfl rfl rfl (ev_build1 (csl := [_, _, _]) rfl Tryd.st116 (.cons rfl (.cons rfl (.cons rfl .nil))) (.cons rfl (.cons rfl (.cons rfl .nil))) rfl rfl) ?_
      refine ho_ev rfl rfl rfl (ev_move rfl rfl) ?_
      refine ho_ev rfl rfl rfl (ev_build (cs := #[_, _, _, _]) rfl Tryd.st118 (.cons rfl (.cons rfl .nil)) rfl) ?_
      refine ho_eff rfl rfl rfl (eff_buildAll (α := FdV) [(⟨i, (Wire.getV (Wl.segBytes d.view (g.at_ + ((i * g.size : Nat) : Int)) g.size)).1, (Wl.scan ((Wl.segBytes d.view (g.at_ + ((i * g.size : Nat) : Int)) g.size).drop (Wire.getV (Wl.segBytes d.view (g.at_ + ((i * g.size : Nat) : Int)) g.size)).2.2.1).length ((Wl.segBytes d.view (g.at_ + ((i * g.size : Nat) : Int)) g.size).drop (Wire.getV (Wl.segBytes d.view (g.at_ + ((i * g.size : Nat) : Int)) g.size)).2.2.1) (Wire.getV (Wl.segBytes d.view (g.at_ + ((i * g.size : Nat) : Int)) g.size)).1).length, z.1, (Wl.scan ((Wl.segBytes d.view (g.at_ + ((i * g.size : Nat) : Int)) g.size).drop (Wire.getV (Wl.segBytes d.view (g.at_ + ((i * g.size : Nat) : Int)) g.size)).2.2.1).length ((Wl.segBytes d.view (g.at_ + ((i * g.size : Nat) : Int)) g.size).drop (Wire.getV (Wl.segBytes d.view (g.at_ + ((i * g.size : Nat) : Int)) g.size)).2.2.1) (Wire.getV (Wl.segBytes d.view (g.at_ + ((i * g.size : Nat) : Int)) g.size)).1).length, z.2.1⟩ : FdV)] rfl Tryd.underlying113 Tryd.ty118 (.cons rfl .nil) (.cons rfl .nil) rfl (Nat.le_of_ble_eq_true rfl)) (fun b53 => ?_)
      refine ho_eff rfl rfl rfl (eff_append (α := FdV) rfl Tryd.underlying113 Tryd.ty118 rfl (by decide) Tryd.underlying113 rfl rfl (by (with_reducible repeat constructor); done) (by first | exact reads_ro (by (with_reducible repeat constructor); done) | exact reads_own (by (with_reducible repeat constructor); done) | exact reads_nil _) (by first | omega | (simp only [List.length_append, List.length_cons, List.length_nil, List.length_drop, List.length_take]; omega) | (simp; omega))) (fun p54 => ?_)
      refine ho_ev rfl rfl rfl (ev_assign rfl rfl) ?_
      refine ho_nil ?_
      refine hx_block_normal ?_
      refine hx_then ?_
      refine ht_region ?_
      refine ho_ev rfl rfl rfl (ev_add rfl rfl rfl (by first | exact in_i64 (by omega) | rfl)) ?_
      refine ho_ev rfl rfl rfl (ev_move rfl rfl) ?_
      refine ho_nil ?_
      refine hx_again (I := (fun q : Nat × List FdV × Option Addr × Nat => ([LogAt p g, DiskAt g.dk d, ownS 118 q.2.2.1 q.2.1.length q.2.2.2 q.2.1, ro (fdsR q.2.1 (Wl.look d.view g.at_ g.size q.1)), pu (q.1 ≤ g.n), F], [(0, .pointer (some ⟨p, 0, none⟩)), (3, .slice q.2.2.1 q.2.1.length q.2.2.2), (14, .int .i64 (g.n : Int)), (15, .int .i64 q.1)]))) (μ := (fun q : Nat × List FdV × Option Addr × Nat => g.n - q.1)) (i := (i, xs, ad, cp)) (i + 1, xs ++ [(⟨i, (Wire.getV (Wl.segBytes d.view (g.at_ + ((i * g.size : Nat) : Int)) g.size)).1, (Wl.scan ((Wl.segBytes d.view (g.at_ + ((i * g.size : Nat) : Int)) g.size).drop (Wire.getV (Wl.segBytes d.view (g.at_ + ((i * g.size : Nat) : Int)) g.size)).2.2.1).length ((Wl.segBytes d.view (g.at_ + ((i * g.size : Nat) : Int)) g.size).drop (Wire.getV (Wl.segBytes d.view (g.at_ + ((i * g.size : Nat) : Int)) g.size)).2.2.1) (Wire.getV (Wl.segBytes d.view (g.at_ + ((i * g.size : Nat) : Int)) g.size)).1).length, z.1, (Wl.scan ((Wl.segBytes d.view (g.at_ + ((i * g.size : Nat) : Int)) g.size).drop (Wire.getV (Wl.segBytes d.view (g.at_ + ((i * g.size : Nat) : Int)) g.size)).2.2.1).length ((Wl.segBytes d.view (g.at_ + ((i * g.size : Nat) : Int)) g.size).drop (Wire.getV (Wl.segBytes d.view (g.at_ + ((i * g.size : Nat) : Int)) g.size)).2.2.1) (Wire.getV (Wl.segBytes d.view (g.at_ + ((i * g.size : Nat) : Int)) g.size)).1).length, z.2.1⟩ : FdV)], p54.1, p54.2) ?_ ?_ ?_
      ·(first | dsimp only | skip); omega
      ·repeat (first | exact EnvSub.nil _ | (refine EnvSub.cons rfl ?_))
      ·(first | dsimp only | skip)
       refine Ent.trans (Ent.roWeak2 (φ := fdsR xs (Wl.look d.view g.at_ g.size i)) (φ' := roS z.1 (Wl.scan ((Wl.segBytes d.view (g.at_ + ((i * g.size : Nat) : Int)) g.size).drop (Wire.getV (Wl.segBytes d.view (g.at_ + ((i * g.size : Nat) : Int)) g.size)).2.2.1).length ((Wl.segBytes d.view (g.at_ + ((i * g.size : Nat) : Int)) g.size).drop (Wire.getV (Wl.segBytes d.view (g.at_ + ((i * g.size : Nat) : Int)) g.size)).2.2.1) (Wire.getV (Wl.segBytes d.view (g.at_ + ((i * g.size : Nat) : Int)) g.size)).1).length (Wl.scan ((Wl.segBytes d.view (g.at_ + ((i * g.size : Nat) : Int)) g.size).drop (Wire.getV (Wl.segBytes d.view (g.at_ + ((i * g.size : Nat) : Int)) g.size)).2.2.1).length ((Wl.segBytes d.view (g.at_ + ((i * g.size : Nat) : Int)) g.size).drop (Wire.getV (Wl.segBytes d.view (g.at_ + ((i * g.size : Nat) : Int)) g.size)).2.2.1) (Wire.getV (Wl.segBytes d.view (g.at_ + ((i * g.size : Nat) : Int)) g.size)).1)) (ψ := fdsR (xs ++ [(⟨i, (Wire.getV (Wl.segBytes d.view (g.at_ + ((i * g.size : Nat) : Int)) g.size)).1, (Wl.scan ((Wl.segBytes d.view (g.at_ + ((i * g.size : Nat) : Int)) g.size).drop (Wire.getV (Wl.segBytes d.view (g.at_ + ((i * g.size : Nat) : Int)) g.size)).2.2.1).length ((Wl.segBytes d.view (g.at_ + ((i * g.size : Nat) : Int)) g.size).drop (Wire.getV (Wl.segBytes d.view (g.at_ + ((i * g.size : Nat) : Int)) g.size)).2.2.1) (Wire.getV (Wl.segBytes d.view (g.at_ + ((i * g.size : Nat) : Int)) g.size)).1).length, z.1, (Wl.scan ((Wl.segBytes d.view (g.at_ + ((i * g.size : Nat) : Int)) g.size).drop (Wire.getV (Wl.segBytes d.view (g.at_ + ((i * g.size : Nat) : Int)) g.size)).2.2.1).length ((Wl.segBytes d.view (g.at_ + ((i * g.size : Nat) : Int)) g.size).drop (Wire.getV (Wl.segBytes d.view (g.at_ + ((i * g.size : Nat) : Int)) g.size)).2.2.1) (Wire.getV (Wl.segBytes d.view (g.at_ + ((i * g.size : Nat) : Int)) g.size)).1).length, z.2.1⟩ : FdV)]) (Wl.look d.view g.at_ g.size (i + 1))) (by (with_reducible repeat constructor); done) (by (with_reducible repeat constructor); done) (fun r h1 h2 => by rw [Wl.look_yes (Wl.fdOf_yes hget (by show (Wire.getV (Wl.segBytes d.view (g.at_ + ((i * g.size : Nat) : Int)) g.size)).2.1 = _; exact g32))]; exact FdsOk.snoc h1 ⟨rfl, rfl, rfl, rfl, h2⟩) (Ent.refl _)) ?_
       exact Ent.cons (by (repeat constructor); done) (Ent.cons (by (repeat constructor); done) (Ent.cons (by (repeat constructor); done) (Ent.roD (by (with_reducible repeat constructor); done) (Ent.pu (by omega) (Ent.cons (by (repeat constructor); done) Ent.nil)))))
     )
  )
 ·first | (exfalso; first | omega | (simp at g1; done) | contradiction) | skip
  all_goals (
   refine ho_nil ?_
   refine hx_then ?_
   refine ht_seq ?_
   refine ht_else rfl ?_
   refine ht_exit ?_
   refine hx_through trivial ?_
   refine hx_through trivial ?_
   refine hx_block_here ?_
   refine hx_then ?_
   refine ht_seq ?_
   refine ht_region ?_
   refine ho_ev rfl rfl rfl (ev_move rfl rfl) ?_
   refine ho_ev rfl rfl rfl (ev_assign rfl rfl) ?_
   refine ho_nil ?_
   refine hx_then ?_
   refine ht_ret ?_
   have hii : i = g.n := by omega
   subst hii
   refine hx_freezeS (xs := xs) (by (repeat constructor); done) ?_
   exact hx_ret1 (.inl rfl) rfl rfl (xs, ad, cp) rfl (Ent.cons (by (repeat constructor); done) (Ent.cons (by (repeat constructor); done) (Ent.roD (by (repeat constructor); done) (Ent.roD (by (repeat constructor); done) (Ent.cons (by (repeat constructor); done) Ent.nil)))))
  )

theorem sub_wrap (a : Nat) : IntKind.u64.wrap (((a : Nat) : Int) - 1) = (((a + (18446744073709551616 - 1)) % 18446744073709551616 : Nat) : Int) := by
  have h : IntKind.u64.wrap (((a : Nat) : Int) - 1) = (((a : Nat) : Int) - 1) % 18446744073709551616 := by simp [IntKind.wrap, IntKind.bits, IntKind.signed]
  rw [h]; omega

theorem wal_take (p : Nat) (g : LG) (f : Wl.Fd) (va : Option Addr) (vc k : Nat) (hb : f.base < 18446744073709551616) (hr : f.recs.length ≤ 100000) (hl : g.live.length ≤ 1000000) : Ctr Tryd.prog 49 #[.pointer (some ⟨p, 0, none⟩), .agg #[.int .i64 (f.place : Int), .int .u64 (f.base : Int), .int .u64 (f.recs.length : Int), .slice va f.recs.length vc], .int .u64 (k : Int)] [LogAt p g, ro (roS va f.recs.length f.recs)] (fun q : Option Addr × Nat => .slice q.1 (Wl.behind k f.recs).length q.2) (fun q => [LogAt p { g with live := g.live ++ [f.seg], last := Wl.upTo f.base f.recs.length }, ro (roS q.1 (Wl.behind k f.recs).length (Wl.behind k f.recs))]) := by
 refine fn_intro Tryd.func49 rfl rfl Tryd.ntmps49 (Nat.le_of_ble_eq_true rfl) (fun _ => by repeat (first | exact App.nil | apply App.cons)) (fun κ F => ?_)
 refine ht_log (by (with_reducible repeat constructor); done) (fun x hx => ?_)
 refine ht_seq ?_
 refine ht_region ?_
 refine ho_eff rfl rfl rfl (eff_boxA rfl rfl) (fun b4 => ?_)
 refine ho_ev rfl rfl rfl (ev_assign rfl rfl) ?_
 refine ho_nil ?_
 refine hx_then ?_
 refine ht_seq ?_
 refine ht_draw (.op 0 (.op 1 (.op 2 (.op 3 (.op 4 (.op 5 (.op 6 (.op 7 (.op 8 (.op 9 (.op 10 (.op 11 .done)))))))))))) [7, 8, 11] Tryd.mixed rfl ?_
 refine hd_ev rfl rfl rfl rfl (EvG.of rfl (ev_move rfl rfl)) ?_
 refine hd_ev rfl rfl rfl rfl (EvG.of rfl (ev_move rfl rfl)) ?_
 refine hd_ev rfl rfl rfl rfl (EvG.of rfl (ev_nilCheck rfl rfl)) ?_
 refine hd_ev rfl rfl rfl rfl (EvG.of rfl (by first | exact ev_fieldAddr0 rfl Tryd.fld112_4 rfl | exact ev_fieldAddr rfl Tryd.fld112_4 rfl)) ?_
 refine hd_ev rfl rfl rfl rfl (EvG.of rfl (ev_load rfl Tryd.underlying110 rfl rfl (by first | exact cell_pt (by (with_reducible repeat constructor); done) rfl | exact cell_ro (by (with_reducible repeat constructor); done) rfl))) ?_
 refine hd_ev rfl rfl rfl rfl (EvG.of rfl (by first | exact ev_fieldAddr0 rfl Tryd.fld118_0 rfl | exact ev_fieldAddr rfl Tryd.fld118_0 rfl)) ?_
 refine hd_ev rfl rfl rfl rfl (EvG.of rfl (ev_loadA rfl Tryd.underlying116 Tryd.ty116 rfl rfl (by first | exact cells_pt (by (with_reducible repeat constructor); done) (Nat.le_of_ble_eq_true rfl) (by simp only [List.extract_toArray, List.extract_eq_take_drop, Nat.zero_add, Nat.sub_zero, Nat.add_sub_cancel_left, List.drop_zero, List.take_succ_cons, List.take_zero, List.drop_succ_cons] <;> rfl) | exact cells_ro (by (with_reducible repeat constructor); done) (Nat.le_of_ble_eq_true rfl) (by simp only [List.extract_toArray, List.extract_eq_take_drop, Nat.zero_add, Nat.sub_zero, Nat.add_sub_cancel_left, List.drop_zero, List.take_succ_cons, List.take_zero, List.drop_succ_cons] <;> rfl)))) ?_
 refine hd_eff rfl rfl rfl rfl rfl (eff_buildAll (α := Wl.Seg) [(⟨f.place, f.base, f.recs.length⟩ : Wl.Seg)] rfl Tryd.underlying110 Tryd.ty116 (.cons rfl .nil) (.cons rfl .nil) rfl (Nat.le_of_ble_eq_true rfl)) (fun _ => by (refine FL.skip rfl ?_); (refine FL.skip rfl ?_); (refine FL.ev rfl (EvG.of rfl (ev_load rfl Tryd.underlying110 rfl rfl (by first | exact cell_pt (by (with_reducible repeat constructor); done) rfl | exact cell_ro (by (with_reducible repeat constructor); done) rfl))) ?_); (refine FL.ev rfl (EvG.of rfl (by first | exact ev_fieldAddr0 rfl Tryd.fld112_4 rfl | exact ev_fieldAddr rfl Tryd.fld112_4 rfl)) ?_); (refine FL.ev rfl (EvG.of rfl (ev_nilCheck rfl rfl)) ?_); (refine FL.ev rfl (EvG.of rfl (ev_move rfl rfl)) ?_); (refine FL.ev rfl (EvG.of rfl (ev_move rfl rfl)) ?_); exact FL.nil) (fun b17 => ?_)
 refine hd_eff rfl rfl rfl rfl rfl (eff_append (α := Wl.Seg) rfl Tryd.underlying110 Tryd.ty116 rfl (by decide) Tryd.underlying110 rfl rfl (by (with_reducible repeat constructor); done) (by first | exact reads_ro (by (with_reducible repeat constructor); done) | exact reads_own (by (with_reducible repeat constructor); done) | exact reads_nil _) (by first | omega | (simp only [List.length_append, List.length_cons, List.length_nil, List.length_drop, List.length_take]; omega) | (simp; omega))) (fun _ => by (refine FL.skip rfl ?_); (refine FL.skip rfl ?_); (refine FL.skip rfl ?_); (refine FL.skip rfl ?_); (refine FL.skip rfl ?_); (refine FL.skip rfl ?_); (refine FL.ev rfl (EvG.of rfl (ev_move rfl rfl)) ?_); exact FL.nil) (fun p18 => ?_)
 refine hd_ev rfl rfl rfl rfl (EvG.of rfl (ev_nilCheck rfl rfl)) ?_
 refine hd_ev rfl rfl rfl rfl (EvG.of rfl (by first | exact ev_fieldAddr0 rfl Tryd.fld112_4 rfl | exact ev_fieldAddr rfl Tryd.fld112_4 rfl)) ?_
 refine hd_eff0 rfl rfl rfl rfl (eff_store1 rfl Tryd.ty110 rfl rfl (by (with_reducible repeat constructor); done) rfl rfl (lt_of_blt rfl) (by simp only [List.setIfInBounds_toArray, List.set_cons_zero, List.set_cons_succ]; rfl)) (fun _ => by (refine FL.skip rfl ?_); (refine FL.skip rfl ?_); (refine FL.skip rfl ?_); (refine FL.skip rfl ?_); (refine FL.skip rfl ?_); (refine FL.skip rfl ?_); (refine FL.skip rfl ?_); (refine FL.skip rfl ?_); (refine FL.skip rfl ?_); exact FL.nil) (fun _ => ?_)
 refine hd_nil ?_
 refine hx_then ?_
 refine ht_seq ?_
 refine ht_region ?_
 refine ho_ev rfl rfl rfl (ev_move rfl rfl) ?_
 refine ho_ev rfl rfl rfl (by first | exact ev_fieldAddr0 rfl Tryd.fld118_0 rfl | exact ev_fieldAddr rfl Tryd.fld118_0 rfl) ?_
 refine ho_ev rfl rfl rfl (by first | exact ev_fieldAddr0 rfl Tryd.fld116_1 rfl | exact ev_fieldAddr rfl Tryd.fld116_1 rfl) ?_
 refine ho_ev rfl rfl rfl (ev_load rfl Tryd.underlying41 rfl rfl (by first | exact cell_pt (by (with_reducible repeat constructor); done) rfl | exact cell_ro (by (with_reducible repeat constructor); done) rfl)) ?_
 refine ho_ev rfl rfl rfl (by first | exact ev_fieldAddr0 rfl Tryd.fld118_0 rfl | exact ev_fieldAddr rfl Tryd.fld118_0 rfl) ?_
 refine ho_ev rfl rfl rfl (by first | exact ev_fieldAddr0 rfl Tryd.fld116_2 rfl | exact ev_fieldAddr rfl Tryd.fld116_2 rfl) ?_
 refine ho_ev rfl rfl rfl (ev_load rfl Tryd.underlying41 rfl rfl (by first | exact cell_pt (by (with_reducible repeat constructor); done) rfl | exact cell_ro (by (with_reducible repeat constructor); done) rfl)) ?_
 refine ho_ev rfl rfl rfl (ev_add (r := (((f.base + f.recs.length) % 18446744073709551616 : Nat) : Int)) rfl rfl rfl (by exact add_wrap _ _)) ?_
 refine ho_ev rfl rfl rfl (ev_sub (r := ((Wl.upTo f.base f.recs.length : Nat) : Int)) rfl rfl rfl (by exact sub_wrap _)) ?_
 refine ho_ev rfl rfl rfl (ev_nilCheck rfl rfl) ?_
 refine ho_ev rfl rfl rfl (by first | exact ev_fieldAddr0 rfl Tryd.fld112_6 rfl | exact ev_fieldAddr rfl Tryd.fld112_6 rfl) ?_
 refine ho_eff0 rfl rfl (eff_store1 rfl Tryd.ty41 rfl rfl (by (with_reducible repeat constructor); done) rfl rfl (lt_of_blt rfl) (by simp only [List.setIfInBounds_toArray, List.set_cons_zero, List.set_cons_succ]; rfl)) (fun _ => ?_)
 refine ho_nil ?_
 refine hx_then ?_
 refine ht_seq ?_
 refine ht_region ?_
 refine ho_ev rfl rfl rfl (ev_assign rfl rfl) ?_
 refine ho_nil ?_
 refine hx_then ?_
 refine ht_seq ?_
 refine ht_seq ?_
 refine ht_region ?_
 refine ho_ev rfl rfl rfl (by first | exact ev_fieldAddr0 rfl Tryd.fld118_1 rfl | exact ev_fieldAddr rfl Tryd.fld118_1 rfl) ?_
 refine ho_ev rfl rfl rfl (ev_load rfl Tryd.underlying64 rfl rfl (by first | exact cell_pt (by (with_reducible repeat constructor); done) rfl | exact cell_ro (by (with_reducible repeat constructor); done) rfl)) ?_
 refine ho_ev rfl rfl rfl (ev_lenSl rfl Tryd.underlying64 rfl) ?_
 refine ho_ev rfl rfl rfl (ev_move rfl rfl) ?_
 refine ho_nil ?_
 refine hx_then ?_
 refine ht_block ?_
 refine ht_loop (fun q : Nat × List Wl.Rec × Option Addr × Nat => ([LogAt p { g with live := g.live ++ [f.seg], last := Wl.upTo f.base f.recs.length }, ownS 71 q.2.2.1 q.2.1.length q.2.2.2 q.2.1, ro (roS va f.recs.length f.recs), pu (q.2.1 = Wl.behind k (f.recs.take q.1) ∧ q.1 ≤ f.recs.length), F], [(2, .int .u64 (k : Int)), (7, .slice q.2.2.1 q.2.1.length q.2.2.2), (33, .slice va f.recs.length vc), (34, .int .i64 (f.recs.length : Int)), (35, .int .i64 q.1)])) (fun q : Nat × List Wl.Rec × Option Addr × Nat => f.recs.length - q.1) (0, [], none, 0) ?_ (by repeat (first | exact EnvSub.nil _ | (refine EnvSub.cons rfl ?_))) (fun q => ?_)
 ·(first | dsimp only | skip)
  refine (ownS_nil (α := Wl.Rec) 71).trans ?_
  exact Ent.log (g := { g with live := g.live ++ [f.seg], last := Wl.upTo f.base f.recs.length }) (x := ⟨p18.1, p18.2, x.sa, x.sc⟩) (by repeat (first | exact Picks.nil | (apply Picks.ro; focus ((repeat constructor); done)) | (apply Picks.cons; focus ((repeat constructor); done)))) rfl rfl rfl rfl rfl rfl rfl rfl rfl rfl hx (Ent.cons (by (repeat constructor); done) (Ent.roD (by (with_reducible repeat constructor); done) (Ent.pu ⟨rfl, by omega⟩ (Ent.cons (by (repeat constructor); done) Ent.nil))))
 obtain ⟨i, acc, ad, cp⟩ := q
 dsimp only
 refine ht_pick (A := pu (acc = Wl.behind k (f.recs.take i) ∧ i ≤ f.recs.length)) (by (repeat constructor); done) (ht_pure fun hq => ?_)
 obtain ⟨hacc, hi⟩ := hq
 have hal : acc.length ≤ f.recs.length := by rw [hacc]; exact Nat.le_trans (Wl.behind_len _ _) (by rw [List.length_take]; omega)
 refine ht_seq ?_
 refine ht_region ?_
 refine ho_lt rfl rfl rfl rfl rfl rfl (fun g1 => ?_) (fun g1 => ?_)
 ·first | (exfalso; first | omega | (simp at g1; done) | contradiction) | skip
  all_goals (
   refine ho_nil ?_
   refine hx_then ?_
   refine ht_seq ?_
   refine ht_then rfl ?_
   refine ht_skip ?_
   refine hx_then ?_
   refine ht_seq ?_
   refine ht_block ?_
   refine ht_seq ?_
   obtain ⟨r, hr⟩ : ∃ r, f.recs[i]? = some r := ⟨_, List.getElem?_eq_getElem (by omega)⟩
   refine ht_someS (α := Wl.Rec) (a := va) (reads_ro (by (with_reducible repeat constructor); done)) (by omega) (fun ab ao ha => ?_)
   refine ht_region ?_
   refine ho_ev rfl rfl rfl (ev_indexAddr rfl Tryd.underlying64 Tryd.ty71 (congrArg (fun z => some (Value.slice z f.recs.length vc)) ha) rfl (by omega) (by omega)) ?_
   refine ho_ev rfl rfl rfl (ev_loadA rfl Tryd.underlying71 Tryd.ty71 rfl rfl (show Cells _ _ _ _ #[.int .u64 (r.seq : Int), vS r.body] from cells_Sa ha (reads_ro (by (with_reducible repeat constructor); done)) hr)) ?_
   refine ho_eff rfl rfl rfl (eff_alloc rfl Tryd.ty71 (by first | exact cells_agg _ | exact rfl)) (fun b9 => ?_)
   refine ho_eff0 rfl rfl (eff_storeA rfl Tryd.ty71 rfl rfl (by (with_reducible repeat constructor); done) rfl rfl rfl (by simp only [setRange, List.setIfInBounds_toArray, List.set_cons_zero, List.set_cons_succ, Nat.zero_add]; rfl)) (fun _ => ?_)
   refine ho_nil ?_
   refine hx_then ?_
   refine ht_seq ?_
   refine ht_region ?_
   refine ho_ev rfl rfl rfl (by first | exact ev_fieldAddr0 rfl Tryd.fld71_0 rfl | exact ev_fieldAddr rfl Tryd.fld71_0 rfl) ?_
   refine ho_ev rfl rfl rfl (ev_load rfl Tryd.underlying41 rfl rfl (by first | exact cell_pt (by (with_reducible repeat constructor); done) rfl | exact cell_ro (by (with_reducible repeat constructor); done) rfl)) ?_
   refine ho_ev rfl rfl rfl (ev_move rfl rfl) ?_
   refine ho_gt rfl rfl rfl rfl rfl rfl (fun g2 => ?_) (fun g2 => ?_)
   ·first | (exfalso; first | omega | (simp at g2; done) | contradiction) | skip
    all_goals (
     refine ho_nil ?_
     refine hx_then ?_
     refine ht_then rfl ?_
     refine ht_region ?_
     refine ho_ev rfl rfl rfl (ev_move rfl rfl) ?_
     refine ho_ev rfl rfl rfl (ev_loadA rfl Tryd.underlying71 Tryd.ty71 rfl rfl (by first | exact cells_pt (by (with_reducible repeat constructor); done) (Nat.le_of_ble_eq_true rfl) (by simp only [List.extract_toArray, List.extract_eq_take_drop, Nat.zero_add, Nat.sub_zero, Nat.add_sub_cancel_left, List.drop_zero, List.take_succ_cons, List.take_zero, List.drop_succ_cons] <;> rfl) | exact cells_ro (by (with_reducible repeat constructor); done) (Nat.le_of_ble_eq_true rfl) (by simp only [List.extract_toArray, List.extract_eq_take_drop, Nat.zero_add, Nat.sub_zero, Nat.add_sub_cancel_left, List.drop_zero, List.take_succ_cons, List.take_zero, List.drop_succ_cons] <;> rfl))) ?_
     refine ho_eff rfl rfl rfl (eff_buildAll (α := Wl.Rec) [r] rfl Tryd.underlying64 Tryd.ty71 (.cons rfl .nil) (.cons rfl .nil) rfl (Nat.le_of_ble_eq_true rfl)) (fun b45 => ?_)
     refine ho_eff rfl rfl rfl (eff_append (α := Wl.Rec) rfl Tryd.underlying64 Tryd.ty71 rfl (by decide) Tryd.underlying64 rfl rfl (by (with_reducible repeat constructor); done) (by first | exact reads_ro (by (with_reducible repeat constructor); done) | exact reads_own (by (with_reducible repeat constructor); done) | exact reads_nil _) (by first | omega | (simp only [List.length_append, List.length_cons, List.length_nil, List.length_drop, List.length_take]; omega) | (simp; omega))) (fun p46 => ?_)
     refine ho_ev rfl rfl rfl (ev_assign rfl rfl) ?_
     refine ho_nil ?_
     refine hx_block_normal ?_
     refine hx_then ?_
     refine ht_region ?_
     refine ho_ev rfl rfl rfl (ev_add rfl rfl rfl (by first | exact in_i64 (by omega) | rfl)) ?_
     refine ho_ev rfl rfl rfl (ev_move rfl rfl) ?_
     refine ho_nil ?_
     refine hx_again (I := (fun q : Nat × List Wl.Rec × Option Addr × Nat => ([LogAt p { g with live := g.live ++ [f.seg], last := Wl.upTo f.base f.recs.length }, ownS 71 q.2.2.1 q.2.1.length q.2.2.2 q.2.1, ro (roS va f.recs.length f.recs), pu (q.2.1 = Wl.behind k (f.recs.take q.1) ∧ q.1 ≤ f.recs.length), F], [(2, .int .u64 (k : Int)), (7, .slice q.2.2.1 q.2.1.length q.2.2.2), (33, .slice va f.recs.length vc), (34, .int .i64 (f.recs.length : Int)), (35, .int .i64 q.1)]))) (μ := (fun q : Nat × List Wl.Rec × Option Addr × Nat => f.recs.length - q.1)) (i := (i, acc, ad, cp)) (i + 1, acc ++ [r], p46.1, p46.2) ?_ ?_ ?_
     ·(first | dsimp only | skip); omega
     ·repeat (first | exact EnvSub.nil _ | (refine EnvSub.cons rfl ?_))
     ·(first | dsimp only | skip)
      exact Ent.cons (by (repeat constructor); done) (Ent.cons (by (repeat constructor); done) (Ent.roD (by (with_reducible repeat constructor); done) (Ent.pu ⟨by rw [Wl.behind_yes hr (by omega), ← hacc], by omega⟩ (Ent.cons (by (repeat constructor); done) Ent.nil))))
    )
   ·first | (exfalso; first | omega | (simp at g2; done) | contradiction) | skip
    all_goals (
     refine ho_nil ?_
     refine hx_then ?_
     refine ht_else rfl ?_
     refine ht_skip ?_
     refine hx_block_normal ?_
     refine hx_then ?_
     refine ht_region ?_
     refine ho_ev rfl rfl rfl (ev_add rfl rfl rfl (by first | exact in_i64 (by omega) | rfl)) ?_
     refine ho_ev rfl rfl rfl (ev_move rfl rfl) ?_
     refine ho_nil ?_
     refine hx_again (I := (fun q : Nat × List Wl.Rec × Option Addr × Nat => ([LogAt p { g with live := g.live ++ [f.seg], last := Wl.upTo f.base f.recs.length }, ownS 71 q.2.2.1 q.2.1.length q.2.2.2 q.2.1, ro (roS va f.recs.length f.recs), pu (q.2.1 = Wl.behind k (f.recs.take q.1) ∧ q.1 ≤ f.recs.length), F], [(2, .int .u64 (k : Int)), (7, .slice q.2.2.1 q.2.1.length q.2.2.2), (33, .slice va f.recs.length vc), (34, .int .i64 (f.recs.length : Int)), (35, .int .i64 q.1)]))) (μ := (fun q : Nat × List Wl.Rec × Option Addr × Nat => f.recs.length - q.1)) (i := (i, acc, ad, cp)) (i + 1, acc, ad, cp) ?_ ?_ ?_
     ·(first | dsimp only | skip); omega
     ·repeat (first | exact EnvSub.nil _ | (refine EnvSub.cons rfl ?_))
     ·(first | dsimp only | skip)
      exact Ent.cons (by (repeat constructor); done) (Ent.cons (by (repeat constructor); done) (Ent.roD (by (with_reducible repeat constructor); done) (Ent.pu ⟨by rw [Wl.behind_no hr (by omega), ← hacc], by omega⟩ (Ent.cons (by (repeat constructor); done) Ent.nil))))
    )
  )
 ·first | (exfalso; first | omega | (simp at g1; done) | contradiction) | skip
  all_goals (
   refine ho_nil ?_
   refine hx_then ?_
   refine ht_seq ?_
   refine ht_else rfl ?_
   refine ht_exit ?_
   refine hx_through trivial ?_
   refine hx_through trivial ?_
   refine hx_block_here ?_
   refine hx_then ?_
   refine ht_seq ?_
   refine ht_region ?_
   refine ho_ev rfl rfl rfl (ev_move rfl rfl) ?_
   refine ho_ev rfl rfl rfl (ev_assign rfl rfl) ?_
   refine ho_nil ?_
   refine hx_then ?_
   refine ht_ret ?_
   have hii : i = f.recs.length := by omega
   rw [hii, List.take_length] at hacc
   subst hacc
   refine hx_freezeS (xs := Wl.behind k f.recs) (by (repeat constructor); done) ?_
   exact hx_ret1 (.inl rfl) rfl rfl (ad, cp) rfl (Ent.cons (by (repeat constructor); done) (Ent.roD (by (repeat constructor); done) (Ent.cons (by (repeat constructor); done) Ent.nil)))
  )
theorem wal_usedX (p : Nat) (g : LG) (x : LX) (i : Int) (hl : g.live.length ≤ 1000000) : Ctr Tryd.prog 52 #[.pointer (some ⟨p, 0, none⟩), .int .i64 i] [pt p (.cells (lgCells g x) 112 (0, 0)), ownS 116 x.la g.live.length x.lc g.live] (fun _ : Unit => .bool (Wl.has g.live i)) (fun _ => [pt p (.cells (lgCells g x) 112 (0, 0)), ownS 116 x.la g.live.length x.lc g.live]) := by
 refine fn_intro Tryd.func52 rfl rfl Tryd.ntmps52 (Nat.le_of_ble_eq_true rfl) (fun _ => by repeat (first | exact App.nil | apply App.cons)) (fun κ F => ?_)
 refine ht_seq ?_
 refine ht_region ?_
 refine ho_eff rfl rfl rfl (eff_box1 rfl rfl rfl) (fun b3 => ?_)
 refine ho_ev rfl rfl rfl (ev_assign rfl rfl) ?_
 refine ho_nil ?_
 refine hx_then ?_
 refine ht_seq ?_
 refine ht_region ?_
 refine ho_ev rfl rfl rfl (ev_move rfl rfl) ?_
 refine ho_ev rfl rfl rfl (ev_nilCheck rfl rfl) ?_
 refine ho_ev rfl rfl rfl (by first | exact ev_fieldAddr0 rfl Tryd.fld112_4 rfl | exact ev_fieldAddr rfl Tryd.fld112_4 rfl) ?_
 refine ho_ev rfl rfl rfl (ev_load rfl Tryd.underlying110 rfl rfl (by first | exact cell_pt (by (with_reducible repeat constructor); done) rfl | exact cell_ro (by (with_reducible repeat constructor); done) rfl)) ?_
 refine ho_ev rfl rfl rfl (ev_makeFunc rfl .nil (.cons rfl .nil)) ?_
 refine ho_eff rfl rfl rfl (eff_call rfl rfl (.cons rfl (.cons rfl .nil)) rfl (wal_ContainsS x.la x.lc g.live b3 i hl) (by repeat (first | exact Picks.nil | (apply Picks.ro; focus ((repeat constructor); done)) | (apply Picks.cons; focus ((repeat constructor); done)))) (fun _ => by repeat (first | exact App.nil | apply App.cons))) (fun _ => ?_)
 refine ho_ev rfl rfl rfl (ev_assign rfl rfl) ?_
 refine ho_nil ?_
 refine hx_then ?_
 refine ht_ret ?_
 exact hx_ret1 (.inl rfl) rfl rfl () rfl (Ent.cons (by (repeat constructor); done) (Ent.cons (by (repeat constructor); done) (Ent.cons (by (repeat constructor); done) Ent.nil)))
theorem wal_usedB (p : Nat) (g : LG) (x : LX) (i : Int) (b : Bool) (hl : g.live.length ≤ 1000000) (hb : Wl.has g.live i = b) : Ctr Tryd.prog 52 #[.pointer (some ⟨p, 0, none⟩), .int .i64 i] [pt p (.cells (lgCells g x) 112 (0, 0)), ownS 116 x.la g.live.length x.lc g.live] (fun _ : Unit => .bool b) (fun _ => [pt p (.cells (lgCells g x) 112 (0, 0)), ownS 116 x.la g.live.length x.lc g.live]) := hb ▸ wal_usedX p g x i hl
theorem wal_Open1 (p b : Nat) (g : LG) (f : Wl.Fd) (va : Option Addr) (vc : Nat) (hl : g.live.length ≤ 1000000) : Ctr Tryd.prog 51 #[.agg #[.int .i64 (f.place : Int), .int .u64 (f.base : Int), .int .u64 (f.recs.length : Int), .slice va f.recs.length vc], .pointer (some ⟨b, 0, none⟩)] [LogAt p g, pt b (.cells #[.pointer (some ⟨p, 0, none⟩)] 63 (0, 0))] (fun _ : Unit => .bool (Wl.okNext g.live g.last f)) (fun _ => [LogAt p g, pt b (.cells #[.pointer (some ⟨p, 0, none⟩)] 63 (0, 0))]) := by
 refine fn_intro Tryd.func51 rfl rfl Tryd.ntmps51 (Nat.le_of_ble_eq_true rfl) (fun _ => by repeat (first | exact App.nil | apply App.cons)) (fun κ F => ?_)
 refine ht_log (by (with_reducible repeat constructor); done) (fun x hx => ?_)
 refine ht_seq ?_
 refine ht_region ?_
 refine ho_eff rfl rfl rfl (eff_boxA rfl rfl) (fun b2 => ?_)
 refine ho_ev rfl rfl rfl (ev_assign rfl rfl) ?_
 refine ho_nil ?_
 refine hx_then ?_
 refine ht_seq ?_
 refine ht_draw (.op 0 (.op 1 (.op 2 (.op 3 (.op 4 (.op 5 (.op 6 (.op 7 (.op 8 (.op 9 (.op 10 (.op 11 (.op 12 (.op 13 (.op 14 (.op 15 (.op 16 (.op 17 .done)))))))))))))))))) [14] Tryd.mixed rfl ?_
 refine hd_ev rfl rfl rfl rfl (EvG.of rfl (by first | exact ev_fieldAddr0 rfl Tryd.fld118_0 rfl | exact ev_fieldAddr rfl Tryd.fld118_0 rfl)) ?_
 refine hd_ev rfl rfl rfl rfl (EvG.of rfl (by first | exact ev_fieldAddr0 rfl Tryd.fld116_1 rfl | exact ev_fieldAddr rfl Tryd.fld116_1 rfl)) ?_
 refine hd_ev rfl rfl rfl rfl (EvG.of rfl (ev_load rfl Tryd.underlying41 rfl rfl (by first | exact cell_pt (by (with_reducible repeat constructor); done) rfl | exact cell_ro (by (with_reducible repeat constructor); done) rfl))) ?_
 refine hd_ev rfl rfl rfl rfl (EvG.of rfl (ev_load rfl Tryd.underlying63 rfl rfl (by first | exact cell_pt (by (with_reducible repeat constructor); done) rfl | exact cell_ro (by (with_reducible repeat constructor); done) rfl))) ?_
 refine hd_ev rfl rfl rfl rfl (EvG.of rfl (ev_nilCheck rfl rfl)) ?_
 refine hd_ev rfl rfl rfl rfl (EvG.of rfl (by first | exact ev_fieldAddr0 rfl Tryd.fld112_6 rfl | exact ev_fieldAddr rfl Tryd.fld112_6 rfl)) ?_
 refine hd_ev rfl rfl rfl rfl (EvG.of rfl (ev_load rfl Tryd.underlying41 rfl rfl (by first | exact cell_pt (by (with_reducible repeat constructor); done) rfl | exact cell_ro (by (with_reducible repeat constructor); done) rfl))) ?_
 refine hd_ev rfl rfl rfl rfl (EvG.of rfl (ev_add (r := (((g.last + 1) % 18446744073709551616 : Nat) : Int)) rfl rfl rfl (by exact add_wrap g.last 1))) ?_
 refine hd_eq rfl rfl rfl rfl rfl rfl rfl rfl (fun g12 => ?_) (fun g12 => ?_)
 ·first | (exfalso; first | omega | (simp at g12; done) | contradiction) | skip
  all_goals (
   refine hd_ev rfl rfl rfl rfl (EvG.of rfl (ev_move rfl rfl)) ?_
   refine hd_ev rfl rfl rfl rfl (EvG.ofg rfl rfl (ev_load rfl Tryd.underlying63 rfl rfl (by first | exact cell_pt (by (with_reducible repeat constructor); done) rfl | exact cell_ro (by (with_reducible repeat constructor); done) rfl))) ?_
   refine hd_ev rfl rfl rfl rfl (EvG.ofg rfl rfl (by first | exact ev_fieldAddr0 rfl Tryd.fld118_0 rfl | exact ev_fieldAddr rfl Tryd.fld118_0 rfl)) ?_
   refine hd_ev rfl rfl rfl rfl (EvG.ofg rfl rfl (by first | exact ev_fieldAddr0 rfl Tryd.fld116_0 rfl | exact ev_fieldAddr rfl Tryd.fld116_0 rfl)) ?_
   refine hd_ev rfl rfl rfl rfl (EvG.ofg rfl rfl (ev_load rfl Tryd.underlying3 rfl rfl (by first | exact cell_pt (by (with_reducible repeat constructor); done) rfl | exact cell_ro (by (with_reducible repeat constructor); done) rfl))) ?_
   rcases hu : Wl.has g.live (f.place : Int) with _ | _
   ·skip
    refine hd_effg rfl rfl rfl rfl rfl rfl (eff_call rfl rfl (.cons rfl (.cons rfl .nil)) rfl (wal_usedB p g x f.place false hl hu) (by repeat (first | exact Picks.nil | (apply Picks.ro; focus ((repeat constructor); done)) | (apply Picks.cons; focus ((repeat constructor); done)))) (fun _ => by repeat (first | exact App.nil | apply App.cons))) (fun _ => by (refine FL.skip rfl ?_); (refine FL.skip rfl ?_); (refine FL.skip rfl ?_); (refine FL.skip rfl ?_); (refine FL.skip rfl ?_); (refine FL.skip rfl ?_); (refine FL.skip rfl ?_); (refine FL.skip rfl ?_); (refine FL.skip rfl ?_); (refine FL.skip rfl ?_); (refine FL.skip rfl ?_); (refine FL.skip rfl ?_); (refine FL.skip rfl ?_); (refine FL.skip rfl ?_); exact FL.nil) (fun _ => ?_)
    refine hd_ev rfl rfl rfl rfl (EvG.ofg rfl rfl (ev_not rfl rfl)) ?_
    refine hd_ev rfl rfl rfl rfl (EvG.of rfl (ev_pick_t rfl rfl rfl)) ?_
    refine hd_ev rfl rfl rfl rfl (EvG.of rfl (ev_assign rfl rfl)) ?_
    refine hd_nil ?_
    refine hx_then ?_
    refine ht_ret ?_
    exact hx_ret1 (.inl rfl) rfl rfl () (by first | (rw [Wl.okNext_is (by omega) (by assumption)]; done) | (rw [Wl.okNext_no (by omega)]; done)) (Ent.log (g := g) (x := x) (by repeat (first | exact Picks.nil | (apply Picks.ro; focus ((repeat constructor); done)) | (apply Picks.cons; focus ((repeat constructor); done)))) rfl rfl rfl rfl rfl rfl rfl rfl rfl rfl hx (Ent.cons (by (repeat constructor); done) (Ent.cons (by (repeat constructor); done) Ent.nil)))
   ·skip
    refine hd_effg rfl rfl rfl rfl rfl rfl (eff_call rfl rfl (.cons rfl (.cons rfl .nil)) rfl (wal_usedB p g x f.place true hl hu) (by repeat (first | exact Picks.nil | (apply Picks.ro; focus ((repeat constructor); done)) | (apply Picks.cons; focus ((repeat constructor); done)))) (fun _ => by repeat (first | exact App.nil | apply App.cons))) (fun _ => by (refine FL.skip rfl ?_); (refine FL.skip rfl ?_); (refine FL.skip rfl ?_); (refine FL.skip rfl ?_); (refine FL.skip rfl ?_); (refine FL.skip rfl ?_); (refine FL.skip rfl ?_); (refine FL.skip rfl ?_); (refine FL.skip rfl ?_); (refine FL.skip rfl ?_); (refine FL.skip rfl ?_); (refine FL.skip rfl ?_); (refine FL.skip rfl ?_); (refine FL.skip rfl ?_); exact FL.nil) (fun _ => ?_)
    refine hd_ev rfl rfl rfl rfl (EvG.ofg rfl rfl (ev_not rfl rfl)) ?_
    refine hd_ev rfl rfl rfl rfl (EvG.of rfl (ev_pick_t rfl rfl rfl)) ?_
    refine hd_ev rfl rfl rfl rfl (EvG.of rfl (ev_assign rfl rfl)) ?_
    refine hd_nil ?_
    refine hx_then ?_
    refine ht_ret ?_
    exact hx_ret1 (.inl rfl) rfl rfl () (by first | (rw [Wl.okNext_is (by omega) (by assumption)]; done) | (rw [Wl.okNext_no (by omega)]; done)) (Ent.log (g := g) (x := x) (by repeat (first | exact Picks.nil | (apply Picks.ro; focus ((repeat constructor); done)) | (apply Picks.cons; focus ((repeat constructor); done)))) rfl rfl rfl rfl rfl rfl rfl rfl rfl rfl hx (Ent.cons (by (repeat constructor); done) (Ent.cons (by (repeat constructor); done) Ent.nil)))
  )
 ·first | (exfalso; first | omega | (simp at g12; done) | contradiction) | skip
  all_goals (
   refine hd_ev rfl rfl rfl rfl (EvG.of rfl (ev_move rfl rfl)) ?_
   refine hd_ev rfl rfl rfl rfl (EvG.pass rfl rfl) ?_
   refine hd_ev rfl rfl rfl rfl (EvG.pass rfl rfl) ?_
   refine hd_ev rfl rfl rfl rfl (EvG.pass rfl rfl) ?_
   refine hd_ev rfl rfl rfl rfl (EvG.pass rfl rfl) ?_
   refine hd_pass rfl rfl rfl rfl rfl rfl ?_
   refine hd_ev rfl rfl rfl rfl (EvG.pass rfl rfl) ?_
   refine hd_ev rfl rfl rfl rfl (EvG.of rfl (ev_pick_f rfl rfl rfl)) ?_
   refine hd_ev rfl rfl rfl rfl (EvG.of rfl (ev_assign rfl rfl)) ?_
   refine hd_nil ?_
   refine hx_then ?_
   refine ht_ret ?_
   exact hx_ret1 (.inl rfl) rfl rfl () (by first | (rw [Wl.okNext_is (by omega) (by assumption)]; done) | (rw [Wl.okNext_no (by omega)]; done)) (Ent.log (g := g) (x := x) (by repeat (first | exact Picks.nil | (apply Picks.ro; focus ((repeat constructor); done)) | (apply Picks.cons; focus ((repeat constructor); done)))) rfl rfl rfl rfl rfl rfl rfl rfl rfl rfl hx (Ent.cons (by (repeat constructor); done) (Ent.cons (by (repeat constructor); done) Ent.nil)))
  )
theorem wal_IndexF (p b : Nat) (g : LG) (a : Option Addr) (c : Nat) (xs : List FdV) (fs : List Wl.Fd) (hl : g.live.length ≤ 1000000) (hxs : xs.length ≤ 1000000) : Ctr Tryd.prog 50 #[.slice a xs.length c, .func (.func 51) #[] #[.pointer (some ⟨b, 0, none⟩)]] [LogAt p g, pt b (.cells #[.pointer (some ⟨p, 0, none⟩)] 63 (0, 0)), ro (roS a xs.length xs), ro (fdsR xs fs)] (fun _ : Unit => .int .i64 (Wl.pos (Wl.okNext g.live g.last) fs 0)) (fun _ => [LogAt p g, pt b (.cells #[.pointer (some ⟨p, 0, none⟩)] 63 (0, 0))]) := by
 refine fn_intro Tryd.func50 rfl rfl Tryd.ntmps50 (Nat.le_of_ble_eq_true rfl) (fun _ => by repeat (first | exact App.nil | apply App.cons)) (fun κ F => ?_)
 refine ht_seq ?_
 refine ht_region ?_
 refine ho_ev rfl rfl rfl (ev_assign rfl rfl) ?_
 refine ho_nil ?_
 refine hx_then ?_
 refine ht_seq ?_
 refine ht_seq ?_
 refine ht_region ?_
 refine ho_ev rfl rfl rfl (ev_move rfl rfl) ?_
 refine ho_ev rfl rfl rfl (ev_lenSl rfl Tryd.underlying113 rfl) ?_
 refine ho_ev rfl rfl rfl (ev_move rfl rfl) ?_
 refine ho_nil ?_
 refine hx_then ?_
 refine ht_block ?_
 refine ht_loop (fun q : Nat => ([LogAt p g, pt b (.cells #[.pointer (some ⟨p, 0, none⟩)] 63 (0, 0)), ro (roS a xs.length xs), ro (fdsR xs fs), pu ((fs.take q).any (Wl.okNext g.live g.last) = false ∧ q ≤ xs.length), F], [(0, .slice a xs.length c), (1, .func (.func 51) #[] #[.pointer (some ⟨b, 0, none⟩)]), (7, .int .i64 xs.length), (8, .int .i64 q)])) (fun q : Nat => xs.length - q) 0 ?_ (by repeat (first | exact EnvSub.nil _ | (refine EnvSub.cons rfl ?_))) (fun q => ?_)
 ·(first | dsimp only | skip)
  exact Ent.cons (by (repeat constructor); done) (Ent.cons (by (repeat constructor); done) (Ent.roD (by (with_reducible repeat constructor); done) (Ent.roD (by (with_reducible repeat constructor); done) (Ent.pu ⟨by simp, by omega⟩ (Ent.cons (by (repeat constructor); done) Ent.nil)))))
 obtain q := q
 dsimp only
 refine ht_pick (A := pu ((fs.take q).any (Wl.okNext g.live g.last) = false ∧ q ≤ xs.length)) (by (repeat constructor); done) (ht_pure fun hq => ?_)
 obtain ⟨hnf, hq⟩ := hq
 refine ht_fdsLen (by (with_reducible repeat constructor); done) (fun hxl => ?_)
 refine ht_seq ?_
 refine ht_region ?_
 refine ho_lt rfl rfl rfl rfl rfl rfl (fun g1 => ?_) (fun g1 => ?_)
 ·first | (exfalso; first | omega | (simp at g1; done) | contradiction) | skip
  all_goals (
   refine ho_nil ?_
   refine hx_then ?_
   refine ht_seq ?_
   refine ht_then rfl ?_
   refine ht_skip ?_
   refine hx_then ?_
   refine ht_seq ?_
   refine ht_block ?_
   refine ht_seq ?_
   refine ht_region ?_
   refine ho_ev rfl rfl rfl (ev_move rfl rfl) ?_
   refine ho_ev rfl rfl rfl (ev_assign rfl rfl) ?_
   refine ho_nil ?_
   refine hx_then ?_
   refine ht_seq ?_
   refine ht_fdAt (i := q) (xs := xs) (fs := fs) (by omega) (by (with_reducible repeat constructor); done) (fun v f hv hf => ?_)
   refine ht_fd (by (with_reducible repeat constructor); done) (fun e1 e2 e3 e4 => ?_)
   refine ht_someS (α := FdV) (a := a) (reads_ro (by (with_reducible repeat constructor); done)) (by omega) (fun ab ao ha => ?_)
   refine ht_region ?_
   refine ho_ev rfl rfl rfl (ev_move rfl rfl) ?_
   refine ho_ev rfl rfl rfl (ev_move rfl rfl) ?_
   refine ho_ev rfl rfl rfl (ev_move rfl rfl) ?_
   refine ho_ev rfl rfl rfl (ev_indexAddr rfl Tryd.underlying113 Tryd.ty118 (congrArg (fun z => some (Value.slice z xs.length c)) ha) rfl (by omega) (by omega)) ?_
   refine ho_ev rfl rfl rfl (ev_loadA rfl Tryd.underlying118 Tryd.ty118 rfl rfl (cells_fd ha (reads_ro (by (with_reducible repeat constructor); done)) hv e1 e2 e3 e4)) ?_
   rcases hok : (Wl.okNext g.live g.last) f with _ | _
   ·skip
    refine ho_eff rfl rfl rfl (eff_call rfl rfl (.cons rfl .nil) rfl (hok ▸ wal_Open1 p b g f v.a v.c hl) (by repeat (first | exact Picks.nil | (apply Picks.ro; focus ((repeat constructor); done)) | (apply Picks.cons; focus ((repeat constructor); done)))) (fun _ => by repeat (first | exact App.nil | apply App.cons))) (fun _ => ?_)
    refine ho_nil ?_
    refine hx_then ?_
    refine ht_else rfl ?_
    refine ht_skip ?_
    refine hx_block_normal ?_
    refine hx_then ?_
    refine ht_region ?_
    refine ho_ev rfl rfl rfl (ev_add rfl rfl rfl (by first | exact in_i64 (by omega) | rfl)) ?_
    refine ho_ev rfl rfl rfl (ev_move rfl rfl) ?_
    refine ho_nil ?_
    refine hx_again (I := (fun q : Nat => ([LogAt p g, pt b (.cells #[.pointer (some ⟨p, 0, none⟩)] 63 (0, 0)), ro (roS a xs.length xs), ro (fdsR xs fs), pu ((fs.take q).any (Wl.okNext g.live g.last) = false ∧ q ≤ xs.length), F], [(0, .slice a xs.length c), (1, .func (.func 51) #[] #[.pointer (some ⟨b, 0, none⟩)]), (7, .int .i64 xs.length), (8, .int .i64 q)]))) (μ := (fun q : Nat => xs.length - q)) (i := q) (q + 1) ?_ ?_ ?_
    ·(first | dsimp only | skip); omega
    ·repeat (first | exact EnvSub.nil _ | (refine EnvSub.cons rfl ?_))
    ·(first | dsimp only | skip)
     exact Ent.cons (by (repeat constructor); done) (Ent.cons (by (repeat constructor); done) (Ent.roD (by (with_reducible repeat constructor); done) (Ent.roD (by (with_reducible repeat constructor); done) (Ent.pu ⟨Wl.any_step hnf hf hok, by omega⟩ (Ent.cons (by (repeat constructor); done) Ent.nil)))))
   ·skip
    refine ho_eff rfl rfl rfl (eff_call rfl rfl (.cons rfl .nil) rfl (hok ▸ wal_Open1 p b g f v.a v.c hl) (by repeat (first | exact Picks.nil | (apply Picks.ro; focus ((repeat constructor); done)) | (apply Picks.cons; focus ((repeat constructor); done)))) (fun _ => by repeat (first | exact App.nil | apply App.cons))) (fun _ => ?_)
    refine ho_nil ?_
    refine hx_then ?_
    refine ht_then rfl ?_
    refine ht_seq ?_
    refine ht_region ?_
    refine ho_ev rfl rfl rfl (ev_move rfl rfl) ?_
    refine ho_ev rfl rfl rfl (ev_assign rfl rfl) ?_
    refine ho_nil ?_
    refine hx_then ?_
    refine ht_ret ?_
    refine hx_block_ret ?_
    refine hx_through trivial ?_
    refine hx_through trivial ?_
    refine hx_block_ret ?_
    refine hx_through trivial ?_
    exact hx_ret1 (.inl rfl) rfl rfl () (by rw [Wl.pos_here hnf hf hok]; congr 1; omega) (Ent.cons (by (repeat constructor); done) (Ent.cons (by (repeat constructor); done) (Ent.cons (by (repeat constructor); done) Ent.nil)))
  )
 ·first | (exfalso; first | omega | (simp at g1; done) | contradiction) | skip
  all_goals (
   refine ho_nil ?_
   refine hx_then ?_
   refine ht_seq ?_
   refine ht_else rfl ?_
   refine ht_exit ?_
   refine hx_through trivial ?_
   refine hx_through trivial ?_
   refine hx_block_here ?_
   refine hx_then ?_
   refine ht_seq ?_
   refine ht_region ?_
   refine ho_ev rfl rfl rfl (ev_assign rfl rfl) ?_
   refine ho_nil ?_
   refine hx_then ?_
   refine ht_ret ?_
   have hqq : q = fs.length := by omega
   rw [hqq, List.take_length] at hnf
   exact hx_ret1 (.inl rfl) rfl rfl () (by rw [Wl.pos_none hnf]) (Ent.cons (by (repeat constructor); done) (Ent.cons (by (repeat constructor); done) (Ent.cons (by (repeat constructor); done) Ent.nil)))
  )

section
variable {α : Type} [Enc α]
theorem flat_set {v : Value} {x x' : α} {k : Nat} (hk : k < Enc.sz α) (he : Enc.enc x' = (Enc.enc x).set k v) : ∀ (xs : List α) (i : Nat), xs[i]? = some x → flat (xs.set i x') = (flat xs).set (i * Enc.sz α + k) v
  | [], i, h => by simp at h
  | y :: xs, 0, h => by
    simp at h; subst h
    rw [List.set_cons_zero, flat_cons, flat_cons, he, List.set_append_left _ _ (by rw [Enc.len]; omega)]
    congr 2; omega
  | y :: xs, i + 1, h => by
    rw [List.set_cons_succ, flat_cons, flat_cons, flat_set hk he xs i (by simpa using h), List.set_append_right _ _ (by rw [Enc.len, Nat.succ_mul]; omega)]
    congr 2
    rw [Enc.len, Nat.succ_mul]; omega
theorem Row.set {c : Array Value} {xs : List α} (h : Row c 0 xs) {v : Value} {x x' : α} {i k : Nat} (hk : k < Enc.sz α) (he : Enc.enc x' = (Enc.enc x).set k v) (hx : xs[i]? = some x) : Row (c.setIfInBounds (i * Enc.sz α + k) v) 0 (xs.set i x') := by
  unfold Row at *
  rw [flat_set hk he xs i hx, ← h, List.length_set, List.drop_zero, List.drop_zero, Array.toList_setIfInBounds, List.take_set]
variable {P : Program} {κ : World} {n : Nat} {L M R : List Assn} {ρ : Env} {ops : Array Oper} {o : Oper} {l : List Oper} {Q : Exit → Act → World → Prop}
theorem eff_storeS {t : TypeId} {u y : Operand} {E : TypeId} {by_ m cap b off i k : Nat} {z v : Value} {a : Option Addr} {xs : List α} {x x' : α} (ho : o.op = .store t u y) (ht : TyF P t 1 z by_) (ha : a = some ⟨b, off, none⟩) (hu : oev ρ u = some (.pointer (some ⟨b, off + i * Enc.sz α + k, none⟩))) (hy : oev ρ y = some v)
    (hp : Pick (ownS E a m cap xs) L R) (hv : v.cells = #[v]) (hone : v.oneCell' = true) (hx : xs[i]? = some x) (hk : k < Enc.sz α) (he : Enc.enc x' = (Enc.enc x).set k v) :
    Eff P κ n L ρ o (fun _ : Unit => ownS E a m cap (xs.set i x') :: R) (fun _ => undef) := fun ac w K Q hac hw hk2 => by
  obtain ⟨h1, h2, h3⟩ := ownS_open (hw.ent (Ent.pick hp))
  have hlt : i < xs.length := by
    rcases Nat.lt_or_ge i xs.length with h' | h'
    · exact h'
    · rw [List.getElem?_eq_none h'] at hx; cases hx
  rcases h3 with ⟨_, hc, _⟩ | ⟨b', c, e, hcs, hr, hs⟩
  · omega
  · have e2 : (⟨b', 0, none⟩ : Addr) = ⟨b, off, none⟩ := Option.some.inj (e.symm.trans ha)
    obtain ⟨rfl, rfl⟩ : b' = b ∧ 0 = off := by injection e2 with e3 e4; exact ⟨e3, e4⟩
    have hsz : 0 + i * Enc.sz α + k < c.size := by
      have h4 : (i + 1) * Enc.sz α ≤ cap * Enc.sz α := Nat.mul_le_mul_right _ (by omega)
      rw [Nat.succ_mul] at h4; omega
    refine eff_store1 (c' := c.setIfInBounds (i * Enc.sz α + k) v) ho ht hu hy .here hv hone hsz (by rw [Nat.zero_add]) ac w K Q hac hs (fun _ w' hw' => ?_)
    refine hk2 () w' ?_
    rw [e]
    exact hw'.ent (ownS_close (by rw [Array.size_setIfInBounds]; exact hcs) (Row.set hr hk he hx) (by rw [List.length_set]; exact h1) h2)
end


theorem fds_get {fs : List Wl.Fd} {f g : Wl.Fd} {j : Nat} (h : fs[j]? = some f) (k : fs[j]? = some g) : f = g := Option.some.inj (h.symm.trans k)
theorem cell_fdB {L : List Assn} {a : Option Addr} {m b off i : Nat} {xs : List FdV} {v : FdV} {f : Wl.Fd} (ha : a = some ⟨b, off, none⟩) (h : Reads L a m xs) (hv : xs[i]? = some v) (e2 : v.base = f.base) : Cell L b (off + i * 4 + 0 + 1) (.int .u64 (f.base : Int)) := by
  have h1 : Cell L b (off + i * 4 + 1) (.int .u64 (v.base : Int)) := cell_Sa ha h hv (k := 1) rfl
  rw [e2] at h1
  exact h1
theorem mul_small {n s : Int} (h1 : 0 ≤ n) (h2 : n ≤ 64) (h3 : 0 ≤ s) (h4 : s ≤ 64) : 0 ≤ n * s ∧ n * s ≤ 4096 := ⟨Int.mul_nonneg h1 h3, by have := Int.mul_le_mul h2 h4 h3 (by decide : (0:Int) ≤ 64); omega⟩

theorem wal_usedL (p : Nat) (g : LG) (i : Int) (b : Bool) (hl : g.live.length ≤ 1000000) (hb : Wl.has g.live i = b) : Ctr Tryd.prog 52 #[.pointer (some ⟨p, 0, none⟩), .int .i64 i] [LogAt p g] (fun _ : Unit => .bool b) (fun _ => [LogAt p g]) := hb ▸ wal_used p g i hl

theorem wal_Open_no (dk : Nat) (at_ n s k : Int) (h : ¬ (2 ≤ n ∧ n ≤ 64 ∧ 1 ≤ s ∧ s ≤ 64 ∧ 0 ≤ at_ ∧ at_ ≤ 65536 - n * s)) : Ctr Tryd.prog 24 #[.pointer (some ⟨dk, 0, none⟩), .int .i64 at_, .int .i64 n, .int .i64 s, .int .u64 k] [] (fun _ : Unit => .tuple #[.pointer none, .slice none 0 0, .int .i64 80]) (fun _ => []) := by
 refine fn_intro Tryd.func24 rfl rfl Tryd.ntmps24 (Nat.le_of_ble_eq_true rfl) (fun _ => by repeat (first | exact App.nil | apply App.cons)) (fun κ F => ?_)
 have hms : 0 ≤ n → n ≤ 64 → 0 ≤ s → s ≤ 64 → 0 ≤ n * s ∧ n * s ≤ 4096 := fun h1 h2 h3 h4 => mul_small h1 h2 h3 h4
 refine ht_seq ?_
 refine ht_region ?_
 refine ho_ev rfl rfl rfl (ev_assign rfl rfl) ?_
 refine ho_ev rfl rfl rfl (ev_assign rfl rfl) ?_
 refine ho_ev rfl rfl rfl (ev_assign rfl rfl) ?_
 refine ho_nil ?_
 refine hx_then ?_
 refine ht_seq ?_
 refine ht_seq ?_
 refine ht_region ?_
 refine ho_ev rfl rfl rfl (ev_move rfl rfl) ?_
 refine ho_lt rfl rfl rfl rfl rfl rfl (fun g1 => ?_) (fun g1 => ?_)
 ·first | (exfalso; first | omega | (simp at g1; done) | contradiction) | skip
  all_goals (
   refine ho_ev rfl rfl rfl (ev_move rfl rfl) ?_
   refine ho_pass rfl rfl rfl rfl ?_
   refine ho_pass rfl rfl rfl rfl ?_
   refine ho_ev rfl rfl rfl (ev_pick_t rfl rfl rfl) ?_
   refine ho_ev rfl rfl rfl (ev_move rfl rfl) ?_
   refine ho_pass rfl rfl rfl rfl ?_
   refine ho_pass rfl rfl rfl rfl ?_
   refine ho_ev rfl rfl rfl (ev_pick_t rfl rfl rfl) ?_
   refine ho_ev rfl rfl rfl (ev_move rfl rfl) ?_
   refine ho_pass rfl rfl rfl rfl ?_
   refine ho_pass rfl rfl rfl rfl ?_
   refine ho_ev rfl rfl rfl (ev_pick_t rfl rfl rfl) ?_
   refine ho_ev rfl rfl rfl (ev_move rfl rfl) ?_
   refine ho_pass rfl rfl rfl rfl ?_
   refine ho_pass rfl rfl rfl rfl ?_
   refine ho_ev rfl rfl rfl (ev_pick_t rfl rfl rfl) ?_
   refine ho_ev rfl rfl rfl (ev_move rfl rfl) ?_
   refine ho_pass rfl rfl rfl rfl ?_
   refine ho_pass rfl rfl rfl rfl ?_
   refine ho_pass rfl rfl rfl rfl ?_
   refine ho_pass rfl rfl rfl rfl ?_
   refine ho_pass rfl rfl rfl rfl ?_
   refine ho_pass rfl rfl rfl rfl ?_
   refine ho_ev rfl rfl rfl (ev_pick_t rfl rfl rfl) ?_
   refine ho_nil ?_
   refine hx_then ?_
   refine ht_then rfl ?_
   refine ht_seq ?_
   refine ht_region ?_
   refine ho_ev rfl rfl rfl (ev_assign rfl rfl) ?_
   refine ho_ev rfl rfl rfl (ev_assign rfl rfl) ?_
   refine ho_ev rfl rfl rfl (ev_assign rfl rfl) ?_
   refine ho_nil ?_
   refine hx_then ?_
   refine ht_ret ?_
   refine hx_through trivial ?_
   exact hx_ret3 (.inl rfl) rfl rfl rfl rfl () rfl (Ent.refl _)
  )
 ·first | (exfalso; first | omega | (simp at g1; done) | contradiction) | skip
  all_goals (
   refine ho_ev rfl rfl rfl (ev_move rfl rfl) ?_
   refine ho_evg rfl rfl rfl rfl (ev_move rfl rfl) ?_
   refine ho_gtg rfl rfl rfl rfl rfl rfl rfl (fun g2 => ?_) (fun g2 => ?_)
   ·first | (exfalso; first | omega | (simp at g2; done) | contradiction) | skip
    all_goals (
     refine ho_ev rfl rfl rfl (ev_pick_f rfl rfl rfl) ?_
     refine ho_ev rfl rfl rfl (ev_move rfl rfl) ?_
     refine ho_pass rfl rfl rfl rfl ?_
     refine ho_pass rfl rfl rfl rfl ?_
     refine ho_ev rfl rfl rfl (ev_pick_t rfl rfl rfl) ?_
     refine ho_ev rfl rfl rfl (ev_move rfl rfl) ?_
     refine ho_pass rfl rfl rfl rfl ?_
     refine ho_pass rfl rfl rfl rfl ?_
     refine ho_ev rfl rfl rfl (ev_pick_t rfl rfl rfl) ?_
     refine ho_ev rfl rfl rfl (ev_move rfl rfl) ?_
     refine ho_pass rfl rfl rfl rfl ?_
     refine ho_pass rfl rfl rfl rfl ?_
     refine ho_ev rfl rfl rfl (ev_pick_t rfl rfl rfl) ?_
     refine ho_ev rfl rfl rfl (ev_move rfl rfl) ?_
     refine ho_pass rfl rfl rfl rfl ?_
     refine ho_pass rfl rfl rfl rfl ?_
     refine ho_pass rfl rfl rfl rfl ?_
     refine ho_pass rfl rfl rfl rfl ?_
     refine ho_pass rfl rfl rfl rfl ?_
     refine ho_pass rfl rfl rfl rfl ?_
     refine ho_ev rfl rfl rfl (ev_pick_t rfl rfl rfl) ?_
     refine ho_nil ?_
     refine hx_then ?_
     refine ht_then rfl ?_
     refine ht_seq ?_
     refine ht_region ?_
     refine ho_ev rfl rfl rfl (ev_assign rfl rfl) ?_
     refine ho_ev rfl rfl rfl (ev_assign rfl rfl) ?_
     refine ho_ev rfl rfl rfl (ev_assign rfl rfl) ?_
     refine ho_nil ?_
     refine hx_then ?_
     refine ht_ret ?_
     refine hx_through trivial ?_
     exact hx_ret3 (.inl rfl) rfl rfl rfl rfl () rfl (Ent.refl _)
    )
   ·first | (exfalso; first | omega | (simp at g2; done) | contradiction) | skip
    all_goals (
     refine ho_ev rfl rfl rfl (ev_pick_f rfl rfl rfl) ?_
     refine ho_ev rfl rfl rfl (ev_move rfl rfl) ?_
     refine ho_evg rfl rfl rfl rfl (ev_move rfl rfl) ?_
     refine ho_ltg rfl rfl rfl rfl rfl rfl rfl (fun g3 => ?_) (fun g3 => ?_)
     ·first | (exfalso; first | omega | (simp at g3; done) | contradiction) | skip
      all_goals (
       refine ho_ev rfl rfl rfl (ev_pick_f rfl rfl rfl) ?_
       refine ho_ev rfl rfl rfl (ev_move rfl rfl) ?_
       refine ho_pass rfl rfl rfl rfl ?_
       refine ho_pass rfl rfl rfl rfl ?_
       refine ho_ev rfl rfl rfl (ev_pick_t rfl rfl rfl) ?_
       refine ho_ev rfl rfl rfl (ev_move rfl rfl) ?_
       refine ho_pass rfl rfl rfl rfl ?_
       refine ho_pass rfl rfl rfl rfl ?_
       refine ho_ev rfl rfl rfl (ev_pick_t rfl rfl rfl) ?_
       refine ho_ev rfl rfl rfl (ev_move rfl rfl) ?_
       refine ho_pass rfl rfl rfl rfl ?_
       refine ho_pass rfl rfl rfl rfl ?_
       refine ho_pass rfl rfl rfl rfl ?_
       refine ho_pass rfl rfl rfl rfl ?_
       refine ho_pass rfl rfl rfl rfl ?_
       refine ho_pass rfl rfl rfl rfl ?_
       refine ho_ev rfl rfl rfl (ev_pick_t rfl rfl rfl) ?_
       refine ho_nil ?_
       refine hx_then ?_
       refine ht_then rfl ?_
       refine ht_seq ?_
       refine ht_region ?_
       refine ho_ev rfl rfl rfl (ev_assign rfl rfl) ?_
       refine ho_ev rfl rfl rfl (ev_assign rfl rfl) ?_
       refine ho_ev rfl rfl rfl (ev_assign rfl rfl) ?_
       refine ho_nil ?_
       refine hx_then ?_
       refine ht_ret ?_
       refine hx_through trivial ?_
       exact hx_ret3 (.inl rfl) rfl rfl rfl rfl () rfl (Ent.refl _)
      )
     ·first | (exfalso; first | omega | (simp at g3; done) | contradiction) | skip
      all_goals (
       refine ho_ev rfl rfl rfl (ev_pick_f rfl rfl rfl) ?_
       refine ho_ev rfl rfl rfl (ev_move rfl rfl) ?_
       refine ho_evg rfl rfl rfl rfl (ev_move rfl rfl) ?_
       refine ho_gtg rfl rfl rfl rfl rfl rfl rfl (fun g4 => ?_) (fun g4 => ?_)
       ·first | (exfalso; first | omega | (simp at g4; done) | contradiction) | skip
        all_goals (
         refine ho_ev rfl rfl rfl (ev_pick_f rfl rfl rfl) ?_
         refine ho_ev rfl rfl rfl (ev_move rfl rfl) ?_
         refine ho_pass rfl rfl rfl rfl ?_
         refine ho_pass rfl rfl rfl rfl ?_
         refine ho_ev rfl rfl rfl (ev_pick_t rfl rfl rfl) ?_
         refine ho_ev rfl rfl rfl (ev_move rfl rfl) ?_
         refine ho_pass rfl rfl rfl rfl ?_
         refine ho_pass rfl rfl rfl rfl ?_
         refine ho_pass rfl rfl rfl rfl ?_
         refine ho_pass rfl rfl rfl rfl ?_
         refine ho_pass rfl rfl rfl rfl ?_
         refine ho_pass rfl rfl rfl rfl ?_
         refine ho_ev rfl rfl rfl (ev_pick_t rfl rfl rfl) ?_
         refine ho_nil ?_
         refine hx_then ?_
         refine ht_then rfl ?_
         refine ht_seq ?_
         refine ht_region ?_
         refine ho_ev rfl rfl rfl (ev_assign rfl rfl) ?_
         refine ho_ev rfl rfl rfl (ev_assign rfl rfl) ?_
         refine ho_ev rfl rfl rfl (ev_assign rfl rfl) ?_
         refine ho_nil ?_
         refine hx_then ?_
         refine ht_ret ?_
         refine hx_through trivial ?_
         exact hx_ret3 (.inl rfl) rfl rfl rfl rfl () rfl (Ent.refl _)
        )
       ·first | (exfalso; first | omega | (simp at g4; done) | contradiction) | skip
        all_goals (
         refine ho_ev rfl rfl rfl (ev_pick_f rfl rfl rfl) ?_
         refine ho_ev rfl rfl rfl (ev_move rfl rfl) ?_
         refine ho_evg rfl rfl rfl rfl (ev_move rfl rfl) ?_
         refine ho_ltg rfl rfl rfl rfl rfl rfl rfl (fun g5 => ?_) (fun g5 => ?_)
         ·first | (exfalso; first | omega | (simp at g5; done) | contradiction) | skip
          all_goals (
           refine ho_ev rfl rfl rfl (ev_pick_f rfl rfl rfl) ?_
           refine ho_ev rfl rfl rfl (ev_move rfl rfl) ?_
           refine ho_pass rfl rfl rfl rfl ?_
           refine ho_pass rfl rfl rfl rfl ?_
           refine ho_pass rfl rfl rfl rfl ?_
           refine ho_pass rfl rfl rfl rfl ?_
           refine ho_pass rfl rfl rfl rfl ?_
           refine ho_pass rfl rfl rfl rfl ?_
           refine ho_ev rfl rfl rfl (ev_pick_t rfl rfl rfl) ?_
           refine ho_nil ?_
           refine hx_then ?_
           refine ht_then rfl ?_
           refine ht_seq ?_
           refine ht_region ?_
           refine ho_ev rfl rfl rfl (ev_assign rfl rfl) ?_
           refine ho_ev rfl rfl rfl (ev_assign rfl rfl) ?_
           refine ho_ev rfl rfl rfl (ev_assign rfl rfl) ?_
           refine ho_nil ?_
           refine hx_then ?_
           refine ht_ret ?_
           refine hx_through trivial ?_
           exact hx_ret3 (.inl rfl) rfl rfl rfl rfl () rfl (Ent.refl _)
          )
         ·first | (exfalso; first | omega | (simp at g5; done) | contradiction) | skip
          all_goals (
           refine ho_ev rfl rfl rfl (ev_pick_f rfl rfl rfl) ?_
           refine ho_ev rfl rfl rfl (ev_move rfl rfl) ?_
           refine ho_evg rfl rfl rfl rfl (ev_move rfl rfl) ?_
           refine ho_evg rfl rfl rfl rfl (ev_move rfl rfl) ?_
           refine ho_evg rfl rfl rfl rfl (ev_move rfl rfl) ?_
           refine ho_evg rfl rfl rfl rfl (ev_mul (r := n * s) rfl rfl rfl (by have h0 := mul_small (n := n) (s := s) (by omega) (by omega) (by omega) (by omega); exact in_i64 (by omega))) ?_
           refine ho_evg rfl rfl rfl rfl (ev_sub (r := 65536 - n * s) rfl rfl rfl (by have h0 := mul_small (n := n) (s := s) (by omega) (by omega) (by omega) (by omega); exact in_i64 (by omega))) ?_
           refine ho_gtg rfl rfl rfl rfl rfl rfl rfl (fun g6 => ?_) (fun g6 => ?_)
           ·first | (exfalso; first | omega | (simp at g6; done) | contradiction) | skip
            all_goals (
             refine ho_ev rfl rfl rfl (ev_pick_f rfl rfl rfl) ?_
             refine ho_nil ?_
             refine hx_then ?_
             refine ht_then rfl ?_
             refine ht_seq ?_
             refine ht_region ?_
             refine ho_ev rfl rfl rfl (ev_assign rfl rfl) ?_
             refine ho_ev rfl rfl rfl (ev_assign rfl rfl) ?_
             refine ho_ev rfl rfl rfl (ev_assign rfl rfl) ?_
             refine ho_nil ?_
             refine hx_then ?_
             refine ht_ret ?_
             refine hx_through trivial ?_
             exact hx_ret3 (.inl rfl) rfl rfl rfl rfl () rfl (Ent.refl _)
            )
           ·(exfalso; first | omega | (simp at g6; done) | contradiction)
          )
        )
      )
    )
  )
theorem wal_Open (dk n s k : Nat) (at_ : Int) (d : Dk.Disk) (hn : 2 ≤ n ∧ n ≤ 64) (hs : 1 ≤ s ∧ s ≤ 64) (hat : 0 ≤ at_ ∧ at_ + ((n * s : Nat) : Int) ≤ 65536) (hk : k < 18446744073709551616) (hpl : d.pend.length ≤ 900000) : Ctr Tryd.prog 24 #[.pointer (some ⟨dk, 0, none⟩), .int .i64 at_, .int .i64 (n : Int), .int .i64 (s : Int), .int .u64 (k : Int)] [DiskAt dk d] (fun q : Nat × Option Addr × Nat => .tuple #[.pointer (some ⟨q.1, 0, none⟩), .slice q.2.1 (Wl.found d at_ s n k).out.length q.2.2, .int .i64 0]) (fun q => [LogAt q.1 (⟨dk, at_, n, s, (Wl.found d at_ s n k).live, [], max (Wl.found d at_ s n k).last k, max (Wl.found d at_ s n k).last k⟩ : LG), DiskAt dk (Wl.openDisk d at_ s n k), ro (roS q.2.1 (Wl.found d at_ s n k).out.length (Wl.found d at_ s n k).out)]) := by
 refine fn_intro Tryd.func24 rfl rfl Tryd.ntmps24 (Nat.le_of_ble_eq_true rfl) (fun _ => by repeat (first | exact App.nil | apply App.cons)) (fun κ F => ?_)
 have hnn := mul_small (n := (n : Int)) (s := (s : Int)) (by omega) (by omega) (by omega) (by omega)
 refine ht_dkOkW (by (with_reducible repeat constructor); done) (fun hok => ?_)
 have hlk := Wl.look_len d.view at_ s n
 refine ht_seq ?_
 refine ht_region ?_
 refine ho_ev rfl rfl rfl (ev_assign rfl rfl) ?_
 refine ho_ev rfl rfl rfl (ev_assign rfl rfl) ?_
 refine ho_ev rfl rfl rfl (ev_assign rfl rfl) ?_
 refine ho_nil ?_
 refine hx_then ?_
 refine ht_seq ?_
 refine ht_seq ?_
 refine ht_region ?_
 refine ho_ev rfl rfl rfl (ev_move rfl rfl) ?_
 refine ho_lt rfl rfl rfl rfl rfl rfl (fun g1 => ?_) (fun g1 => ?_)
 ·(exfalso; first | omega | (simp at g1; done) | contradiction)
 ·first | (exfalso; first | omega | (simp at g1; done) | contradiction) | skip
  all_goals (
   refine ho_ev rfl rfl rfl (ev_move rfl rfl) ?_
   refine ho_evg rfl rfl rfl rfl (ev_move rfl rfl) ?_
   refine ho_gtg rfl rfl rfl rfl rfl rfl rfl (fun g2 => ?_) (fun g2 => ?_)
   ·(exfalso; first | omega | (simp at g2; done) | contradiction)
   ·first | (exfalso; first | omega | (simp at g2; done) | contradiction) | skip
    all_goals (
     refine ho_ev rfl rfl rfl (ev_pick_f rfl rfl rfl) ?_
     refine ho_ev rfl rfl rfl (ev_move rfl rfl) ?_
     refine ho_evg rfl rfl rfl rfl (ev_move rfl rfl) ?_
     refine ho_ltg rfl rfl rfl rfl rfl rfl rfl (fun g3 => ?_) (fun g3 => ?_)
     ·(exfalso; first | omega | (simp at g3; done) | contradiction)
     ·first | (exfalso; first | omega | (simp at g3; done) | contradiction) | skip
      all_goals (
       refine ho_ev rfl rfl rfl (ev_pick_f rfl rfl rfl) ?_
       refine ho_ev rfl rfl rfl (ev_move rfl rfl) ?_
       refine ho_evg rfl rfl rfl rfl (ev_move rfl rfl) ?_
       refine ho_gtg rfl rfl rfl rfl rfl rfl rfl (fun g4 => ?_) (fun g4 => ?_)
       ·(exfalso; first | omega | (simp at g4; done) | contradiction)
       ·first | (exfalso; first | omega | (simp at g4; done) | contradiction) | skip
        all_goals (
         refine ho_ev rfl rfl rfl (ev_pick_f rfl rfl rfl) ?_
         refine ho_ev rfl rfl rfl (ev_move rfl rfl) ?_
         refine ho_evg rfl rfl rfl rfl (ev_move rfl rfl) ?_
         refine ho_ltg rfl rfl rfl rfl rfl rfl rfl (fun g5 => ?_) (fun g5 => ?_)
         ·(exfalso; first | omega | (simp at g5; done) | contradiction)
         ·first | (exfalso; first | omega | (simp at g5; done) | contradiction) | skip
          all_goals (
           refine ho_ev rfl rfl rfl (ev_pick_f rfl rfl rfl) ?_
           refine ho_ev rfl rfl rfl (ev_move rfl rfl) ?_
           refine ho_evg rfl rfl rfl rfl (ev_move rfl rfl) ?_
           refine ho_evg rfl rfl rfl rfl (ev_move rfl rfl) ?_
           refine ho_evg rfl rfl rfl rfl (ev_move rfl rfl) ?_
           refine ho_evg rfl rfl rfl rfl (ev_mul (r := (n : Int) * (s : Int)) rfl rfl rfl (by exact in_i64 (by omega))) ?_
           refine ho_evg rfl rfl rfl rfl (ev_sub (r := 65536 - (n : Int) * (s : Int)) rfl rfl rfl (by exact in_i64 (by omega))) ?_
           refine ho_gtg rfl rfl rfl rfl rfl rfl rfl (fun g6 => ?_) (fun g6 => ?_)
           ·(exfalso; first | omega | (simp at g6; done) | contradiction)
           ·first | (exfalso; first | omega | (simp at g6; done) | contradiction) | skip
            all_goals (
             refine ho_ev rfl rfl rfl (ev_pick_f rfl rfl rfl) ?_
             refine ho_nil ?_
             refine hx_then ?_
             refine ht_else rfl ?_
             refine ht_skip ?_
             refine hx_then ?_
             refine ht_seq ?_
             refine ht_region ?_
             refine ho_ev rfl rfl rfl (ev_move rfl rfl) ?_
             refine ho_ev rfl rfl rfl (ev_move rfl rfl) ?_
             refine ho_ev rfl rfl rfl (ev_move rfl rfl) ?_
             refine ho_ev rfl rfl rfl (ev_move rfl rfl) ?_
             refine ho_ev rfl rfl rfl (ev_move rfl rfl) ?_
             refine ho_ev rfl rfl rfl (ev_build1 (csl := [_, _, _, _, .slice none 0 0, .slice none 0 0, _, .int .u64 0]) rfl Tryd.st112 (.cons rfl (.cons rfl (.cons rfl (.cons rfl (.cons rfl .nil))))) (.cons rfl (.cons rfl (.cons rfl (.cons rfl (.cons rfl .nil))))) rfl rfl) ?_
             refine ho_eff rfl rfl rfl (eff_boxA rfl rfl) (fun b53 => ?_)
             refine ho_eff rfl rfl rfl (eff_alloc rfl Tryd.ty63 (by first | exact cells_agg _ | exact rfl)) (fun b13 => ?_)
             refine ho_eff0 rfl rfl (eff_store1 rfl Tryd.ty63 rfl rfl (by (with_reducible repeat constructor); done) rfl rfl (lt_of_blt rfl) (by simp only [List.setIfInBounds_toArray, List.set_cons_zero, List.set_cons_succ]; rfl)) (fun _ => ?_)
             refine ho_nil ?_
             refine hx_then ?_
             refine ht_seq ?_
             refine ht_region ?_
             refine ho_ev rfl rfl rfl (ev_load rfl Tryd.underlying63 rfl rfl (by first | exact cell_pt (by (with_reducible repeat constructor); done) rfl | exact cell_ro (by (with_reducible repeat constructor); done) rfl)) ?_
             refine ho_ent ((ownS_nil (α := Wl.Seg) 116).trans (Ent.trans (Ent.roTrue (ψ := roS (α := UInt8) none 0 []) (fun r => SliceIn.empty _ _) (Ent.refl _)) (Ent.log (g := (⟨dk, at_, n, s, [], [], k, 0⟩ : LG)) (x := ⟨none, 0, none, 0⟩) (by repeat (first | exact Picks.nil | (apply Picks.ro; focus ((repeat constructor); done)) | (apply Picks.cons; focus ((repeat constructor); done)))) rfl rfl rfl rfl rfl rfl rfl rfl rfl rfl (Nat.le_refl _) (Ent.refl _)))) ?_
             refine ho_eff rfl rfl rfl (eff_call rfl rfl (.cons rfl .nil) rfl (wal_look b53 (⟨dk, at_, n, s, [], [], k, 0⟩ : LG) d hat (by show s ≤ 64; omega) (by show n ≤ 64; omega)) (by repeat (first | exact Picks.nil | (apply Picks.ro; focus ((repeat constructor); done)) | (apply Picks.cons; focus ((repeat constructor); done)))) (fun _ => by repeat (first | exact App.nil | apply App.cons))) (fun z => ?_)
             refine ho_ev rfl rfl rfl (ev_assign rfl rfl) ?_
             refine ho_nil ?_
             refine hx_then ?_
             refine ht_seq ?_
             refine ht_region ?_
             refine ho_ev rfl rfl rfl (ev_assign rfl rfl) ?_
             refine ho_nil ?_
             refine hx_then ?_
             refine ht_seq ?_
             refine ht_seq ?_
             refine ht_fdsLen (by (with_reducible repeat constructor); done) (fun hzl => ?_)
             have hzl : z.1.length = (Wl.look d.view at_ s n).length := hzl
             refine ht_region ?_
             refine ho_ev rfl rfl rfl (ev_move rfl rfl) ?_
             refine ho_ev rfl rfl rfl (ev_lenSl rfl Tryd.underlying113 rfl) ?_
             refine ho_ev rfl rfl rfl (ev_move rfl rfl) ?_
             refine ho_nil ?_
             refine hx_then ?_
             refine ht_block ?_
             refine ht_loop (fun q : Nat × Int => ([LogAt b53 (⟨dk, at_, n, s, [], [], k, 0⟩ : LG), DiskAt dk d, pt b13 (.cells #[.pointer (some ⟨b53, 0, none⟩)] 63 (0, 0)), ro (roS z.2.1 z.1.length z.1), ro (fdsR z.1 (Wl.look d.view at_ s n)), pu (q.2 = Wl.bestF k (Wl.look d.view at_ s n) q.1 ∧ q.1 ≤ z.1.length), F], [(0, .pointer (some ⟨dk, 0, none⟩)), (4, .int .u64 (k : Int)), (13, .pointer (some ⟨b13, 0, none⟩)), (14, .slice z.2.1 z.1.length z.2.2), (15, .int .i64 q.2), (56, .slice z.2.1 z.1.length z.2.2), (57, .int .i64 z.1.length), (58, .int .i64 q.1)])) (fun q : Nat × Int => z.1.length - q.1) (0, -1) ?_ (by repeat (first | exact EnvSub.nil _ | (refine EnvSub.cons rfl ?_))) (fun q => ?_)
             ·(first | dsimp only | skip)
              exact Ent.cons (by (repeat constructor); done) (Ent.cons (by (repeat constructor); done) (Ent.cons (by (repeat constructor); done) (Ent.roD (by (with_reducible repeat constructor); done) (Ent.roD (by (with_reducible repeat constructor); done) (Ent.pu ⟨rfl, by omega⟩ (Ent.cons (by (repeat constructor); done) Ent.nil))))))
             obtain ⟨i, b⟩ := q
             dsimp only
             refine ht_pick (A := pu (b = Wl.bestF k (Wl.look d.view at_ s n) i ∧ i ≤ z.1.length)) (by (repeat constructor); done) (ht_pure fun hq => ?_)
             obtain ⟨hb, hi⟩ := hq
             refine ht_seq ?_
             refine ht_region ?_
             refine ho_lt rfl rfl rfl rfl rfl rfl (fun g7 => ?_) (fun g7 => ?_)
             ·first | (exfalso; first | omega | (simp at g7; done) | contradiction) | skip
              all_goals (
               refine ho_nil ?_
               refine hx_then ?_
               refine ht_seq ?_
               refine ht_then rfl ?_
               refine ht_skip ?_
               refine hx_then ?_
               refine ht_seq ?_
               refine ht_block ?_
               refine ht_seq ?_
               refine ht_fdAt (i := i) (xs := z.1) (fs := (Wl.look d.view at_ s n)) (by omega) (by (with_reducible repeat constructor); done) (fun v f hv hf => ?_)
               refine ht_fd (by (with_reducible repeat constructor); done) (fun e1 e2 e3 e4 => ?_)
               refine ht_someS (α := FdV) (a := z.2.1) (reads_ro (by (with_reducible repeat constructor); done)) (by omega) (fun ab ao ha => ?_)
               refine ht_region ?_
               refine ho_ev rfl rfl rfl (ev_move rfl rfl) ?_
               refine ho_ev rfl rfl rfl (ev_indexAddr rfl Tryd.underlying113 Tryd.ty118 (congrArg (fun w => some (Value.slice w z.1.length z.2.2)) ha) rfl (by omega) (by omega)) ?_
               refine ho_ev rfl rfl rfl (ev_loadA rfl Tryd.underlying118 Tryd.ty118 rfl rfl (cells_fd ha (reads_ro (by (with_reducible repeat constructor); done)) hv e1 e2 e3 e4)) ?_
               refine ho_eff rfl rfl rfl (eff_alloc rfl Tryd.ty118 (by first | exact cells_agg _ | exact rfl)) (fun b17 => ?_)
               refine ho_ev rfl rfl rfl (ev_assign rfl rfl) ?_
               refine ho_eff0 rfl rfl (eff_storeA rfl Tryd.ty118 rfl rfl (by (with_reducible repeat constructor); done) rfl rfl rfl (by simp only [setRange, List.setIfInBounds_toArray, List.set_cons_zero, List.set_cons_succ, Nat.zero_add]; rfl)) (fun _ => ?_)
               refine ho_nil ?_
               refine hx_then ?_
               refine ht_seq ?_
               rcases Wl.bestF_cases k (Wl.look d.view at_ s n) i with hb1 | ⟨j, f2, hb1, hj, hf2⟩
               ·skip
                have hb2 := hb.trans hb1
                subst hb2
                refine ht_draw (.op 0 (.op 1 (.op 2 (.op 3 (.op 4 (.op 5 (.op 6 (.op 7 (.op 8 (.op 9 (.op 10 (.op 11 (.op 12 (.op 13 (.op 14 (.op 15 (.op 16 (.op 17 (.op 18 (.op 19 (.op 20 (.op 21 (.op 22 (.op 23 (.op 24 (.op 25 (.op 26 (.op 27 (.op 28 (.op 29 (.op 30 (.op 31 (.op 32 (.op 33 .done)))))))))))))))))))))))))))))))))) [] Tryd.mixed rfl ?_
                refine hd_ev rfl rfl rfl rfl (EvG.of rfl (by first | exact ev_fieldAddr0 rfl Tryd.fld118_0 rfl | exact ev_fieldAddr rfl Tryd.fld118_0 rfl)) ?_
                refine hd_ev rfl rfl rfl rfl (EvG.of rfl (by first | exact ev_fieldAddr0 rfl Tryd.fld116_1 rfl | exact ev_fieldAddr rfl Tryd.fld116_1 rfl)) ?_
                refine hd_ev rfl rfl rfl rfl (EvG.of rfl (ev_load rfl Tryd.underlying41 rfl rfl (by first | exact cell_pt (by (with_reducible repeat constructor); done) rfl | exact cell_ro (by (with_reducible repeat constructor); done) rfl))) ?_
                refine hd_ev rfl rfl rfl rfl (EvG.of rfl (ev_move rfl rfl)) ?_
                refine hd_ev rfl rfl rfl rfl (EvG.of rfl (ev_add (r := (((k + 1) % 18446744073709551616 : Nat) : Int)) rfl rfl rfl (by exact add_wrap k 1))) ?_
                refine hd_le rfl rfl rfl rfl rfl rfl rfl rfl (fun g8 => ?_) (fun g8 => ?_)
                ·first | (exfalso; first | omega | (simp at g8; done) | contradiction) | skip
                 all_goals (
                  refine hd_ev rfl rfl rfl rfl (EvG.of rfl (ev_move rfl rfl)) ?_
                  refine hd_ev rfl rfl rfl rfl (EvG.ofg rfl rfl (by first | exact ev_fieldAddr0 rfl Tryd.fld118_0 rfl | exact ev_fieldAddr rfl Tryd.fld118_0 rfl)) ?_
                  refine hd_ev rfl rfl rfl rfl (EvG.ofg rfl rfl (by first | exact ev_fieldAddr0 rfl Tryd.fld116_1 rfl | exact ev_fieldAddr rfl Tryd.fld116_1 rfl)) ?_
                  refine hd_ev rfl rfl rfl rfl (EvG.ofg rfl rfl (ev_load rfl Tryd.underlying41 rfl rfl (by first | exact cell_pt (by (with_reducible repeat constructor); done) rfl | exact cell_ro (by (with_reducible repeat constructor); done) rfl))) ?_
                  refine hd_ev rfl rfl rfl rfl (EvG.ofg rfl rfl (by first | exact ev_fieldAddr0 rfl Tryd.fld118_0 rfl | exact ev_fieldAddr rfl Tryd.fld118_0 rfl)) ?_
                  refine hd_ev rfl rfl rfl rfl (EvG.ofg rfl rfl (by first | exact ev_fieldAddr0 rfl Tryd.fld116_2 rfl | exact ev_fieldAddr rfl Tryd.fld116_2 rfl)) ?_
                  refine hd_ev rfl rfl rfl rfl (EvG.ofg rfl rfl (ev_load rfl Tryd.underlying41 rfl rfl (by first | exact cell_pt (by (with_reducible repeat constructor); done) rfl | exact cell_ro (by (with_reducible repeat constructor); done) rfl))) ?_
                  refine hd_ev rfl rfl rfl rfl (EvG.ofg rfl rfl (ev_add (r := (((f.base + f.recs.length) % 18446744073709551616 : Nat) : Int)) rfl rfl rfl (by exact add_wrap _ _))) ?_
                  refine hd_ev rfl rfl rfl rfl (EvG.ofg rfl rfl (ev_move rfl rfl)) ?_
                  refine hd_ev rfl rfl rfl rfl (EvG.ofg rfl rfl (ev_add (r := (((k + 1) % 18446744073709551616 : Nat) : Int)) rfl rfl rfl (by exact add_wrap k 1))) ?_
                  refine hd_geg rfl rfl rfl rfl rfl rfl rfl rfl rfl (fun g9 => ?_) (fun g9 => ?_)
                  ·first | (exfalso; first | omega | (simp at g9; done) | contradiction) | skip
                   all_goals (
                    refine hd_ev rfl rfl rfl rfl (EvG.of rfl (ev_pick_t rfl rfl rfl)) ?_
                    refine hd_ev rfl rfl rfl rfl (EvG.of rfl (ev_move rfl rfl)) ?_
                    refine hd_ev rfl rfl rfl rfl (EvG.ofg rfl rfl (ev_move rfl rfl)) ?_
                    refine hd_ltg rfl rfl rfl rfl rfl rfl rfl rfl rfl (fun g10 => ?_) (fun g10 => ?_)
                    ·first | (exfalso; first | omega | (simp at g10; done) | contradiction) | skip
                     all_goals (
                      refine hd_ev rfl rfl rfl rfl (EvG.ofg rfl rfl (ev_move rfl rfl)) ?_
                      refine hd_ev rfl rfl rfl rfl (EvG.pass rfl rfl) ?_
                      refine hd_ev rfl rfl rfl rfl (EvG.pass rfl rfl) ?_
                      refine hd_ev rfl rfl rfl rfl (EvG.pass rfl rfl) ?_
                      refine hd_ev rfl rfl rfl rfl (EvG.pass rfl rfl) ?_
                      refine hd_ev rfl rfl rfl rfl (EvG.pass rfl rfl) ?_
                      refine hd_ev rfl rfl rfl rfl (EvG.pass rfl rfl) ?_
                      refine hd_ev rfl rfl rfl rfl (EvG.pass rfl rfl) ?_
                      refine hd_ev rfl rfl rfl rfl (EvG.pass rfl rfl) ?_
                      refine hd_ev rfl rfl rfl rfl (EvG.pass rfl rfl) ?_
                      refine hd_ev rfl rfl rfl rfl (EvG.pass rfl rfl) ?_
                      refine hd_ev rfl rfl rfl rfl (EvG.ofg rfl rfl (ev_pick_t rfl rfl rfl)) ?_
                      refine hd_ev rfl rfl rfl rfl (EvG.of rfl (ev_pick_t rfl rfl rfl)) ?_
                      refine hd_nil ?_
                      refine hx_then ?_
                      refine ht_then rfl ?_
                      refine ht_region ?_
                      refine ho_ev rfl rfl rfl (ev_move rfl rfl) ?_
                      refine ho_ev rfl rfl rfl (ev_assign rfl rfl) ?_
                      refine ho_nil ?_
                      refine hx_block_normal ?_
                      refine hx_then ?_
                      refine ht_region ?_
                      refine ho_ev rfl rfl rfl (ev_add rfl rfl rfl (by first | exact in_i64 (by omega) | rfl)) ?_
                      refine ho_ev rfl rfl rfl (ev_move rfl rfl) ?_
                      refine ho_nil ?_
                      refine hx_again (I := (fun q : Nat × Int => ([LogAt b53 (⟨dk, at_, n, s, [], [], k, 0⟩ : LG), DiskAt dk d, pt b13 (.cells #[.pointer (some ⟨b53, 0, none⟩)] 63 (0, 0)), ro (roS z.2.1 z.1.length z.1), ro (fdsR z.1 (Wl.look d.view at_ s n)), pu (q.2 = Wl.bestF k (Wl.look d.view at_ s n) q.1 ∧ q.1 ≤ z.1.length), F], [(0, .pointer (some ⟨dk, 0, none⟩)), (4, .int .u64 (k : Int)), (13, .pointer (some ⟨b13, 0, none⟩)), (14, .slice z.2.1 z.1.length z.2.2), (15, .int .i64 q.2), (56, .slice z.2.1 z.1.length z.2.2), (57, .int .i64 z.1.length), (58, .int .i64 q.1)]))) (μ := (fun q : Nat × Int => z.1.length - q.1)) (i := (i, (-1 : Int))) (i + 1, (i : Int)) ?_ ?_ ?_
                      ·(first | dsimp only | skip); omega
                      ·repeat (first | exact EnvSub.nil _ | (refine EnvSub.cons rfl ?_))
                      ·(first | dsimp only | skip)
                       exact Ent.cons (by (repeat constructor); done) (Ent.cons (by (repeat constructor); done) (Ent.cons (by (repeat constructor); done) (Ent.roD (by (with_reducible repeat constructor); done) (Ent.roD (by (with_reducible repeat constructor); done) (Ent.pu ⟨by first | exact (Wl.best_yes1 hf (by omega) (by omega) hb1).symm | exact (Wl.best_yes2 hf (by omega) (by omega) hb1 hf2 (by omega)).symm, by omega⟩ (Ent.cons (by (repeat constructor); done) Ent.nil))))))
                     )
                    ·first | (exfalso; first | omega | (simp at g10; done) | contradiction) | skip
                     all_goals (
                      refine hd_ev rfl rfl rfl rfl (EvG.ofg rfl rfl (ev_move rfl rfl)) ?_
                      refine hd_ev rfl rfl rfl rfl (EvG.ofg rfl rfl (by first | exact ev_fieldAddr0 rfl Tryd.fld118_0 rfl | exact ev_fieldAddr rfl Tryd.fld118_0 rfl)) ?_
                      refine hd_ev rfl rfl rfl rfl (EvG.ofg rfl rfl (by first | exact ev_fieldAddr0 rfl Tryd.fld116_1 rfl | exact ev_fieldAddr rfl Tryd.fld116_1 rfl)) ?_
                      refine hd_ev rfl rfl rfl rfl (EvG.ofg rfl rfl (ev_load rfl Tryd.underlying41 rfl rfl (by first | exact cell_pt (by (with_reducible repeat constructor); done) rfl | exact cell_ro (by (with_reducible repeat constructor); done) rfl))) ?_
                      refine hd_ev rfl rfl rfl rfl (EvG.ofg rfl rfl (ev_move rfl rfl)) ?_
                      refine hd_ev rfl rfl rfl rfl (EvG.ofg rfl rfl (ev_move rfl rfl)) ?_
                      refine hd_ev rfl rfl rfl rfl (EvG.ofg rfl rfl (ev_indexAddr rfl Tryd.underlying113 Tryd.ty118 (congrArg (fun w => some (Value.slice w z.1.length z.2.2)) ha) rfl (by omega) (by omega))) ?_
                      refine hd_ev rfl rfl rfl rfl (EvG.ofg rfl rfl (by first | exact ev_fieldAddr0 rfl Tryd.fld118_0 rfl | exact ev_fieldAddr rfl Tryd.fld118_0 rfl)) ?_
                      refine hd_ev rfl rfl rfl rfl (EvG.ofg rfl rfl (by first | exact ev_fieldAddr0 rfl Tryd.fld116_1 rfl | exact ev_fieldAddr rfl Tryd.fld116_1 rfl)) ?_
                      refine hd_ev rfl rfl rfl rfl (EvG.ofg rfl rfl (ev_load rfl Tryd.underlying41 rfl rfl (cell_fdB ha (reads_ro (by (with_reducible repeat constructor); done)) hv2 d2))) ?_
                      refine hd_gtg rfl rfl rfl rfl rfl rfl rfl rfl rfl (fun g11 => ?_) (fun g11 => ?_)
                      ·first | (exfalso; first | omega | (simp at g11; done) | contradiction) | skip
                       all_goals (
                        refine hd_ev rfl rfl rfl rfl (EvG.ofg rfl rfl (ev_pick_f rfl rfl rfl)) ?_
                        refine hd_ev rfl rfl rfl rfl (EvG.of rfl (ev_pick_t rfl rfl rfl)) ?_
                        refine hd_nil ?_
                        refine hx_then ?_
                        refine ht_then rfl ?_
                        refine ht_region ?_
                        refine ho_ev rfl rfl rfl (ev_move rfl rfl) ?_
                        refine ho_ev rfl rfl rfl (ev_assign rfl rfl) ?_
                        refine ho_nil ?_
                        refine hx_block_normal ?_
                        refine hx_then ?_
                        refine ht_region ?_
                        refine ho_ev rfl rfl rfl (ev_add rfl rfl rfl (by first | exact in_i64 (by omega) | rfl)) ?_
                        refine ho_ev rfl rfl rfl (ev_move rfl rfl) ?_
                        refine ho_nil ?_
                        refine hx_again (I := (fun q : Nat × Int => ([LogAt b53 (⟨dk, at_, n, s, [], [], k, 0⟩ : LG), DiskAt dk d, pt b13 (.cells #[.pointer (some ⟨b53, 0, none⟩)] 63 (0, 0)), ro (roS z.2.1 z.1.length z.1), ro (fdsR z.1 (Wl.look d.view at_ s n)), pu (q.2 = Wl.bestF k (Wl.look d.view at_ s n) q.1 ∧ q.1 ≤ z.1.length), F], [(0, .pointer (some ⟨dk, 0, none⟩)), (4, .int .u64 (k : Int)), (13, .pointer (some ⟨b13, 0, none⟩)), (14, .slice z.2.1 z.1.length z.2.2), (15, .int .i64 q.2), (56, .slice z.2.1 z.1.length z.2.2), (57, .int .i64 z.1.length), (58, .int .i64 q.1)]))) (μ := (fun q : Nat × Int => z.1.length - q.1)) (i := (i, (-1 : Int))) (i + 1, (i : Int)) ?_ ?_ ?_
                        ·(first | dsimp only | skip); omega
                        ·repeat (first | exact EnvSub.nil _ | (refine EnvSub.cons rfl ?_))
                        ·(first | dsimp only | skip)
                         exact Ent.cons (by (repeat constructor); done) (Ent.cons (by (repeat constructor); done) (Ent.cons (by (repeat constructor); done) (Ent.roD (by (with_reducible repeat constructor); done) (Ent.roD (by (with_reducible repeat constructor); done) (Ent.pu ⟨by first | exact (Wl.best_yes1 hf (by omega) (by omega) hb1).symm | exact (Wl.best_yes2 hf (by omega) (by omega) hb1 hf2 (by omega)).symm, by omega⟩ (Ent.cons (by (repeat constructor); done) Ent.nil))))))
                       )
                      ·first | (exfalso; first | omega | (simp at g11; done) | contradiction) | skip
                       all_goals (
                        refine hd_ev rfl rfl rfl rfl (EvG.ofg rfl rfl (ev_pick_f rfl rfl rfl)) ?_
                        refine hd_ev rfl rfl rfl rfl (EvG.of rfl (ev_pick_t rfl rfl rfl)) ?_
                        refine hd_nil ?_
                        refine hx_then ?_
                        refine ht_else rfl ?_
                        refine ht_skip ?_
                        refine hx_block_normal ?_
                        refine hx_then ?_
                        refine ht_region ?_
                        refine ho_ev rfl rfl rfl (ev_add rfl rfl rfl (by first | exact in_i64 (by omega) | rfl)) ?_
                        refine ho_ev rfl rfl rfl (ev_move rfl rfl) ?_
                        refine ho_nil ?_
                        refine hx_again (I := (fun q : Nat × Int => ([LogAt b53 (⟨dk, at_, n, s, [], [], k, 0⟩ : LG), DiskAt dk d, pt b13 (.cells #[.pointer (some ⟨b53, 0, none⟩)] 63 (0, 0)), ro (roS z.2.1 z.1.length z.1), ro (fdsR z.1 (Wl.look d.view at_ s n)), pu (q.2 = Wl.bestF k (Wl.look d.view at_ s n) q.1 ∧ q.1 ≤ z.1.length), F], [(0, .pointer (some ⟨dk, 0, none⟩)), (4, .int .u64 (k : Int)), (13, .pointer (some ⟨b13, 0, none⟩)), (14, .slice z.2.1 z.1.length z.2.2), (15, .int .i64 q.2), (56, .slice z.2.1 z.1.length z.2.2), (57, .int .i64 z.1.length), (58, .int .i64 q.1)]))) (μ := (fun q : Nat × Int => z.1.length - q.1)) (i := (i, (-1 : Int))) (i + 1, (-1 : Int)) ?_ ?_ ?_
                        ·(first | dsimp only | skip); omega
                        ·repeat (first | exact EnvSub.nil _ | (refine EnvSub.cons rfl ?_))
                        ·(first | dsimp only | skip)
                         exact Ent.cons (by (repeat constructor); done) (Ent.cons (by (repeat constructor); done) (Ent.cons (by (repeat constructor); done) (Ent.roD (by (with_reducible repeat constructor); done) (Ent.roD (by (with_reducible repeat constructor); done) (Ent.pu ⟨by first | exact hb.trans (Wl.best_no1 hf (by omega)).symm | exact hb.trans (Wl.best_no2 hf (by omega)).symm | exact hb.trans (Wl.best_no3 hf hb1 hf2 (by omega)).symm, by omega⟩ (Ent.cons (by (repeat constructor); done) Ent.nil))))))
                       )
                     )
                   )
                  ·first | (exfalso; first | omega | (simp at g9; done) | contradiction) | skip
                   all_goals (
                    refine hd_ev rfl rfl rfl rfl (EvG.of rfl (ev_pick_t rfl rfl rfl)) ?_
                    refine hd_ev rfl rfl rfl rfl (EvG.of rfl (ev_move rfl rfl)) ?_
                    refine hd_ev rfl rfl rfl rfl (EvG.pass rfl rfl) ?_
                    refine hd_ev rfl rfl rfl rfl (EvG.pass rfl rfl) ?_
                    refine hd_ev rfl rfl rfl rfl (EvG.pass rfl rfl) ?_
                    refine hd_ev rfl rfl rfl rfl (EvG.passU rfl rfl) ?_
                    refine hd_ev rfl rfl rfl rfl (EvG.passU rfl rfl) ?_
                    refine hd_ev rfl rfl rfl rfl (EvG.passU rfl rfl) ?_
                    refine hd_ev rfl rfl rfl rfl (EvG.passU rfl rfl) ?_
                    refine hd_ev rfl rfl rfl rfl (EvG.passU rfl rfl) ?_
                    refine hd_ev rfl rfl rfl rfl (EvG.passU rfl rfl) ?_
                    refine hd_ev rfl rfl rfl rfl (EvG.passU rfl rfl) ?_
                    refine hd_ev rfl rfl rfl rfl (EvG.passU rfl rfl) ?_
                    refine hd_ev rfl rfl rfl rfl (EvG.passU rfl rfl) ?_
                    refine hd_ev rfl rfl rfl rfl (EvG.passU rfl rfl) ?_
                    refine hd_ev rfl rfl rfl rfl (EvG.pass rfl rfl) ?_
                    refine hd_ev rfl rfl rfl rfl (EvG.of rfl (ev_pick_f rfl rfl rfl)) ?_
                    refine hd_nil ?_
                    refine hx_then ?_
                    refine ht_else rfl ?_
                    refine ht_skip ?_
                    refine hx_block_normal ?_
                    refine hx_then ?_
                    refine ht_region ?_
                    refine ho_ev rfl rfl rfl (ev_add rfl rfl rfl (by first | exact in_i64 (by omega) | rfl)) ?_
                    refine ho_ev rfl rfl rfl (ev_move rfl rfl) ?_
                    refine ho_nil ?_
                    refine hx_again (I := (fun q : Nat × Int => ([LogAt b53 (⟨dk, at_, n, s, [], [], k, 0⟩ : LG), DiskAt dk d, pt b13 (.cells #[.pointer (some ⟨b53, 0, none⟩)] 63 (0, 0)), ro (roS z.2.1 z.1.length z.1), ro (fdsR z.1 (Wl.look d.view at_ s n)), pu (q.2 = Wl.bestF k (Wl.look d.view at_ s n) q.1 ∧ q.1 ≤ z.1.length), F], [(0, .pointer (some ⟨dk, 0, none⟩)), (4, .int .u64 (k : Int)), (13, .pointer (some ⟨b13, 0, none⟩)), (14, .slice z.2.1 z.1.length z.2.2), (15, .int .i64 q.2), (56, .slice z.2.1 z.1.length z.2.2), (57, .int .i64 z.1.length), (58, .int .i64 q.1)]))) (μ := (fun q : Nat × Int => z.1.length - q.1)) (i := (i, (-1 : Int))) (i + 1, (-1 : Int)) ?_ ?_ ?_
                    ·(first | dsimp only | skip); omega
                    ·repeat (first | exact EnvSub.nil _ | (refine EnvSub.cons rfl ?_))
                    ·(first | dsimp only | skip)
                     exact Ent.cons (by (repeat constructor); done) (Ent.cons (by (repeat constructor); done) (Ent.cons (by (repeat constructor); done) (Ent.roD (by (with_reducible repeat constructor); done) (Ent.roD (by (with_reducible repeat constructor); done) (Ent.pu ⟨by first | exact hb.trans (Wl.best_no1 hf (by omega)).symm | exact hb.trans (Wl.best_no2 hf (by omega)).symm | exact hb.trans (Wl.best_no3 hf hb1 hf2 (by omega)).symm, by omega⟩ (Ent.cons (by (repeat constructor); done) Ent.nil))))))
                   )
                 )
                ·first | (exfalso; first | omega | (simp at g8; done) | contradiction) | skip
                 all_goals (
                  refine hd_ev rfl rfl rfl rfl (EvG.of rfl (ev_move rfl rfl)) ?_
                  refine hd_ev rfl rfl rfl rfl (EvG.pass rfl rfl) ?_
                  refine hd_ev rfl rfl rfl rfl (EvG.pass rfl rfl) ?_
                  refine hd_ev rfl rfl rfl rfl (EvG.pass rfl rfl) ?_
                  refine hd_ev rfl rfl rfl rfl (EvG.pass rfl rfl) ?_
                  refine hd_ev rfl rfl rfl rfl (EvG.pass rfl rfl) ?_
                  refine hd_ev rfl rfl rfl rfl (EvG.pass rfl rfl) ?_
                  refine hd_ev rfl rfl rfl rfl (EvG.pass rfl rfl) ?_
                  refine hd_ev rfl rfl rfl rfl (EvG.pass rfl rfl) ?_
                  refine hd_ev rfl rfl rfl rfl (EvG.pass rfl rfl) ?_
                  refine hd_ev rfl rfl rfl rfl (EvG.pass rfl rfl) ?_
                  refine hd_ev rfl rfl rfl rfl (EvG.of rfl (ev_pick_f rfl rfl rfl)) ?_
                  refine hd_ev rfl rfl rfl rfl (EvG.of rfl (ev_move rfl rfl)) ?_
                  refine hd_ev rfl rfl rfl rfl (EvG.pass rfl rfl) ?_
                  refine hd_ev rfl rfl rfl rfl (EvG.pass rfl rfl) ?_
                  refine hd_ev rfl rfl rfl rfl (EvG.pass rfl rfl) ?_
                  refine hd_ev rfl rfl rfl rfl (EvG.passU rfl rfl) ?_
                  refine hd_ev rfl rfl rfl rfl (EvG.passU rfl rfl) ?_
                  refine hd_ev rfl rfl rfl rfl (EvG.passU rfl rfl) ?_
                  refine hd_ev rfl rfl rfl rfl (EvG.passU rfl rfl) ?_
                  refine hd_ev rfl rfl rfl rfl (EvG.passU rfl rfl) ?_
                  refine hd_ev rfl rfl rfl rfl (EvG.passU rfl rfl) ?_
                  refine hd_ev rfl rfl rfl rfl (EvG.passU rfl rfl) ?_
                  refine hd_ev rfl rfl rfl rfl (EvG.passU rfl rfl) ?_
                  refine hd_ev rfl rfl rfl rfl (EvG.passU rfl rfl) ?_
                  refine hd_ev rfl rfl rfl rfl (EvG.passU rfl rfl) ?_
                  refine hd_ev rfl rfl rfl rfl (EvG.pass rfl rfl) ?_
                  refine hd_ev rfl rfl rfl rfl (EvG.of rfl (ev_pick_f rfl rfl rfl)) ?_
                  refine hd_nil ?_
                  refine hx_then ?_
                  refine ht_else rfl ?_
                  refine ht_skip ?_
                  refine hx_block_normal ?_
                  refine hx_then ?_
                  refine ht_region ?_
                  refine ho_ev rfl rfl rfl (ev_add rfl rfl rfl (by first | exact in_i64 (by omega) | rfl)) ?_
                  refine ho_ev rfl rfl rfl (ev_move rfl rfl) ?_
                  refine ho_nil ?_
                  refine hx_again (I := (fun q : Nat × Int => ([LogAt b53 (⟨dk, at_, n, s, [], [], k, 0⟩ : LG), DiskAt dk d, pt b13 (.cells #[.pointer (some ⟨b53, 0, none⟩)] 63 (0, 0)), ro (roS z.2.1 z.1.length z.1), ro (fdsR z.1 (Wl.look d.view at_ s n)), pu (q.2 = Wl.bestF k (Wl.look d.view at_ s n) q.1 ∧ q.1 ≤ z.1.length), F], [(0, .pointer (some ⟨dk, 0, none⟩)), (4, .int .u64 (k : Int)), (13, .pointer (some ⟨b13, 0, none⟩)), (14, .slice z.2.1 z.1.length z.2.2), (15, .int .i64 q.2), (56, .slice z.2.1 z.1.length z.2.2), (57, .int .i64 z.1.length), (58, .int .i64 q.1)]))) (μ := (fun q : Nat × Int => z.1.length - q.1)) (i := (i, (-1 : Int))) (i + 1, (-1 : Int)) ?_ ?_ ?_
                  ·(first | dsimp only | skip); omega
                  ·repeat (first | exact EnvSub.nil _ | (refine EnvSub.cons rfl ?_))
                  ·(first | dsimp only | skip)
                   exact Ent.cons (by (repeat constructor); done) (Ent.cons (by (repeat constructor); done) (Ent.cons (by (repeat constructor); done) (Ent.roD (by (with_reducible repeat constructor); done) (Ent.roD (by (with_reducible repeat constructor); done) (Ent.pu ⟨by first | exact hb.trans (Wl.best_no1 hf (by omega)).symm | exact hb.trans (Wl.best_no2 hf (by omega)).symm | exact hb.trans (Wl.best_no3 hf hb1 hf2 (by omega)).symm, by omega⟩ (Ent.cons (by (repeat constructor); done) Ent.nil))))))
                 )
               ·skip
                have hb2 := hb.trans hb1
                subst hb2
                refine ht_fdAt (i := j) (xs := z.1) (fs := (Wl.look d.view at_ s n)) (by omega) (by (with_reducible repeat constructor); done) (fun v2 f3 hv2 hf3 => ?_)
                have hff := fds_get hf2 hf3
                subst hff
                refine ht_fd (by (with_reducible repeat constructor); done) (fun d1 d2 d3 d4 => ?_)
                refine ht_draw (.op 0 (.op 1 (.op 2 (.op 3 (.op 4 (.op 5 (.op 6 (.op 7 (.op 8 (.op 9 (.op 10 (.op 11 (.op 12 (.op 13 (.op 14 (.op 15 (.op 16 (.op 17 (.op 18 (.op 19 (.op 20 (.op 21 (.op 22 (.op 23 (.op 24 (.op 25 (.op 26 (.op 27 (.op 28 (.op 29 (.op 30 (.op 31 (.op 32 (.op 33 .done)))))))))))))))))))))))))))))))))) [] Tryd.mixed rfl ?_
                refine hd_ev rfl rfl rfl rfl (EvG.of rfl (by first | exact ev_fieldAddr0 rfl Tryd.fld118_0 rfl | exact ev_fieldAddr rfl Tryd.fld118_0 rfl)) ?_
                refine hd_ev rfl rfl rfl rfl (EvG.of rfl (by first | exact ev_fieldAddr0 rfl Tryd.fld116_1 rfl | exact ev_fieldAddr rfl Tryd.fld116_1 rfl)) ?_
                refine hd_ev rfl rfl rfl rfl (EvG.of rfl (ev_load rfl Tryd.underlying41 rfl rfl (by first | exact cell_pt (by (with_reducible repeat constructor); done) rfl | exact cell_ro (by (with_reducible repeat constructor); done) rfl))) ?_
                refine hd_ev rfl rfl rfl rfl (EvG.of rfl (ev_move rfl rfl)) ?_
                refine hd_ev rfl rfl rfl rfl (EvG.of rfl (ev_add (r := (((k + 1) % 18446744073709551616 : Nat) : Int)) rfl rfl rfl (by exact add_wrap k 1))) ?_
                refine hd_le rfl rfl rfl rfl rfl rfl rfl rfl (fun g12 => ?_) (fun g12 => ?_)
                ·first | (exfalso; first | omega | (simp at g12; done) | contradiction) | skip
                 all_goals (
                  refine hd_ev rfl rfl rfl rfl (EvG.of rfl (ev_move rfl rfl)) ?_
                  refine hd_ev rfl rfl rfl rfl (EvG.ofg rfl rfl (by first | exact ev_fieldAddr0 rfl Tryd.fld118_0 rfl | exact ev_fieldAddr rfl Tryd.fld118_0 rfl)) ?_
                  refine hd_ev rfl rfl rfl rfl (EvG.ofg rfl rfl (by first | exact ev_fieldAddr0 rfl Tryd.fld116_1 rfl | exact ev_fieldAddr rfl Tryd.fld116_1 rfl)) ?_
                  refine hd_ev rfl rfl rfl rfl (EvG.ofg rfl rfl (ev_load rfl Tryd.underlying41 rfl rfl (by first | exact cell_pt (by (with_reducible repeat constructor); done) rfl | exact cell_ro (by (with_reducible repeat constructor); done) rfl))) ?_
                  refine hd_ev rfl rfl rfl rfl (EvG.ofg rfl rfl (by first | exact ev_fieldAddr0 rfl Tryd.fld118_0 rfl | exact ev_fieldAddr rfl Tryd.fld118_0 rfl)) ?_
                  refine hd_ev rfl rfl rfl rfl (EvG.ofg rfl rfl (by first | exact ev_fieldAddr0 rfl Tryd.fld116_2 rfl | exact ev_fieldAddr rfl Tryd.fld116_2 rfl)) ?_
                  refine hd_ev rfl rfl rfl rfl (EvG.ofg rfl rfl (ev_load rfl Tryd.underlying41 rfl rfl (by first | exact cell_pt (by (with_reducible repeat constructor); done) rfl | exact cell_ro (by (with_reducible repeat constructor); done) rfl))) ?_
                  refine hd_ev rfl rfl rfl rfl (EvG.ofg rfl rfl (ev_add (r := (((f.base + f.recs.length) % 18446744073709551616 : Nat) : Int)) rfl rfl rfl (by exact add_wrap _ _))) ?_
                  refine hd_ev rfl rfl rfl rfl (EvG.ofg rfl rfl (ev_move rfl rfl)) ?_
                  refine hd_ev rfl rfl rfl rfl (EvG.ofg rfl rfl (ev_add (r := (((k + 1) % 18446744073709551616 : Nat) : Int)) rfl rfl rfl (by exact add_wrap k 1))) ?_
                  refine hd_geg rfl rfl rfl rfl rfl rfl rfl rfl rfl (fun g13 => ?_) (fun g13 => ?_)
                  ·first | (exfalso; first | omega | (simp at g13; done) | contradiction) | skip
                   all_goals (
                    refine hd_ev rfl rfl rfl rfl (EvG.of rfl (ev_pick_t rfl rfl rfl)) ?_
                    refine hd_ev rfl rfl rfl rfl (EvG.of rfl (ev_move rfl rfl)) ?_
                    refine hd_ev rfl rfl rfl rfl (EvG.ofg rfl rfl (ev_move rfl rfl)) ?_
                    refine hd_ltg rfl rfl rfl rfl rfl rfl rfl rfl rfl (fun g14 => ?_) (fun g14 => ?_)
                    ·first | (exfalso; first | omega | (simp at g14; done) | contradiction) | skip
                     all_goals (
                      refine hd_ev rfl rfl rfl rfl (EvG.ofg rfl rfl (ev_move rfl rfl)) ?_
                      refine hd_ev rfl rfl rfl rfl (EvG.pass rfl rfl) ?_
                      refine hd_ev rfl rfl rfl rfl (EvG.pass rfl rfl) ?_
                      refine hd_ev rfl rfl rfl rfl (EvG.pass rfl rfl) ?_
                      refine hd_ev rfl rfl rfl rfl (EvG.pass rfl rfl) ?_
                      refine hd_ev rfl rfl rfl rfl (EvG.pass rfl rfl) ?_
                      refine hd_ev rfl rfl rfl rfl (EvG.pass rfl rfl) ?_
                      refine hd_ev rfl rfl rfl rfl (EvG.pass rfl rfl) ?_
                      refine hd_ev rfl rfl rfl rfl (EvG.pass rfl rfl) ?_
                      refine hd_ev rfl rfl rfl rfl (EvG.pass rfl rfl) ?_
                      refine hd_ev rfl rfl rfl rfl (EvG.pass rfl rfl) ?_
                      refine hd_ev rfl rfl rfl rfl (EvG.ofg rfl rfl (ev_pick_t rfl rfl rfl)) ?_
                      refine hd_ev rfl rfl rfl rfl (EvG.of rfl (ev_pick_t rfl rfl rfl)) ?_
                      refine hd_nil ?_
                      refine hx_then ?_
                      refine ht_then rfl ?_
                      refine ht_region ?_
                      refine ho_ev rfl rfl rfl (ev_move rfl rfl) ?_
                      refine ho_ev rfl rfl rfl (ev_assign rfl rfl) ?_
                      refine ho_nil ?_
                      refine hx_block_normal ?_
                      refine hx_then ?_
                      refine ht_region ?_
                      refine ho_ev rfl rfl rfl (ev_add rfl rfl rfl (by first | exact in_i64 (by omega) | rfl)) ?_
                      refine ho_ev rfl rfl rfl (ev_move rfl rfl) ?_
                      refine ho_nil ?_
                      refine hx_again (I := (fun q : Nat × Int => ([LogAt b53 (⟨dk, at_, n, s, [], [], k, 0⟩ : LG), DiskAt dk d, pt b13 (.cells #[.pointer (some ⟨b53, 0, none⟩)] 63 (0, 0)), ro (roS z.2.1 z.1.length z.1), ro (fdsR z.1 (Wl.look d.view at_ s n)), pu (q.2 = Wl.bestF k (Wl.look d.view at_ s n) q.1 ∧ q.1 ≤ z.1.length), F], [(0, .pointer (some ⟨dk, 0, none⟩)), (4, .int .u64 (k : Int)), (13, .pointer (some ⟨b13, 0, none⟩)), (14, .slice z.2.1 z.1.length z.2.2), (15, .int .i64 q.2), (56, .slice z.2.1 z.1.length z.2.2), (57, .int .i64 z.1.length), (58, .int .i64 q.1)]))) (μ := (fun q : Nat × Int => z.1.length - q.1)) (i := (i, (j : Int))) (i + 1, (i : Int)) ?_ ?_ ?_
                      ·(first | dsimp only | skip); omega
                      ·repeat (first | exact EnvSub.nil _ | (refine EnvSub.cons rfl ?_))
                      ·(first | dsimp only | skip)
                       exact Ent.cons (by (repeat constructor); done) (Ent.cons (by (repeat constructor); done) (Ent.cons (by (repeat constructor); done) (Ent.roD (by (with_reducible repeat constructor); done) (Ent.roD (by (with_reducible repeat constructor); done) (Ent.pu ⟨by first | exact (Wl.best_yes1 hf (by omega) (by omega) hb1).symm | exact (Wl.best_yes2 hf (by omega) (by omega) hb1 hf2 (by omega)).symm, by omega⟩ (Ent.cons (by (repeat constructor); done) Ent.nil))))))
                     )
                    ·first | (exfalso; first | omega | (simp at g14; done) | contradiction) | skip
                     all_goals (
                      refine hd_ev rfl rfl rfl rfl (EvG.ofg rfl rfl (ev_move rfl rfl)) ?_
                      refine hd_ev rfl rfl rfl rfl (EvG.ofg rfl rfl (by first | exact ev_fieldAddr0 rfl Tryd.fld118_0 rfl | exact ev_fieldAddr rfl Tryd.fld118_0 rfl)) ?_
                      refine hd_ev rfl rfl rfl rfl (EvG.ofg rfl rfl (by first | exact ev_fieldAddr0 rfl Tryd.fld116_1 rfl | exact ev_fieldAddr rfl Tryd.fld116_1 rfl)) ?_
                      refine hd_ev rfl rfl rfl rfl (EvG.ofg rfl rfl (ev_load rfl Tryd.underlying41 rfl rfl (by first | exact cell_pt (by (with_reducible repeat constructor); done) rfl | exact cell_ro (by (with_reducible repeat constructor); done) rfl))) ?_
                      refine hd_ev rfl rfl rfl rfl (EvG.ofg rfl rfl (ev_move rfl rfl)) ?_
                      refine hd_ev rfl rfl rfl rfl (EvG.ofg rfl rfl (ev_move rfl rfl)) ?_
                      refine hd_ev rfl rfl rfl rfl (EvG.ofg rfl rfl (ev_indexAddr rfl Tryd.underlying113 Tryd.ty118 (congrArg (fun w => some (Value.slice w z.1.length z.2.2)) ha) rfl (by omega) (by omega))) ?_
                      refine hd_ev rfl rfl rfl rfl (EvG.ofg rfl rfl (by first | exact ev_fieldAddr0 rfl Tryd.fld118_0 rfl | exact ev_fieldAddr rfl Tryd.fld118_0 rfl)) ?_
                      refine hd_ev rfl rfl rfl rfl (EvG.ofg rfl rfl (by first | exact ev_fieldAddr0 rfl Tryd.fld116_1 rfl | exact ev_fieldAddr rfl Tryd.fld116_1 rfl)) ?_
                      refine hd_ev rfl rfl rfl rfl (EvG.ofg rfl rfl (ev_load rfl Tryd.underlying41 rfl rfl (cell_fdB ha (reads_ro (by (with_reducible repeat constructor); done)) hv2 d2))) ?_
                      refine hd_gtg rfl rfl rfl rfl rfl rfl rfl rfl rfl (fun g15 => ?_) (fun g15 => ?_)
                      ·first | (exfalso; first | omega | (simp at g15; done) | contradiction) | skip
                       all_goals (
                        refine hd_ev rfl rfl rfl rfl (EvG.ofg rfl rfl (ev_pick_f rfl rfl rfl)) ?_
                        refine hd_ev rfl rfl rfl rfl (EvG.of rfl (ev_pick_t rfl rfl rfl)) ?_
                        refine hd_nil ?_
                        refine hx_then ?_
                        refine ht_then rfl ?_
                        refine ht_region ?_
                        refine ho_ev rfl rfl rfl (ev_move rfl rfl) ?_
                        refine ho_ev rfl rfl rfl (ev_assign rfl rfl) ?_
                        refine ho_nil ?_
                        refine hx_block_normal ?_
                        refine hx_then ?_
                        refine ht_region ?_
                        refine ho_ev rfl rfl rfl (ev_add rfl rfl rfl (by first | exact in_i64 (by omega) | rfl)) ?_
                        refine ho_ev rfl rfl rfl (ev_move rfl rfl) ?_
                        refine ho_nil ?_
                        refine hx_again (I := (fun q : Nat × Int => ([LogAt b53 (⟨dk, at_, n, s, [], [], k, 0⟩ : LG), DiskAt dk d, pt b13 (.cells #[.pointer (some ⟨b53, 0, none⟩)] 63 (0, 0)), ro (roS z.2.1 z.1.length z.1), ro (fdsR z.1 (Wl.look d.view at_ s n)), pu (q.2 = Wl.bestF k (Wl.look d.view at_ s n) q.1 ∧ q.1 ≤ z.1.length), F], [(0, .pointer (some ⟨dk, 0, none⟩)), (4, .int .u64 (k : Int)), (13, .pointer (some ⟨b13, 0, none⟩)), (14, .slice z.2.1 z.1.length z.2.2), (15, .int .i64 q.2), (56, .slice z.2.1 z.1.length z.2.2), (57, .int .i64 z.1.length), (58, .int .i64 q.1)]))) (μ := (fun q : Nat × Int => z.1.length - q.1)) (i := (i, (j : Int))) (i + 1, (i : Int)) ?_ ?_ ?_
                        ·(first | dsimp only | skip); omega
                        ·repeat (first | exact EnvSub.nil _ | (refine EnvSub.cons rfl ?_))
                        ·(first | dsimp only | skip)
                         exact Ent.cons (by (repeat constructor); done) (Ent.cons (by (repeat constructor); done) (Ent.cons (by (repeat constructor); done) (Ent.roD (by (with_reducible repeat constructor); done) (Ent.roD (by (with_reducible repeat constructor); done) (Ent.pu ⟨by first | exact (Wl.best_yes1 hf (by omega) (by omega) hb1).symm | exact (Wl.best_yes2 hf (by omega) (by omega) hb1 hf2 (by omega)).symm, by omega⟩ (Ent.cons (by (repeat constructor); done) Ent.nil))))))
                       )
                      ·first | (exfalso; first | omega | (simp at g15; done) | contradiction) | skip
                       all_goals (
                        refine hd_ev rfl rfl rfl rfl (EvG.ofg rfl rfl (ev_pick_f rfl rfl rfl)) ?_
                        refine hd_ev rfl rfl rfl rfl (EvG.of rfl (ev_pick_t rfl rfl rfl)) ?_
                        refine hd_nil ?_
                        refine hx_then ?_
                        refine ht_else rfl ?_
                        refine ht_skip ?_
                        refine hx_block_normal ?_
                        refine hx_then ?_
                        refine ht_region ?_
                        refine ho_ev rfl rfl rfl (ev_add rfl rfl rfl (by first | exact in_i64 (by omega) | rfl)) ?_
                        refine ho_ev rfl rfl rfl (ev_move rfl rfl) ?_
                        refine ho_nil ?_
                        refine hx_again (I := (fun q : Nat × Int => ([LogAt b53 (⟨dk, at_, n, s, [], [], k, 0⟩ : LG), DiskAt dk d, pt b13 (.cells #[.pointer (some ⟨b53, 0, none⟩)] 63 (0, 0)), ro (roS z.2.1 z.1.length z.1), ro (fdsR z.1 (Wl.look d.view at_ s n)), pu (q.2 = Wl.bestF k (Wl.look d.view at_ s n) q.1 ∧ q.1 ≤ z.1.length), F], [(0, .pointer (some ⟨dk, 0, none⟩)), (4, .int .u64 (k : Int)), (13, .pointer (some ⟨b13, 0, none⟩)), (14, .slice z.2.1 z.1.length z.2.2), (15, .int .i64 q.2), (56, .slice z.2.1 z.1.length z.2.2), (57, .int .i64 z.1.length), (58, .int .i64 q.1)]))) (μ := (fun q : Nat × Int => z.1.length - q.1)) (i := (i, (j : Int))) (i + 1, (j : Int)) ?_ ?_ ?_
                        ·(first | dsimp only | skip); omega
                        ·repeat (first | exact EnvSub.nil _ | (refine EnvSub.cons rfl ?_))
                        ·(first | dsimp only | skip)
                         exact Ent.cons (by (repeat constructor); done) (Ent.cons (by (repeat constructor); done) (Ent.cons (by (repeat constructor); done) (Ent.roD (by (with_reducible repeat constructor); done) (Ent.roD (by (with_reducible repeat constructor); done) (Ent.pu ⟨by first | exact hb.trans (Wl.best_no1 hf (by omega)).symm | exact hb.trans (Wl.best_no2 hf (by omega)).symm | exact hb.trans (Wl.best_no3 hf hb1 hf2 (by omega)).symm, by omega⟩ (Ent.cons (by (repeat constructor); done) Ent.nil))))))
                       )
                     )
                   )
                  ·first | (exfalso; first | omega | (simp at g13; done) | contradiction) | skip
                   all_goals (
                    refine hd_ev rfl rfl rfl rfl (EvG.of rfl (ev_pick_t rfl rfl rfl)) ?_
                    refine hd_ev rfl rfl rfl rfl (EvG.of rfl (ev_move rfl rfl)) ?_
                    refine hd_ev rfl rfl rfl rfl (EvG.pass rfl rfl) ?_
                    refine hd_ev rfl rfl rfl rfl (EvG.pass rfl rfl) ?_
                    refine hd_ev rfl rfl rfl rfl (EvG.pass rfl rfl) ?_
                    refine hd_ev rfl rfl rfl rfl (EvG.passU rfl rfl) ?_
                    refine hd_ev rfl rfl rfl rfl (EvG.passU rfl rfl) ?_
                    refine hd_ev rfl rfl rfl rfl (EvG.passU rfl rfl) ?_
                    refine hd_ev rfl rfl rfl rfl (EvG.passU rfl rfl) ?_
                    refine hd_ev rfl rfl rfl rfl (EvG.passU rfl rfl) ?_
                    refine hd_ev rfl rfl rfl rfl (EvG.passU rfl rfl) ?_
                    refine hd_ev rfl rfl rfl rfl (EvG.passU rfl rfl) ?_
                    refine hd_ev rfl rfl rfl rfl (EvG.passU rfl rfl) ?_
                    refine hd_ev rfl rfl rfl rfl (EvG.passU rfl rfl) ?_
                    refine hd_ev rfl rfl rfl rfl (EvG.passU rfl rfl) ?_
                    refine hd_ev rfl rfl rfl rfl (EvG.pass rfl rfl) ?_
                    refine hd_ev rfl rfl rfl rfl (EvG.of rfl (ev_pick_f rfl rfl rfl)) ?_
                    refine hd_nil ?_
                    refine hx_then ?_
                    refine ht_else rfl ?_
                    refine ht_skip ?_
                    refine hx_block_normal ?_
                    refine hx_then ?_
                    refine ht_region ?_
                    refine ho_ev rfl rfl rfl (ev_add rfl rfl rfl (by first | exact in_i64 (by omega) | rfl)) ?_
                    refine ho_ev rfl rfl rfl (ev_move rfl rfl) ?_
                    refine ho_nil ?_
                    refine hx_again (I := (fun q : Nat × Int => ([LogAt b53 (⟨dk, at_, n, s, [], [], k, 0⟩ : LG), DiskAt dk d, pt b13 (.cells #[.pointer (some ⟨b53, 0, none⟩)] 63 (0, 0)), ro (roS z.2.1 z.1.length z.1), ro (fdsR z.1 (Wl.look d.view at_ s n)), pu (q.2 = Wl.bestF k (Wl.look d.view at_ s n) q.1 ∧ q.1 ≤ z.1.length), F], [(0, .pointer (some ⟨dk, 0, none⟩)), (4, .int .u64 (k : Int)), (13, .pointer (some ⟨b13, 0, none⟩)), (14, .slice z.2.1 z.1.length z.2.2), (15, .int .i64 q.2), (56, .slice z.2.1 z.1.length z.2.2), (57, .int .i64 z.1.length), (58, .int .i64 q.1)]))) (μ := (fun q : Nat × Int => z.1.length - q.1)) (i := (i, (j : Int))) (i + 1, (j : Int)) ?_ ?_ ?_
                    ·(first | dsimp only | skip); omega
                    ·repeat (first | exact EnvSub.nil _ | (refine EnvSub.cons rfl ?_))
                    ·(first | dsimp only | skip)
                     exact Ent.cons (by (repeat constructor); done) (Ent.cons (by (repeat constructor); done) (Ent.cons (by (repeat constructor); done) (Ent.roD (by (with_reducible repeat constructor); done) (Ent.roD (by (with_reducible repeat constructor); done) (Ent.pu ⟨by first | exact hb.trans (Wl.best_no1 hf (by omega)).symm | exact hb.trans (Wl.best_no2 hf (by omega)).symm | exact hb.trans (Wl.best_no3 hf hb1 hf2 (by omega)).symm, by omega⟩ (Ent.cons (by (repeat constructor); done) Ent.nil))))))
                   )
                 )
                ·first | (exfalso; first | omega | (simp at g12; done) | contradiction) | skip
                 all_goals (
                  refine hd_ev rfl rfl rfl rfl (EvG.of rfl (ev_move rfl rfl)) ?_
                  refine hd_ev rfl rfl rfl rfl (EvG.pass rfl rfl) ?_
                  refine hd_ev rfl rfl rfl rfl (EvG.pass rfl rfl) ?_
                  refine hd_ev rfl rfl rfl rfl (EvG.pass rfl rfl) ?_
                  refine hd_ev rfl rfl rfl rfl (EvG.pass rfl rfl) ?_
                  refine hd_ev rfl rfl rfl rfl (EvG.pass rfl rfl) ?_
                  refine hd_ev rfl rfl rfl rfl (EvG.pass rfl rfl) ?_
                  refine hd_ev rfl rfl rfl rfl (EvG.pass rfl rfl) ?_
                  refine hd_ev rfl rfl rfl rfl (EvG.pass rfl rfl) ?_
                  refine hd_ev rfl rfl rfl rfl (EvG.pass rfl rfl) ?_
                  refine hd_ev rfl rfl rfl rfl (EvG.pass rfl rfl) ?_
                  refine hd_ev rfl rfl rfl rfl (EvG.of rfl (ev_pick_f rfl rfl rfl)) ?_
                  refine hd_ev rfl rfl rfl rfl (EvG.of rfl (ev_move rfl rfl)) ?_
                  refine hd_ev rfl rfl rfl rfl (EvG.pass rfl rfl) ?_
                  refine hd_ev rfl rfl rfl rfl (EvG.pass rfl rfl) ?_
                  refine hd_ev rfl rfl rfl rfl (EvG.pass rfl rfl) ?_
                  refine hd_ev rfl rfl rfl rfl (EvG.passU rfl rfl) ?_
                  refine hd_ev rfl rfl rfl rfl (EvG.passU rfl rfl) ?_
                  refine hd_ev rfl rfl rfl rfl (EvG.passU rfl rfl) ?_
                  refine hd_ev rfl rfl rfl rfl (EvG.passU rfl rfl) ?_
                  refine hd_ev rfl rfl rfl rfl (EvG.passU rfl rfl) ?_
                  refine hd_ev rfl rfl rfl rfl (EvG.passU rfl rfl) ?_
                  refine hd_ev rfl rfl rfl rfl (EvG.passU rfl rfl) ?_
                  refine hd_ev rfl rfl rfl rfl (EvG.passU rfl rfl) ?_
                  refine hd_ev rfl rfl rfl rfl (EvG.passU rfl rfl) ?_
                  refine hd_ev rfl rfl rfl rfl (EvG.passU rfl rfl) ?_
                  refine hd_ev rfl rfl rfl rfl (EvG.pass rfl rfl) ?_
                  refine hd_ev rfl rfl rfl rfl (EvG.of rfl (ev_pick_f rfl rfl rfl)) ?_
                  refine hd_nil ?_
                  refine hx_then ?_
                  refine ht_else rfl ?_
                  refine ht_skip ?_
                  refine hx_block_normal ?_
                  refine hx_then ?_
                  refine ht_region ?_
                  refine ho_ev rfl rfl rfl (ev_add rfl rfl rfl (by first | exact in_i64 (by omega) | rfl)) ?_
                  refine ho_ev rfl rfl rfl (ev_move rfl rfl) ?_
                  refine ho_nil ?_
                  refine hx_again (I := (fun q : Nat × Int => ([LogAt b53 (⟨dk, at_, n, s, [], [], k, 0⟩ : LG), DiskAt dk d, pt b13 (.cells #[.pointer (some ⟨b53, 0, none⟩)] 63 (0, 0)), ro (roS z.2.1 z.1.length z.1), ro (fdsR z.1 (Wl.look d.view at_ s n)), pu (q.2 = Wl.bestF k (Wl.look d.view at_ s n) q.1 ∧ q.1 ≤ z.1.length), F], [(0, .pointer (some ⟨dk, 0, none⟩)), (4, .int .u64 (k : Int)), (13, .pointer (some ⟨b13, 0, none⟩)), (14, .slice z.2.1 z.1.length z.2.2), (15, .int .i64 q.2), (56, .slice z.2.1 z.1.length z.2.2), (57, .int .i64 z.1.length), (58, .int .i64 q.1)]))) (μ := (fun q : Nat × Int => z.1.length - q.1)) (i := (i, (j : Int))) (i + 1, (j : Int)) ?_ ?_ ?_
                  ·(first | dsimp only | skip); omega
                  ·repeat (first | exact EnvSub.nil _ | (refine EnvSub.cons rfl ?_))
                  ·(first | dsimp only | skip)
                   exact Ent.cons (by (repeat constructor); done) (Ent.cons (by (repeat constructor); done) (Ent.cons (by (repeat constructor); done) (Ent.roD (by (with_reducible repeat constructor); done) (Ent.roD (by (with_reducible repeat constructor); done) (Ent.pu ⟨by first | exact hb.trans (Wl.best_no1 hf (by omega)).symm | exact hb.trans (Wl.best_no2 hf (by omega)).symm | exact hb.trans (Wl.best_no3 hf hb1 hf2 (by omega)).symm, by omega⟩ (Ent.cons (by (repeat constructor); done) Ent.nil))))))
                 )
              )
             ·first | (exfalso; first | omega | (simp at g7; done) | contradiction) | skip
              all_goals (
               refine ho_nil ?_
               refine hx_then ?_
               refine ht_seq ?_
               refine ht_else rfl ?_
               refine ht_exit ?_
               refine hx_through trivial ?_
               refine hx_through trivial ?_
               refine hx_block_here ?_
               refine hx_then ?_
               refine ht_seq ?_
               refine ht_region ?_
               refine ho_ev rfl rfl rfl (ev_assign rfl rfl) ?_
               refine ho_nil ?_
               refine hx_then ?_
               refine ht_seq ?_
               refine ht_seq ?_
               refine ht_region ?_
               refine ho_ev rfl rfl rfl (ev_move rfl rfl) ?_
               refine ho_ev rfl rfl rfl (ev_assign rfl rfl) ?_
               refine ho_nil ?_
               refine hx_then ?_
               refine ht_block ?_
               refine ht_loop (fun q : Nat × List Wl.Seg × Nat × List Wl.Rec × Int × Option Addr × Nat => ([LogAt b53 (⟨dk, at_, n, s, q.2.1, [], q.2.2.1, 0⟩ : LG), DiskAt dk d, pt b13 (.cells #[.pointer (some ⟨b53, 0, none⟩)] 63 (0, 0)), ro (roS z.2.1 z.1.length z.1), ro (fdsR z.1 (Wl.look d.view at_ s n)), ownS 71 q.2.2.2.2.2.1 q.2.2.2.1.length q.2.2.2.2.2.2 q.2.2.2.1, pu (Wl.Ch.run k (Wl.look d.view at_ s n) q.1 ⟨q.2.1, q.2.2.1, q.2.2.2.1, q.2.2.2.2.1⟩ = (Wl.found d at_ s n k) ∧ (q.2.2.2.2.1 = -1 ∨ ∃ j f, q.2.2.2.2.1 = ((j : Nat) : Int) ∧ (Wl.look d.view at_ s n)[j]? = some f ∧ Wl.has q.2.1 f.place = false) ∧ Wl.idle (Wl.look d.view at_ s n) q.2.1 ≤ q.1 ∧ q.1 ≤ 64 ∧ q.2.1.length + q.1 ≤ 64 ∧ q.2.2.2.1.length + 32768 * q.1 ≤ 2097152 ∧ q.2.2.1 < 18446744073709551616), F], [(0, .pointer (some ⟨dk, 0, none⟩)), (4, .int .u64 (k : Int)), (13, .pointer (some ⟨b13, 0, none⟩)), (14, .slice z.2.1 z.1.length z.2.2), (18, .slice q.2.2.2.2.2.1 q.2.2.2.1.length q.2.2.2.2.2.2), (19, .int .i64 q.2.2.2.2.1)])) (fun q : Nat × List Wl.Seg × Nat × List Wl.Rec × Int × Option Addr × Nat => q.1) ((Wl.look d.view at_ s n).length, [], k, [], b, none, 0) ?_ (by repeat (first | exact EnvSub.nil _ | (refine EnvSub.cons rfl ?_))) (fun q => ?_)
               ·(first | dsimp only | skip)
                have hiz : i = (Wl.look d.view at_ s n).length := by omega
                rw [hiz] at hb
                refine (ownS_nil (α := Wl.Rec) 71).trans ?_
                exact Ent.cons (by (repeat constructor); done) (Ent.cons (by (repeat constructor); done) (Ent.cons (by (repeat constructor); done) (Ent.roD (by (with_reducible repeat constructor); done) (Ent.roD (by (with_reducible repeat constructor); done) (Ent.cons (by (repeat constructor); done) (Ent.pu ⟨by rw [hb]; rfl, by rw [hb]; exact Wl.first_ok k (Wl.look d.view at_ s n), Wl.idle_len _ _, by omega, by simp; omega, by simp; omega, hk⟩ (Ent.cons (by (repeat constructor); done) Ent.nil)))))))
               obtain ⟨m, lv, la, out, nx, ad, cp⟩ := q
               dsimp only
               refine ht_pick (A := pu (Wl.Ch.run k (Wl.look d.view at_ s n) m ⟨lv, la, out, nx⟩ = (Wl.found d at_ s n k) ∧ (nx = -1 ∨ ∃ j f, nx = ((j : Nat) : Int) ∧ (Wl.look d.view at_ s n)[j]? = some f ∧ Wl.has lv f.place = false) ∧ Wl.idle (Wl.look d.view at_ s n) lv ≤ m ∧ m ≤ 64 ∧ lv.length + m ≤ 64 ∧ out.length + 32768 * m ≤ 2097152 ∧ la < 18446744073709551616)) (by (repeat constructor); done) (ht_pure fun hq => ?_)
               obtain ⟨hrun, hnx, hidle, hm, hlv, hout, hla⟩ := hq
               refine ht_seq ?_
               refine ht_seq ?_
               refine ht_region ?_
               refine ho_ev rfl rfl rfl (ev_move rfl rfl) ?_
               refine ho_ge rfl rfl rfl rfl rfl rfl (fun g16 => ?_) (fun g16 => ?_)
               ·first | (exfalso; first | omega | (simp at g16; done) | contradiction) | skip
                all_goals (
                 refine ho_nil ?_
                 refine hx_then ?_
                 refine ht_then rfl ?_
                 refine ht_skip ?_
                 refine hx_then ?_
                 refine ht_block ?_
                 refine ht_seq ?_
                 rcases hnx with hnx | ⟨j, f, hj, hf, hu0⟩
                 ·exfalso; omega
                 subst hj
                 have hjl : j < z.1.length := by have h := (List.getElem?_eq_some_iff.1 hf).1; omega
                 refine ht_fdAt (i := j) (xs := z.1) (fs := (Wl.look d.view at_ s n)) (by omega) (by (with_reducible repeat constructor); done) (fun v f3 hv hf3 => ?_)
                 have hff := fds_get hf hf3
                 subst hff
                 refine ht_fd (by (with_reducible repeat constructor); done) (fun e1 e2 e3 e4 => ?_)
                 refine ht_someS (α := FdV) (a := z.2.1) (reads_ro (by (with_reducible repeat constructor); done)) (by omega) (fun ab ao ha => ?_)
                 have hfw := Wl.look_ok hok.view hs.2 n f (List.mem_of_getElem? hf)
                 have hil := Wl.idle_lt hu0 hf
                 have hnx2 := Wl.next_ok (lv ++ [f.seg]) (Wl.upTo f.base f.recs.length) (Wl.look d.view at_ s n)
                 have hbl := Wl.behind_len k f.recs
                 refine ht_draw (.op 0 (.op 1 (.op 2 (.op 3 (.op 4 (.op 5 (.op 6 (.op 7 (.op 8 (.op 9 .done)))))))))) [7, 8] Tryd.mixed rfl ?_
                 refine hd_ev rfl rfl rfl rfl (EvG.of rfl (ev_move rfl rfl)) ?_
                 refine hd_ev rfl rfl rfl rfl (EvG.of rfl (ev_load rfl Tryd.underlying63 rfl rfl (by first | exact cell_pt (by (with_reducible repeat constructor); done) rfl | exact cell_ro (by (with_reducible repeat constructor); done) rfl))) ?_
                 refine hd_ev rfl rfl rfl rfl (EvG.of rfl (ev_move rfl rfl)) ?_
                 refine hd_ev rfl rfl rfl rfl (EvG.of rfl (ev_move rfl rfl)) ?_
                 refine hd_ev rfl rfl rfl rfl (EvG.of rfl (ev_indexAddr rfl Tryd.underlying113 Tryd.ty118 (congrArg (fun w => some (Value.slice w z.1.length z.2.2)) ha) rfl (by omega) (by omega))) ?_
                 refine hd_ev rfl rfl rfl rfl (EvG.of rfl (ev_loadA rfl Tryd.underlying118 Tryd.ty118 rfl rfl (cells_fd ha (reads_ro (by (with_reducible repeat constructor); done)) hv e1 e2 e3 e4))) ?_
                 refine hd_ev rfl rfl rfl rfl (EvG.of rfl (ev_move rfl rfl)) ?_
                 refine hd_eff rfl rfl rfl rfl rfl (eff_call rfl rfl (.cons rfl (.cons rfl (.cons rfl .nil))) rfl (wal_take b53 (⟨dk, at_, n, s, lv, [], la, 0⟩ : LG) f v.a v.c k hfw.1 (by omega) (by show lv.length ≤ 1000000; omega)) (by repeat (first | exact Picks.nil | (apply Picks.ro; focus ((repeat constructor); done)) | (apply Picks.cons; focus ((repeat constructor); done)))) (fun _ => by repeat (first | exact App.nil | apply App.cons))) (fun _ => by (refine FL.skip rfl ?_); (refine FL.skip rfl ?_); (refine FL.skip rfl ?_); (refine FL.skip rfl ?_); (refine FL.skip rfl ?_); (refine FL.skip rfl ?_); (refine FL.ev rfl (EvG.of rfl (ev_move rfl rfl)) ?_); exact FL.nil) (fun y => ?_)
                 refine hd_eff rfl rfl rfl rfl rfl (eff_append (α := Wl.Rec) rfl Tryd.underlying64 Tryd.ty71 rfl (by decide) Tryd.underlying64 rfl rfl (by (with_reducible repeat constructor); done) (by first | exact reads_ro (by (with_reducible repeat constructor); done) | exact reads_own (by (with_reducible repeat constructor); done) | exact reads_nil _) (by first | omega | (simp only [List.length_append, List.length_cons, List.length_nil, List.length_drop, List.length_take]; omega) | (simp; omega))) (fun _ => by (refine FL.skip rfl ?_); (refine FL.skip rfl ?_); (refine FL.skip rfl ?_); (refine FL.skip rfl ?_); (refine FL.skip rfl ?_); (refine FL.skip rfl ?_); (refine FL.skip rfl ?_); exact FL.nil) (fun p110 => ?_)
                 refine hd_ev rfl rfl rfl rfl (EvG.of rfl (ev_assign rfl rfl)) ?_
                 refine hd_nil ?_
                 refine hx_then ?_
                 refine ht_region ?_
                 refine ho_ev rfl rfl rfl (ev_move rfl rfl) ?_
                 refine ho_ev rfl rfl rfl (ev_makeFunc rfl .nil (.cons rfl .nil)) ?_
                 refine ho_eff rfl rfl rfl (eff_call rfl rfl (.cons rfl (.cons rfl .nil)) rfl (wal_IndexF b53 b13 (⟨dk, at_, n, s, (lv ++ [f.seg]), [], (Wl.upTo f.base f.recs.length), 0⟩ : LG) z.2.1 z.2.2 z.1 (Wl.look d.view at_ s n) (by show (lv ++ [f.seg]).length ≤ 1000000; rw [List.length_append]; simp; omega) (by omega)) (by repeat (first | exact Picks.nil | (apply Picks.ro; focus ((repeat constructor); done)) | (apply Picks.cons; focus ((repeat constructor); done)))) (fun _ => by repeat (first | exact App.nil | apply App.cons))) (fun _ => ?_)
                 refine ho_ev rfl rfl rfl (ev_assign rfl rfl) ?_
                 refine ho_nil ?_
                 refine hx_block_normal ?_
                 refine hx_again (I := (fun q : Nat × List Wl.Seg × Nat × List Wl.Rec × Int × Option Addr × Nat => ([LogAt b53 (⟨dk, at_, n, s, q.2.1, [], q.2.2.1, 0⟩ : LG), DiskAt dk d, pt b13 (.cells #[.pointer (some ⟨b53, 0, none⟩)] 63 (0, 0)), ro (roS z.2.1 z.1.length z.1), ro (fdsR z.1 (Wl.look d.view at_ s n)), ownS 71 q.2.2.2.2.2.1 q.2.2.2.1.length q.2.2.2.2.2.2 q.2.2.2.1, pu (Wl.Ch.run k (Wl.look d.view at_ s n) q.1 ⟨q.2.1, q.2.2.1, q.2.2.2.1, q.2.2.2.2.1⟩ = (Wl.found d at_ s n k) ∧ (q.2.2.2.2.1 = -1 ∨ ∃ j f, q.2.2.2.2.1 = ((j : Nat) : Int) ∧ (Wl.look d.view at_ s n)[j]? = some f ∧ Wl.has q.2.1 f.place = false) ∧ Wl.idle (Wl.look d.view at_ s n) q.2.1 ≤ q.1 ∧ q.1 ≤ 64 ∧ q.2.1.length + q.1 ≤ 64 ∧ q.2.2.2.1.length + 32768 * q.1 ≤ 2097152 ∧ q.2.2.1 < 18446744073709551616), F], [(0, .pointer (some ⟨dk, 0, none⟩)), (4, .int .u64 (k : Int)), (13, .pointer (some ⟨b13, 0, none⟩)), (14, .slice z.2.1 z.1.length z.2.2), (18, .slice q.2.2.2.2.2.1 q.2.2.2.1.length q.2.2.2.2.2.2), (19, .int .i64 q.2.2.2.2.1)]))) (μ := (fun q : Nat × List Wl.Seg × Nat × List Wl.Rec × Int × Option Addr × Nat => q.1)) (i := (m, lv, la, out, (j : Int), ad, cp)) (m - 1, (lv ++ [f.seg]), (Wl.upTo f.base f.recs.length), (out ++ Wl.behind k f.recs), (Wl.pos (Wl.okNext (lv ++ [f.seg]) (Wl.upTo f.base f.recs.length)) (Wl.look d.view at_ s n) 0), p110.1, p110.2) ?_ ?_ ?_
                 ·(first | dsimp only | skip); omega
                 ·repeat (first | exact EnvSub.nil _ | (refine EnvSub.cons rfl ?_))
                 ·(first | dsimp only | skip)
                  exact Ent.cons (by (repeat constructor); done) (Ent.cons (by (repeat constructor); done) (Ent.cons (by (repeat constructor); done) (Ent.roD (by (with_reducible repeat constructor); done) (Ent.roD (by (with_reducible repeat constructor); done) (Ent.cons (by (repeat constructor); done) (Ent.pu ⟨by rw [← hrun, show m = (m - 1) + 1 by omega, Wl.Ch.run_go hf]; rfl, hnx2, by omega, by omega, by rw [List.length_append]; simp; omega, by rw [List.length_append]; omega, Nat.mod_lt _ (by decide)⟩ (Ent.cons (by (repeat constructor); done) Ent.nil)))))))
                )
               ·first | (exfalso; first | omega | (simp at g16; done) | contradiction) | skip
                all_goals (
                 refine ho_nil ?_
                 refine hx_then ?_
                 refine ht_else rfl ?_
                 refine ht_exit ?_
                 refine hx_through trivial ?_
                 refine hx_through trivial ?_
                 refine hx_block_here ?_
                 refine hx_then ?_
                 refine ht_seq ?_
                 refine ht_seq ?_
                 have hC : (⟨lv, la, out, nx⟩ : Wl.Ch) = (Wl.found d at_ s n k) := by rw [← hrun, Wl.Ch.run_stop (by show nx < 0; omega)]
                 obtain rfl : lv = (Wl.found d at_ s n k).live := by rw [← hC]
                 obtain rfl : la = (Wl.found d at_ s n k).last := by rw [← hC]
                 obtain rfl : out = (Wl.found d at_ s n k).out := by rw [← hC]
                 refine ht_log (by (with_reducible repeat constructor); done) (fun x hx => ?_)
                 refine ht_region ?_
                 refine ho_ev rfl rfl rfl (ev_load rfl Tryd.underlying63 rfl rfl (by first | exact cell_pt (by (with_reducible repeat constructor); done) rfl | exact cell_ro (by (with_reducible repeat constructor); done) rfl)) ?_
                 refine ho_ev rfl rfl rfl (ev_nilCheck rfl rfl) ?_
                 refine ho_ev rfl rfl rfl (by first | exact ev_fieldAddr0 rfl Tryd.fld112_2 rfl | exact ev_fieldAddr rfl Tryd.fld112_2 rfl) ?_
                 refine ho_ev rfl rfl rfl (ev_load rfl Tryd.underlying3 rfl rfl (by first | exact cell_pt (by (with_reducible repeat constructor); done) rfl | exact cell_ro (by (with_reducible repeat constructor); done) rfl)) ?_
                 refine ho_ev rfl rfl rfl (ev_move rfl rfl) ?_
                 refine ho_nil ?_
                 refine hx_then ?_
                 refine ht_block ?_
                 refine ht_loop (fun q : Nat => ([LogAt b53 (⟨dk, at_, n, s, (Wl.found d at_ s n k).live, [], (Wl.found d at_ s n k).last, 0⟩ : LG), DiskAt dk (Wl.freeUn d at_ s (Wl.found d at_ s n k).live q), pt b13 (.cells #[.pointer (some ⟨b53, 0, none⟩)] 63 (0, 0)), ownS 71 ad (Wl.found d at_ s n k).out.length cp (Wl.found d at_ s n k).out, pu (q ≤ n), F], [(4, .int .u64 (k : Int)), (13, .pointer (some ⟨b13, 0, none⟩)), (18, .slice ad (Wl.found d at_ s n k).out.length cp), (117, .int .i64 (n : Int)), (118, .int .i64 q)])) (fun q : Nat => n - q) 0 ?_ (by repeat (first | exact EnvSub.nil _ | (refine EnvSub.cons rfl ?_))) (fun q => ?_)
                 ·(first | dsimp only | skip)
                  exact Ent.log (g := (⟨dk, at_, n, s, (Wl.found d at_ s n k).live, [], (Wl.found d at_ s n k).last, 0⟩ : LG)) (x := x) (by repeat (first | exact Picks.nil | (apply Picks.ro; focus ((repeat constructor); done)) | (apply Picks.cons; focus ((repeat constructor); done)))) rfl rfl rfl rfl rfl rfl rfl rfl rfl rfl hx (Ent.cons (by (repeat constructor); done) (Ent.cons (by (repeat constructor); done) (Ent.cons (by (repeat constructor); done) (Ent.pu (by omega) (Ent.cons (by (repeat constructor); done) Ent.nil)))))
                 obtain q := q
                 dsimp only
                 refine ht_pick (A := pu (q ≤ n)) (by (repeat constructor); done) (ht_pure fun hq => ?_)
                 have hfp := Wl.freeUn_pend d at_ s (Wl.found d at_ s n k).live q
                 refine ht_seq ?_
                 refine ht_region ?_
                 refine ho_lt rfl rfl rfl rfl rfl rfl (fun g17 => ?_) (fun g17 => ?_)
                 ·first | (exfalso; first | omega | (simp at g17; done) | contradiction) | skip
                  all_goals (
                   refine ho_nil ?_
                   refine hx_then ?_
                   refine ht_seq ?_
                   refine ht_then rfl ?_
                   refine ht_skip ?_
                   refine hx_then ?_
                   refine ht_seq ?_
                   refine ht_block ?_
                   refine ht_seq ?_
                   refine ht_region ?_
                   refine ho_ev rfl rfl rfl (ev_move rfl rfl) ?_
                   refine ho_ev rfl rfl rfl (ev_assign rfl rfl) ?_
                   refine ho_nil ?_
                   refine hx_then ?_
                   refine ht_seq ?_
                   refine ht_region ?_
                   refine ho_ev rfl rfl rfl (ev_load rfl Tryd.underlying63 rfl rfl (by first | exact cell_pt (by (with_reducible repeat constructor); done) rfl | exact cell_ro (by (with_reducible repeat constructor); done) rfl)) ?_
                   refine ho_ev rfl rfl rfl (ev_move rfl rfl) ?_
                   rcases hu : Wl.has (Wl.found d at_ s n k).live (q : Int) with _ | _
                   ·skip
                    refine ho_eff rfl rfl rfl (eff_call rfl rfl (.cons rfl (.cons rfl .nil)) rfl (wal_usedL b53 (⟨dk, at_, n, s, (Wl.found d at_ s n k).live, [], (Wl.found d at_ s n k).last, 0⟩ : LG) (q : Int) false (by show (Wl.found d at_ s n k).live.length ≤ 1000000; omega) hu) (by repeat (first | exact Picks.nil | (apply Picks.ro; focus ((repeat constructor); done)) | (apply Picks.cons; focus ((repeat constructor); done)))) (fun _ => by repeat (first | exact App.nil | apply App.cons))) (fun _ => ?_)
                    refine ho_ev rfl rfl rfl (ev_not rfl rfl) ?_
                    refine ho_nil ?_
                    refine hx_then ?_
                    refine ht_then rfl ?_
                    refine ht_region ?_
                    refine ho_ev rfl rfl rfl (ev_load rfl Tryd.underlying63 rfl rfl (by first | exact cell_pt (by (with_reducible repeat constructor); done) rfl | exact cell_ro (by (with_reducible repeat constructor); done) rfl)) ?_
                    refine ho_ev rfl rfl rfl (ev_move rfl rfl) ?_
                    have hms : q * s + s ≤ n * s := by have h := Nat.mul_le_mul_right s (show q + 1 ≤ n by omega); rw [Nat.succ_mul] at h; exact h
                    refine ho_eff rfl rfl rfl (eff_call rfl rfl (.cons rfl (.cons rfl .nil)) rfl (wal_free b53 (⟨dk, at_, n, s, (Wl.found d at_ s n k).live, [], (Wl.found d at_ s n k).last, 0⟩ : LG) (Wl.freeUn d at_ s (Wl.found d at_ s n k).live q) q (q * s) (by push_cast; rfl) (by show 0 ≤ at_ ∧ at_ + ((q * s : Nat) : Int) + (s : Int) ≤ 65536; omega) (by show s ≤ 64; omega) (by omega)) (by repeat (first | exact Picks.nil | (apply Picks.ro; focus ((repeat constructor); done)) | (apply Picks.cons; focus ((repeat constructor); done)))) (fun _ => by repeat (first | exact App.nil | apply App.cons))) (fun _ => ?_)
                    refine ho_nil ?_
                    refine hx_block_normal ?_
                    refine hx_then ?_
                    refine ht_region ?_
                    refine ho_ev rfl rfl rfl (ev_add rfl rfl rfl (by first | exact in_i64 (by omega) | rfl)) ?_
                    refine ho_ev rfl rfl rfl (ev_move rfl rfl) ?_
                    refine ho_nil ?_
                    refine hx_again (I := (fun q : Nat => ([LogAt b53 (⟨dk, at_, n, s, (Wl.found d at_ s n k).live, [], (Wl.found d at_ s n k).last, 0⟩ : LG), DiskAt dk (Wl.freeUn d at_ s (Wl.found d at_ s n k).live q), pt b13 (.cells #[.pointer (some ⟨b53, 0, none⟩)] 63 (0, 0)), ownS 71 ad (Wl.found d at_ s n k).out.length cp (Wl.found d at_ s n k).out, pu (q ≤ n), F], [(4, .int .u64 (k : Int)), (13, .pointer (some ⟨b13, 0, none⟩)), (18, .slice ad (Wl.found d at_ s n k).out.length cp), (117, .int .i64 (n : Int)), (118, .int .i64 q)]))) (μ := (fun q : Nat => n - q)) (i := q) (q + 1) ?_ ?_ ?_
                    ·(first | dsimp only | skip); omega
                    ·repeat (first | exact EnvSub.nil _ | (refine EnvSub.cons rfl ?_))
                    ·(first | dsimp only | skip)
                     rw [show Wl.freeUn d at_ s (Wl.found d at_ s n k).live (q + 1) = (if Wl.has (Wl.found d at_ s n k).live (q : Int) then (Wl.freeUn d at_ s (Wl.found d at_ s n k).live q) else Wl.freeAll (Wl.freeUn d at_ s (Wl.found d at_ s n k).live q) (at_ + ((q * s : Nat) : Int)) s) from rfl, hu]; exact Ent.cons (by (repeat constructor); done) (Ent.cons (by (repeat constructor); done) (Ent.cons (by (repeat constructor); done) (Ent.cons (by (repeat constructor); done) (Ent.pu (by omega) (Ent.cons (by (repeat constructor); done) Ent.nil)))))
                   ·skip
                    refine ho_eff rfl rfl rfl (eff_call rfl rfl (.cons rfl (.cons rfl .nil)) rfl (wal_usedL b53 (⟨dk, at_, n, s, (Wl.found d at_ s n k).live, [], (Wl.found d at_ s n k).last, 0⟩ : LG) (q : Int) true (by show (Wl.found d at_ s n k).live.length ≤ 1000000; omega) hu) (by repeat (first | exact Picks.nil | (apply Picks.ro; focus ((repeat constructor); done)) | (apply Picks.cons; focus ((repeat constructor); done)))) (fun _ => by repeat (first | exact App.nil | apply App.cons))) (fun _ => ?_)
                    refine ho_ev rfl rfl rfl (ev_not rfl rfl) ?_
                    refine ho_nil ?_
                    refine hx_then ?_
                    refine ht_else rfl ?_
                    refine ht_skip ?_
                    refine hx_block_normal ?_
                    refine hx_then ?_
                    refine ht_region ?_
                    refine ho_ev rfl rfl rfl (ev_add rfl rfl rfl (by first | exact in_i64 (by omega) | rfl)) ?_
                    refine ho_ev rfl rfl rfl (ev_move rfl rfl) ?_
                    refine ho_nil ?_
                    refine hx_again (I := (fun q : Nat => ([LogAt b53 (⟨dk, at_, n, s, (Wl.found d at_ s n k).live, [], (Wl.found d at_ s n k).last, 0⟩ : LG), DiskAt dk (Wl.freeUn d at_ s (Wl.found d at_ s n k).live q), pt b13 (.cells #[.pointer (some ⟨b53, 0, none⟩)] 63 (0, 0)), ownS 71 ad (Wl.found d at_ s n k).out.length cp (Wl.found d at_ s n k).out, pu (q ≤ n), F], [(4, .int .u64 (k : Int)), (13, .pointer (some ⟨b13, 0, none⟩)), (18, .slice ad (Wl.found d at_ s n k).out.length cp), (117, .int .i64 (n : Int)), (118, .int .i64 q)]))) (μ := (fun q : Nat => n - q)) (i := q) (q + 1) ?_ ?_ ?_
                    ·(first | dsimp only | skip); omega
                    ·repeat (first | exact EnvSub.nil _ | (refine EnvSub.cons rfl ?_))
                    ·(first | dsimp only | skip)
                     rw [show Wl.freeUn d at_ s (Wl.found d at_ s n k).live (q + 1) = (if Wl.has (Wl.found d at_ s n k).live (q : Int) then (Wl.freeUn d at_ s (Wl.found d at_ s n k).live q) else Wl.freeAll (Wl.freeUn d at_ s (Wl.found d at_ s n k).live q) (at_ + ((q * s : Nat) : Int)) s) from rfl, hu]; exact Ent.cons (by (repeat constructor); done) (Ent.cons (by (repeat constructor); done) (Ent.cons (by (repeat constructor); done) (Ent.cons (by (repeat constructor); done) (Ent.pu (by omega) (Ent.cons (by (repeat constructor); done) Ent.nil)))))
                  )
                 ·first | (exfalso; first | omega | (simp at g17; done) | contradiction) | skip
                  all_goals (
                   refine ho_nil ?_
                   refine hx_then ?_
                   refine ht_seq ?_
                   refine ht_else rfl ?_
                   refine ht_exit ?_
                   refine hx_through trivial ?_
                   refine hx_through trivial ?_
                   refine hx_block_here ?_
                   refine hx_then ?_
                   refine ht_seq ?_
                   have hin : q = n := by omega
                   rw [hin]
                   refine ht_log (by (with_reducible repeat constructor); done) (fun x hx => ?_)
                   refine ht_draw (.op 0 (.op 1 (.op 2 (.op 3 (.op 4 (.op 5 (.op 6 (.op 7 (.op 8 (.op 9 .done)))))))))) [9] Tryd.mixed rfl ?_
                   refine hd_ev rfl rfl rfl rfl (EvG.of rfl (ev_load rfl Tryd.underlying63 rfl rfl (by first | exact cell_pt (by (with_reducible repeat constructor); done) rfl | exact cell_ro (by (with_reducible repeat constructor); done) rfl))) ?_
                   refine hd_ev rfl rfl rfl rfl (EvG.of rfl (ev_load rfl Tryd.underlying63 rfl rfl (by first | exact cell_pt (by (with_reducible repeat constructor); done) rfl | exact cell_ro (by (with_reducible repeat constructor); done) rfl))) ?_
                   refine hd_ev rfl rfl rfl rfl (EvG.of rfl (ev_nilCheck rfl rfl)) ?_
                   refine hd_ev rfl rfl rfl rfl (EvG.of rfl (by first | exact ev_fieldAddr0 rfl Tryd.fld112_6 rfl | exact ev_fieldAddr rfl Tryd.fld112_6 rfl)) ?_
                   refine hd_ev rfl rfl rfl rfl (EvG.of rfl (ev_load rfl Tryd.underlying41 rfl rfl (by first | exact cell_pt (by (with_reducible repeat constructor); done) rfl | exact cell_ro (by (with_reducible repeat constructor); done) rfl))) ?_
                   refine hd_ev rfl rfl rfl rfl (EvG.of rfl (ev_move rfl rfl)) ?_
                   refine hd_ev rfl rfl rfl rfl (EvG.of rfl (ev_maxI rfl rfl rfl rfl)) ?_
                   refine hd_ev rfl rfl rfl rfl (EvG.of rfl (ev_nilCheck rfl rfl)) ?_
                   refine hd_ev rfl rfl rfl rfl (EvG.of rfl (by first | exact ev_fieldAddr0 rfl Tryd.fld112_6 rfl | exact ev_fieldAddr rfl Tryd.fld112_6 rfl)) ?_
                   refine hd_eff0 rfl rfl rfl rfl (eff_store1 rfl Tryd.ty41 rfl rfl (by (with_reducible repeat constructor); done) rfl rfl (lt_of_blt rfl) (by simp only [List.setIfInBounds_toArray, List.set_cons_zero, List.set_cons_succ]; rfl)) (fun _ => by (refine FL.skip rfl ?_); (refine FL.skip rfl ?_); (refine FL.skip rfl ?_); (refine FL.skip rfl ?_); (refine FL.skip rfl ?_); (refine FL.skip rfl ?_); (refine FL.skip rfl ?_); (refine FL.skip rfl ?_); (refine FL.skip rfl ?_); exact FL.nil) (fun _ => ?_)
                   refine hd_nil ?_
                   refine hx_then ?_
                   refine ht_seq ?_
                   refine ht_region ?_
                   refine ho_ev rfl rfl rfl (ev_load rfl Tryd.underlying63 rfl rfl (by first | exact cell_pt (by (with_reducible repeat constructor); done) rfl | exact cell_ro (by (with_reducible repeat constructor); done) rfl)) ?_
                   refine ho_ent (Ent.log (g := (⟨dk, at_, n, s, (Wl.found d at_ s n k).live, [], max (Wl.found d at_ s n k).last k, 0⟩ : LG)) (x := x) (by repeat (first | exact Picks.nil | (apply Picks.ro; focus ((repeat constructor); done)) | (apply Picks.cons; focus ((repeat constructor); done)))) rfl rfl rfl rfl rfl rfl (by show _ = ((max (Wl.found d at_ s n k).last k : Nat) : Int); omega) rfl rfl rfl hx (Ent.refl _)) ?_
                   refine ho_eff rfl rfl rfl (eff_call rfl rfl (.cons rfl .nil) rfl (wal_Sync b53 (⟨dk, at_, n, s, (Wl.found d at_ s n k).live, [], max (Wl.found d at_ s n k).last k, 0⟩ : LG) (Wl.freeUn d at_ s (Wl.found d at_ s n k).live n)) (by repeat (first | exact Picks.nil | (apply Picks.ro; focus ((repeat constructor); done)) | (apply Picks.cons; focus ((repeat constructor); done)))) (fun _ => by repeat (first | exact App.nil | apply App.cons))) (fun _ => ?_)
                   refine ho_nil ?_
                   refine hx_then ?_
                   refine ht_seq ?_
                   refine ht_region ?_
                   refine ho_ev rfl rfl rfl (ev_load rfl Tryd.underlying63 rfl rfl (by first | exact cell_pt (by (with_reducible repeat constructor); done) rfl | exact cell_ro (by (with_reducible repeat constructor); done) rfl)) ?_
                   refine ho_ev rfl rfl rfl (ev_move rfl rfl) ?_
                   refine ho_ev rfl rfl rfl (ev_assign rfl rfl) ?_
                   refine ho_ev rfl rfl rfl (ev_assign rfl rfl) ?_
                   refine ho_ev rfl rfl rfl (ev_assign rfl rfl) ?_
                   refine ho_nil ?_
                   refine hx_then ?_
                   refine ht_ret ?_
                   refine hx_freezeS (xs := (Wl.found d at_ s n k).out) (by (repeat constructor); done) ?_
                   exact hx_ret3 (.inl rfl) rfl rfl rfl rfl (b53, ad, cp) rfl (Ent.cons (by (repeat constructor); done) (Ent.cons (by (repeat constructor); done) (Ent.roD (by (repeat constructor); done) (Ent.cons (by (repeat constructor); done) Ent.nil))))
                  )
                )
              )
            )
          )
        )
      )
    )
  )
end Go.Proofs.YtlejcepbcfijiaaDoor
