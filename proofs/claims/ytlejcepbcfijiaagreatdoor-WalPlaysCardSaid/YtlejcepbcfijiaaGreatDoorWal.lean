/-
  PACKAGE wal (layer 8): the walks. Conditions: as each contract says.
-/
import Derived.Test.YtlejcepbcfijiaaGreatDoorDisk
import Derived.Test.YtlejcepbcfijiaaGreatDoorWireC
import Derived.Test.YtlejcepbcfijiaaGreatDoorWalM
import Derived.Laws.StructEq
set_option maxRecDepth 100000
set_option linter.unusedVariables false
set_option linter.unusedSimpArgs false
namespace Go.Proofs.YtlejcepbcfijiaaGreatDoor
open Go Go.SL


instance : Enc Wl.Seg := ⟨3, fun x => [.int .i64 (x.place : Int), .int .u64 (x.base : Int), .int .u64 (x.count : Int)], fun _ => rfl, fun x v h => by simp at h; rcases h with rfl | rfl | rfl <;> rfl, by decide⟩
instance : Enc Wl.Rec := ⟨2, fun x => [.int .u64 (x.seq : Int), vS x.body], fun _ => rfl, fun x v h => by simp at h; rcases h with rfl | rfl <;> rfl, by decide⟩
abbrev segV (x : Wl.Seg) : Value := .agg #[.int .i64 (x.place : Int), .int .u64 (x.base : Int), .int .u64 (x.count : Int)]
abbrev recV (x : Wl.Rec) : Value := .agg #[.int .u64 (x.seq : Int), vS x.body]
section
variable {κ : World} {n : Nat} {L M R R1 R2 : List Assn} {ρ : Env} {ops : Array Oper} {o : Oper} {l : List Oper} {Q : Exit → Act → World → Prop}
theorem ev_neqRec {x y : Operand} {u : TypeId} {r : Wl.Rec} (ho : o.op = .binOp .neq 71 x y u) (hx : oev ρ x = some (recV r)) (hy : oev ρ y = some (recV r)) : Ev Tryz.prog κ n L ρ o (.bool false) := fun a w ha hw => by
  have hS : Tryz.prog.underlying 71 = some (.struct (Tryz.prog.fieldsOf 71)) := by kernel_rfl
  have hp : Tryz.prog.stoodInHeld 71 = false := by kernel_rfl
  have u1 := Tryz.underlying24
  have u2 := Tryz.underlying9
  have hg : (eqGuard .neq 71 x y (recV r) (recV r)).run Tryz.prog w = .ok () w := run_eqGuard_agg w .neq _ _ _ _ _ (by kernel_rfl)
  have hb : (binOp .neq 71 (recV r) (recV r)).run Tryz.prog w = .ok (.bool false) w := by
    have a1 := Tryz.isAgg24
    have z1 := Tryz.sizeOf24
    have a2 := Tryz.isAgg9
    have z2 := Tryz.sizeOf9
    rw [run_neq_struct, show (10000 : Nat) = 9999 + 1 from rfl, run_equalIn_agg w 9999 71 _ _ hS hp]
    simp only [Program.fieldsOf, Tryz.underlying71]
    go_simp
  simp only [execOp, ho, ha.eval hx, ha.eval hy, Sem.run_bind, hg, Result.andThen_ok, hb]; rfl
end
/-- a log in memory -/
structure LG where mk ::
  dk : Nat
  at_ : Int
  n : Nat
  size : Nat
  live : List Wl.Seg
  stream : List UInt8
  last : Nat
  synced : Nat
structure LX where mk ::
  la : Option Addr
  lc : Nat
  sa : Option Addr
  sc : Nat
abbrev lgCells (g : LG) (x : LX) : Array Value := #[.pointer (some ⟨g.dk, 0, none⟩), .int .i64 g.at_, .int .i64 (g.n : Int), .int .i64 (g.size : Int), .slice x.la g.live.length x.lc, .slice x.sa g.stream.length x.sc, .int .u64 (g.last : Int), .int .u64 (g.synced : Int)]
def lgC (p : Nat) (g : LG) (x : LX) : List Assn := [pt p (.cells (lgCells g x) 75 (0, 0)), ownS 79 x.la g.live.length x.lc g.live, ro (roS x.sa g.stream.length g.stream), pu (g.stream.length ≤ x.sc)]
def LogAt (p : Nat) (g : LG) : Assn := ex fun x : LX => star (lgC p g x)
section
variable {P : Program} {κ : World} {n : Nat} {L M R R1 R2 : List Assn} {ρ : Env} {ops : Array Oper} {l : List Oper} {Q : Exit → Act → World → Prop}
theorem ht_log {p : Nat} {g : LG} {c : Code} (k : Pick (LogAt p g) L R) (h : ∀ x : LX, g.stream.length ≤ x.sc → HT P κ n (pt p (.cells (lgCells g x) 75 (0, 0)) :: ownS 79 x.la g.live.length x.lc g.live :: ro (roS x.sa g.stream.length g.stream) :: R) ρ c Q) : HT P κ n L ρ c Q :=
  ht_pick k (ht_ex fun x => ht_star (.cons (.cons (.cons (.cons .nil)))) (ht_pick (.there (.there (.there .here))) (ht_pure fun hx => h x hx)))
theorem Ent.log {p m1 m2 : Nat} {g : LG} {x : LX} {dk : Nat} {a nn sz lst syn : Int} {lv : List Wl.Seg} {st : List UInt8} (k : Picks [pt p (.cells #[.pointer (some ⟨dk, 0, none⟩), .int .i64 a, .int .i64 nn, .int .i64 sz, .slice x.la m1 x.lc, .slice x.sa m2 x.sc, .int .u64 lst, .int .u64 syn] 75 (0, 0)), ownS 79 x.la m1 x.lc lv, ro (roS x.sa m2 st)] L R)
    (e1 : dk = g.dk) (e2 : a = g.at_) (e3 : nn = (g.n : Int)) (e4 : sz = (g.size : Int)) (e5 : lv = g.live) (e6 : st = g.stream) (e7 : lst = (g.last : Int)) (e8 : syn = (g.synced : Int)) (f1 : m1 = g.live.length) (f2 : m2 = g.stream.length) (hc : m2 ≤ x.sc) (h : Ent R M) : Ent L (LogAt p g :: M) := by
  subst e1 e2 e3 e4 e5 e6 e7 e8 f1 f2
  exact Ent.ex x (Ent.star (k.ent.trans (Ent.cons .here (Ent.cons .here (Ent.cons .here (Ent.pu hc h))))))
end


theorem add_wrap (a b : Nat) : IntKind.u64.wrap (((a : Nat) : Int) + ((b : Nat) : Int)) = (((a + b) % 18446744073709551616 : Nat) : Int) := by
  have h : IntKind.u64.wrap (((a : Nat) : Int) + ((b : Nat) : Int)) = (((a : Nat) : Int) + ((b : Nat) : Int)) % 18446744073709551616 := by simp [IntKind.wrap, IntKind.bits, IntKind.signed]
  rw [h]; exact (Int.natCast_emod (a + b) 18446744073709551616).symm
section
variable {P : Program} {κ : World} {n : Nat} {L R : List Assn} {ρ : Env} {Q : Exit → Act → World → Prop}
theorem ht_dkOkW {p : Nat} {d : Dk.Disk} {c : Code} (k : Pick (DiskAt p d) L R) (h : DkOk d → HT P κ n L ρ c Q) : HT P κ n L ρ c Q := fun a w ha hw => by
  obtain ⟨x, hx⟩ := (hw.ent (Ent.pick k)).exists
  have h2 := hx.unstar
  have h3 : Sat κ (pu (DkOk d) :: _) w := h2.ent (Ent.pick (.there (.there (.there (.there (.there (.there (.there .here))))))))
  exact h h3.pure a w ha hw
end
section
variable {α : Type} [Enc α] {P : Program} {κ : World} {n : Nat} {L M R R1 R2 : List Assn} {ρ : Env} {ops : Array Oper} {l : List Oper} {Q : Exit → Act → World → Prop}
theorem ht_ownNone {E : TypeId} {m cap : Nat} {xs : List α} {c : Code} (k : Pick (ownS E none m cap xs) L R) (h : xs = [] → HT P κ n L ρ c Q) : HT P κ n L ρ c Q := fun ac w ha hw => by
  obtain ⟨h1, h2, h3⟩ := ownS_open (hw.ent (Ent.pick k))
  rcases h3 with ⟨_, hc, _⟩ | ⟨b, c, e, _⟩
  · exact h (List.eq_nil_of_length_eq_zero (by omega)) ac w ha hw
  · cases e
theorem ht_roNone {m : Nat} {xs : List α} {c : Code} (k : Pick (ro (roS none m xs)) L R) (h : xs = [] → HT P κ n L ρ c Q) : HT P κ n L ρ c Q := fun ac w ha hw => by
  have hs : SliceIn (hp w) none m xs := hw.ro k
  refine h ?_ ac w ha hw
  rcases Nat.eq_zero_or_pos m with e | e
  · exact List.eq_nil_of_length_eq_zero (by rw [hs.len, e])
  · obtain ⟨b, off, c, E, fr, e, _⟩ := hs.at_ e; cases e
end

theorem wal_Same (a1 a2 : Option Addr) (c1 c2 : Nat) (xs : List Wl.Rec) (hxs : xs.length ≤ 1000000) : Ctr Tryz.prog 9 #[.slice a1 xs.length c1, .slice a2 xs.length c2] [ro (roS a1 xs.length xs), ro (roS a2 xs.length xs)] (fun _ : Unit => .bool true) (fun _ => []) := by
 refine Z.fn Tryz.func9 Tryz.ntmps9 (fun κ F => ?_)
 refine Z.go 12 ?_
 refine Z.ne 0 12 (fun g1 => ?_) (fun g1 => ?_)
 ·(exfalso; first | omega | (simp at g1; done) | contradiction)
 ·first | (exfalso; first | omega | (simp at g1; done) | contradiction) | skip
  all_goals (
   refine Z.lo (fun q : Nat => ([ro (roS a1 xs.length xs), ro (roS a2 xs.length xs), pu (q ≤ xs.length), F], [(0, .slice a1 xs.length c1), (1, .slice a2 xs.length c2), (5, .int .i64 q)])) (fun q : Nat => xs.length - q) 0 ?_ (fun q => ?_)
   ·(first | dsimp only | skip)
    exact Ent.roD Z.p (Ent.roD Z.p (Ent.pu (by omega) Z.f))
   dsimp only
   refine ht_pick (A := pu (q ≤ xs.length)) Z.k (ht_pure fun hq => ?_)
   refine Z.go 6 ?_
   refine Z.lt 8 14 (fun g2 => ?_) (fun g2 => ?_)
   ·first | (exfalso; first | omega | (simp at g2; done) | contradiction) | skip
    all_goals (
     obtain ⟨x, hx⟩ : ∃ x, xs[q]? = some x := ⟨_, List.getElem?_eq_getElem (by omega)⟩
     refine ht_someS (α := Wl.Rec) (a := a1) (reads_ro Z.p) (by omega) (fun ab ao ha => ?_)
     refine ht_someS (α := Wl.Rec) (a := a2) (reads_ro Z.p) (by omega) (fun bb bo hb => ?_)
     refine ht_draw (.op 0 (.op 1 (.op 2 (.op 3 (.op 4 (.op 5 (.op 6 (.op 7 (.op 8 .done))))))))) [] Tryz.mixed rfl ?_
     refine Z.dr 2 ?_
     refine hd_ev rfl rfl rfl rfl (EvG.go rfl (ev_indexAddr rfl Tryz.underlying38 Tryz.ty71 (congrArg (fun z => some (Value.slice z xs.length c1)) ha) rfl (by omega) (by omega))) ?_
     refine Z.dA (hc := by exact cells_Sa ha (reads_ro Z.p) hx) ?_
     refine Z.dr 2 ?_
     refine hd_ev rfl rfl rfl rfl (EvG.go rfl (ev_indexAddr rfl Tryz.underlying38 Tryz.ty71 (congrArg (fun z => some (Value.slice z xs.length c2)) hb) rfl (by omega) (by omega))) ?_
     refine Z.dA (hc := by exact cells_Sa hb (reads_ro Z.p) hx) ?_
     refine hd_evb rfl rfl rfl rfl (EvG.go rfl (ev_neqRec (r := x) rfl rfl rfl)) (fun g3 => ?_) (fun g3 => ?_)
     ·(exfalso; first | omega | (simp at g3; done) | contradiction)
     ·first | (exfalso; first | omega | (simp at g3; done) | contradiction) | skip
      all_goals (
       refine hd_nil ?_
       refine Z.xg 7 ?_
       refine Z.ad 2 ?_
       refine Z.ag (q + 1) (by (first | dsimp only | skip); omega) ?_
       (first | dsimp only | skip)
       exact Ent.roD Z.p (Ent.roD Z.p (Ent.pu (by omega) Z.f))
      )
    )
   ·first | (exfalso; first | omega | (simp at g2; done) | contradiction) | skip
    all_goals (
     exact hx_ret1 (.inl rfl) rfl rfl () rfl Z.f
    )
  )
theorem wal_CloneB (a : Option Addr) (c : Nat) (xs : List UInt8) (hxs : xs.length ≤ 1099511627776) : Ctr Tryz.prog 39 #[.slice a xs.length c] [ro (roS a xs.length xs)] (fun q : Option Addr × Nat => .slice q.1 xs.length q.2) (fun q => [ownS 5 q.1 xs.length q.2 xs]) := by
 refine Z.fn Tryz.func39 Tryz.ntmps39 (fun κ F => ?_)
 rcases a with _ | a0
 ·skip
  refine ht_roNone Z.p (fun hnil => ?_)
  subst hnil
  refine Z.go 9 ?_
  refine Z.ev (ev_sliceNil rfl Tryz.underlying73 rfl rfl rfl) 2 ?_
  refine Z.bc 4 8 0 (fun g1 => ?_) (fun g1 => ?_)
  ·first | (exfalso; first | omega | (simp at g1; done) | contradiction) | skip
   all_goals (
    refine hx_ent (ownS_nil (α := UInt8) 5) ?_
    exact hx_ret1 (.inl rfl) rfl rfl (none, 0) rfl (Ent.cons Z.k Z.f)
   )
  ·(exfalso; first | omega | (simp at g1; done) | contradiction)
 ·skip
  refine Z.go 9 ?_
  refine Z.ev (ev_sliceNil rfl Tryz.underlying73 rfl rfl rfl) 2 ?_
  refine Z.bc 4 0 5 (fun g1 => ?_) (fun g1 => ?_)
  ·(exfalso; first | omega | (simp at g1; done) | contradiction)
  ·first | (exfalso; first | omega | (simp at g1; done) | contradiction) | skip
   all_goals (
    refine Z.ef (eff_buildAll (α := UInt8) [] rfl Tryz.underlying73 Tryz.ty5 .nil .nil rfl (Nat.le_of_ble_eq_true rfl)) 1 (fun b5 => ?_)
    refine Z.ef (eff_append (α := UInt8) rfl Tryz.underlying73 Tryz.ty5 rfl (by decide) Tryz.underlying73 rfl rfl Z.p (by first | exact reads_ro Z.p | exact reads_own Z.p | exact reads_nil _) (by first | omega | (simp only [List.length_append, List.length_cons, List.length_nil, List.length_drop, List.length_take]; omega) | (simp; omega))) 4 (fun p7 => ?_)
    rw [List.nil_append]
    exact hx_ret1 (.inl rfl) rfl rfl p7 rfl (Ent.cons Z.k Z.f)
   )
theorem wal_CloneS (a : Option Addr) (c : Nat) (xs : List Wl.Seg) (hxs : xs.length ≤ 1000000) : Ctr Tryz.prog 38 #[.slice a xs.length c] [ownS 79 a xs.length c xs] (fun q : Option Addr × Nat => .slice q.1 xs.length q.2) (fun q => [ownS 79 a xs.length c xs, ownS 79 q.1 xs.length q.2 xs]) := by
 refine Z.fn Tryz.func38 Tryz.ntmps38 (fun κ F => ?_)
 rcases a with _ | a0
 ·skip
  refine ht_ownNone (α := Wl.Seg) Z.p (fun hnil => ?_)
  subst hnil
  refine Z.go 9 ?_
  refine Z.ev (ev_sliceNil rfl Tryz.underlying72 rfl rfl rfl) 2 ?_
  refine Z.bc 4 8 0 (fun g1 => ?_) (fun g1 => ?_)
  ·first | (exfalso; first | omega | (simp at g1; done) | contradiction) | skip
   all_goals (
    refine hx_ent (ownS_nil (α := Wl.Seg) 79) ?_
    exact hx_ret1 (.inl rfl) rfl rfl (none, 0) rfl (Ent.cons (.there .here) (Ent.cons .here Z.f))
   )
  ·(exfalso; first | omega | (simp at g1; done) | contradiction)
 ·skip
  refine Z.go 9 ?_
  refine Z.ev (ev_sliceNil rfl Tryz.underlying72 rfl rfl rfl) 2 ?_
  refine Z.bc 4 0 5 (fun g1 => ?_) (fun g1 => ?_)
  ·(exfalso; first | omega | (simp at g1; done) | contradiction)
  ·first | (exfalso; first | omega | (simp at g1; done) | contradiction) | skip
   all_goals (
    refine Z.ef (eff_buildAll (α := Wl.Seg) [] rfl Tryz.underlying72 Tryz.ty79 .nil .nil rfl (Nat.le_of_ble_eq_true rfl)) 1 (fun b5 => ?_)
    refine Z.ef (eff_append (α := Wl.Seg) rfl Tryz.underlying72 Tryz.ty79 rfl (by decide) Tryz.underlying72 rfl rfl Z.p (by first | exact reads_ro Z.p | exact reads_own Z.p | exact reads_nil _) (by first | omega | (simp only [List.length_append, List.length_cons, List.length_nil, List.length_drop, List.length_take]; omega) | (simp; omega))) 4 (fun p7 => ?_)
    rw [List.nil_append]
    exact hx_ret1 (.inl rfl) rfl rfl p7 rfl (Ent.cons Z.k (Ent.cons Z.k Z.f))
   )
theorem wal_used1 (b3 : Nat) (x : Wl.Seg) (i : Int) : Ctr Tryz.prog 49 #[segV x, .pointer (some ⟨b3, 0, none⟩)] [pt b3 (.cells #[.int .i64 i] 3 (0, 0))] (fun _ : Unit => .bool (decide ((x.place : Int) = i))) (fun _ => [pt b3 (.cells #[.int .i64 i] 3 (0, 0))]) := by
 refine Z.fn Tryz.func49 Tryz.ntmps49 (fun κ F => ?_)
 refine Z.go 2 ?_
 refine Z.bA 6 (fun b2 => ?_)
 refine Z.ld 0 ?_
 refine Z.ld 0 ?_
 refine Z.eq 4 4 (fun g7 => ?_) (fun g7 => ?_)
 ·first | (exfalso; first | omega | (simp at g7; done) | contradiction) | skip
  all_goals (
   exact hx_ret1 (.inl rfl) rfl rfl () (by congr 1; symm; simpa using g7) (Ent.cons Z.k Z.f)
  )
 ·first | (exfalso; first | omega | (simp at g7; done) | contradiction) | skip
  all_goals (
   exact hx_ret1 (.inl rfl) rfl rfl () (by congr 1; symm; simpa using g7) (Ent.cons Z.k Z.f)
  )
theorem wal_IndexS (a : Option Addr) (c : Nat) (xs : List Wl.Seg) (b3 : Nat) (i : Int) (hxs : xs.length ≤ 1000000) : Ctr Tryz.prog 73 #[.slice a xs.length c, .func (.func 49) #[] #[.pointer (some ⟨b3, 0, none⟩)]] [ownS 79 a xs.length c xs, pt b3 (.cells #[.int .i64 i] 3 (0, 0))] (fun v : Int => .int .i64 v) (fun v => [ownS 79 a xs.length c xs, pt b3 (.cells #[.int .i64 i] 3 (0, 0)), pu (decide (0 ≤ v) = Wl.has xs i)]) := by
 refine Z.fn Tryz.func73 Tryz.ntmps73 (fun κ F => ?_)
 refine Z.go 14 ?_
 refine Z.lo (fun q : Nat => ([ownS 79 a xs.length c xs, pt b3 (.cells #[.int .i64 i] 3 (0, 0)), pu (Wl.has (xs.take q) i = false ∧ q ≤ xs.length), F], [(0, .slice a xs.length c), (1, .func (.func 49) #[] #[.pointer (some ⟨b3, 0, none⟩)]), (7, .int .i64 xs.length), (8, .int .i64 q)])) (fun q : Nat => xs.length - q) 0 ?_ (fun q => ?_)
 ·(first | dsimp only | skip)
  exact Ent.cons Z.k (Ent.cons Z.k (Ent.pu ⟨rfl, by omega⟩ Z.f))
 dsimp only
 refine ht_pick (A := pu (Wl.has (xs.take q) i = false ∧ q ≤ xs.length)) Z.k (ht_pure fun hq => ?_)
 obtain ⟨hnf, hq⟩ := hq
 refine Z.go 2 ?_
 refine Z.lt 15 15 (fun g1 => ?_) (fun g1 => ?_)
 ·first | (exfalso; first | omega | (simp at g1; done) | contradiction) | skip
  all_goals (
   obtain ⟨x, hx⟩ : ∃ x, xs[q]? = some x := ⟨_, List.getElem?_eq_getElem (by omega)⟩
   refine ht_someS (α := Wl.Seg) (a := a) (reads_own Z.p) (by omega) (fun ab ao ha => ?_)
   refine Z.go 4 ?_
   refine Z.ev (ev_indexAddr rfl Tryz.underlying72 Tryz.ty79 (congrArg (fun z => some (Value.slice z xs.length c)) ha) rfl (by omega) (by omega)) 0 ?_
   refine Z.la (hc := by exact cells_Sa ha (reads_own Z.p) hx) 0 ?_
   refine Z.cd (c := wal_used1 b3 x i) 2 (fun _ => ?_)
   refine Z.bc 16 13 5 (fun g16 => ?_) (fun g16 => ?_)
   ·first | (exfalso; first | omega | (simp at g16; done) | contradiction) | skip
    all_goals (
     exact hx_ret1 (.inl rfl) rfl rfl ((q : Int)) rfl (Ent.cons Z.k (Ent.cons Z.k (Ent.pu (by rw [Wl.has_here hx (by simpa using g16)]; simp) Z.f)))
    )
   ·first | (exfalso; first | omega | (simp at g16; done) | contradiction) | skip
    all_goals (
     refine Z.ad 2 ?_
     refine Z.ag (q + 1) (by (first | dsimp only | skip); omega) ?_
     (first | dsimp only | skip)
     exact Ent.cons Z.k (Ent.cons Z.k (Ent.pu ⟨Wl.has_step hnf hx (by simpa using g16), by omega⟩ Z.f))
    )
  )
 ·first | (exfalso; first | omega | (simp at g1; done) | contradiction) | skip
  all_goals (
   have hqq : q = xs.length := by omega
   subst hqq
   exact hx_ret1 (.inl rfl) rfl rfl (-1) rfl (Ent.cons Z.k (Ent.cons Z.k (Ent.pu (by rw [Wl.has_none hnf]; rfl) Z.f)))
  )
theorem wal_ContainsS (a : Option Addr) (c : Nat) (xs : List Wl.Seg) (b3 : Nat) (i : Int) (hxs : xs.length ≤ 1000000) : Ctr Tryz.prog 48 #[.slice a xs.length c, .func (.func 49) #[] #[.pointer (some ⟨b3, 0, none⟩)]] [ownS 79 a xs.length c xs, pt b3 (.cells #[.int .i64 i] 3 (0, 0))] (fun _ : Unit => .bool (Wl.has xs i)) (fun _ => [ownS 79 a xs.length c xs, pt b3 (.cells #[.int .i64 i] 3 (0, 0))]) := by
 refine Z.fn Tryz.func48 Tryz.ntmps48 (fun κ F => ?_)
 refine Z.go 9 ?_
 refine Z.cd (c := wal_IndexS a c xs b3 i hxs) 0 (fun v => ?_)
 refine ho_pick (A := pu (decide (0 ≤ v) = Wl.has xs i)) Z.k (ho_pure fun hv => ?_)
 refine Z.ge 4 4 (fun g8 => ?_) (fun g8 => ?_)
 ·first | (exfalso; first | omega | (simp at g8; done) | contradiction) | skip
  all_goals (
   exact hx_ret1 (.inl rfl) rfl rfl () (by rw [← hv]; congr 1; symm; simpa using g8) (Ent.cons Z.k (Ent.cons Z.k Z.f))
  )
 ·first | (exfalso; first | omega | (simp at g8; done) | contradiction) | skip
  all_goals (
   exact hx_ret1 (.inl rfl) rfl rfl () (by rw [← hv]; congr 1; symm; simpa using g8) (Ent.cons Z.k (Ent.cons Z.k Z.f))
  )
theorem wal_used (p : Nat) (g : LG) (i : Int) (hl : g.live.length ≤ 1000000) : Ctr Tryz.prog 29 #[.pointer (some ⟨p, 0, none⟩), .int .i64 i] [LogAt p g] (fun _ : Unit => .bool (Wl.has g.live i)) (fun _ => [LogAt p g]) := by
 refine Z.fn Tryz.func29 Tryz.ntmps29 (fun κ F => ?_)
 refine ht_log Z.p (fun x hx => ?_)
 refine Z.go 2 ?_
 refine Z.b1 8 (fun b3 => ?_)
 refine Z.ld 1 ?_
 refine Z.cd (c := wal_ContainsS x.la x.lc g.live b3 i hl) 4 (fun _ => ?_)
 exact hx_ret1 (.inl rfl) rfl rfl () rfl (Ent.log (g := g) (x := x) Z.d rfl rfl rfl rfl rfl rfl rfl rfl rfl rfl hx Z.f)
theorem wal_Last (p : Nat) (g : LG) : Ctr Tryz.prog 20 #[.pointer (some ⟨p, 0, none⟩)] [LogAt p g] (fun _ : Unit => .int .u64 ((g.last : Nat) : Int)) (fun _ => [LogAt p g]) := by
 refine Z.fn Tryz.func20 Tryz.ntmps20 (fun κ F => ?_)
 refine ht_log Z.p (fun x hx => ?_)
 refine Z.go 10 ?_
 refine Z.ld 4 ?_
 exact hx_ret1 (.inl rfl) rfl rfl () rfl (Ent.log (g := g) (x := x) Z.d rfl rfl rfl rfl rfl rfl rfl rfl rfl rfl hx Z.f)
theorem wal_Live (p : Nat) (g : LG) : Ctr Tryz.prog 21 #[.pointer (some ⟨p, 0, none⟩)] [LogAt p g] (fun _ : Unit => .int .i64 (g.live.length : Int)) (fun _ => [LogAt p g]) := by
 refine Z.fn Tryz.func21 Tryz.ntmps21 (fun κ F => ?_)
 refine ht_log Z.p (fun x hx => ?_)
 refine Z.go 10 ?_
 refine Z.ld 5 ?_
 exact hx_ret1 (.inl rfl) rfl rfl () rfl (Ent.log (g := g) (x := x) Z.d rfl rfl rfl rfl rfl rfl rfl rfl rfl rfl hx Z.f)
theorem wal_Synced (p : Nat) (g : LG) : Ctr Tryz.prog 22 #[.pointer (some ⟨p, 0, none⟩)] [LogAt p g] (fun _ : Unit => .int .u64 ((g.synced : Nat) : Int)) (fun _ => [LogAt p g]) := by
 refine Z.fn Tryz.func22 Tryz.ntmps22 (fun κ F => ?_)
 refine ht_log Z.p (fun x hx => ?_)
 refine Z.go 10 ?_
 refine Z.ld 4 ?_
 exact hx_ret1 (.inl rfl) rfl rfl () rfl (Ent.log (g := g) (x := x) Z.d rfl rfl rfl rfl rfl rfl rfl rfl rfl rfl hx Z.f)
theorem wal_Sync (p : Nat) (g : LG) (d : Dk.Disk) : Ctr Tryz.prog 15 #[.pointer (some ⟨p, 0, none⟩)] [LogAt p g, DiskAt g.dk d] (fun _ : Unit => .tuple #[]) (fun _ => [LogAt p { g with synced := g.last }, DiskAt g.dk d.sync]) := by
 refine Z.fn Tryz.func15 Tryz.ntmps15 (fun κ F => ?_)
 refine ht_log Z.p (fun x hx => ?_)
 refine Z.go 5 ?_
 refine Z.ld 0 ?_
 refine Z.cd (c := disk_Sync g.dk d) 7 (fun _ => ?_)
 refine Z.ld 2 ?_
 refine Z.s1 1 ?_
 exact hx_ret0 (.inr rfl) rfl () rfl (Ent.log (g := { g with synced := g.last }) (x := x) Z.d rfl rfl rfl rfl rfl rfl rfl rfl rfl rfl hx (Ent.cons Z.k Z.f))
theorem wal_free (p : Nat) (g : LG) (d : Dk.Disk) (i o : Nat) (hm : (i : Int) * (g.size : Int) = (o : Int)) (hat : 0 ≤ g.at_ ∧ g.at_ + (o : Int) + (g.size : Int) ≤ 65536) (hsz : g.size ≤ 64) (hp : d.pend.length ≤ 1000000) : Ctr Tryz.prog 30 #[.pointer (some ⟨p, 0, none⟩), .int .i64 (i : Int)] [LogAt p g, DiskAt g.dk d] (fun _ : Unit => .tuple #[]) (fun _ => [LogAt p g, DiskAt g.dk (Wl.freeAll d (g.at_ + (o : Int)) g.size)]) := by
 refine Z.fn Tryz.func30 Tryz.ntmps30 (fun κ F => ?_)
 refine ht_log Z.p (fun x hx => ?_)
 refine Z.go 5 ?_
 refine Z.ld 4 ?_
 refine Z.lo (fun q : Nat => ([pt p (.cells (lgCells g x) 75 (0, 0)), ownS 79 x.la g.live.length x.lc g.live, ro (roS x.sa g.stream.length g.stream), DiskAt g.dk (Wl.freeAll d (g.at_ + (o : Int)) q), pu (q ≤ g.size), F], [(0, .pointer (some ⟨p, 0, none⟩)), (1, .int .i64 (i : Int)), (8, .int .i64 (g.size : Int)), (9, .int .i64 q)])) (fun q : Nat => g.size - q) 0 ?_ (fun q => ?_)
 ·(first | dsimp only | skip)
  exact Ent.cons Z.k (Ent.cons Z.k (Ent.roD Z.p (Ent.cons Z.k (Ent.pu (by omega) Z.f))))
 dsimp only
 refine ht_pick (A := pu (q ≤ g.size)) Z.k (ht_pure fun hq => ?_)
 have hpl := Wl.freeAll_pend d (g.at_ + (o : Int)) q
 refine Z.go 2 ?_
 refine Z.lt 14 8 (fun g1 => ?_) (fun g1 => ?_)
 ·first | (exfalso; first | omega | (simp at g1; done) | contradiction) | skip
  all_goals (
   refine ht_draw (.op 0 (.op 1 (.op 2 (.op 3 (.op 4 (.op 5 (.op 6 (.op 7 (.op 8 (.op 9 (.op 10 (.op 11 (.op 12 (.op 13 (.op 14 (.op 15 (.op 16 (.op 17 .done)))))))))))))))))) [17] Tryz.mixed rfl ?_
   refine Z.dr 3 ?_
   refine Z.dl ?_
   refine Z.dr 3 ?_
   refine Z.dl ?_
   refine Z.dr 4 ?_
   refine Z.dl ?_
   refine hd_ev rfl rfl rfl rfl (EvG.go rfl (ev_mul (r := (o : Int)) rfl rfl rfl (by rw [hm]; exact in_i64 (by omega)))) ?_
   refine hd_ev rfl rfl rfl rfl (EvG.go rfl (ev_add rfl rfl rfl (by first | exact in_i64 (by omega) | rfl | exact IntWalk.u64_in _ (by omega)))) ?_
   refine Z.dr 1 ?_
   refine hd_ev rfl rfl rfl rfl (EvG.go rfl (ev_add rfl rfl rfl (by first | exact in_i64 (by omega) | rfl | exact IntWalk.u64_in _ (by omega)))) ?_
   refine Z.dd (c := disk_Free g.dk (Wl.freeAll d (g.at_ + (o : Int)) q) (g.at_ + (o : Int) + (q : Int)) (by omega)) (fun _ => ?_)
   refine hd_nil ?_
   refine Z.xg 3 ?_
   refine Z.ad 2 ?_
   refine Z.ag (q + 1) (by (first | dsimp only | skip); omega) ?_
   (first | dsimp only | skip)
   exact Ent.cons Z.k (Ent.cons Z.k (Ent.roD Z.p (Ent.cons Z.k (Ent.pu (by omega) Z.f))))
  )
 ·first | (exfalso; first | omega | (simp at g1; done) | contradiction) | skip
  all_goals (
   have hqq : q = g.size := by omega
   subst hqq
   exact hx_ret0 (.inr rfl) rfl () rfl (Ent.log (g := g) (x := x) Z.d rfl rfl rfl rfl rfl rfl rfl rfl rfl rfl hx (Ent.cons Z.k Z.f))
  )
theorem wal_bytes (p : Nat) (g : LG) (d : Dk.Disk) (i o : Nat) (hm : (i : Int) * (g.size : Int) = (o : Int)) (hat : 0 ≤ g.at_ ∧ g.at_ + (o : Int) + (g.size : Int) ≤ 65536) (hsz : g.size ≤ 64) : Ctr Tryz.prog 45 #[.pointer (some ⟨p, 0, none⟩), .int .i64 (i : Int)] [LogAt p g, DiskAt g.dk d] (fun q : Option Addr × Nat => .slice q.1 (Wl.segBytes d.view (g.at_ + (o : Int)) g.size).length q.2) (fun q => [LogAt p g, DiskAt g.dk d, ro (roS q.1 (Wl.segBytes d.view (g.at_ + (o : Int)) g.size).length (Wl.segBytes d.view (g.at_ + (o : Int)) g.size)), pu ((Wl.segBytes d.view (g.at_ + (o : Int)) g.size).length ≤ q.2)]) := by
 refine Z.fn Tryz.func45 Tryz.ntmps45 (fun κ F => ?_)
 refine ht_log Z.p (fun x hx => ?_)
 refine ht_dkOkW Z.p (fun hok => ?_)
 refine Z.go 16 ?_
 refine Z.ld 4 ?_
 refine Z.lo (fun q : Nat × List UInt8 × Option Addr × Nat => ([pt p (.cells (lgCells g x) 75 (0, 0)), ownS 79 x.la g.live.length x.lc g.live, ro (roS x.sa g.stream.length g.stream), DiskAt g.dk d, ownS 5 q.2.2.1 q.2.1.length q.2.2.2 q.2.1, pu (q.2.1 ++ Wl.segBytes d.view (g.at_ + (o : Int) + (q.1 : Int)) (g.size - q.1) = (Wl.segBytes d.view (g.at_ + (o : Int)) g.size) ∧ q.1 ≤ g.size ∧ q.2.1.length ≤ 512 * q.1), F], [(0, .pointer (some ⟨p, 0, none⟩)), (1, .int .i64 (i : Int)), (5, .slice q.2.2.1 q.2.1.length q.2.2.2), (12, .int .i64 (g.size : Int)), (13, .int .i64 q.1)])) (fun q : Nat × List UInt8 × Option Addr × Nat => g.size - q.1) (0, [], none, 0) ?_ (fun q => ?_)
 ·(first | dsimp only | skip)
  refine (ownS_nil (α := UInt8) 5).trans ?_
  exact Ent.cons Z.k (Ent.cons Z.k (Ent.roD Z.p (Ent.cons Z.k (Ent.cons Z.k (Ent.pu ⟨by simp, by omega, by simp⟩ Z.f)))))
 obtain ⟨q, out, ad, cp⟩ := q
 dsimp only
 refine ht_pick (A := pu (out ++ Wl.segBytes d.view (g.at_ + (o : Int) + (q : Int)) (g.size - q) = (Wl.segBytes d.view (g.at_ + (o : Int)) g.size) ∧ q ≤ g.size ∧ out.length ≤ 512 * q)) Z.k (ht_pure fun hq => ?_)
 obtain ⟨hinv, hq, hol⟩ := hq
 refine Z.go 2 ?_
 refine Z.lt 15 16 (fun g1 => ?_) (fun g1 => ?_)
 ·first | (exfalso; first | omega | (simp at g1; done) | contradiction | (rw [hv] at *; cases g1; done)) | skip
  all_goals (
   refine ht_draw (.op 0 (.op 1 (.op 2 (.op 3 (.op 4 (.op 5 (.op 6 (.op 7 (.op 8 (.op 9 (.op 10 (.op 11 (.op 12 (.op 13 (.op 14 (.op 15 (.op 16 (.op 17 (.op 18 (.op 19 (.op 20 (.op 21 (.op 22 .done))))))))))))))))))))))) [17] Tryz.mixed rfl ?_
   refine Z.dr 3 ?_
   refine Z.dl ?_
   refine Z.dr 3 ?_
   refine Z.dl ?_
   refine Z.dr 4 ?_
   refine Z.dl ?_
   refine hd_ev rfl rfl rfl rfl (EvG.go rfl (ev_mul (r := (o : Int)) rfl rfl rfl (by rw [hm]; exact in_i64 (by omega)))) ?_
   refine hd_ev rfl rfl rfl rfl (EvG.go rfl (ev_add rfl rfl rfl (by first | exact in_i64 (by omega) | rfl | exact IntWalk.u64_in _ (by omega)))) ?_
   refine Z.dr 1 ?_
   refine hd_ev rfl rfl rfl rfl (EvG.go rfl (ev_add rfl rfl rfl (by first | exact in_i64 (by omega) | rfl | exact IntWalk.u64_in _ (by omega)))) ?_
   rcases hv : d.view (g.at_ + (o : Int) + (q : Int)) with _ | s
   ·skip
    refine Z.dd (c := disk_Read_no g.dk d (g.at_ + (o : Int) + (q : Int)) hv) (fun _ => ?_)
    refine Z.dr 5 ?_
    refine hd_nil ?_
    refine Z.xg 5 ?_
    refine Z.ne 17 9 (fun g2 => ?_) (fun g2 => ?_)
    ·first | (exfalso; first | omega | (simp at g2; done) | contradiction | (rw [hv] at *; cases g2; done)) | skip
     all_goals (
      have hb0 : Wl.segBytes d.view (g.at_ + (o : Int) + (q : Int)) (g.size - q) = [] := Wl.segBytes_none hv
      rw [hb0, List.append_nil] at hinv
      refine hx_cap (xs := out) Z.k (fun hl hcap => ?_)
      refine hx_freezeS (xs := out) Z.k ?_
      rw [hinv] at hl hcap ⊢
      exact hx_ret1 (.inl rfl) rfl rfl (ad, cp) rfl (Ent.log (g := g) (x := x) Z.d rfl rfl rfl rfl rfl rfl rfl rfl rfl rfl hx (Ent.cons Z.k (Ent.roD Z.k (Ent.pu hcap Z.f))))
     )
    ·first | (exfalso; first | omega | (simp at g2; done) | contradiction | (rw [hv] at *; cases g2; done)) | skip
     all_goals (
      refine Z.ef (eff_append (α := UInt8) rfl Tryz.underlying73 Tryz.ty5 rfl (by decide) Tryz.underlying73 rfl rfl Z.p (by first | exact reads_ro Z.p | exact reads_own Z.p | exact reads_nil _) (by first | omega | (simp only [List.length_append, List.length_cons, List.length_nil, List.length_drop, List.length_take]; omega) | (simp; omega))) 7 (fun p41 => ?_)
      refine Z.lt 16 7 (fun g44 => ?_) (fun g44 => ?_)
      ·first | (exfalso; first | omega | (simp at g44; done) | contradiction | (rw [hv] at *; cases g44; done)) | skip
       all_goals (
        rw [show g.size - q = g.size - (q + 1) + 1 by omega, Wl.segBytes_short hv (by omega)] at hinv
        refine hx_cap (xs := out ++ s) Z.k (fun hl hcap => ?_)
        refine hx_freezeS (xs := out ++ s) Z.k ?_
        rw [hinv] at hl hcap ⊢
        exact hx_ret1 (.inl rfl) rfl rfl p41 rfl (Ent.log (g := g) (x := x) Z.d rfl rfl rfl rfl rfl rfl rfl rfl rfl rfl hx (Ent.cons Z.k (Ent.roD Z.k (Ent.pu hcap Z.f))))
       )
      ·first | (exfalso; first | omega | (simp at g44; done) | contradiction | (rw [hv] at *; cases g44; done)) | skip
       all_goals (
        refine Z.ad 2 ?_
        refine Z.ag (q + 1, out ++ s, p41.1, p41.2) (by (first | dsimp only | skip); omega) ?_
        (first | dsimp only | skip)
        exact Ent.cons Z.k (Ent.cons Z.k (Ent.roD Z.p (Ent.cons Z.k (Ent.cons Z.k (Ent.pu ⟨by rw [← hinv, show g.size - q = g.size - (q + 1) + 1 by omega, Wl.segBytes_long hv (by omega), List.append_assoc, show g.at_ + (o : Int) + ((q + 1 : Nat) : Int) = g.at_ + (o : Int) + (q : Int) + 1 by omega], by omega, by rw [List.length_append]; omega⟩ Z.f)))))
       )
     )
   ·skip
    refine Z.dd (c := disk_Read g.dk d (g.at_ + (o : Int) + (q : Int)) s hv) (fun y => ?_)
    have hsl : s.length ≤ 512 := hok.view _ _ hv
    refine Z.dr 5 ?_
    refine hd_nil ?_
    refine Z.xg 5 ?_
    refine Z.ne 17 9 (fun g3 => ?_) (fun g3 => ?_)
    ·first | (exfalso; first | omega | (simp at g3; done) | contradiction | (rw [hv] at *; cases g3; done)) | skip
     all_goals (
      have hb0 : Wl.segBytes d.view (g.at_ + (o : Int) + (q : Int)) (g.size - q) = [] := Wl.segBytes_none hv
      rw [hb0, List.append_nil] at hinv
      refine hx_cap (xs := out) Z.k (fun hl hcap => ?_)
      refine hx_freezeS (xs := out) Z.k ?_
      rw [hinv] at hl hcap ⊢
      exact hx_ret1 (.inl rfl) rfl rfl (ad, cp) rfl (Ent.log (g := g) (x := x) Z.d rfl rfl rfl rfl rfl rfl rfl rfl rfl rfl hx (Ent.cons Z.k (Ent.roD Z.k (Ent.pu hcap Z.f))))
     )
    ·first | (exfalso; first | omega | (simp at g3; done) | contradiction | (rw [hv] at *; cases g3; done)) | skip
     all_goals (
      refine Z.ef (eff_append (α := UInt8) rfl Tryz.underlying73 Tryz.ty5 rfl (by decide) Tryz.underlying73 rfl rfl Z.p (by first | exact reads_ro Z.p | exact reads_own Z.p | exact reads_nil _) (by first | omega | (simp only [List.length_append, List.length_cons, List.length_nil, List.length_drop, List.length_take]; omega) | (simp; omega))) 7 (fun p41 => ?_)
      refine Z.lt 16 7 (fun g44 => ?_) (fun g44 => ?_)
      ·first | (exfalso; first | omega | (simp at g44; done) | contradiction | (rw [hv] at *; cases g44; done)) | skip
       all_goals (
        rw [show g.size - q = g.size - (q + 1) + 1 by omega, Wl.segBytes_short hv (by omega)] at hinv
        refine hx_cap (xs := out ++ s) Z.k (fun hl hcap => ?_)
        refine hx_freezeS (xs := out ++ s) Z.k ?_
        rw [hinv] at hl hcap ⊢
        exact hx_ret1 (.inl rfl) rfl rfl p41 rfl (Ent.log (g := g) (x := x) Z.d rfl rfl rfl rfl rfl rfl rfl rfl rfl rfl hx (Ent.cons Z.k (Ent.roD Z.k (Ent.pu hcap Z.f))))
       )
      ·first | (exfalso; first | omega | (simp at g44; done) | contradiction | (rw [hv] at *; cases g44; done)) | skip
       all_goals (
        refine Z.ad 2 ?_
        refine Z.ag (q + 1, out ++ s, p41.1, p41.2) (by (first | dsimp only | skip); omega) ?_
        (first | dsimp only | skip)
        exact Ent.cons Z.k (Ent.cons Z.k (Ent.roD Z.p (Ent.cons Z.k (Ent.cons Z.k (Ent.pu ⟨by rw [← hinv, show g.size - q = g.size - (q + 1) + 1 by omega, Wl.segBytes_long hv (by omega), List.append_assoc, show g.at_ + (o : Int) + ((q + 1 : Nat) : Int) = g.at_ + (o : Int) + (q : Int) + 1 by omega], by omega, by rw [List.length_append]; omega⟩ Z.f)))))
       )
     )
  )
 ·first | (exfalso; first | omega | (simp at g1; done) | contradiction | (rw [hv] at *; cases g1; done)) | skip
  all_goals (
   rw [show g.size - q = 0 by omega] at hinv
   rw [show Wl.segBytes d.view (g.at_ + (o : Int) + (q : Int)) 0 = [] from rfl, List.append_nil] at hinv
   refine hx_cap (xs := out) Z.k (fun hl hcap => ?_)
   refine hx_freezeS (xs := out) Z.k ?_
   rw [hinv] at hl hcap ⊢
   exact hx_ret1 (.inl rfl) rfl rfl (ad, cp) rfl (Ent.log (g := g) (x := x) Z.d rfl rfl rfl rfl rfl rfl rfl rfl rfl rfl hx (Ent.cons Z.k (Ent.roD Z.k (Ent.pu hcap Z.f))))
  )
theorem rec_Scan1 (b2 b3 : Nat) (x : Wl.Rec) (n m : Int) (a : Option Addr) (c : Nat) (xs : List Wl.Rec) (hxs : xs.length ≤ 1000000) (hn : 0 ≤ n ∧ n ≤ 1000000) (hm : 0 ≤ m ∧ m ≤ 1000000) : Ctr Tryz.prog 72 #[recV x, .int .i64 n, .pointer (some ⟨b2, 0, none⟩), .pointer (some ⟨b3, 0, none⟩)] [pt b2 (.cells #[.slice a xs.length c] 38 (0, 0)), pt b3 (.cells #[.int .i64 m] 3 (0, 0)), ownS 71 a xs.length c xs] (fun _ : Option Addr × Nat => .tuple #[]) (fun q => [pt b2 (.cells #[.slice q.1 (xs ++ [x]).length q.2] 38 (0, 0)), pt b3 (.cells #[.int .i64 (m + n)] 3 (0, 0)), ownS 71 q.1 (xs ++ [x]).length q.2 (xs ++ [x])]) := by
 refine Z.fn Tryz.func72 Tryz.ntmps72 (fun κ F => ?_)
 refine Z.go 2 ?_
 refine Z.bA 2 (fun b4 => ?_)
 refine ht_draw (.op 0 (.op 1 (.op 4 (.op 5 (.op 6 (.op 2 (.op 3 (.op 7 (.op 8 .done))))))))) [2, 3, 7, 8] Tryz.mixed rfl ?_
 refine Z.dl ?_
 refine Z.dA ?_
 refine Z.dl ?_
 refine Z.dr 1 ?_
 refine hd_ev rfl rfl rfl rfl (EvG.go rfl (ev_add rfl rfl rfl (by first | exact in_i64 (by omega) | rfl | exact IntWalk.u64_in _ (by omega)))) ?_
 refine Z.de rfl (eff_buildAll (α := Wl.Rec) [x] rfl Tryz.underlying38 Tryz.ty71 (.cons rfl .nil) (.cons rfl .nil) rfl (Nat.le_of_ble_eq_true rfl)) (fun b8 => ?_)
 refine Z.de rfl (eff_append (α := Wl.Rec) rfl Tryz.underlying38 Tryz.ty71 rfl (by decide) Tryz.underlying38 rfl rfl Z.p (by first | exact reads_ro Z.p | exact reads_own Z.p | exact reads_nil _) (by first | omega | (simp only [List.length_append, List.length_cons, List.length_nil, List.length_drop, List.length_take]; omega) | (simp; omega))) (fun p9 => ?_)
 refine Z.d1 ?_
 refine Z.d1 ?_
 refine hd_nil ?_
 exact hx_ret0 (.inr rfl) rfl p9 rfl (Ent.cons Z.k (Ent.cons Z.k (Ent.cons Z.k Z.f)))
theorem rec_Scan (a : Option Addr) (c : Nat) (b : List UInt8) (first : Nat) (hc : b.length ≤ c) (hb : b.length ≤ 100000) (hf : first < 18446744073709551616) : Ctr Tryz.prog 47 #[.slice a b.length c, .int .u64 (first : Int)] [ro (roS a b.length b)] (fun q : Option Addr × Nat × Nat => .tuple #[.slice q.1 (Wl.scan b.length b first).length q.2.1, .int .i64 (q.2.2 : Int)]) (fun q => [ro (roS q.1 (Wl.scan b.length b first).length (Wl.scan b.length b first))]) := by
 refine Z.fn Tryz.func47 Tryz.ntmps47 (fun κ F => ?_)
 refine Z.go 8 ?_
 refine Z.al 4 (fun b6 => ?_)
 refine Z.al 0 (fun b7 => ?_)
 refine Z.s1 17 ?_
 refine Z.lo (fun q : Nat × Nat × List Wl.Rec × Option Addr × Nat => ([pt b6 (.cells #[.slice q.2.2.2.1 q.2.2.1.length q.2.2.2.2] 38 (0, 0)), pt b7 (.cells #[.int .i64 (q.2.1 : Int)] 3 (0, 0)), ownS 71 q.2.2.2.1 q.2.2.1.length q.2.2.2.2 q.2.2.1, ro (roS a b.length b), pu (q.2.2.1 ++ Wl.scan (b.length - q.1) (b.drop q.2.1) (first + q.1) = Wl.scan b.length b first ∧ q.1 ≤ b.length ∧ q.2.1 ≤ b.length ∧ q.2.2.1.length ≤ q.1), F], [(0, .slice a b.length c), (1, .int .u64 (first : Int)), (6, .pointer (some ⟨b6, 0, none⟩)), (7, .pointer (some ⟨b7, 0, none⟩)), (8, .func (.func 72) #[] #[.pointer (some ⟨b6, 0, none⟩), .pointer (some ⟨b7, 0, none⟩)]), (15, .int .i64 b.length), (16, .int .i64 q.1)])) (fun q : Nat × Nat × List Wl.Rec × Option Addr × Nat => b.length - q.1) (0, 0, [], none, 0) ?_ (fun q => ?_)
 ·(first | dsimp only | skip)
  refine (ownS_nil (α := Wl.Rec) 71).trans ?_
  exact Ent.cons Z.k (Ent.cons Z.k (Ent.cons Z.k (Ent.roD Z.p (Ent.pu ⟨rfl, by omega, by omega, by simp⟩ Z.f))))
 obtain ⟨i, t, acc, ad, cp⟩ := q
 dsimp only
 refine ht_pick (A := pu (acc ++ Wl.scan (b.length - i) (b.drop t) (first + i) = Wl.scan b.length b first ∧ i ≤ b.length ∧ t ≤ b.length ∧ acc.length ≤ i)) Z.k (ht_pure fun hq => ?_)
 obtain ⟨hinv, hi, ht, hal⟩ := hq
 refine Z.go 2 ?_
 refine Z.lt 17 10 (fun g1 => ?_) (fun g1 => ?_)
 ·first | (exfalso; first | omega | (simp at g1; done) | contradiction) | skip
  all_goals (
   refine Z.ld 0 ?_
   refine Z.ef (eff_slice (α := UInt8) rfl Tryz.underlying73 Tryz.ty5 rfl Z.p ⟨_, rfl⟩ rfl rfl (by decide) (by omega) (by omega) (by omega) (by omega)) 0 (fun a22 => ?_)
   rw [show ((b.take b.length).drop t) = b.drop t by rw [List.take_length]]
   have hdl : (b.drop t).length = b.length - t := List.length_drop
   refine Z.ca (c := rec_Get _ _ (b.drop t) (by omega) (by omega)) 4 (fun _ => ?_)
   refine Z.al 0 (fun b10 => ?_)
   refine Z.sA 6 ?_
   rcases hok : (Wire.getV (b.drop t)).2.2.2 with _ | _
   ·skip
    refine Z.go 23 ?_
    refine ht_draw (.op 0 (.op 1 (.op 2 (.op 3 .done)))) [] Tryz.mixed rfl ?_
    refine Z.dl ?_
    refine Z.dl ?_
    refine Z.dr 2 ?_
    refine hd_nil ?_
    refine Z.xg 2 ?_
    rw [Wl.scan_none (Wl.getV_get_no hok), List.append_nil] at hinv
    refine hx_freezeS (xs := acc) Z.k ?_
    rw [hinv]
    exact hx_ret2 (.inl rfl) rfl rfl rfl (ad, cp, t) rfl (Ent.roD Z.k Z.f)
   ·skip
    refine Z.go 5 ?_
    refine Z.ld 2 ?_
    refine Z.ev (ev_convI rfl ⟨_, Tryz.underlying3⟩ Tryz.underlying24 rfl (by first | exact IntWalk.u64_in _ (by omega) | rfl)) 0 ?_
    refine Z.ad (r := (((first + i) % 18446744073709551616 : Nat) : Int)) (hw := by exact add_wrap first i) 0 ?_
    refine Z.ne 12 8 (fun g2 => ?_) (fun g2 => ?_)
    ·first | (exfalso; first | omega | (simp at g2; done) | contradiction) | skip
     all_goals (
      refine ht_draw (.op 0 (.op 1 (.op 2 (.op 3 .done)))) [] Tryz.mixed rfl ?_
      refine Z.dl ?_
      refine Z.dl ?_
      refine Z.dr 2 ?_
      refine hd_nil ?_
      refine Z.xg 2 ?_
      rw [Wl.scan_no (Wl.getV_get hok) (by show ¬ _ = (first + i) % 18446744073709551616; omega), List.append_nil] at hinv
      refine hx_freezeS (xs := acc) Z.k ?_
      rw [hinv]
      exact hx_ret2 (.inl rfl) rfl rfl rfl (ad, cp, t) rfl (Ent.roD Z.k Z.f)
     )
    ·first | (exfalso; first | omega | (simp at g2; done) | contradiction) | skip
     all_goals (
      refine Z.la 1 ?_
      have hget := Wl.getV_get hok
      have hgl : 8 ≤ (Wire.getV (b.drop t)).2.2.1 ∧ (Wire.getV (b.drop t)).2.2.1 ≤ b.length - t ∧ (Wire.getV (b.drop t)).1 < 18446744073709551616 := by have h1 := Wl.get_len hget; rw [hdl] at h1; exact h1
      refine Z.cd (c := rec_Scan1 b6 b7 (⟨(Wire.getV (b.drop t)).1, (Wire.getV (b.drop t)).2.1⟩ : Wl.Rec) ((Wire.getV (b.drop t)).2.2.1 : Int) (t : Int) ad cp acc (by omega) (by omega) (by omega)) 4 (fun z => ?_)
      refine Z.ad 2 ?_
      refine Z.ag (i + 1, t + (Wire.getV (b.drop t)).2.2.1, acc ++ [(⟨(Wire.getV (b.drop t)).1, (Wire.getV (b.drop t)).2.1⟩ : Wl.Rec)], z.1, z.2) (by (first | dsimp only | skip); omega) ?_
      (first | dsimp only | skip)
      exact Ent.cons Z.k (Ent.cons Z.k (Ent.cons Z.k (Ent.roD Z.p (Ent.pu ⟨by rw [← hinv, show b.length - i = b.length - (i + 1) + 1 by omega, Wl.scan_yes hget (by show _ = (first + i) % 18446744073709551616; omega), List.drop_drop, List.append_assoc]; rfl, by omega, by omega, by rw [List.length_append]; show acc.length + 1 ≤ i + 1; omega⟩ Z.f))))
     )
  )
 ·first | (exfalso; first | omega | (simp at g1; done) | contradiction) | skip
  all_goals (
   refine ht_draw (.op 0 (.op 1 (.op 2 (.op 3 .done)))) [] Tryz.mixed rfl ?_
   refine Z.dl ?_
   refine Z.dl ?_
   refine Z.dr 2 ?_
   refine hd_nil ?_
   refine Z.xg 2 ?_
   rw [show b.length - i = 0 by omega] at hinv
   rw [show Wl.scan 0 (b.drop t) (first + i) = [] from rfl, List.append_nil] at hinv
   refine hx_freezeS (xs := acc) Z.k ?_
   rw [hinv]
   exact hx_ret2 (.inl rfl) rfl rfl rfl (ad, cp, t) rfl (Ent.roD Z.k Z.f)
  )

/-- a segment that was found, in memory -/
structure FdV where mk ::
  place : Nat
  base : Nat
  count : Nat
  a : Option Addr
  m : Nat
  c : Nat
instance : Enc FdV := ⟨4, fun x => [.int .i64 (x.place : Int), .int .u64 (x.base : Int), .int .u64 (x.count : Int), .slice x.a x.m x.c], fun _ => rfl, fun x v h => by simp at h; rcases h with rfl | rfl | rfl | rfl <;> rfl, by decide⟩
abbrev FdV.val (x : FdV) : Value := .agg #[.int .i64 (x.place : Int), .int .u64 (x.base : Int), .int .u64 (x.count : Int), .slice x.a x.m x.c]
structure FdOk (r : Part) (x : FdV) (f : Wl.Fd) : Prop where mk ::
  place : x.place = f.place
  base : x.base = f.base
  count : x.count = f.recs.length
  m : x.m = f.recs.length
  l : SliceIn r x.a f.recs.length f.recs
def fdR (x : FdV) (f : Wl.Fd) : RoP := ⟨fun r => FdOk r x f, fun h k => ⟨h.place, h.base, h.count, h.m, h.l.mono k⟩⟩
structure FdsOk (r : Part) (xs : List FdV) (fs : List Wl.Fd) : Prop where mk ::
  len : xs.length = fs.length
  at_ : ∀ (i : Nat) (x : FdV) (f : Wl.Fd), xs[i]? = some x → fs[i]? = some f → FdOk r x f
def fdsR (xs : List FdV) (fs : List Wl.Fd) : RoP := ⟨fun r => FdsOk r xs fs, fun h k => ⟨h.len, fun i x f h1 h2 => let a := h.at_ i x f h1 h2; ⟨a.place, a.base, a.count, a.m, a.l.mono k⟩⟩⟩
theorem cells_fd {L : List Assn} {a : Option Addr} {m b off i : Nat} {xs : List FdV} {v : FdV} {f : Wl.Fd} (ha : a = some ⟨b, off, none⟩) (h : Reads L a m xs) (hv : xs[i]? = some v) (e1 : v.place = f.place) (e2 : v.base = f.base) (e3 : v.count = f.recs.length) (e4 : v.m = f.recs.length) :
    Cells L b (off + i * 4) 4 #[.int .i64 (f.place : Int), .int .u64 (f.base : Int), .int .u64 (f.recs.length : Int), .slice v.a f.recs.length v.c] := by
  have h1 := cells_Sa ha h hv
  rw [← e1, ← e2]
  have h2 : (Enc.enc v).toArray = #[.int .i64 (v.place : Int), .int .u64 (v.base : Int), .int .u64 (f.recs.length : Int), .slice v.a f.recs.length v.c] := by
    show #[Value.int .i64 (v.place : Int), .int .u64 (v.base : Int), .int .u64 (v.count : Int), .slice v.a v.m v.c] = _
    rw [e3, e4]
  rw [h2] at h1
  exact h1
theorem FdsOk.nil (r : Part) : FdsOk r [] [] := ⟨rfl, fun i x f h => by simp at h⟩
theorem FdsOk.snoc {r : Part} {xs : List FdV} {fs : List Wl.Fd} (h : FdsOk r xs fs) {x : FdV} {f : Wl.Fd} (hx : FdOk r x f) : FdsOk r (xs ++ [x]) (fs ++ [f]) := by
  refine ⟨by simp [h.len], fun i u q h1 h2 => ?_⟩
  rcases Nat.lt_or_ge i xs.length with hi | hi
  · rw [List.getElem?_append_left hi] at h1
    rw [List.getElem?_append_left (by rw [← h.len]; exact hi)] at h2
    exact h.at_ i u q h1 h2
  · rw [List.getElem?_append_right hi] at h1
    rw [List.getElem?_append_right (by rw [← h.len]; exact hi), ← h.len] at h2
    cases hj : i - xs.length with
    | zero => rw [hj] at h1 h2; simp at h1 h2; subst h1; subst h2; exact hx
    | succ j => rw [hj] at h1; simp at h1
section
variable {P : Program} {κ : World} {n : Nat} {L M R R' : List Assn} {ρ : Env} {ops : Array Oper} {l : List Oper} {Q : Exit → Act → World → Prop}
theorem ht_fd {c : Code} {x : FdV} {f : Wl.Fd} (k : Pick (ro (fdR x f)) L R) (h : x.place = f.place → x.base = f.base → x.count = f.recs.length → x.m = f.recs.length → HT P κ n (ro (roS x.a f.recs.length f.recs) :: L) ρ c Q) : HT P κ n L ρ c Q := fun a w ha hw => by
  obtain ⟨p, r, h1, h2, h3, h4⟩ := hw.sep
  obtain ⟨p1, p2, k1, k2, k3, hA, hL⟩ := k.sep h4
  have hA : FdOk r x f := hA
  exact h hA.place hA.base hA.count hA.m a w ha ⟨hw.os, hw.tape, hw.output, p, r, h1, h2, h3, Sep.addRo (φ := roS x.a f.recs.length f.recs) hA.l h4⟩
theorem ht_fdAt {c : Code} {xs : List FdV} {fs : List Wl.Fd} {i : Nat} (hi : i < xs.length) (k : Pick (ro (fdsR xs fs)) L R) (h : ∀ x f, xs[i]? = some x → fs[i]? = some f → HT P κ n (ro (fdR x f) :: L) ρ c Q) : HT P κ n L ρ c Q := fun a w ha hw => by
  obtain ⟨p, r, h1, h2, h3, h4⟩ := hw.sep
  obtain ⟨p1, p2, k1, k2, k3, hA, hL⟩ := k.sep h4
  have hA : FdsOk r xs fs := hA
  have hi2 : i < fs.length := by rw [← hA.len]; exact hi
  have e1 := List.getElem?_eq_getElem hi
  have e2 := List.getElem?_eq_getElem hi2
  exact h _ _ e1 e2 a w ha ⟨hw.os, hw.tape, hw.output, p, r, h1, h2, h3, Sep.addRo (φ := fdR _ _) (hA.at_ i _ _ e1 e2) h4⟩
theorem ht_fdsLen {c : Code} {xs : List FdV} {fs : List Wl.Fd} (k : Pick (ro (fdsR xs fs)) L R) (h : xs.length = fs.length → HT P κ n L ρ c Q) : HT P κ n L ρ c Q := fun a w ha hw => by
  have : FdsOk _ xs fs := hw.ro k
  exact h this.len a w ha hw
end

theorem wal_look (p : Nat) (g : LG) (d : Dk.Disk) (hat : 0 ≤ g.at_ ∧ g.at_ + ((g.n * g.size : Nat) : Int) ≤ 65536) (hsz : g.size ≤ 64) (hn : g.n ≤ 64) : Ctr Tryz.prog 25 #[.pointer (some ⟨p, 0, none⟩)] [LogAt p g, DiskAt g.dk d] (fun q : List FdV × Option Addr × Nat => .slice q.2.1 q.1.length q.2.2) (fun q => [LogAt p g, DiskAt g.dk d, ro (roS q.2.1 q.1.length q.1), ro (fdsR q.1 (Wl.look d.view g.at_ g.size g.n))]) := by
 refine Z.fn Tryz.func25 Tryz.ntmps25 (fun κ F => ?_)
 refine ht_dkOkW Z.p (fun hok => ?_)
 refine ht_log Z.p (fun x hx => ?_)
 refine Z.go 16 ?_
 refine Z.ld 4 ?_
 refine Z.lo (fun q : Nat × List FdV × Option Addr × Nat => ([LogAt p g, DiskAt g.dk d, ownS 81 q.2.2.1 q.2.1.length q.2.2.2 q.2.1, ro (fdsR q.2.1 (Wl.look d.view g.at_ g.size q.1)), pu (q.1 ≤ g.n), F], [(0, .pointer (some ⟨p, 0, none⟩)), (3, .slice q.2.2.1 q.2.1.length q.2.2.2), (14, .int .i64 (g.n : Int)), (15, .int .i64 q.1)])) (fun q : Nat × List FdV × Option Addr × Nat => g.n - q.1) (0, [], none, 0) ?_ (fun q => ?_)
 ·(first | dsimp only | skip)
  refine Ent.trans (Ent.roTrue (ψ := fdsR [] (Wl.look d.view g.at_ g.size 0)) (fun r => FdsOk.nil r) (ownS_nil (α := FdV) 81)) ?_
  exact Ent.log (g := g) (x := x) Z.d rfl rfl rfl rfl rfl rfl rfl rfl rfl rfl hx (Ent.cons Z.k (Ent.cons Z.k (Ent.roD Z.p (Ent.pu (by omega) Z.f))))
 obtain ⟨i, xs, ad, cp⟩ := q
 dsimp only
 refine ht_pick (A := pu (i ≤ g.n)) Z.k (ht_pure fun hi => ?_)
 refine ht_fdsLen Z.p (fun hxl => ?_)
 have hll := Wl.look_len d.view g.at_ g.size i
 refine Z.go 2 ?_
 refine Z.lt 18 16 (fun g1 => ?_) (fun g1 => ?_)
 ·first | (exfalso; first | omega | (simp at g1; done) | contradiction) | skip
  all_goals (
   have hms : i * g.size + g.size ≤ g.n * g.size := by have h := Nat.mul_le_mul_right g.size (show i + 1 ≤ g.n by omega); rw [Nat.succ_mul] at h; exact h
   refine Z.ca (c := wal_bytes p g d i (i * g.size) (by push_cast; rfl) (by omega) hsz) 0 (fun y => ?_)
   refine ho_pick (A := pu ((Wl.segBytes d.view (g.at_ + ((i * g.size : Nat) : Int)) g.size).length ≤ y.2)) Z.k (ho_pure fun hyc => ?_)
   have hsl := Wl.segBytes_len d.view hok.view g.size (g.at_ + ((i * g.size : Nat) : Int))
   refine Z.og 6 ?_
   refine Z.ca (c := rec_Get y.1 y.2 (Wl.segBytes d.view (g.at_ + ((i * g.size : Nat) : Int)) g.size) hyc (by omega)) 4 (fun _ => ?_)
   refine Z.al 0 (fun b6 => ?_)
   refine Z.sA 6 ?_
   rcases hok2 : (Wire.getV (Wl.segBytes d.view (g.at_ + ((i * g.size : Nat) : Int)) g.size)).2.2.2 with _ | _
   ·skip
    refine Z.go 16 ?_
    refine Z.ad 2 ?_
    refine Z.ag (i + 1, xs, ad, cp) (by (first | dsimp only | skip); omega) ?_
    (first | dsimp only | skip)
    have hno : Wl.fd d.view g.at_ g.size i = none := by first | exact Wl.fdOf_no1 (Wl.getV_get_no hok2) | exact Wl.fdOf_no2 (Wl.getV_get hok2) g32
    rw [Wl.look_no hno]
    exact Ent.cons Z.k (Ent.cons Z.k (Ent.cons Z.k (Ent.roD Z.p (Ent.pu (by omega) Z.f))))
   ·skip
    refine Z.go 5 ?_
    refine Z.ld 0 ?_
    refine Z.neS 9 7 (fun g32 => ?_) (fun g32 => ?_)
    ·first | (exfalso; first | omega | (simp at g32; done) | contradiction) | skip
     all_goals (
      refine Z.ad 2 ?_
      refine Z.ag (i + 1, xs, ad, cp) (by (first | dsimp only | skip); omega) ?_
      (first | dsimp only | skip)
      have hno : Wl.fd d.view g.at_ g.size i = none := by first | exact Wl.fdOf_no1 (Wl.getV_get_no hok2) | exact Wl.fdOf_no2 (Wl.getV_get hok2) g32
      rw [Wl.look_no hno]
      exact Ent.cons Z.k (Ent.cons Z.k (Ent.cons Z.k (Ent.roD Z.p (Ent.pu (by omega) Z.f))))
     )
    ·first | (exfalso; first | omega | (simp at g32; done) | contradiction) | skip
     all_goals (
      have hget := Wl.getV_get hok2
      have hgl : 8 ≤ (Wire.getV (Wl.segBytes d.view (g.at_ + ((i * g.size : Nat) : Int)) g.size)).2.2.1 ∧ (Wire.getV (Wl.segBytes d.view (g.at_ + ((i * g.size : Nat) : Int)) g.size)).2.2.1 ≤ (Wl.segBytes d.view (g.at_ + ((i * g.size : Nat) : Int)) g.size).length ∧ (Wire.getV (Wl.segBytes d.view (g.at_ + ((i * g.size : Nat) : Int)) g.size)).1 < 18446744073709551616 := Wl.get_len hget
      have hdl : ((Wl.segBytes d.view (g.at_ + ((i * g.size : Nat) : Int)) g.size).drop (Wire.getV (Wl.segBytes d.view (g.at_ + ((i * g.size : Nat) : Int)) g.size)).2.2.1).length = (Wl.segBytes d.view (g.at_ + ((i * g.size : Nat) : Int)) g.size).length - (Wire.getV (Wl.segBytes d.view (g.at_ + ((i * g.size : Nat) : Int)) g.size)).2.2.1 := List.length_drop
      have hscl := Wl.scan_len ((Wl.segBytes d.view (g.at_ + ((i * g.size : Nat) : Int)) g.size).drop (Wire.getV (Wl.segBytes d.view (g.at_ + ((i * g.size : Nat) : Int)) g.size)).2.2.1).length ((Wl.segBytes d.view (g.at_ + ((i * g.size : Nat) : Int)) g.size).drop (Wire.getV (Wl.segBytes d.view (g.at_ + ((i * g.size : Nat) : Int)) g.size)).2.2.1) (Wire.getV (Wl.segBytes d.view (g.at_ + ((i * g.size : Nat) : Int)) g.size)).1
      refine ht_draw (.op 0 (.op 1 (.op 3 (.op 4 (.op 2 (.op 5 (.op 6 (.op 7 (.op 8 (.op 9 (.op 10 .done))))))))))) [2, 5] Tryz.mixed rfl ?_
      refine Z.dr 3 ?_
      refine Z.dl ?_
      refine Z.de rfl (eff_slice (α := UInt8) rfl Tryz.underlying73 Tryz.ty5 rfl Z.p ⟨_, rfl⟩ rfl rfl (by decide) (by omega) (by omega) (by omega) (by omega)) (fun a37 => ?_)
      rw [show ((Wl.segBytes d.view (g.at_ + ((i * g.size : Nat) : Int)) g.size).take (Wl.segBytes d.view (g.at_ + ((i * g.size : Nat) : Int)) g.size).length).drop (Wire.getV (Wl.segBytes d.view (g.at_ + ((i * g.size : Nat) : Int)) g.size)).2.2.1 = ((Wl.segBytes d.view (g.at_ + ((i * g.size : Nat) : Int)) g.size).drop (Wire.getV (Wl.segBytes d.view (g.at_ + ((i * g.size : Nat) : Int)) g.size)).2.2.1) by rw [List.take_length]]
      refine Z.dd (c := rec_Scan a37 _ ((Wl.segBytes d.view (g.at_ + ((i * g.size : Nat) : Int)) g.size).drop (Wire.getV (Wl.segBytes d.view (g.at_ + ((i * g.size : Nat) : Int)) g.size)).2.2.1) (Wire.getV (Wl.segBytes d.view (g.at_ + ((i * g.size : Nat) : Int)) g.size)).1 (by omega) (by omega) (by omega)) (fun z => ?_)
      refine Z.dr 5 ?_
      refine hd_nil ?_
      refine Z.xg 5 ?_
      refine Z.ld 2 ?_
      refine Z.ev (ev_convI (r := (((Wl.scan ((Wl.segBytes d.view (g.at_ + ((i * g.size : Nat) : Int)) g.size).drop (Wire.getV (Wl.segBytes d.view (g.at_ + ((i * g.size : Nat) : Int)) g.size)).2.2.1).length ((Wl.segBytes d.view (g.at_ + ((i * g.size : Nat) : Int)) g.size).drop (Wire.getV (Wl.segBytes d.view (g.at_ + ((i * g.size : Nat) : Int)) g.size)).2.2.1) (Wire.getV (Wl.segBytes d.view (g.at_ + ((i * g.size : Nat) : Int)) g.size)).1).length : Nat) : Int)) rfl ⟨_, Tryz.underlying3⟩ Tryz.underlying24 rfl (by exact IntWalk.u64_in _ (by omega))) 0 ?_
      refine Z.ev (ev_build1 (csl := [_, _, _]) rfl Tryz.st79 (.cons rfl (.cons rfl (.cons rfl .nil))) (.cons rfl (.cons rfl (.cons rfl .nil))) rfl rfl) 1 ?_
      refine Z.ev (ev_buildM rfl Tryz.st81 (.cons rfl (.cons rfl .nil)) (.cons rfl (.cons rfl .nil)) rfl rfl) 0 ?_
      refine Z.ef (eff_buildAll (α := FdV) [(⟨i, (Wire.getV (Wl.segBytes d.view (g.at_ + ((i * g.size : Nat) : Int)) g.size)).1, (Wl.scan ((Wl.segBytes d.view (g.at_ + ((i * g.size : Nat) : Int)) g.size).drop (Wire.getV (Wl.segBytes d.view (g.at_ + ((i * g.size : Nat) : Int)) g.size)).2.2.1).length ((Wl.segBytes d.view (g.at_ + ((i * g.size : Nat) : Int)) g.size).drop (Wire.getV (Wl.segBytes d.view (g.at_ + ((i * g.size : Nat) : Int)) g.size)).2.2.1) (Wire.getV (Wl.segBytes d.view (g.at_ + ((i * g.size : Nat) : Int)) g.size)).1).length, z.1, (Wl.scan ((Wl.segBytes d.view (g.at_ + ((i * g.size : Nat) : Int)) g.size).drop (Wire.getV (Wl.segBytes d.view (g.at_ + ((i * g.size : Nat) : Int)) g.size)).2.2.1).length ((Wl.segBytes d.view (g.at_ + ((i * g.size : Nat) : Int)) g.size).drop (Wire.getV (Wl.segBytes d.view (g.at_ + ((i * g.size : Nat) : Int)) g.size)).2.2.1) (Wire.getV (Wl.segBytes d.view (g.at_ + ((i * g.size : Nat) : Int)) g.size)).1).length, z.2.1⟩ : FdV)] rfl Tryz.underlying76 Tryz.ty81 (.cons rfl .nil) (.cons rfl .nil) rfl (Nat.le_of_ble_eq_true rfl)) 0 (fun b53 => ?_)
      refine Z.ef (eff_append (α := FdV) rfl Tryz.underlying76 Tryz.ty81 rfl (by decide) Tryz.underlying76 rfl rfl Z.p (by first | exact reads_ro Z.p | exact reads_own Z.p | exact reads_nil _) (by first | omega | (simp only [List.length_append, List.length_cons, List.length_nil, List.length_drop, List.length_take]; omega) | (simp; omega))) 5 (fun p54 => ?_)
      refine Z.ad 2 ?_
      refine Z.ag (i + 1, xs ++ [(⟨i, (Wire.getV (Wl.segBytes d.view (g.at_ + ((i * g.size : Nat) : Int)) g.size)).1, (Wl.scan ((Wl.segBytes d.view (g.at_ + ((i * g.size : Nat) : Int)) g.size).drop (Wire.getV (Wl.segBytes d.view (g.at_ + ((i * g.size : Nat) : Int)) g.size)).2.2.1).length ((Wl.segBytes d.view (g.at_ + ((i * g.size : Nat) : Int)) g.size).drop (Wire.getV (Wl.segBytes d.view (g.at_ + ((i * g.size : Nat) : Int)) g.size)).2.2.1) (Wire.getV (Wl.segBytes d.view (g.at_ + ((i * g.size : Nat) : Int)) g.size)).1).length, z.1, (Wl.scan ((Wl.segBytes d.view (g.at_ + ((i * g.size : Nat) : Int)) g.size).drop (Wire.getV (Wl.segBytes d.view (g.at_ + ((i * g.size : Nat) : Int)) g.size)).2.2.1).length ((Wl.segBytes d.view (g.at_ + ((i * g.size : Nat) : Int)) g.size).drop (Wire.getV (Wl.segBytes d.view (g.at_ + ((i * g.size : Nat) : Int)) g.size)).2.2.1) (Wire.getV (Wl.segBytes d.view (g.at_ + ((i * g.size : Nat) : Int)) g.size)).1).length, z.2.1⟩ : FdV)], p54.1, p54.2) (by (first | dsimp only | skip); omega) ?_
      (first | dsimp only | skip)
      refine Ent.trans (Ent.roWeak2 (φ := fdsR xs (Wl.look d.view g.at_ g.size i)) (φ' := roS z.1 (Wl.scan ((Wl.segBytes d.view (g.at_ + ((i * g.size : Nat) : Int)) g.size).drop (Wire.getV (Wl.segBytes d.view (g.at_ + ((i * g.size : Nat) : Int)) g.size)).2.2.1).length ((Wl.segBytes d.view (g.at_ + ((i * g.size : Nat) : Int)) g.size).drop (Wire.getV (Wl.segBytes d.view (g.at_ + ((i * g.size : Nat) : Int)) g.size)).2.2.1) (Wire.getV (Wl.segBytes d.view (g.at_ + ((i * g.size : Nat) : Int)) g.size)).1).length (Wl.scan ((Wl.segBytes d.view (g.at_ + ((i * g.size : Nat) : Int)) g.size).drop (Wire.getV (Wl.segBytes d.view (g.at_ + ((i * g.size : Nat) : Int)) g.size)).2.2.1).length ((Wl.segBytes d.view (g.at_ + ((i * g.size : Nat) : Int)) g.size).drop (Wire.getV (Wl.segBytes d.view (g.at_ + ((i * g.size : Nat) : Int)) g.size)).2.2.1) (Wire.getV (Wl.segBytes d.view (g.at_ + ((i * g.size : Nat) : Int)) g.size)).1)) (ψ := fdsR (xs ++ [(⟨i, (Wire.getV (Wl.segBytes d.view (g.at_ + ((i * g.size : Nat) : Int)) g.size)).1, (Wl.scan ((Wl.segBytes d.view (g.at_ + ((i * g.size : Nat) : Int)) g.size).drop (Wire.getV (Wl.segBytes d.view (g.at_ + ((i * g.size : Nat) : Int)) g.size)).2.2.1).length ((Wl.segBytes d.view (g.at_ + ((i * g.size : Nat) : Int)) g.size).drop (Wire.getV (Wl.segBytes d.view (g.at_ + ((i * g.size : Nat) : Int)) g.size)).2.2.1) (Wire.getV (Wl.segBytes d.view (g.at_ + ((i * g.size : Nat) : Int)) g.size)).1).length, z.1, (Wl.scan ((Wl.segBytes d.view (g.at_ + ((i * g.size : Nat) : Int)) g.size).drop (Wire.getV (Wl.segBytes d.view (g.at_ + ((i * g.size : Nat) : Int)) g.size)).2.2.1).length ((Wl.segBytes d.view (g.at_ + ((i * g.size : Nat) : Int)) g.size).drop (Wire.getV (Wl.segBytes d.view (g.at_ + ((i * g.size : Nat) : Int)) g.size)).2.2.1) (Wire.getV (Wl.segBytes d.view (g.at_ + ((i * g.size : Nat) : Int)) g.size)).1).length, z.2.1⟩ : FdV)]) (Wl.look d.view g.at_ g.size (i + 1))) Z.p Z.p (fun r h1 h2 => by rw [Wl.look_yes (Wl.fdOf_yes hget (by show (Wire.getV (Wl.segBytes d.view (g.at_ + ((i * g.size : Nat) : Int)) g.size)).2.1 = _; exact g32))]; exact FdsOk.snoc h1 ⟨rfl, rfl, rfl, rfl, h2⟩) (Ent.refl _)) ?_
      exact Ent.cons Z.k (Ent.cons Z.k (Ent.cons Z.k (Ent.roD Z.p (Ent.pu (by omega) Z.f))))
     )
  )
 ·first | (exfalso; first | omega | (simp at g1; done) | contradiction) | skip
  all_goals (
   have hii : i = g.n := by omega
   subst hii
   refine hx_freezeS (xs := xs) Z.k ?_
   exact hx_ret1 (.inl rfl) rfl rfl (xs, ad, cp) rfl (Ent.cons Z.k (Ent.cons Z.k (Ent.roD Z.k (Ent.roD Z.k Z.f))))
  )

theorem sub_wrap (a : Nat) : IntKind.u64.wrap (((a : Nat) : Int) - 1) = (((a + (18446744073709551616 - 1)) % 18446744073709551616 : Nat) : Int) := by
  have h : IntKind.u64.wrap (((a : Nat) : Int) - 1) = (((a : Nat) : Int) - 1) % 18446744073709551616 := by simp [IntKind.wrap, IntKind.bits, IntKind.signed]
  rw [h]; omega

theorem wal_take (p : Nat) (g : LG) (f : Wl.Fd) (va : Option Addr) (vc k : Nat) (hb : f.base < 18446744073709551616) (hr : f.recs.length ≤ 100000) (hl : g.live.length ≤ 1000000) : Ctr Tryz.prog 26 #[.pointer (some ⟨p, 0, none⟩), .agg #[.int .i64 (f.place : Int), .int .u64 (f.base : Int), .int .u64 (f.recs.length : Int), .slice va f.recs.length vc], .int .u64 (k : Int)] [LogAt p g, ro (roS va f.recs.length f.recs)] (fun q : Option Addr × Nat => .slice q.1 (Wl.behind k f.recs).length q.2) (fun q => [LogAt p { g with live := g.live ++ [f.seg], last := Wl.upTo f.base f.recs.length }, ro (roS q.1 (Wl.behind k f.recs).length (Wl.behind k f.recs))]) := by
 refine Z.fn Tryz.func26 Tryz.ntmps26 (fun κ F => ?_)
 refine ht_log Z.p (fun x hx => ?_)
 refine Z.go 2 ?_
 refine Z.bA 4 (fun b4 => ?_)
 refine ht_draw (.op 0 (.op 1 (.op 2 (.op 3 (.op 4 (.op 5 (.op 6 (.op 7 (.op 8 (.op 9 (.op 10 (.op 11 .done)))))))))))) [7, 8, 11] Tryz.mixed rfl ?_
 refine Z.dr 4 ?_
 refine Z.dl ?_
 refine Z.dr 1 ?_
 refine Z.dA ?_
 refine Z.de rfl (eff_buildAll (α := Wl.Seg) [(⟨f.place, f.base, f.recs.length⟩ : Wl.Seg)] rfl Tryz.underlying72 Tryz.ty79 (.cons rfl .nil) (.cons rfl .nil) rfl (Nat.le_of_ble_eq_true rfl)) (fun b17 => ?_)
 refine Z.de rfl (eff_append (α := Wl.Seg) rfl Tryz.underlying72 Tryz.ty79 rfl (by decide) Tryz.underlying72 rfl rfl Z.p (by first | exact reads_ro Z.p | exact reads_own Z.p | exact reads_nil _) (by first | omega | (simp only [List.length_append, List.length_cons, List.length_nil, List.length_drop, List.length_take]; omega) | (simp; omega))) (fun p18 => ?_)
 refine Z.dr 2 ?_
 refine Z.d1 ?_
 refine hd_nil ?_
 refine Z.xg 6 ?_
 refine Z.ld 2 ?_
 refine Z.ld 0 ?_
 refine Z.ad (r := (((f.base + f.recs.length) % 18446744073709551616 : Nat) : Int)) (hw := by exact add_wrap _ _) 0 ?_
 refine Z.sb (r := ((Wl.upTo f.base f.recs.length : Nat) : Int)) (hw := by exact sub_wrap _) 2 ?_
 refine Z.s1 11 ?_
 refine Z.ld 5 ?_
 refine Z.lo (fun q : Nat × List Wl.Rec × Option Addr × Nat => ([LogAt p { g with live := g.live ++ [f.seg], last := Wl.upTo f.base f.recs.length }, ownS 71 q.2.2.1 q.2.1.length q.2.2.2 q.2.1, ro (roS va f.recs.length f.recs), pu (q.2.1 = Wl.behind k (f.recs.take q.1) ∧ q.1 ≤ f.recs.length), F], [(2, .int .u64 (k : Int)), (7, .slice q.2.2.1 q.2.1.length q.2.2.2), (33, .slice va f.recs.length vc), (34, .int .i64 (f.recs.length : Int)), (35, .int .i64 q.1)])) (fun q : Nat × List Wl.Rec × Option Addr × Nat => f.recs.length - q.1) (0, [], none, 0) ?_ (fun q => ?_)
 ·(first | dsimp only | skip)
  refine (ownS_nil (α := Wl.Rec) 71).trans ?_
  exact Ent.log (g := { g with live := g.live ++ [f.seg], last := Wl.upTo f.base f.recs.length }) (x := ⟨p18.1, p18.2, x.sa, x.sc⟩) Z.d rfl rfl rfl rfl rfl rfl rfl rfl rfl rfl hx (Ent.cons Z.k (Ent.roD Z.p (Ent.pu ⟨rfl, by omega⟩ Z.f)))
 obtain ⟨i, acc, ad, cp⟩ := q
 dsimp only
 refine ht_pick (A := pu (acc = Wl.behind k (f.recs.take i) ∧ i ≤ f.recs.length)) Z.k (ht_pure fun hq => ?_)
 obtain ⟨hacc, hi⟩ := hq
 have hal : acc.length ≤ f.recs.length := by rw [hacc]; exact Nat.le_trans (Wl.behind_len _ _) (by rw [List.length_take]; omega)
 refine Z.go 2 ?_
 refine Z.lt 9 16 (fun g1 => ?_) (fun g1 => ?_)
 ·first | (exfalso; first | omega | (simp at g1; done) | contradiction) | skip
  all_goals (
   obtain ⟨r, hr⟩ : ∃ r, f.recs[i]? = some r := ⟨_, List.getElem?_eq_getElem (by omega)⟩
   refine ht_someS (α := Wl.Rec) (a := va) (reads_ro Z.p) (by omega) (fun ab ao ha => ?_)
   refine Z.go 1 ?_
   refine Z.ev (ev_indexAddr rfl Tryz.underlying38 Tryz.ty71 (congrArg (fun z => some (Value.slice z f.recs.length vc)) ha) rfl (by omega) (by omega)) 0 ?_
   refine Z.la (hc := by exact show Cells _ _ _ _ #[.int .u64 (r.seq : Int), vS r.body] from cells_Sa ha (reads_ro Z.p) hr) 0 ?_
   refine Z.al 0 (fun b9 => ?_)
   refine Z.sA 5 ?_
   refine Z.ld 1 ?_
   refine Z.gt 5 7 (fun g2 => ?_) (fun g2 => ?_)
   ·first | (exfalso; first | omega | (simp at g2; done) | contradiction) | skip
    all_goals (
     refine Z.la 0 ?_
     refine Z.ef (eff_buildAll (α := Wl.Rec) [r] rfl Tryz.underlying38 Tryz.ty71 (.cons rfl .nil) (.cons rfl .nil) rfl (Nat.le_of_ble_eq_true rfl)) 0 (fun b45 => ?_)
     refine Z.ef (eff_append (α := Wl.Rec) rfl Tryz.underlying38 Tryz.ty71 rfl (by decide) Tryz.underlying38 rfl rfl Z.p (by first | exact reads_ro Z.p | exact reads_own Z.p | exact reads_nil _) (by first | omega | (simp only [List.length_append, List.length_cons, List.length_nil, List.length_drop, List.length_take]; omega) | (simp; omega))) 5 (fun p46 => ?_)
     refine Z.ad 2 ?_
     refine Z.ag (i + 1, acc ++ [r], p46.1, p46.2) (by (first | dsimp only | skip); omega) ?_
     (first | dsimp only | skip)
     exact Ent.cons Z.k (Ent.cons Z.k (Ent.roD Z.p (Ent.pu ⟨by rw [Wl.behind_yes hr (by omega), ← hacc], by omega⟩ Z.f)))
    )
   ·first | (exfalso; first | omega | (simp at g2; done) | contradiction) | skip
    all_goals (
     refine Z.ad 2 ?_
     refine Z.ag (i + 1, acc, ad, cp) (by (first | dsimp only | skip); omega) ?_
     (first | dsimp only | skip)
     exact Ent.cons Z.k (Ent.cons Z.k (Ent.roD Z.p (Ent.pu ⟨by rw [Wl.behind_no hr (by omega), ← hacc], by omega⟩ Z.f)))
    )
  )
 ·first | (exfalso; first | omega | (simp at g1; done) | contradiction) | skip
  all_goals (
   have hii : i = f.recs.length := by omega
   rw [hii, List.take_length] at hacc
   subst hacc
   refine hx_freezeS (xs := Wl.behind k f.recs) Z.k ?_
   exact hx_ret1 (.inl rfl) rfl rfl (ad, cp) rfl (Ent.cons Z.k (Ent.roD Z.k Z.f))
  )
theorem wal_usedX (p : Nat) (g : LG) (x : LX) (i : Int) (hl : g.live.length ≤ 1000000) : Ctr Tryz.prog 29 #[.pointer (some ⟨p, 0, none⟩), .int .i64 i] [pt p (.cells (lgCells g x) 75 (0, 0)), ownS 79 x.la g.live.length x.lc g.live] (fun _ : Unit => .bool (Wl.has g.live i)) (fun _ => [pt p (.cells (lgCells g x) 75 (0, 0)), ownS 79 x.la g.live.length x.lc g.live]) := by
 refine Z.fn Tryz.func29 Tryz.ntmps29 (fun κ F => ?_)
 refine Z.go 2 ?_
 refine Z.b1 8 (fun b3 => ?_)
 refine Z.ld 1 ?_
 refine Z.cd (c := wal_ContainsS x.la x.lc g.live b3 i hl) 4 (fun _ => ?_)
 exact hx_ret1 (.inl rfl) rfl rfl () rfl (Ent.cons Z.k (Ent.cons Z.k Z.f))
theorem wal_usedB (p : Nat) (g : LG) (x : LX) (i : Int) (b : Bool) (hl : g.live.length ≤ 1000000) (hb : Wl.has g.live i = b) : Ctr Tryz.prog 29 #[.pointer (some ⟨p, 0, none⟩), .int .i64 i] [pt p (.cells (lgCells g x) 75 (0, 0)), ownS 79 x.la g.live.length x.lc g.live] (fun _ : Unit => .bool b) (fun _ => [pt p (.cells (lgCells g x) 75 (0, 0)), ownS 79 x.la g.live.length x.lc g.live]) := hb ▸ wal_usedX p g x i hl
theorem wal_Open1 (p b : Nat) (g : LG) (f : Wl.Fd) (va : Option Addr) (vc : Nat) (hl : g.live.length ≤ 1000000) : Ctr Tryz.prog 28 #[.agg #[.int .i64 (f.place : Int), .int .u64 (f.base : Int), .int .u64 (f.recs.length : Int), .slice va f.recs.length vc], .pointer (some ⟨b, 0, none⟩)] [LogAt p g, pt b (.cells #[.pointer (some ⟨p, 0, none⟩)] 37 (0, 0))] (fun _ : Unit => .bool (Wl.okNext g.live g.last f)) (fun _ => [LogAt p g, pt b (.cells #[.pointer (some ⟨p, 0, none⟩)] 37 (0, 0))]) := by
 refine Z.fn Tryz.func28 Tryz.ntmps28 (fun κ F => ?_)
 refine ht_log Z.p (fun x hx => ?_)
 refine Z.go 2 ?_
 refine Z.bA 4 (fun b2 => ?_)
 refine ht_draw (.op 0 (.op 1 (.op 2 (.op 3 (.op 4 (.op 5 (.op 6 (.op 7 (.op 8 (.op 9 (.op 10 (.op 11 (.op 12 (.op 13 (.op 14 (.op 15 (.op 16 (.op 17 .done)))))))))))))))))) [14] Tryz.mixed rfl ?_
 refine Z.dr 2 ?_
 refine Z.dl ?_
 refine Z.dl ?_
 refine Z.dr 2 ?_
 refine Z.dl ?_
 refine hd_ev rfl rfl rfl rfl (EvG.go rfl (ev_add (r := (((g.last + 1) % 18446744073709551616 : Nat) : Int)) rfl rfl rfl (by exact add_wrap g.last 1))) ?_
 refine hd_eq rfl rfl rfl rfl rfl rfl rfl rfl (fun g12 => ?_) (fun g12 => ?_)
 ·first | (exfalso; first | omega | (simp at g12; done) | contradiction) | skip
  all_goals (
   refine Z.dr 1 ?_
   refine Z.dl ?_
   refine Z.dr 2 ?_
   refine Z.dl ?_
   rcases hu : Wl.has g.live (f.place : Int) with _ | _
   ·skip
    refine Z.dd (c := wal_usedB p g x f.place false hl hu) (fun _ => ?_)
    refine Z.dr 3 ?_
    refine hd_nil ?_
    refine Z.xg 2 ?_
    exact hx_ret1 (.inl rfl) rfl rfl () (by first | (rw [Wl.okNext_is (by omega) (by assumption)] <;> rfl) | (rw [Wl.okNext_no (by omega)] <;> rfl)) (Ent.log (g := g) (x := x) Z.d rfl rfl rfl rfl rfl rfl rfl rfl rfl rfl hx (Ent.cons Z.k Z.f))
   ·skip
    refine Z.dd (c := wal_usedB p g x f.place true hl hu) (fun _ => ?_)
    refine Z.dr 3 ?_
    refine hd_nil ?_
    refine Z.xg 2 ?_
    exact hx_ret1 (.inl rfl) rfl rfl () (by first | (rw [Wl.okNext_is (by omega) (by assumption)] <;> rfl) | (rw [Wl.okNext_no (by omega)] <;> rfl)) (Ent.log (g := g) (x := x) Z.d rfl rfl rfl rfl rfl rfl rfl rfl rfl rfl hx (Ent.cons Z.k Z.f))
  )
 ·first | (exfalso; first | omega | (simp at g12; done) | contradiction) | skip
  all_goals (
   refine Z.dr 9 ?_
   refine hd_nil ?_
   refine Z.xg 2 ?_
   exact hx_ret1 (.inl rfl) rfl rfl () (by first | (rw [Wl.okNext_is (by omega) (by assumption)] <;> rfl) | (rw [Wl.okNext_no (by omega)] <;> rfl)) (Ent.log (g := g) (x := x) Z.d rfl rfl rfl rfl rfl rfl rfl rfl rfl rfl hx (Ent.cons Z.k Z.f))
  )
theorem wal_IndexF (p b : Nat) (g : LG) (a : Option Addr) (c : Nat) (xs : List FdV) (fs : List Wl.Fd) (hl : g.live.length ≤ 1000000) (hxs : xs.length ≤ 1000000) : Ctr Tryz.prog 27 #[.slice a xs.length c, .func (.func 28) #[] #[.pointer (some ⟨b, 0, none⟩)]] [LogAt p g, pt b (.cells #[.pointer (some ⟨p, 0, none⟩)] 37 (0, 0)), ro (roS a xs.length xs), ro (fdsR xs fs)] (fun _ : Unit => .int .i64 (Wl.pos (Wl.okNext g.live g.last) fs 0)) (fun _ => [LogAt p g, pt b (.cells #[.pointer (some ⟨p, 0, none⟩)] 37 (0, 0))]) := by
 refine Z.fn Tryz.func27 Tryz.ntmps27 (fun κ F => ?_)
 refine Z.go 14 ?_
 refine Z.lo (fun q : Nat => ([LogAt p g, pt b (.cells #[.pointer (some ⟨p, 0, none⟩)] 37 (0, 0)), ro (roS a xs.length xs), ro (fdsR xs fs), pu ((fs.take q).any (Wl.okNext g.live g.last) = false ∧ q ≤ xs.length), F], [(0, .slice a xs.length c), (1, .func (.func 28) #[] #[.pointer (some ⟨b, 0, none⟩)]), (7, .int .i64 xs.length), (8, .int .i64 q)])) (fun q : Nat => xs.length - q) 0 ?_ (fun q => ?_)
 ·(first | dsimp only | skip)
  exact Ent.cons Z.k (Ent.cons Z.k (Ent.roD Z.p (Ent.roD Z.p (Ent.pu ⟨by simp, by omega⟩ Z.f))))
 dsimp only
 refine ht_pick (A := pu ((fs.take q).any (Wl.okNext g.live g.last) = false ∧ q ≤ xs.length)) Z.k (ht_pure fun hq => ?_)
 obtain ⟨hnf, hq⟩ := hq
 refine ht_fdsLen Z.p (fun hxl => ?_)
 refine Z.go 2 ?_
 refine Z.lt 15 15 (fun g1 => ?_) (fun g1 => ?_)
 ·first | (exfalso; first | omega | (simp at g1; done) | contradiction) | skip
  all_goals (
   refine ht_fdAt (i := q) (xs := xs) (fs := fs) (by omega) Z.p (fun v f hv hf => ?_)
   refine ht_fd Z.p (fun e1 e2 e3 e4 => ?_)
   refine ht_someS (α := FdV) (a := a) (reads_ro Z.p) (by omega) (fun ab ao ha => ?_)
   refine Z.go 4 ?_
   refine Z.ev (ev_indexAddr rfl Tryz.underlying76 Tryz.ty81 (congrArg (fun z => some (Value.slice z xs.length c)) ha) rfl (by omega) (by omega)) 0 ?_
   refine Z.la (hc := by exact cells_fd ha (reads_ro Z.p) hv e1 e2 e3 e4) 0 ?_
   rcases hok : (Wl.okNext g.live g.last) f with _ | _
   ·skip
    refine Z.cd (c := hok ▸ wal_Open1 p b g f v.a v.c hl) 7 (fun _ => ?_)
    refine Z.ad 2 ?_
    refine Z.ag (q + 1) (by (first | dsimp only | skip); omega) ?_
    (first | dsimp only | skip)
    exact Ent.cons Z.k (Ent.cons Z.k (Ent.roD Z.p (Ent.roD Z.p (Ent.pu ⟨Wl.any_step hnf hf hok, by omega⟩ Z.f))))
   ·skip
    refine Z.cd (c := hok ▸ wal_Open1 p b g f v.a v.c hl) 15 (fun _ => ?_)
    exact hx_ret1 (.inl rfl) rfl rfl () (by rw [Wl.pos_here hnf hf hok]; congr 1; omega) (Ent.cons Z.k (Ent.cons Z.k Z.f))
  )
 ·first | (exfalso; first | omega | (simp at g1; done) | contradiction) | skip
  all_goals (
   have hqq : q = fs.length := by omega
   rw [hqq, List.take_length] at hnf
   exact hx_ret1 (.inl rfl) rfl rfl () (by rw [Wl.pos_none hnf]) (Ent.cons Z.k (Ent.cons Z.k Z.f))
  )

section
variable {α : Type} [Enc α]
theorem flat_set {v : Value} {x x' : α} {k : Nat} (hk : k < Enc.sz α) (he : Enc.enc x' = (Enc.enc x).set k v) : ∀ (xs : List α) (i : Nat), xs[i]? = some x → flat (xs.set i x') = (flat xs).set (i * Enc.sz α + k) v
  | [], i, h => by simp at h
  | y :: xs, 0, h => by
    simp at h; subst h
    rw [List.set_cons_zero, flat_cons, flat_cons, he, List.set_append_left _ _ (by rw [Enc.len]; omega)]
    congr 2; omega
  | y :: xs, i + 1, h => by
    rw [List.set_cons_succ, flat_cons, flat_cons, flat_set hk he xs i (by simpa using h), List.set_append_right _ _ (by rw [Enc.len, Nat.succ_mul]; omega)]
    congr 2
    rw [Enc.len, Nat.succ_mul]; omega
theorem Row.set {c : Array Value} {xs : List α} (h : Row c 0 xs) {v : Value} {x x' : α} {i k : Nat} (hk : k < Enc.sz α) (he : Enc.enc x' = (Enc.enc x).set k v) (hx : xs[i]? = some x) : Row (c.setIfInBounds (i * Enc.sz α + k) v) 0 (xs.set i x') := by
  unfold Row at *
  rw [flat_set hk he xs i hx, ← h, List.length_set, List.drop_zero, List.drop_zero, Array.toList_setIfInBounds, List.take_set]
variable {P : Program} {κ : World} {n : Nat} {L M R : List Assn} {ρ : Env} {ops : Array Oper} {o : Oper} {l : List Oper} {Q : Exit → Act → World → Prop}
theorem eff_storeS {t : TypeId} {u y : Operand} {E : TypeId} {by_ m cap b off i k : Nat} {z v : Value} {a : Option Addr} {xs : List α} {x x' : α} (ho : o.op = .store t u y) (ht : TyF P t 1 z by_) (ha : a = some ⟨b, off, none⟩) (hu : oev ρ u = some (.pointer (some ⟨b, off + i * Enc.sz α + k, none⟩))) (hy : oev ρ y = some v)
    (hp : Pick (ownS E a m cap xs) L R) (hv : v.cells = #[v]) (hone : v.oneCell' = true) (hx : xs[i]? = some x) (hk : k < Enc.sz α) (he : Enc.enc x' = (Enc.enc x).set k v) :
    Eff P κ n L ρ o (fun _ : Unit => ownS E a m cap (xs.set i x') :: R) (fun _ => undef) := fun ac w K Q hac hw hk2 => by
  obtain ⟨h1, h2, h3⟩ := ownS_open (hw.ent (Ent.pick hp))
  have hlt : i < xs.length := by
    rcases Nat.lt_or_ge i xs.length with h' | h'
    · exact h'
    · rw [List.getElem?_eq_none h'] at hx; cases hx
  rcases h3 with ⟨_, hc, _⟩ | ⟨b', c, e, hcs, hr, hs⟩
  · omega
  · have e2 : (⟨b', 0, none⟩ : Addr) = ⟨b, off, none⟩ := Option.some.inj (e.symm.trans ha)
    obtain ⟨rfl, rfl⟩ : b' = b ∧ 0 = off := by injection e2 with e3 e4; exact ⟨e3, e4⟩
    have hsz : 0 + i * Enc.sz α + k < c.size := by
      have h4 : (i + 1) * Enc.sz α ≤ cap * Enc.sz α := Nat.mul_le_mul_right _ (by omega)
      rw [Nat.succ_mul] at h4; omega
    refine eff_store1 (c' := c.setIfInBounds (i * Enc.sz α + k) v) ho ht hu hy .here hv hone hsz (by rw [Nat.zero_add]) ac w K Q hac hs (fun _ w' hw' => ?_)
    refine hk2 () w' ?_
    rw [e]
    exact hw'.ent (ownS_close (by rw [Array.size_setIfInBounds]; exact hcs) (Row.set hr hk he hx) (by rw [List.length_set]; exact h1) h2)
end


theorem fds_get {fs : List Wl.Fd} {f g : Wl.Fd} {j : Nat} (h : fs[j]? = some f) (k : fs[j]? = some g) : f = g := Option.some.inj (h.symm.trans k)
theorem cell_fdB {L : List Assn} {a : Option Addr} {m b off i : Nat} {xs : List FdV} {v : FdV} {f : Wl.Fd} (ha : a = some ⟨b, off, none⟩) (h : Reads L a m xs) (hv : xs[i]? = some v) (e2 : v.base = f.base) : Cell L b (off + i * 4 + 0 + 1) (.int .u64 (f.base : Int)) := by
  have h1 : Cell L b (off + i * 4 + 1) (.int .u64 (v.base : Int)) := cell_Sa ha h hv (k := 1) rfl
  rw [e2] at h1
  exact h1
theorem mul_small {n s : Int} (h1 : 0 ≤ n) (h2 : n ≤ 64) (h3 : 0 ≤ s) (h4 : s ≤ 64) : 0 ≤ n * s ∧ n * s ≤ 4096 := ⟨Int.mul_nonneg h1 h3, by have := Int.mul_le_mul h2 h4 h3 (by decide : (0:Int) ≤ 64); omega⟩

theorem wal_usedL (p : Nat) (g : LG) (i : Int) (b : Bool) (hl : g.live.length ≤ 1000000) (hb : Wl.has g.live i = b) : Ctr Tryz.prog 29 #[.pointer (some ⟨p, 0, none⟩), .int .i64 i] [LogAt p g] (fun _ : Unit => .bool b) (fun _ => [LogAt p g]) := hb ▸ wal_used p g i hl

theorem wal_Open_no (dk : Nat) (at_ n s k : Int) (h : ¬ (2 ≤ n ∧ n ≤ 64 ∧ 1 ≤ s ∧ s ≤ 64 ∧ 0 ≤ at_ ∧ at_ ≤ 65536 - n * s)) : Ctr Tryz.prog 7 #[.pointer (some ⟨dk, 0, none⟩), .int .i64 at_, .int .i64 n, .int .i64 s, .int .u64 k] [] (fun _ : Unit => .tuple #[.pointer none, .slice none 0 0, .int .i64 80]) (fun _ => []) := by
 refine Z.fn Tryz.func7 Tryz.ntmps7 (fun κ F => ?_)
 have hms : 0 ≤ n → n ≤ 64 → 0 ≤ s → s ≤ 64 → 0 ≤ n * s ∧ n * s ≤ 4096 := fun h1 h2 h3 h4 => mul_small h1 h2 h3 h4
 refine Z.go 11 ?_
 refine Z.lt 36 2 (fun g1 => ?_) (fun g1 => ?_)
 ·first | (exfalso; first | omega | (simp at g1; done) | contradiction) | skip
  all_goals (
   exact hx_ret3 (.inl rfl) rfl rfl rfl rfl () rfl (Ent.refl _)
  )
 ·first | (exfalso; first | omega | (simp at g1; done) | contradiction) | skip
  all_goals (
   refine Z.gt 33 3 (fun g2 => ?_) (fun g2 => ?_)
   ·first | (exfalso; first | omega | (simp at g2; done) | contradiction) | skip
    all_goals (
     exact hx_ret3 (.inl rfl) rfl rfl rfl rfl () rfl (Ent.refl _)
    )
   ·first | (exfalso; first | omega | (simp at g2; done) | contradiction) | skip
    all_goals (
     refine Z.lt 29 3 (fun g3 => ?_) (fun g3 => ?_)
     ·first | (exfalso; first | omega | (simp at g3; done) | contradiction) | skip
      all_goals (
       exact hx_ret3 (.inl rfl) rfl rfl rfl rfl () rfl (Ent.refl _)
      )
     ·first | (exfalso; first | omega | (simp at g3; done) | contradiction) | skip
      all_goals (
       refine Z.gt 25 3 (fun g4 => ?_) (fun g4 => ?_)
       ·first | (exfalso; first | omega | (simp at g4; done) | contradiction) | skip
        all_goals (
         exact hx_ret3 (.inl rfl) rfl rfl rfl rfl () rfl (Ent.refl _)
        )
       ·first | (exfalso; first | omega | (simp at g4; done) | contradiction) | skip
        all_goals (
         refine Z.lt 21 5 (fun g5 => ?_) (fun g5 => ?_)
         ·first | (exfalso; first | omega | (simp at g5; done) | contradiction) | skip
          all_goals (
           exact hx_ret3 (.inl rfl) rfl rfl rfl rfl () rfl (Ent.refl _)
          )
         ·first | (exfalso; first | omega | (simp at g5; done) | contradiction) | skip
          all_goals (
           refine Z.ml (r := n * s) (hw := by have h0 := mul_small (n := n) (s := s) (by omega) (by omega) (by omega) (by omega); exact in_i64 (by omega)) 0 ?_
           refine Z.sb (r := 65536 - n * s) (hw := by have h0 := mul_small (n := n) (s := s) (by omega) (by omega) (by omega) (by omega); exact in_i64 (by omega)) 0 ?_
           refine Z.gt 13 0 (fun g6 => ?_) (fun g6 => ?_)
           ·first | (exfalso; first | omega | (simp at g6; done) | contradiction) | skip
            all_goals (
             exact hx_ret3 (.inl rfl) rfl rfl rfl rfl () rfl (Ent.refl _)
            )
           ·(exfalso; first | omega | (simp at g6; done) | contradiction)
          )
        )
      )
    )
  )
theorem wal_Open (dk n s k : Nat) (at_ : Int) (d : Dk.Disk) (hn : 2 ≤ n ∧ n ≤ 64) (hs : 1 ≤ s ∧ s ≤ 64) (hat : 0 ≤ at_ ∧ at_ + ((n * s : Nat) : Int) ≤ 65536) (hk : k < 18446744073709551616) (hpl : d.pend.length ≤ 900000) : Ctr Tryz.prog 7 #[.pointer (some ⟨dk, 0, none⟩), .int .i64 at_, .int .i64 (n : Int), .int .i64 (s : Int), .int .u64 (k : Int)] [DiskAt dk d] (fun q : Nat × Option Addr × Nat => .tuple #[.pointer (some ⟨q.1, 0, none⟩), .slice q.2.1 (Wl.found d at_ s n k).out.length q.2.2, .int .i64 0]) (fun q => [LogAt q.1 (⟨dk, at_, n, s, (Wl.found d at_ s n k).live, [], max (Wl.found d at_ s n k).last k, max (Wl.found d at_ s n k).last k⟩ : LG), DiskAt dk (Wl.openDisk d at_ s n k), ro (roS q.2.1 (Wl.found d at_ s n k).out.length (Wl.found d at_ s n k).out)]) := by
 refine Z.fn Tryz.func7 Tryz.ntmps7 (fun κ F => ?_)
 have hnn := mul_small (n := (n : Int)) (s := (s : Int)) (by omega) (by omega) (by omega) (by omega)
 refine ht_dkOkW Z.p (fun hok => ?_)
 have hlk := Wl.look_len d.view at_ s n
 refine Z.go 11 ?_
 refine Z.lt 0 2 (fun g1 => ?_) (fun g1 => ?_)
 ·(exfalso; first | omega | (simp at g1; done) | contradiction)
 ·first | (exfalso; first | omega | (simp at g1; done) | contradiction) | skip
  all_goals (
   refine Z.gt 0 3 (fun g2 => ?_) (fun g2 => ?_)
   ·(exfalso; first | omega | (simp at g2; done) | contradiction)
   ·first | (exfalso; first | omega | (simp at g2; done) | contradiction) | skip
    all_goals (
     refine Z.lt 0 3 (fun g3 => ?_) (fun g3 => ?_)
     ·(exfalso; first | omega | (simp at g3; done) | contradiction)
     ·first | (exfalso; first | omega | (simp at g3; done) | contradiction) | skip
      all_goals (
       refine Z.gt 0 3 (fun g4 => ?_) (fun g4 => ?_)
       ·(exfalso; first | omega | (simp at g4; done) | contradiction)
       ·first | (exfalso; first | omega | (simp at g4; done) | contradiction) | skip
        all_goals (
         refine Z.lt 0 5 (fun g5 => ?_) (fun g5 => ?_)
         ·(exfalso; first | omega | (simp at g5; done) | contradiction)
         ·first | (exfalso; first | omega | (simp at g5; done) | contradiction) | skip
          all_goals (
           refine Z.ml (r := (n : Int) * (s : Int)) (hw := by exact in_i64 (by omega)) 0 ?_
           refine Z.sb (r := 65536 - (n : Int) * (s : Int)) (hw := by exact in_i64 (by omega)) 0 ?_
           refine Z.gt 0 13 (fun g6 => ?_) (fun g6 => ?_)
           ·(exfalso; first | omega | (simp at g6; done) | contradiction)
           ·first | (exfalso; first | omega | (simp at g6; done) | contradiction) | skip
            all_goals (
             refine Z.ev (ev_build1 (csl := [_, _, _, _, .slice none 0 0, .slice none 0 0, _, .int .u64 0]) rfl Tryz.st75 (.cons rfl (.cons rfl (.cons rfl (.cons rfl (.cons rfl .nil))))) (.cons rfl (.cons rfl (.cons rfl (.cons rfl (.cons rfl .nil))))) rfl rfl) 0 ?_
             refine Z.bA 0 (fun b53 => ?_)
             refine Z.al 0 (fun b13 => ?_)
             refine Z.s1 4 ?_
             refine Z.ld 0 ?_
             refine ho_ent ((ownS_nil (α := Wl.Seg) 79).trans (Ent.trans (Ent.roTrue (ψ := roS (α := UInt8) none 0 []) (fun r => SliceIn.empty _ _) (Ent.refl _)) (Ent.log (g := (⟨dk, at_, n, s, [], [], k, 0⟩ : LG)) (x := ⟨none, 0, none, 0⟩) Z.d rfl rfl rfl rfl rfl rfl rfl rfl rfl rfl (Nat.le_refl _) (Ent.refl _)))) ?_
             refine Z.cd (c := wal_look b53 (⟨dk, at_, n, s, [], [], k, 0⟩ : LG) d hat (by show s ≤ 64; omega) (by show n ≤ 64; omega)) 10 (fun z => ?_)
             refine ht_fdsLen Z.p (fun hzl => ?_)
             have hzl : z.1.length = (Wl.look d.view at_ s n).length := hzl
             refine Z.go 7 ?_
             refine Z.lo (fun q : Nat × Int => ([LogAt b53 (⟨dk, at_, n, s, [], [], k, 0⟩ : LG), DiskAt dk d, pt b13 (.cells #[.pointer (some ⟨b53, 0, none⟩)] 37 (0, 0)), ro (roS z.2.1 z.1.length z.1), ro (fdsR z.1 (Wl.look d.view at_ s n)), pu (q.2 = Wl.bestF k (Wl.look d.view at_ s n) q.1 ∧ q.1 ≤ z.1.length), F], [(0, .pointer (some ⟨dk, 0, none⟩)), (4, .int .u64 (k : Int)), (13, .pointer (some ⟨b13, 0, none⟩)), (14, .slice z.2.1 z.1.length z.2.2), (15, .int .i64 q.2), (56, .slice z.2.1 z.1.length z.2.2), (57, .int .i64 z.1.length), (58, .int .i64 q.1)])) (fun q : Nat × Int => z.1.length - q.1) (0, -1) ?_ (fun q => ?_)
             ·(first | dsimp only | skip)
              exact Ent.cons Z.k (Ent.cons Z.k (Ent.cons Z.k (Ent.roD Z.p (Ent.roD Z.p (Ent.pu ⟨rfl, by omega⟩ Z.f)))))
             obtain ⟨i, b⟩ := q
             dsimp only
             refine ht_pick (A := pu (b = Wl.bestF k (Wl.look d.view at_ s n) i ∧ i ≤ z.1.length)) Z.k (ht_pure fun hq => ?_)
             obtain ⟨hb, hi⟩ := hq
             refine Z.go 2 ?_
             refine Z.lt 9 22 (fun g7 => ?_) (fun g7 => ?_)
             ·first | (exfalso; first | omega | (simp at g7; done) | contradiction) | skip
              all_goals (
               refine ht_fdAt (i := i) (xs := z.1) (fs := (Wl.look d.view at_ s n)) (by omega) Z.p (fun v f hv hf => ?_)
               refine ht_fd Z.p (fun e1 e2 e3 e4 => ?_)
               refine ht_someS (α := FdV) (a := z.2.1) (reads_ro Z.p) (by omega) (fun ab ao ha => ?_)
               refine Z.go 2 ?_
               refine Z.ev (ev_indexAddr rfl Tryz.underlying76 Tryz.ty81 (congrArg (fun w => some (Value.slice w z.1.length z.2.2)) ha) rfl (by omega) (by omega)) 0 ?_
               refine Z.la (hc := by exact cells_fd ha (reads_ro Z.p) hv e1 e2 e3 e4) 0 ?_
               refine Z.al 1 (fun b17 => ?_)
               refine Z.sA 3 ?_
               rcases Wl.bestF_cases k (Wl.look d.view at_ s n) i with hb1 | ⟨j, f2, hb1, hj, hf2⟩
               ·skip
                have hb2 := hb.trans hb1
                subst hb2
                refine ht_draw (.op 0 (.op 1 (.op 2 (.op 3 (.op 4 (.op 5 (.op 6 (.op 7 (.op 8 (.op 9 (.op 10 (.op 11 (.op 12 (.op 13 (.op 14 (.op 15 (.op 16 (.op 17 (.op 18 (.op 19 (.op 20 (.op 21 (.op 22 (.op 23 (.op 24 (.op 25 (.op 26 (.op 27 (.op 28 (.op 29 (.op 30 (.op 31 (.op 32 (.op 33 .done)))))))))))))))))))))))))))))))))) [] Tryz.mixed rfl ?_
                refine Z.dr 2 ?_
                refine Z.dl ?_
                refine Z.dr 1 ?_
                refine hd_ev rfl rfl rfl rfl (EvG.go rfl (ev_add (r := (((k + 1) % 18446744073709551616 : Nat) : Int)) rfl rfl rfl (by exact add_wrap k 1))) ?_
                refine hd_le rfl rfl rfl rfl rfl rfl rfl rfl (fun g8 => ?_) (fun g8 => ?_)
                ·first | (exfalso; first | omega | (simp at g8; done) | contradiction) | skip
                 all_goals (
                  refine Z.dr 3 ?_
                  refine Z.dl ?_
                  refine Z.dr 2 ?_
                  refine Z.dl ?_
                  refine hd_ev rfl rfl rfl rfl (EvG.go rfl (ev_add (r := (((f.base + f.recs.length) % 18446744073709551616 : Nat) : Int)) rfl rfl rfl (by exact add_wrap _ _))) ?_
                  refine Z.dr 1 ?_
                  refine hd_ev rfl rfl rfl rfl (EvG.go rfl (ev_add (r := (((k + 1) % 18446744073709551616 : Nat) : Int)) rfl rfl rfl (by exact add_wrap k 1))) ?_
                  refine hd_geg rfl rfl rfl rfl rfl rfl rfl rfl rfl (fun g9 => ?_) (fun g9 => ?_)
                  ·first | (exfalso; first | omega | (simp at g9; done) | contradiction) | skip
                   all_goals (
                    refine Z.dr 3 ?_
                    refine hd_ltg rfl rfl rfl rfl rfl rfl rfl rfl rfl (fun g10 => ?_) (fun g10 => ?_)
                    ·first | (exfalso; first | omega | (simp at g10; done) | contradiction) | skip
                     all_goals (
                      refine Z.dr 13 ?_
                      refine hd_nil ?_
                      refine Z.xg 9 ?_
                      refine Z.ad 2 ?_
                      refine Z.ag (i + 1, (i : Int)) (by (first | dsimp only | skip); omega) ?_
                      (first | dsimp only | skip)
                      exact Ent.cons Z.k (Ent.cons Z.k (Ent.cons Z.k (Ent.roD Z.p (Ent.roD Z.p (Ent.pu ⟨by first | exact (Wl.best_yes1 hf (by omega) (by omega) hb1).symm | exact (Wl.best_yes2 hf (by omega) (by omega) hb1 hf2 (by omega)).symm, by omega⟩ Z.f)))))
                     )
                    ·first | (exfalso; first | omega | (simp at g10; done) | contradiction) | skip
                     all_goals (
                      refine Z.dr 3 ?_
                      refine Z.dl ?_
                      refine Z.dr 2 ?_
                      refine hd_ev rfl rfl rfl rfl (EvG.go rfl (ev_indexAddr rfl Tryz.underlying76 Tryz.ty81 (congrArg (fun w => some (Value.slice w z.1.length z.2.2)) ha) rfl (by omega) (by omega))) ?_
                      refine hd_ev rfl rfl rfl rfl (EvG.go rfl (by first | exact ev_fieldAddr0 rfl Tryz.fld81_0 rfl | exact ev_fieldAddr rfl Tryz.fld81_0 rfl)) ?_
                      refine hd_ev rfl rfl rfl rfl (EvG.go rfl (by first | exact ev_fieldAddr0 rfl Tryz.fld79_1 rfl | exact ev_fieldAddr rfl Tryz.fld79_1 rfl)) ?_
                      refine Z.dl (hc := by exact cell_fdB ha (reads_ro Z.p) hv2 d2) ?_
                      refine hd_gtg rfl rfl rfl rfl rfl rfl rfl rfl rfl (fun g11 => ?_) (fun g11 => ?_)
                      ·first | (exfalso; first | omega | (simp at g11; done) | contradiction) | skip
                       all_goals (
                        refine Z.dr 2 ?_
                        refine hd_nil ?_
                        refine Z.xg 9 ?_
                        refine Z.ad 2 ?_
                        refine Z.ag (i + 1, (i : Int)) (by (first | dsimp only | skip); omega) ?_
                        (first | dsimp only | skip)
                        exact Ent.cons Z.k (Ent.cons Z.k (Ent.cons Z.k (Ent.roD Z.p (Ent.roD Z.p (Ent.pu ⟨by first | exact (Wl.best_yes1 hf (by omega) (by omega) hb1).symm | exact (Wl.best_yes2 hf (by omega) (by omega) hb1 hf2 (by omega)).symm, by omega⟩ Z.f)))))
                       )
                      ·first | (exfalso; first | omega | (simp at g11; done) | contradiction) | skip
                       all_goals (
                        refine Z.dr 2 ?_
                        refine hd_nil ?_
                        refine Z.xg 6 ?_
                        refine Z.ad 2 ?_
                        refine Z.ag (i + 1, (-1 : Int)) (by (first | dsimp only | skip); omega) ?_
                        (first | dsimp only | skip)
                        exact Ent.cons Z.k (Ent.cons Z.k (Ent.cons Z.k (Ent.roD Z.p (Ent.roD Z.p (Ent.pu ⟨by first | exact hb.trans (Wl.best_no1 hf (by omega)).symm | exact hb.trans (Wl.best_no2 hf (by omega)).symm | exact hb.trans (Wl.best_no3 hf hb1 hf2 (by omega)).symm, by omega⟩ Z.f)))))
                       )
                     )
                   )
                  ·first | (exfalso; first | omega | (simp at g9; done) | contradiction) | skip
                   all_goals (
                    refine Z.dr 17 ?_
                    refine hd_nil ?_
                    refine Z.xg 6 ?_
                    refine Z.ad 2 ?_
                    refine Z.ag (i + 1, (-1 : Int)) (by (first | dsimp only | skip); omega) ?_
                    (first | dsimp only | skip)
                    exact Ent.cons Z.k (Ent.cons Z.k (Ent.cons Z.k (Ent.roD Z.p (Ent.roD Z.p (Ent.pu ⟨by first | exact hb.trans (Wl.best_no1 hf (by omega)).symm | exact hb.trans (Wl.best_no2 hf (by omega)).symm | exact hb.trans (Wl.best_no3 hf hb1 hf2 (by omega)).symm, by omega⟩ Z.f)))))
                   )
                 )
                ·first | (exfalso; first | omega | (simp at g8; done) | contradiction) | skip
                 all_goals (
                  refine Z.dr 28 ?_
                  refine hd_nil ?_
                  refine Z.xg 6 ?_
                  refine Z.ad 2 ?_
                  refine Z.ag (i + 1, (-1 : Int)) (by (first | dsimp only | skip); omega) ?_
                  (first | dsimp only | skip)
                  exact Ent.cons Z.k (Ent.cons Z.k (Ent.cons Z.k (Ent.roD Z.p (Ent.roD Z.p (Ent.pu ⟨by first | exact hb.trans (Wl.best_no1 hf (by omega)).symm | exact hb.trans (Wl.best_no2 hf (by omega)).symm | exact hb.trans (Wl.best_no3 hf hb1 hf2 (by omega)).symm, by omega⟩ Z.f)))))
                 )
               ·skip
                have hb2 := hb.trans hb1
                subst hb2
                refine ht_fdAt (i := j) (xs := z.1) (fs := (Wl.look d.view at_ s n)) (by omega) Z.p (fun v2 f3 hv2 hf3 => ?_)
                have hff := fds_get hf2 hf3
                subst hff
                refine ht_fd Z.p (fun d1 d2 d3 d4 => ?_)
                refine ht_draw (.op 0 (.op 1 (.op 2 (.op 3 (.op 4 (.op 5 (.op 6 (.op 7 (.op 8 (.op 9 (.op 10 (.op 11 (.op 12 (.op 13 (.op 14 (.op 15 (.op 16 (.op 17 (.op 18 (.op 19 (.op 20 (.op 21 (.op 22 (.op 23 (.op 24 (.op 25 (.op 26 (.op 27 (.op 28 (.op 29 (.op 30 (.op 31 (.op 32 (.op 33 .done)))))))))))))))))))))))))))))))))) [] Tryz.mixed rfl ?_
                refine Z.dr 2 ?_
                refine Z.dl ?_
                refine Z.dr 1 ?_
                refine hd_ev rfl rfl rfl rfl (EvG.go rfl (ev_add (r := (((k + 1) % 18446744073709551616 : Nat) : Int)) rfl rfl rfl (by exact add_wrap k 1))) ?_
                refine hd_le rfl rfl rfl rfl rfl rfl rfl rfl (fun g12 => ?_) (fun g12 => ?_)
                ·first | (exfalso; first | omega | (simp at g12; done) | contradiction) | skip
                 all_goals (
                  refine Z.dr 3 ?_
                  refine Z.dl ?_
                  refine Z.dr 2 ?_
                  refine Z.dl ?_
                  refine hd_ev rfl rfl rfl rfl (EvG.go rfl (ev_add (r := (((f.base + f.recs.length) % 18446744073709551616 : Nat) : Int)) rfl rfl rfl (by exact add_wrap _ _))) ?_
                  refine Z.dr 1 ?_
                  refine hd_ev rfl rfl rfl rfl (EvG.go rfl (ev_add (r := (((k + 1) % 18446744073709551616 : Nat) : Int)) rfl rfl rfl (by exact add_wrap k 1))) ?_
                  refine hd_geg rfl rfl rfl rfl rfl rfl rfl rfl rfl (fun g13 => ?_) (fun g13 => ?_)
                  ·first | (exfalso; first | omega | (simp at g13; done) | contradiction) | skip
                   all_goals (
                    refine Z.dr 3 ?_
                    refine hd_ltg rfl rfl rfl rfl rfl rfl rfl rfl rfl (fun g14 => ?_) (fun g14 => ?_)
                    ·first | (exfalso; first | omega | (simp at g14; done) | contradiction) | skip
                     all_goals (
                      refine Z.dr 13 ?_
                      refine hd_nil ?_
                      refine Z.xg 9 ?_
                      refine Z.ad 2 ?_
                      refine Z.ag (i + 1, (i : Int)) (by (first | dsimp only | skip); omega) ?_
                      (first | dsimp only | skip)
                      exact Ent.cons Z.k (Ent.cons Z.k (Ent.cons Z.k (Ent.roD Z.p (Ent.roD Z.p (Ent.pu ⟨by first | exact (Wl.best_yes1 hf (by omega) (by omega) hb1).symm | exact (Wl.best_yes2 hf (by omega) (by omega) hb1 hf2 (by omega)).symm, by omega⟩ Z.f)))))
                     )
                    ·first | (exfalso; first | omega | (simp at g14; done) | contradiction) | skip
                     all_goals (
                      refine Z.dr 3 ?_
                      refine Z.dl ?_
                      refine Z.dr 2 ?_
                      refine hd_ev rfl rfl rfl rfl (EvG.go rfl (ev_indexAddr rfl Tryz.underlying76 Tryz.ty81 (congrArg (fun w => some (Value.slice w z.1.length z.2.2)) ha) rfl (by omega) (by omega))) ?_
                      refine hd_ev rfl rfl rfl rfl (EvG.go rfl (by first | exact ev_fieldAddr0 rfl Tryz.fld81_0 rfl | exact ev_fieldAddr rfl Tryz.fld81_0 rfl)) ?_
                      refine hd_ev rfl rfl rfl rfl (EvG.go rfl (by first | exact ev_fieldAddr0 rfl Tryz.fld79_1 rfl | exact ev_fieldAddr rfl Tryz.fld79_1 rfl)) ?_
                      refine Z.dl (hc := by exact cell_fdB ha (reads_ro Z.p) hv2 d2) ?_
                      refine hd_gtg rfl rfl rfl rfl rfl rfl rfl rfl rfl (fun g15 => ?_) (fun g15 => ?_)
                      ·first | (exfalso; first | omega | (simp at g15; done) | contradiction) | skip
                       all_goals (
                        refine Z.dr 2 ?_
                        refine hd_nil ?_
                        refine Z.xg 9 ?_
                        refine Z.ad 2 ?_
                        refine Z.ag (i + 1, (i : Int)) (by (first | dsimp only | skip); omega) ?_
                        (first | dsimp only | skip)
                        exact Ent.cons Z.k (Ent.cons Z.k (Ent.cons Z.k (Ent.roD Z.p (Ent.roD Z.p (Ent.pu ⟨by first | exact (Wl.best_yes1 hf (by omega) (by omega) hb1).symm | exact (Wl.best_yes2 hf (by omega) (by omega) hb1 hf2 (by omega)).symm, by omega⟩ Z.f)))))
                       )
                      ·first | (exfalso; first | omega | (simp at g15; done) | contradiction) | skip
                       all_goals (
                        refine Z.dr 2 ?_
                        refine hd_nil ?_
                        refine Z.xg 6 ?_
                        refine Z.ad 2 ?_
                        refine Z.ag (i + 1, (j : Int)) (by (first | dsimp only | skip); omega) ?_
                        (first | dsimp only | skip)
                        exact Ent.cons Z.k (Ent.cons Z.k (Ent.cons Z.k (Ent.roD Z.p (Ent.roD Z.p (Ent.pu ⟨by first | exact hb.trans (Wl.best_no1 hf (by omega)).symm | exact hb.trans (Wl.best_no2 hf (by omega)).symm | exact hb.trans (Wl.best_no3 hf hb1 hf2 (by omega)).symm, by omega⟩ Z.f)))))
                       )
                     )
                   )
                  ·first | (exfalso; first | omega | (simp at g13; done) | contradiction) | skip
                   all_goals (
                    refine Z.dr 17 ?_
                    refine hd_nil ?_
                    refine Z.xg 6 ?_
                    refine Z.ad 2 ?_
                    refine Z.ag (i + 1, (j : Int)) (by (first | dsimp only | skip); omega) ?_
                    (first | dsimp only | skip)
                    exact Ent.cons Z.k (Ent.cons Z.k (Ent.cons Z.k (Ent.roD Z.p (Ent.roD Z.p (Ent.pu ⟨by first | exact hb.trans (Wl.best_no1 hf (by omega)).symm | exact hb.trans (Wl.best_no2 hf (by omega)).symm | exact hb.trans (Wl.best_no3 hf hb1 hf2 (by omega)).symm, by omega⟩ Z.f)))))
                   )
                 )
                ·first | (exfalso; first | omega | (simp at g12; done) | contradiction) | skip
                 all_goals (
                  refine Z.dr 28 ?_
                  refine hd_nil ?_
                  refine Z.xg 6 ?_
                  refine Z.ad 2 ?_
                  refine Z.ag (i + 1, (j : Int)) (by (first | dsimp only | skip); omega) ?_
                  (first | dsimp only | skip)
                  exact Ent.cons Z.k (Ent.cons Z.k (Ent.cons Z.k (Ent.roD Z.p (Ent.roD Z.p (Ent.pu ⟨by first | exact hb.trans (Wl.best_no1 hf (by omega)).symm | exact hb.trans (Wl.best_no2 hf (by omega)).symm | exact hb.trans (Wl.best_no3 hf hb1 hf2 (by omega)).symm, by omega⟩ Z.f)))))
                 )
              )
             ·first | (exfalso; first | omega | (simp at g7; done) | contradiction) | skip
              all_goals (
               refine Z.lo (fun q : Nat × List Wl.Seg × Nat × List Wl.Rec × Int × Option Addr × Nat => ([LogAt b53 (⟨dk, at_, n, s, q.2.1, [], q.2.2.1, 0⟩ : LG), DiskAt dk d, pt b13 (.cells #[.pointer (some ⟨b53, 0, none⟩)] 37 (0, 0)), ro (roS z.2.1 z.1.length z.1), ro (fdsR z.1 (Wl.look d.view at_ s n)), ownS 71 q.2.2.2.2.2.1 q.2.2.2.1.length q.2.2.2.2.2.2 q.2.2.2.1, pu (Wl.Ch.run k (Wl.look d.view at_ s n) q.1 ⟨q.2.1, q.2.2.1, q.2.2.2.1, q.2.2.2.2.1⟩ = (Wl.found d at_ s n k) ∧ (q.2.2.2.2.1 = -1 ∨ ∃ j f, q.2.2.2.2.1 = ((j : Nat) : Int) ∧ (Wl.look d.view at_ s n)[j]? = some f ∧ Wl.has q.2.1 f.place = false) ∧ Wl.idle (Wl.look d.view at_ s n) q.2.1 ≤ q.1 ∧ q.1 ≤ 64 ∧ q.2.1.length + q.1 ≤ 64 ∧ q.2.2.2.1.length + 32768 * q.1 ≤ 2097152 ∧ q.2.2.1 < 18446744073709551616), F], [(0, .pointer (some ⟨dk, 0, none⟩)), (4, .int .u64 (k : Int)), (13, .pointer (some ⟨b13, 0, none⟩)), (14, .slice z.2.1 z.1.length z.2.2), (18, .slice q.2.2.2.2.2.1 q.2.2.2.1.length q.2.2.2.2.2.2), (19, .int .i64 q.2.2.2.2.1)])) (fun q : Nat × List Wl.Seg × Nat × List Wl.Rec × Int × Option Addr × Nat => q.1) ((Wl.look d.view at_ s n).length, [], k, [], b, none, 0) ?_ (fun q => ?_)
               ·(first | dsimp only | skip)
                have hiz : i = (Wl.look d.view at_ s n).length := by omega
                rw [hiz] at hb
                refine (ownS_nil (α := Wl.Rec) 71).trans ?_
                exact Ent.cons Z.k (Ent.cons Z.k (Ent.cons Z.k (Ent.roD Z.p (Ent.roD Z.p (Ent.cons Z.k (Ent.pu ⟨by rw [hb]; rfl, by rw [hb]; exact Wl.first_ok k (Wl.look d.view at_ s n), Wl.idle_len _ _, by omega, by simp; omega, by simp; omega, hk⟩ Z.f))))))
               obtain ⟨m, lv, la, out, nx, ad, cp⟩ := q
               dsimp only
               refine ht_pick (A := pu (Wl.Ch.run k (Wl.look d.view at_ s n) m ⟨lv, la, out, nx⟩ = (Wl.found d at_ s n k) ∧ (nx = -1 ∨ ∃ j f, nx = ((j : Nat) : Int) ∧ (Wl.look d.view at_ s n)[j]? = some f ∧ Wl.has lv f.place = false) ∧ Wl.idle (Wl.look d.view at_ s n) lv ≤ m ∧ m ≤ 64 ∧ lv.length + m ≤ 64 ∧ out.length + 32768 * m ≤ 2097152 ∧ la < 18446744073709551616)) Z.k (ht_pure fun hq => ?_)
               obtain ⟨hrun, hnx, hidle, hm, hlv, hout, hla⟩ := hq
               refine Z.go 4 ?_
               refine Z.ge 7 10 (fun g16 => ?_) (fun g16 => ?_)
               ·first | (exfalso; first | omega | (simp at g16; done) | contradiction) | skip
                all_goals (
                 rcases hnx with hnx | ⟨j, f, hj, hf, hu0⟩
                 ·exfalso; omega
                 subst hj
                 have hjl : j < z.1.length := by have h := (List.getElem?_eq_some_iff.1 hf).1; omega
                 refine ht_fdAt (i := j) (xs := z.1) (fs := (Wl.look d.view at_ s n)) (by omega) Z.p (fun v f3 hv hf3 => ?_)
                 have hff := fds_get hf hf3
                 subst hff
                 refine ht_fd Z.p (fun e1 e2 e3 e4 => ?_)
                 refine ht_someS (α := FdV) (a := z.2.1) (reads_ro Z.p) (by omega) (fun ab ao ha => ?_)
                 have hfw := Wl.look_ok hok.view hs.2 n f (List.mem_of_getElem? hf)
                 have hil := Wl.idle_lt hu0 hf
                 have hnx2 := Wl.next_ok (lv ++ [f.seg]) (Wl.upTo f.base f.recs.length) (Wl.look d.view at_ s n)
                 have hbl := Wl.behind_len k f.recs
                 refine ht_draw (.op 0 (.op 1 (.op 2 (.op 3 (.op 4 (.op 5 (.op 6 (.op 7 (.op 8 (.op 9 .done)))))))))) [7, 8] Tryz.mixed rfl ?_
                 refine Z.dr 1 ?_
                 refine Z.dl ?_
                 refine Z.dr 2 ?_
                 refine hd_ev rfl rfl rfl rfl (EvG.go rfl (ev_indexAddr rfl Tryz.underlying76 Tryz.ty81 (congrArg (fun w => some (Value.slice w z.1.length z.2.2)) ha) rfl (by omega) (by omega))) ?_
                 refine Z.dA (hc := by exact cells_fd ha (reads_ro Z.p) hv e1 e2 e3 e4) ?_
                 refine Z.dr 1 ?_
                 refine Z.dd (c := wal_take b53 (⟨dk, at_, n, s, lv, [], la, 0⟩ : LG) f v.a v.c k hfw.1 (by omega) (by show lv.length ≤ 1000000; omega)) (fun y => ?_)
                 refine Z.de rfl (eff_append (α := Wl.Rec) rfl Tryz.underlying38 Tryz.ty71 rfl (by decide) Tryz.underlying38 rfl rfl Z.p (by first | exact reads_ro Z.p | exact reads_own Z.p | exact reads_nil _) (by first | omega | (simp only [List.length_append, List.length_cons, List.length_nil, List.length_drop, List.length_take]; omega) | (simp; omega))) (fun p110 => ?_)
                 refine Z.dr 1 ?_
                 refine hd_nil ?_
                 refine Z.xg 4 ?_
                 refine Z.cd (c := wal_IndexF b53 b13 (⟨dk, at_, n, s, (lv ++ [f.seg]), [], (Wl.upTo f.base f.recs.length), 0⟩ : LG) z.2.1 z.2.2 z.1 (Wl.look d.view at_ s n) (by show (lv ++ [f.seg]).length ≤ 1000000; rw [List.length_append]; simp; omega) (by omega)) 3 (fun _ => ?_)
                 refine Z.ag (m - 1, (lv ++ [f.seg]), (Wl.upTo f.base f.recs.length), (out ++ Wl.behind k f.recs), (Wl.pos (Wl.okNext (lv ++ [f.seg]) (Wl.upTo f.base f.recs.length)) (Wl.look d.view at_ s n) 0), p110.1, p110.2) (by (first | dsimp only | skip); omega) ?_
                 (first | dsimp only | skip)
                 exact Ent.cons Z.k (Ent.cons Z.k (Ent.cons Z.k (Ent.roD Z.p (Ent.roD Z.p (Ent.cons Z.k (Ent.pu ⟨by rw [← hrun, show m = (m - 1) + 1 by omega, Wl.Ch.run_go hf]; rfl, hnx2, by omega, by omega, by rw [List.length_append]; simp; omega, by rw [List.length_append]; omega, Nat.mod_lt _ (by decide)⟩ Z.f))))))
                )
               ·first | (exfalso; first | omega | (simp at g16; done) | contradiction) | skip
                all_goals (
                 have hC : (⟨lv, la, out, nx⟩ : Wl.Ch) = (Wl.found d at_ s n k) := by rw [← hrun, Wl.Ch.run_stop (by show nx < 0; omega)]
                 obtain rfl : lv = (Wl.found d at_ s n k).live := by rw [← hC]
                 obtain rfl : la = (Wl.found d at_ s n k).last := by rw [← hC]
                 obtain rfl : out = (Wl.found d at_ s n k).out := by rw [← hC]
                 refine ht_log Z.p (fun x hx => ?_)
                 refine Z.go 1 ?_
                 refine Z.ld 2 ?_
                 refine Z.ld 4 ?_
                 refine Z.lo (fun q : Nat => ([LogAt b53 (⟨dk, at_, n, s, (Wl.found d at_ s n k).live, [], (Wl.found d at_ s n k).last, 0⟩ : LG), DiskAt dk (Wl.freeUn d at_ s (Wl.found d at_ s n k).live q), pt b13 (.cells #[.pointer (some ⟨b53, 0, none⟩)] 37 (0, 0)), ownS 71 ad (Wl.found d at_ s n k).out.length cp (Wl.found d at_ s n k).out, pu (q ≤ n), F], [(4, .int .u64 (k : Int)), (13, .pointer (some ⟨b13, 0, none⟩)), (18, .slice ad (Wl.found d at_ s n k).out.length cp), (117, .int .i64 (n : Int)), (118, .int .i64 q)])) (fun q : Nat => n - q) 0 ?_ (fun q => ?_)
                 ·(first | dsimp only | skip)
                  exact Ent.log (g := (⟨dk, at_, n, s, (Wl.found d at_ s n k).live, [], (Wl.found d at_ s n k).last, 0⟩ : LG)) (x := x) Z.d rfl rfl rfl rfl rfl rfl rfl rfl rfl rfl hx (Ent.cons Z.k (Ent.cons Z.k (Ent.cons Z.k (Ent.pu (by omega) Z.f))))
                 dsimp only
                 refine ht_pick (A := pu (q ≤ n)) Z.k (ht_pure fun hq => ?_)
                 have hfp := Wl.freeUn_pend d at_ s (Wl.found d at_ s n k).live q
                 refine Z.go 2 ?_
                 refine Z.lt 16 10 (fun g17 => ?_) (fun g17 => ?_)
                 ·first | (exfalso; first | omega | (simp at g17; done) | contradiction) | skip
                  all_goals (
                   refine Z.ld 1 ?_
                   rcases hu : Wl.has (Wl.found d at_ s n k).live (q : Int) with _ | _
                   ·skip
                    refine Z.cd (c := wal_usedL b53 (⟨dk, at_, n, s, (Wl.found d at_ s n k).live, [], (Wl.found d at_ s n k).last, 0⟩ : LG) (q : Int) false (by show (Wl.found d at_ s n k).live.length ≤ 1000000; omega) hu) 5 (fun _ => ?_)
                    refine Z.ld 1 ?_
                    have hms : q * s + s ≤ n * s := by have h := Nat.mul_le_mul_right s (show q + 1 ≤ n by omega); rw [Nat.succ_mul] at h; exact h
                    refine Z.cd (c := wal_free b53 (⟨dk, at_, n, s, (Wl.found d at_ s n k).live, [], (Wl.found d at_ s n k).last, 0⟩ : LG) (Wl.freeUn d at_ s (Wl.found d at_ s n k).live q) q (q * s) (by push_cast; rfl) (by show 0 ≤ at_ ∧ at_ + ((q * s : Nat) : Int) + (s : Int) ≤ 65536; omega) (by show s ≤ 64; omega) (by omega)) 4 (fun _ => ?_)
                    refine Z.ad 2 ?_
                    refine Z.ag (q + 1) (by (first | dsimp only | skip); omega) ?_
                    (first | dsimp only | skip)
                    rw [show Wl.freeUn d at_ s (Wl.found d at_ s n k).live (q + 1) = (if Wl.has (Wl.found d at_ s n k).live (q : Int) then (Wl.freeUn d at_ s (Wl.found d at_ s n k).live q) else Wl.freeAll (Wl.freeUn d at_ s (Wl.found d at_ s n k).live q) (at_ + ((q * s : Nat) : Int)) s) from rfl, hu]; exact Ent.cons Z.k (Ent.cons Z.k (Ent.cons Z.k (Ent.cons Z.k (Ent.pu (by omega) Z.f))))
                   ·skip
                    refine Z.cd (c := wal_usedL b53 (⟨dk, at_, n, s, (Wl.found d at_ s n k).live, [], (Wl.found d at_ s n k).last, 0⟩ : LG) (q : Int) true (by show (Wl.found d at_ s n k).live.length ≤ 1000000; omega) hu) 8 (fun _ => ?_)
                    refine Z.ad 2 ?_
                    refine Z.ag (q + 1) (by (first | dsimp only | skip); omega) ?_
                    (first | dsimp only | skip)
                    rw [show Wl.freeUn d at_ s (Wl.found d at_ s n k).live (q + 1) = (if Wl.has (Wl.found d at_ s n k).live (q : Int) then (Wl.freeUn d at_ s (Wl.found d at_ s n k).live q) else Wl.freeAll (Wl.freeUn d at_ s (Wl.found d at_ s n k).live q) (at_ + ((q * s : Nat) : Int)) s) from rfl, hu]; exact Ent.cons Z.k (Ent.cons Z.k (Ent.cons Z.k (Ent.cons Z.k (Ent.pu (by omega) Z.f))))
                  )
                 ·first | (exfalso; first | omega | (simp at g17; done) | contradiction) | skip
                  all_goals (
                   have hin : q = n := by omega
                   rw [hin]
                   refine ht_log Z.p (fun x hx => ?_)
                   refine ht_draw (.op 0 (.op 1 (.op 2 (.op 3 (.op 4 (.op 5 (.op 6 (.op 7 (.op 8 (.op 9 .done)))))))))) [9] Tryz.mixed rfl ?_
                   refine Z.dl ?_
                   refine Z.dl ?_
                   refine Z.dr 2 ?_
                   refine Z.dl ?_
                   refine Z.dr 1 ?_
                   refine hd_ev rfl rfl rfl rfl (EvG.go rfl (ev_maxI rfl rfl rfl rfl)) ?_
                   refine Z.dr 2 ?_
                   refine Z.d1 ?_
                   refine hd_nil ?_
                   refine Z.xg 3 ?_
                   refine Z.ld 0 ?_
                   refine ho_ent (Ent.log (g := (⟨dk, at_, n, s, (Wl.found d at_ s n k).live, [], max (Wl.found d at_ s n k).last k, 0⟩ : LG)) (x := x) Z.d rfl rfl rfl rfl rfl rfl (by show _ = ((max (Wl.found d at_ s n k).last k : Nat) : Int); omega) rfl rfl rfl hx (Ent.refl _)) ?_
                   refine Z.cd (c := wal_Sync b53 (⟨dk, at_, n, s, (Wl.found d at_ s n k).live, [], max (Wl.found d at_ s n k).last k, 0⟩ : LG) (Wl.freeUn d at_ s (Wl.found d at_ s n k).live n)) 4 (fun _ => ?_)
                   refine Z.ld 7 ?_
                   refine hx_freezeS (xs := (Wl.found d at_ s n k).out) Z.k ?_
                   exact hx_ret3 (.inl rfl) rfl rfl rfl rfl (b53, ad, cp) rfl (Ent.cons Z.k (Ent.cons Z.k (Ent.roD Z.k Z.f)))
                  )
                )
              )
            )
          )
        )
      )
    )
  )
end Go.Proofs.YtlejcepbcfijiaaGreatDoor
