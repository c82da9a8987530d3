/-
  THE DOCUMENT'S DISK (06): the walks. Conditions: as each contract says.
-/
import Derived.Test.YtlejcepbcfijiaaGreatDoorRef
import Derived.Test.YtlejcepbcfijiaaGreatDoorRefDM
import Derived.Test.YtlejcepbcfijiaaGreatDoorWire
import Derived.Test.YtlejcepbcfijiaaGreatDoorDisk
set_option maxRecDepth 100000
set_option linter.unusedVariables false
set_option linter.unusedSimpArgs false
namespace Go.Proofs.YtlejcepbcfijiaaGreatDoor
open Go Go.SL


instance : Enc (Int × List UInt8) := ⟨2, fun x => [.int .i64 x.1, vS x.2], fun _ => rfl, fun x v h => by simp at h; rcases h with rfl | rfl <;> rfl, by decide⟩
instance : Enc Rf.RPend := ⟨3, fun x => [.int .i64 x.place, .bool x.free, vS x.b], fun _ => rfl, fun x v h => by simp at h; rcases h with rfl | rfl | rfl <;> rfl, by decide⟩
/-- where the document's disk has its lists -/
structure RX where mk ::
  va : Option Addr
  vc : Nat
  ga : Option Addr
  gc : Nat
  la : Option Addr
  lc : Nat
abbrev rdV (r : Rf.RDisk) (x : RX) : Value := .agg #[.int .i64 r.size, .int .i64 r.limit, .slice x.va r.view.length x.vc, .slice x.ga r.ground.length x.gc, .slice x.la r.L.length x.lc]
def rdR (r : Rf.RDisk) (x : RX) : RoP := RoP.and (roS x.va r.view.length r.view) (RoP.and (roS x.ga r.ground.length r.ground) (roS x.la r.L.length r.L))
section
variable {P : Program} {κ : World} {n : Nat} {L M R R1 R2 R3 : List Assn} {ρ : Env} {ops : Array Oper} {l : List Oper} {Q : Exit → Act → World → Prop}
theorem ht_rd3 {r : Rf.RDisk} {x : RX} {c : Code} (k : Pick (ro (rdR r x)) L R) (h : HT P κ n (ro (roS x.va r.view.length r.view) :: ro (roS x.ga r.ground.length r.ground) :: ro (roS x.la r.L.length r.L) :: L) ρ c Q) : HT P κ n L ρ c Q :=
  ht_ent (Ent.roWeak k (fun _ h => h.1) (Ent.roWeak k (fun _ h => h.2.1) (Ent.roWeak k (fun _ h => h.2.2) (Ent.refl _)))) h
theorem ho_rd3 {r : Rf.RDisk} {x : RX} (k : Pick (ro (rdR r x)) L R) (h : HOps P κ n ops (ro (roS x.va r.view.length r.view) :: ro (roS x.ga r.ground.length r.ground) :: ro (roS x.la r.L.length r.L) :: L) ρ l Q) : HOps P κ n ops L ρ l Q :=
  ho_ent (Ent.roWeak k (fun _ h => h.1) (Ent.roWeak k (fun _ h => h.2.1) (Ent.roWeak k (fun _ h => h.2.2) (Ent.refl _)))) h
theorem Ent.rd3 {r : Rf.RDisk} {x : RX} {v g : List (Int × List UInt8)} {l : List Rf.RPend} {m1 m2 m3 : Nat} (k1 : Pick (ro (roS x.va m1 v)) L R1) (k2 : Pick (ro (roS x.ga m2 g)) L R2) (k3 : Pick (ro (roS x.la m3 l)) L R3) (e1 : v = r.view) (e2 : g = r.ground) (e3 : l = r.L) (f1 : m1 = r.view.length) (f2 : m2 = r.ground.length) (f3 : m3 = r.L.length) (h : Ent L M) : Ent L (ro (rdR r x) :: M) := by
  subst e1 e2 e3 f1 f2 f3
  exact Ent.roAnd k2 k3 (Ent.roWeak2 (φ := roS x.va r.view.length r.view) (φ' := RoP.and (roS x.ga r.ground.length r.ground) (roS x.la r.L.length r.L)) (.there k1) .here (fun _ h1 h2 => ⟨h1, h2⟩) (Ent.drop h))
theorem Ent.rdNil {r : Rf.RDisk} (e1 : r.view = []) (e2 : r.ground = []) (e3 : r.L = []) (h : Ent L M) : Ent L (ro (rdR r ⟨none, 0, none, 0, none, 0⟩) :: M) :=
  Ent.roTrue (fun q => by
    obtain ⟨a, b, v, g, l⟩ := r
    dsimp only at e1 e2 e3
    subst e1 e2 e3
    exact ⟨SliceIn.empty _ _, SliceIn.empty _ _, SliceIn.empty _ _⟩) h
end

theorem rf_New_no (n : Int) (h : n < 1 ∨ 65536 < n) : Ctr Tryz.prog 5 #[.int .i64 n] [] (fun _ : Unit => .tuple #[.agg #[.int .i64 0, .int .i64 0, .slice none 0 0, .slice none 0 0, .slice none 0 0], .int .i64 60]) (fun _ => []) := by
 refine Z.fn Tryz.func5 Tryz.ntmps5 (fun κ F => ?_)
 refine Z.go 2 ?_
 refine Z.al 7 (fun b2 => ?_)
 refine Z.lt 9 2 (fun g1 => ?_) (fun g1 => ?_)
 ·skip
  refine Z.ev (ev_build1 (csl := [.int .i64 0, .int .i64 0, .slice none 0 0, .slice none 0 0, .slice none 0 0]) rfl Tryz.st33 .nil .nil rfl rfl) 0 ?_
  refine Z.sA 5 ?_
  exact hx_ret2A (.inl rfl) rfl rfl rfl Tryz.underlying33 Tryz.ty33 rfl (cells_pt Z.p (Nat.le_of_ble_eq_true rfl) rfl) () rfl Z.f
 ·skip
  refine Z.gt 6 0 (fun g2 => ?_) (fun g2 => ?_)
  ·skip
   refine Z.ev (ev_build1 (csl := [.int .i64 0, .int .i64 0, .slice none 0 0, .slice none 0 0, .slice none 0 0]) rfl Tryz.st33 .nil .nil rfl rfl) 0 ?_
   refine Z.sA 5 ?_
   exact hx_ret2A (.inl rfl) rfl rfl rfl Tryz.underlying33 Tryz.ty33 rfl (cells_pt Z.p (Nat.le_of_ble_eq_true rfl) rfl) () rfl Z.f
  ·omega
theorem rf_New (n : Int) (h : 1 ≤ n ∧ n ≤ 65536) : Ctr Tryz.prog 5 #[.int .i64 n] [] (fun _ : Unit => .tuple #[rdV (Rf.RDisk.new n) ⟨none, 0, none, 0, none, 0⟩, .int .i64 0]) (fun _ => [ro (rdR (Rf.RDisk.new n) ⟨none, 0, none, 0, none, 0⟩)]) := by
 refine Z.fn Tryz.func5 Tryz.ntmps5 (fun κ F => ?_)
 refine Z.go 2 ?_
 refine Z.al 7 (fun b2 => ?_)
 refine Z.lt 0 2 (fun g1 => ?_) (fun g1 => ?_)
 ·omega
 ·skip
  refine Z.gt 0 10 (fun g2 => ?_) (fun g2 => ?_)
  ·omega
  ·skip
   refine Z.ev (ev_build1 (csl := [_, _, .slice none 0 0, .slice none 0 0, .slice none 0 0]) rfl Tryz.st33 (.cons rfl (.cons rfl .nil)) (.cons rfl (.cons rfl .nil)) rfl rfl) 0 ?_
   refine Z.sA 4 ?_
   exact hx_ret2A (.inl rfl) rfl rfl rfl Tryz.underlying33 Tryz.ty33 rfl (cells_pt Z.p (Nat.le_of_ble_eq_true rfl) rfl) () rfl (Ent.rdNil rfl rfl rfl Z.f)
theorem rf_Find (a : Option Addr) (c : Nat) (xs : List (Int × List UInt8)) (k : Int) (hxs : xs.length ≤ 1000000) : Ctr Tryz.prog 59 #[.slice a xs.length c, .int .i64 k] [ro (roS a xs.length xs)] (fun _ : Unit => .tuple #[vS ((Rf.rfind xs k).getD []), .bool (Rf.rfind xs k).isSome]) (fun _ => []) := by
 refine Z.fn Tryz.func59 Tryz.ntmps59 (fun κ F => ?_)
 refine Z.go 13 ?_
 refine Z.lo (fun q : Nat => ([ro (roS a xs.length xs), pu ((xs.take q).find? (·.1 == k) = none ∧ q ≤ xs.length), F], [(0, .slice a xs.length c), (1, .int .i64 k), (6, .int .i64 q)])) (fun q : Nat => xs.length - q) 0 ?_ (fun q => ?_)
 ·(first | dsimp only | skip)
  exact Ent.roD Z.p (Ent.pu ⟨rfl, by omega⟩ Z.f)
 dsimp only
 refine ht_pick (A := pu ((xs.take q).find? (·.1 == k) = none ∧ q ≤ xs.length)) Z.k (ht_pure fun hq => ?_)
 obtain ⟨hnf, hq⟩ := hq
 refine Z.go 6 ?_
 refine Z.lt 8 15 (fun g1 => ?_) (fun g1 => ?_)
 ·skip
  obtain ⟨x, hx⟩ : ∃ x, xs[q]? = some x := ⟨_, List.getElem?_eq_getElem (by omega)⟩
  refine ht_someS (α := Int × List UInt8) (a := a) (reads_ro Z.p) (by omega) (fun ab ao ha => ?_)
  refine Z.go 3 ?_
  refine Z.ev (ev_indexAddr rfl Tryz.underlying30 Tryz.ty134 (congrArg (fun z => some (Value.slice z xs.length c)) ha) rfl (by omega) (by omega)) 0 ?_
  refine Z.ev (by first | exact ev_fieldAddr0 rfl Tryz.fld134_0 rfl | exact ev_fieldAddr rfl Tryz.fld134_0 rfl) 0 ?_
  refine Z.ld (hc := by exact cell_Sa (α := Int × List UInt8) (k := 0) ha (reads_ro Z.p) hx rfl) 1 ?_
  refine Z.eq 7 8 (fun g2 => ?_) (fun g2 => ?_)
  ·skip
   refine Z.ev (ev_indexAddr rfl Tryz.underlying30 Tryz.ty134 (congrArg (fun z => some (Value.slice z xs.length c)) ha) rfl (by omega) (by omega)) 0 ?_
   refine Z.ev (by first | exact ev_fieldAddr0 rfl Tryz.fld134_1 rfl | exact ev_fieldAddr rfl Tryz.fld134_1 rfl) 0 ?_
   refine Z.ld (hc := by exact cell_Sa (α := Int × List UInt8) (k := 1) ha (reads_ro Z.p) hx rfl) 10 ?_
   rw [Rf.rf_here hnf hx (by omega)]
   exact hx_ret2 (.inl rfl) rfl rfl rfl () rfl Z.f
  ·skip
   refine Z.ad 2 ?_
   refine Z.ag (q + 1) (by (first | dsimp only | skip); omega) ?_
   (first | dsimp only | skip)
   exact Ent.roD Z.p (Ent.pu ⟨Rf.rf_step hnf hx (by omega), by omega⟩ Z.f)
 ·skip
  obtain rfl : q = xs.length := by omega
  rw [List.take_length] at hnf
  rw [show Rf.rfind xs k = none by unfold Rf.rfind; rw [hnf]; rfl]
  exact hx_ret2 (.inl rfl) rfl rfl rfl () rfl Z.f
theorem rf_done (a : Option Addr) (c : Nat) (xs : List (Int × List UInt8)) (pk : Int) (pf : Bool) (pb : List UInt8) (n : Int) (hxs : xs.length ≤ 1000000) (hpb : pb.length ≤ 1099511627776) (hold : ((Rf.rfind xs pk).getD []).length ≤ 1099511627776) : Ctr Tryz.prog 44 #[.slice a xs.length c, .agg #[.int .i64 pk, .bool pf, vS pb], .int .i64 n] [ro (roS a xs.length xs)] (fun q : Option Addr × Nat => .slice q.1 (Rf.rdone xs ⟨pk, pf, pb⟩ n).length q.2) (fun q => [ro (roS q.1 (Rf.rdone xs ⟨pk, pf, pb⟩ n).length (Rf.rdone xs ⟨pk, pf, pb⟩ n))]) := by
 refine Z.fn Tryz.func44 Tryz.ntmps44 (fun κ F => ?_)
 rcases pf with _ | _
 ·skip
  refine Z.go 2 ?_
  refine Z.bA 7 (fun b4 => ?_)
  refine Z.ld 0 ?_
  refine Z.ca (c := rf_Find a c xs pk hxs) 9 (fun _ => ?_)
  refine Z.ef (eff_buildAll (α := (Int × List UInt8)) [] rfl Tryz.underlying30 Tryz.ty134 .nil .nil rfl (Nat.le_of_ble_eq_true rfl)) 10 (fun b19 => ?_)
  refine Z.lo (fun q : Nat × Option Addr × Nat => ([ownS 134 q.2.1 (Rf.filt xs pk q.1).length q.2.2 (Rf.filt xs pk q.1), pt b4 (.cells #[.int .i64 pk, .bool false, vS pb] 111 (0, 0)), ro (roS a xs.length xs), pu (q.1 ≤ xs.length), F], [(0, .slice a xs.length c), (4, .pointer (some ⟨b4, 0, none⟩)), (2, .int .i64 n), (7, vS ((Rf.rfind xs pk).getD [])), (9, .slice q.2.1 (Rf.filt xs pk q.1).length q.2.2), (10, .int .i64 q.1)])) (fun q : Nat × Option Addr × Nat => xs.length - q.1) (0, some ⟨b19, 0, none⟩, 0) ?_ (fun q => ?_)
  ·(first | dsimp only | skip)
   rw [Rf.filt_zero]
   exact Ent.cons Z.k (Ent.cons Z.k (Ent.roD Z.p (Ent.pu (by omega) Z.f)))
  obtain ⟨q, ad, cp⟩ := q
  dsimp only
  refine ht_pick (A := pu (q ≤ xs.length)) Z.k (ht_pure fun hq => ?_)
  have hfl := Rf.filt_len xs pk q
  refine Z.go 6 ?_
  refine Z.lt 8 10 (fun g1 => ?_) (fun g1 => ?_)
  ·skip
   obtain ⟨x, hx⟩ : ∃ x, xs[q]? = some x := ⟨_, List.getElem?_eq_getElem (by omega)⟩
   refine ht_someS (α := Int × List UInt8) (a := a) (reads_ro Z.p) (by omega) (fun ab ao ha => ?_)
   refine ht_draw (.op 0 (.op 1 (.op 2 (.op 3 (.op 4 (.op 5 (.op 6 (.op 7 .done)))))))) [] Tryz.mixed rfl ?_
   refine Z.dr 2 ?_
   refine hd_ev rfl rfl rfl rfl (EvG.go rfl (ev_indexAddr rfl Tryz.underlying30 Tryz.ty134 (congrArg (fun z => some (Value.slice z xs.length c)) ha) rfl (by omega) (by omega))) ?_
   refine hd_ev rfl rfl rfl rfl (EvG.go rfl (by first | exact ev_fieldAddr0 rfl Tryz.fld134_0 rfl | exact ev_fieldAddr rfl Tryz.fld134_0 rfl)) ?_
   refine Z.dl (hc := by exact cell_Sa (α := Int × List UInt8) (k := 0) ha (reads_ro Z.p) hx rfl) ?_
   refine Z.dr 1 ?_
   refine Z.dl ?_
   refine hd_ne rfl rfl rfl rfl rfl rfl rfl rfl (fun g2 => ?_) (fun g2 => ?_)
   ·skip
    refine hd_nil ?_
    refine Z.xg 6 ?_
    refine Z.ev (ev_indexAddr rfl Tryz.underlying30 Tryz.ty134 (congrArg (fun z => some (Value.slice z xs.length c)) ha) rfl (by omega) (by omega)) 0 ?_
    refine Z.la (hc := by exact cells_Sa ha (reads_ro Z.p) hx) 0 ?_
    refine Z.ef (eff_buildAll (α := (Int × List UInt8)) [x] rfl Tryz.underlying30 Tryz.ty134 (.cons rfl .nil) (.cons rfl .nil) rfl (Nat.le_of_ble_eq_true rfl)) 0 (fun b39 => ?_)
    refine Z.ef (eff_append (α := (Int × List UInt8)) rfl Tryz.underlying30 Tryz.ty134 rfl (by decide) Tryz.underlying30 rfl rfl Z.p (by first | exact reads_ro Z.p | exact reads_own Z.p | exact reads_nil _) (by first | omega | (simp only [List.length_append, List.length_cons, List.length_nil, List.length_drop, List.length_take]; omega) | (simp; omega))) 6 (fun p40 => ?_)
    refine Z.ad 2 ?_
    have hfs := Rf.filt_yes hx (show x.1 ≠ pk by omega)
    rw [← hfs]
    refine Z.ag (q + 1, p40.1, p40.2) (by (first | dsimp only | skip); omega) ?_
    (first | dsimp only | skip)
    exact Ent.cons Z.k (Ent.cons Z.k (Ent.roD Z.p (Ent.pu (by omega) Z.f)))
   ·skip
    refine hd_nil ?_
    refine Z.xg 7 ?_
    refine Z.ad 2 ?_
    have hfs := Rf.filt_no hx (show x.1 = pk by omega)
    rw [← hfs]
    refine Z.ag (q + 1, ad, cp) (by (first | dsimp only | skip); omega) ?_
    (first | dsimp only | skip)
    exact Ent.cons Z.k (Ent.cons Z.k (Ent.roD Z.p (Ent.pu (by omega) Z.f)))
  ·skip
   obtain rfl : q = xs.length := by omega
   refine Z.go 2 ?_
   refine Z.ld 2 ?_
   refine Z.bc 42 0 6 (fun g3 => ?_) (fun g3 => ?_)
   ·simp at g3
   ·skip
    refine Z.ld 9 ?_
    refine Z.lt 6 9 (fun g4 => ?_) (fun g4 => ?_)
    ·skip
     refine Z.ev (ev_maxI (r := ((n.toNat : Nat) : Int)) rfl rfl rfl (by omega)) 7 ?_
     refine Z.ev (ev_sliceS rfl Tryz.underlying9 rfl rfl ⟨_, rfl⟩ (by omega) (by omega)) 8 ?_
     refine Z.lt 7 9 (fun g5 => ?_) (fun g5 => ?_)
     ·skip
      refine Z.ev (ev_sliceS rfl Tryz.underlying9 rfl ⟨_, rfl⟩ rfl (by omega) (by omega)) 0 ?_
      refine Z.ev (ev_addS rfl rfl rfl (by first | omega | (simp; omega))) 7 ?_
      refine Z.ld 1 ?_
      refine Z.ev (ev_build1 (csl := [_, _]) rfl Tryz.st134 (.cons rfl (.cons rfl .nil)) (.cons rfl (.cons rfl .nil)) rfl rfl) 0 ?_
      refine Z.ef (eff_buildAll (α := (Int × List UInt8)) [(pk, _)] rfl Tryz.underlying30 Tryz.ty134 (.cons rfl .nil) (.cons rfl .nil) rfl (Nat.le_of_ble_eq_true rfl)) 0 (fun b69 => ?_)
      refine Z.ef (eff_append (α := (Int × List UInt8)) rfl Tryz.underlying30 Tryz.ty134 rfl (by decide) Tryz.underlying30 rfl rfl Z.p (by first | exact reads_ro Z.p | exact reads_own Z.p | exact reads_nil _) (by first | omega | (simp only [List.length_append, List.length_cons, List.length_nil, List.length_drop, List.length_take]; omega) | (simp; omega))) 4 (fun p70 => ?_)
      have ht : Dk.torn ((Rf.rfind xs pk).getD []) pb n = (pb.take n.toNat).drop 0 ++ ((((Rf.rfind xs pk).getD []).take ((Rf.rfind xs pk).getD []).length).drop n.toNat) := by unfold Dk.torn; rw [if_pos (by omega), if_pos (by omega)]; simp
      have hr : Rf.rdone xs ⟨pk, false, pb⟩ n = Rf.filt xs pk xs.length ++ [(pk, (pb.take n.toNat).drop 0 ++ ((((Rf.rfind xs pk).getD []).take ((Rf.rfind xs pk).getD []).length).drop n.toNat))] := by rw [Rf.filt_all]; show _ ++ [(pk, Dk.torn ((Rf.rfind xs pk).getD []) pb n)] = _; rw [ht]
      rw [hr]
      exact hx_freezeS (α := Int × List UInt8) (xs := Rf.filt xs pk xs.length ++ [(pk, (pb.take n.toNat).drop 0 ++ ((((Rf.rfind xs pk).getD []).take ((Rf.rfind xs pk).getD []).length).drop n.toNat))]) Z.k (hx_ret1 (.inl rfl) rfl rfl p70 rfl (Ent.roD .here Z.f))
     ·skip
      refine Z.ld 1 ?_
      refine Z.ev (ev_build1 (csl := [_, _]) rfl Tryz.st134 (.cons rfl (.cons rfl .nil)) (.cons rfl (.cons rfl .nil)) rfl rfl) 0 ?_
      refine Z.ef (eff_buildAll (α := (Int × List UInt8)) [(pk, _)] rfl Tryz.underlying30 Tryz.ty134 (.cons rfl .nil) (.cons rfl .nil) rfl (Nat.le_of_ble_eq_true rfl)) 0 (fun b69 => ?_)
      refine Z.ef (eff_append (α := (Int × List UInt8)) rfl Tryz.underlying30 Tryz.ty134 rfl (by decide) Tryz.underlying30 rfl rfl Z.p (by first | exact reads_ro Z.p | exact reads_own Z.p | exact reads_nil _) (by first | omega | (simp only [List.length_append, List.length_cons, List.length_nil, List.length_drop, List.length_take]; omega) | (simp; omega))) 4 (fun p70 => ?_)
      have ht : Dk.torn ((Rf.rfind xs pk).getD []) pb n = (pb.take n.toNat).drop 0 := by unfold Dk.torn; rw [if_pos (by omega), if_neg (by omega)]; simp
      have hr : Rf.rdone xs ⟨pk, false, pb⟩ n = Rf.filt xs pk xs.length ++ [(pk, (pb.take n.toNat).drop 0)] := by rw [Rf.filt_all]; show _ ++ [(pk, Dk.torn ((Rf.rfind xs pk).getD []) pb n)] = _; rw [ht]
      rw [hr]
      exact hx_freezeS (α := Int × List UInt8) (xs := Rf.filt xs pk xs.length ++ [(pk, (pb.take n.toNat).drop 0)]) Z.k (hx_ret1 (.inl rfl) rfl rfl p70 rfl (Ent.roD .here Z.f))
    ·skip
     refine Z.ld 1 ?_
     refine Z.ev (ev_build1 (csl := [_, _]) rfl Tryz.st134 (.cons rfl (.cons rfl .nil)) (.cons rfl (.cons rfl .nil)) rfl rfl) 0 ?_
     refine Z.ef (eff_buildAll (α := (Int × List UInt8)) [(pk, _)] rfl Tryz.underlying30 Tryz.ty134 (.cons rfl .nil) (.cons rfl .nil) rfl (Nat.le_of_ble_eq_true rfl)) 0 (fun b69 => ?_)
     refine Z.ef (eff_append (α := (Int × List UInt8)) rfl Tryz.underlying30 Tryz.ty134 rfl (by decide) Tryz.underlying30 rfl rfl Z.p (by first | exact reads_ro Z.p | exact reads_own Z.p | exact reads_nil _) (by first | omega | (simp only [List.length_append, List.length_cons, List.length_nil, List.length_drop, List.length_take]; omega) | (simp; omega))) 4 (fun p70 => ?_)
     have ht : Dk.torn ((Rf.rfind xs pk).getD []) pb n = pb := by unfold Dk.torn; rw [if_neg (by omega)]
     have hr : Rf.rdone xs ⟨pk, false, pb⟩ n = Rf.filt xs pk xs.length ++ [(pk, pb)] := by rw [Rf.filt_all]; show _ ++ [(pk, Dk.torn ((Rf.rfind xs pk).getD []) pb n)] = _; rw [ht]
     rw [hr]
     exact hx_freezeS (α := Int × List UInt8) (xs := Rf.filt xs pk xs.length ++ [(pk, pb)]) Z.k (hx_ret1 (.inl rfl) rfl rfl p70 rfl (Ent.roD .here Z.f))
 ·skip
  refine Z.go 2 ?_
  refine Z.bA 7 (fun b4 => ?_)
  refine Z.ld 0 ?_
  refine Z.ca (c := rf_Find a c xs pk hxs) 9 (fun _ => ?_)
  refine Z.ef (eff_buildAll (α := (Int × List UInt8)) [] rfl Tryz.underlying30 Tryz.ty134 .nil .nil rfl (Nat.le_of_ble_eq_true rfl)) 10 (fun b19 => ?_)
  refine Z.lo (fun q : Nat × Option Addr × Nat => ([ownS 134 q.2.1 (Rf.filt xs pk q.1).length q.2.2 (Rf.filt xs pk q.1), pt b4 (.cells #[.int .i64 pk, .bool true, vS pb] 111 (0, 0)), ro (roS a xs.length xs), pu (q.1 ≤ xs.length), F], [(0, .slice a xs.length c), (4, .pointer (some ⟨b4, 0, none⟩)), (2, .int .i64 n), (7, vS ((Rf.rfind xs pk).getD [])), (9, .slice q.2.1 (Rf.filt xs pk q.1).length q.2.2), (10, .int .i64 q.1)])) (fun q : Nat × Option Addr × Nat => xs.length - q.1) (0, some ⟨b19, 0, none⟩, 0) ?_ (fun q => ?_)
  ·(first | dsimp only | skip)
   rw [Rf.filt_zero]
   exact Ent.cons Z.k (Ent.cons Z.k (Ent.roD Z.p (Ent.pu (by omega) Z.f)))
  obtain ⟨q, ad, cp⟩ := q
  dsimp only
  refine ht_pick (A := pu (q ≤ xs.length)) Z.k (ht_pure fun hq => ?_)
  have hfl := Rf.filt_len xs pk q
  refine Z.go 6 ?_
  refine Z.lt 8 10 (fun g1 => ?_) (fun g1 => ?_)
  ·skip
   obtain ⟨x, hx⟩ : ∃ x, xs[q]? = some x := ⟨_, List.getElem?_eq_getElem (by omega)⟩
   refine ht_someS (α := Int × List UInt8) (a := a) (reads_ro Z.p) (by omega) (fun ab ao ha => ?_)
   refine ht_draw (.op 0 (.op 1 (.op 2 (.op 3 (.op 4 (.op 5 (.op 6 (.op 7 .done)))))))) [] Tryz.mixed rfl ?_
   refine Z.dr 2 ?_
   refine hd_ev rfl rfl rfl rfl (EvG.go rfl (ev_indexAddr rfl Tryz.underlying30 Tryz.ty134 (congrArg (fun z => some (Value.slice z xs.length c)) ha) rfl (by omega) (by omega))) ?_
   refine hd_ev rfl rfl rfl rfl (EvG.go rfl (by first | exact ev_fieldAddr0 rfl Tryz.fld134_0 rfl | exact ev_fieldAddr rfl Tryz.fld134_0 rfl)) ?_
   refine Z.dl (hc := by exact cell_Sa (α := Int × List UInt8) (k := 0) ha (reads_ro Z.p) hx rfl) ?_
   refine Z.dr 1 ?_
   refine Z.dl ?_
   refine hd_ne rfl rfl rfl rfl rfl rfl rfl rfl (fun g2 => ?_) (fun g2 => ?_)
   ·skip
    refine hd_nil ?_
    refine Z.xg 6 ?_
    refine Z.ev (ev_indexAddr rfl Tryz.underlying30 Tryz.ty134 (congrArg (fun z => some (Value.slice z xs.length c)) ha) rfl (by omega) (by omega)) 0 ?_
    refine Z.la (hc := by exact cells_Sa ha (reads_ro Z.p) hx) 0 ?_
    refine Z.ef (eff_buildAll (α := (Int × List UInt8)) [x] rfl Tryz.underlying30 Tryz.ty134 (.cons rfl .nil) (.cons rfl .nil) rfl (Nat.le_of_ble_eq_true rfl)) 0 (fun b39 => ?_)
    refine Z.ef (eff_append (α := (Int × List UInt8)) rfl Tryz.underlying30 Tryz.ty134 rfl (by decide) Tryz.underlying30 rfl rfl Z.p (by first | exact reads_ro Z.p | exact reads_own Z.p | exact reads_nil _) (by first | omega | (simp only [List.length_append, List.length_cons, List.length_nil, List.length_drop, List.length_take]; omega) | (simp; omega))) 6 (fun p40 => ?_)
    refine Z.ad 2 ?_
    have hfs := Rf.filt_yes hx (show x.1 ≠ pk by omega)
    rw [← hfs]
    refine Z.ag (q + 1, p40.1, p40.2) (by (first | dsimp only | skip); omega) ?_
    (first | dsimp only | skip)
    exact Ent.cons Z.k (Ent.cons Z.k (Ent.roD Z.p (Ent.pu (by omega) Z.f)))
   ·skip
    refine hd_nil ?_
    refine Z.xg 7 ?_
    refine Z.ad 2 ?_
    have hfs := Rf.filt_no hx (show x.1 = pk by omega)
    rw [← hfs]
    refine Z.ag (q + 1, ad, cp) (by (first | dsimp only | skip); omega) ?_
    (first | dsimp only | skip)
    exact Ent.cons Z.k (Ent.cons Z.k (Ent.roD Z.p (Ent.pu (by omega) Z.f)))
  ·skip
   obtain rfl : q = xs.length := by omega
   refine Z.go 2 ?_
   refine Z.ld 2 ?_
   refine Z.bc 42 9 0 (fun g3 => ?_) (fun g3 => ?_)
   ·skip
    have hr : Rf.rdone xs ⟨pk, true, pb⟩ n = Rf.filt xs pk xs.length := by rw [Rf.filt_all]; rfl
    rw [hr]
    exact hx_freezeS (α := Int × List UInt8) (xs := Rf.filt xs pk xs.length) Z.k (hx_ret1 (.inl rfl) rfl rfl (ad, cp) rfl (Ent.roD .here Z.f))
   ·simp at g3
theorem rf_put (r : Rf.RDisk) (x : RX) (pk : Int) (pf : Bool) (pb : List UInt8) (h1 : r.view.length ≤ 1000000) (h2 : r.L.length ≤ 1000000) (hpb : pb.length ≤ 1099511627776) (hold : ((Rf.rfind r.view pk).getD []).length ≤ 1099511627776) : Ctr Tryz.prog 60 #[rdV r x, .agg #[.int .i64 pk, .bool pf, vS pb]] [ro (rdR r x)] (fun y : RX => rdV (r.put ⟨pk, pf, pb⟩) y) (fun y => [ro (rdR (r.put ⟨pk, pf, pb⟩) y)]) := by
 refine Z.fn Tryz.func60 Tryz.ntmps60 (fun κ F => ?_)
 refine ht_rd3 Z.p ?_
 refine Z.go 2 ?_
 refine Z.bA 0 (fun b2 => ?_)
 refine Z.bA 0 (fun b3 => ?_)
 refine Z.al 3 (fun b4 => ?_)
 refine ht_draw (.op 1 (.op 2 (.op 4 (.fork (.op 0 (.fork (.op 3 (.op 5 (.op 6 (.op 7 (.op 8 .done))))) (.op 5 (.op 3 (.op 6 (.op 7 (.op 8 .done))))))) (.op 5 (.op 0 (.op 3 (.op 6 (.op 7 (.op 8 .done)))))))))) [0, 3, 5, 6, 8] Tryz.mixed rfl ?_
 refine Z.dr 1 ?_
 refine Z.dl ?_
 refine Z.dA ?_
 refine hd_fork ?_ ?_
 ·skip
  refine Z.de rfl (eff_buildAll (α := Rf.RPend) [] rfl Tryz.underlying31 Tryz.ty111 .nil .nil rfl (Nat.le_of_ble_eq_true rfl)) (fun b5 => ?_)
  refine hd_fork ?_ ?_
  ·skip
   refine Z.de rfl (eff_append (α := Rf.RPend) rfl Tryz.underlying31 Tryz.ty111 rfl (by decide) Tryz.underlying31 rfl rfl Z.p (by first | exact reads_ro Z.p | exact reads_own Z.p | exact reads_nil _) (by first | omega | (simp only [List.length_append, List.length_cons, List.length_nil, List.length_drop, List.length_take]; omega) | (simp; omega))) (fun p8 => ?_)
   refine Z.de rfl (eff_buildAll (α := Rf.RPend) [(⟨pk, pf, pb⟩ : Rf.RPend)] rfl Tryz.underlying31 Tryz.ty111 (.cons rfl .nil) (.cons rfl .nil) rfl (Nat.le_of_ble_eq_true rfl)) (fun b10 => ?_)
   refine Z.de rfl (eff_append (α := Rf.RPend) rfl Tryz.underlying31 Tryz.ty111 rfl (by decide) Tryz.underlying31 rfl rfl Z.p (by first | exact reads_ro Z.p | exact reads_own Z.p | exact reads_nil _) (by first | omega | (simp only [List.length_append, List.length_cons, List.length_nil, List.length_drop, List.length_take]; omega) | (simp; omega))) (fun p11 => ?_)
   refine Z.dr 1 ?_
   refine Z.d1 ?_
   refine hd_nil ?_
   refine Z.xg 4 ?_
   refine Z.ld 0 ?_
   refine Z.la 1 ?_
   refine Z.ld 1 ?_
   refine Z.cd (c := rf_done x.va x.vc r.view pk pf pb pb.length h1 hpb hold) 1 (fun y => ?_)
   refine Z.s1 4 ?_
   refine Z.la 0 ?_
   refine Z.sA 3 ?_
   refine hx_freezeS (α := Rf.RPend) (xs := [] ++ r.L ++ [(⟨pk, pf, pb⟩ : Rf.RPend)]) Z.p ?_
   exact hx_ret1A (.inl rfl) rfl rfl Tryz.underlying33 Tryz.ty33 rfl (cells_pt Z.p (Nat.le_of_ble_eq_true rfl) rfl) (⟨y.1, y.2, x.ga, x.gc, p11.1, p11.2⟩ : RX) rfl (Ent.rd3 (r := r.put ⟨pk, pf, pb⟩) Z.k Z.k Z.k rfl rfl rfl rfl rfl rfl Z.f)
  ·skip
   refine Z.de rfl (eff_buildAll (α := Rf.RPend) [(⟨pk, pf, pb⟩ : Rf.RPend)] rfl Tryz.underlying31 Tryz.ty111 (.cons rfl .nil) (.cons rfl .nil) rfl (Nat.le_of_ble_eq_true rfl)) (fun b10 => ?_)
   refine Z.de rfl (eff_append (α := Rf.RPend) rfl Tryz.underlying31 Tryz.ty111 rfl (by decide) Tryz.underlying31 rfl rfl Z.p (by first | exact reads_ro Z.p | exact reads_own Z.p | exact reads_nil _) (by first | omega | (simp only [List.length_append, List.length_cons, List.length_nil, List.length_drop, List.length_take]; omega) | (simp; omega))) (fun p8 => ?_)
   refine Z.de rfl (eff_append (α := Rf.RPend) rfl Tryz.underlying31 Tryz.ty111 rfl (by decide) Tryz.underlying31 rfl rfl Z.p (by first | exact reads_ro Z.p | exact reads_own Z.p | exact reads_nil _) (by first | omega | (simp only [List.length_append, List.length_cons, List.length_nil, List.length_drop, List.length_take]; omega) | (simp; omega))) (fun p11 => ?_)
   refine Z.dr 1 ?_
   refine Z.d1 ?_
   refine hd_nil ?_
   refine Z.xg 4 ?_
   refine Z.ld 0 ?_
   refine Z.la 1 ?_
   refine Z.ld 1 ?_
   refine Z.cd (c := rf_done x.va x.vc r.view pk pf pb pb.length h1 hpb hold) 1 (fun y => ?_)
   refine Z.s1 4 ?_
   refine Z.la 0 ?_
   refine Z.sA 3 ?_
   refine hx_freezeS (α := Rf.RPend) (xs := [] ++ r.L ++ [(⟨pk, pf, pb⟩ : Rf.RPend)]) Z.p ?_
   exact hx_ret1A (.inl rfl) rfl rfl Tryz.underlying33 Tryz.ty33 rfl (cells_pt Z.p (Nat.le_of_ble_eq_true rfl) rfl) (⟨y.1, y.2, x.ga, x.gc, p11.1, p11.2⟩ : RX) rfl (Ent.rd3 (r := r.put ⟨pk, pf, pb⟩) Z.k Z.k Z.k rfl rfl rfl rfl rfl rfl Z.f)
 ·skip
  refine Z.de rfl (eff_buildAll (α := Rf.RPend) [(⟨pk, pf, pb⟩ : Rf.RPend)] rfl Tryz.underlying31 Tryz.ty111 (.cons rfl .nil) (.cons rfl .nil) rfl (Nat.le_of_ble_eq_true rfl)) (fun b10 => ?_)
  refine Z.de rfl (eff_buildAll (α := Rf.RPend) [] rfl Tryz.underlying31 Tryz.ty111 .nil .nil rfl (Nat.le_of_ble_eq_true rfl)) (fun b5 => ?_)
  refine Z.de rfl (eff_append (α := Rf.RPend) rfl Tryz.underlying31 Tryz.ty111 rfl (by decide) Tryz.underlying31 rfl rfl Z.p (by first | exact reads_ro Z.p | exact reads_own Z.p | exact reads_nil _) (by first | omega | (simp only [List.length_append, List.length_cons, List.length_nil, List.length_drop, List.length_take]; omega) | (simp; omega))) (fun p8 => ?_)
  refine Z.de rfl (eff_append (α := Rf.RPend) rfl Tryz.underlying31 Tryz.ty111 rfl (by decide) Tryz.underlying31 rfl rfl Z.p (by first | exact reads_ro Z.p | exact reads_own Z.p | exact reads_nil _) (by first | omega | (simp only [List.length_append, List.length_cons, List.length_nil, List.length_drop, List.length_take]; omega) | (simp; omega))) (fun p11 => ?_)
  refine Z.dr 1 ?_
  refine Z.d1 ?_
  refine hd_nil ?_
  refine Z.xg 4 ?_
  refine Z.ld 0 ?_
  refine Z.la 1 ?_
  refine Z.ld 1 ?_
  refine Z.cd (c := rf_done x.va x.vc r.view pk pf pb pb.length h1 hpb hold) 1 (fun y => ?_)
  refine Z.s1 4 ?_
  refine Z.la 0 ?_
  refine Z.sA 3 ?_
  refine hx_freezeS (α := Rf.RPend) (xs := [] ++ r.L ++ [(⟨pk, pf, pb⟩ : Rf.RPend)]) Z.p ?_
  exact hx_ret1A (.inl rfl) rfl rfl Tryz.underlying33 Tryz.ty33 rfl (cells_pt Z.p (Nat.le_of_ble_eq_true rfl) rfl) (⟨y.1, y.2, x.ga, x.gc, p11.1, p11.2⟩ : RX) rfl (Ent.rd3 (r := r.put ⟨pk, pf, pb⟩) Z.k Z.k Z.k rfl rfl rfl rfl rfl rfl Z.f)
theorem rf_Write (r : Rf.RDisk) (x : RX) (k : Int) (b : List UInt8) (h1 : r.view.length ≤ 1000000) (h2 : r.L.length ≤ 1000000) (hold : ((Rf.rfind r.view k).getD []).length ≤ 1099511627776) : Ctr Tryz.prog 35 #[rdV r x, .int .i64 k, vS b] [ro (rdR r x)] (fun y : RX => .tuple #[rdV (r.write k b) y, .int .i64 (r.werr k b)]) (fun y => [ro (rdR (r.write k b) y)]) := by
 refine Z.fn Tryz.func35 Tryz.ntmps35 (fun κ F => ?_)
 refine ht_rd3 Z.p ?_
 refine Z.go 2 ?_
 refine Z.bA 0 (fun b3 => ?_)
 refine Z.al 7 (fun b6 => ?_)
 refine Z.lt 11 3 (fun g1 => ?_) (fun g1 => ?_)
 ·skip
  refine Z.la 0 ?_
  refine Z.sA 5 ?_
  have hw : r.werr k b = 61 := by unfold Rf.RDisk.werr; rw [if_pos (by omega)]
  have hr : r.write k b = r := by unfold Rf.RDisk.write; rw [if_neg (by omega)]
  rw [hr, hw]
  exact hx_ret2A (.inl rfl) rfl rfl rfl Tryz.underlying33 Tryz.ty33 rfl (cells_pt Z.p (Nat.le_of_ble_eq_true rfl) rfl) x rfl (Ent.rd3 (r := r) Z.k Z.k Z.k rfl rfl rfl rfl rfl rfl Z.f)
 ·skip
  refine Z.ld 0 ?_
  refine Z.ge 6 11 (fun g2 => ?_) (fun g2 => ?_)
  ·skip
   refine Z.la 0 ?_
   refine Z.sA 5 ?_
   have hw : r.werr k b = 61 := by unfold Rf.RDisk.werr; rw [if_pos (by omega)]
   have hr : r.write k b = r := by unfold Rf.RDisk.write; rw [if_neg (by omega)]
   rw [hr, hw]
   exact hx_ret2A (.inl rfl) rfl rfl rfl Tryz.underlying33 Tryz.ty33 rfl (cells_pt Z.p (Nat.le_of_ble_eq_true rfl) rfl) x rfl (Ent.rd3 (r := r) Z.k Z.k Z.k rfl rfl rfl rfl rfl rfl Z.f)
  ·skip
   refine Z.gt 5 9 (fun g3 => ?_) (fun g3 => ?_)
   ·skip
    refine Z.la 0 ?_
    refine Z.sA 5 ?_
    have hw : r.werr k b = 62 := by unfold Rf.RDisk.werr; rw [if_neg (by omega), if_pos (by omega)]
    have hr : r.write k b = r := by unfold Rf.RDisk.write; rw [if_neg (by omega)]
    rw [hr, hw]
    exact hx_ret2A (.inl rfl) rfl rfl rfl Tryz.underlying33 Tryz.ty33 rfl (cells_pt Z.p (Nat.le_of_ble_eq_true rfl) rfl) x rfl (Ent.rd3 (r := r) Z.k Z.k Z.k rfl rfl rfl rfl rfl rfl Z.f)
   ·skip
    refine Z.ld 1 ?_
    refine Z.cd (c := rf_Find x.va x.vc r.view k h1) 8 (fun _ => ?_)
    rcases hf : Rf.rfind r.view k with _ | old
    ·skip
     refine Z.go 5 ?_
     refine Z.ld 2 ?_
     refine Z.ld 0 ?_
     refine Z.ge 6 8 (fun g4 => ?_) (fun g4 => ?_)
     ·skip
      refine Z.la 0 ?_
      refine Z.sA 5 ?_
      have hw : r.werr k b = 63 := by unfold Rf.RDisk.werr; rw [if_neg (by omega), if_neg (by omega), if_pos ⟨hf, by omega⟩]
      have hr : r.write k b = r := by unfold Rf.RDisk.write; rw [if_neg (by omega)]
      rw [hr, hw]
      exact hx_ret2A (.inl rfl) rfl rfl rfl Tryz.underlying33 Tryz.ty33 rfl (cells_pt Z.p (Nat.le_of_ble_eq_true rfl) rfl) x rfl (Ent.rd3 (r := r) Z.k Z.k Z.k rfl rfl rfl rfl rfl rfl Z.f)
     ·skip
      refine Z.la 2 ?_
      refine Z.ev (ev_build1 (csl := [_, .bool false, _]) rfl Tryz.st111 (.cons rfl (.cons rfl .nil)) (.cons rfl (.cons rfl .nil)) rfl rfl) 0 ?_
      refine Z.cd (c := rf_put r x k false b h1 h2 (by omega) hold) 0 (fun y => ?_)
      refine Z.sA 4 ?_
      have hw : r.werr k b = 0 := by
       unfold Rf.RDisk.werr
       rw [if_neg (by omega), if_neg (by omega), if_neg (by rintro ⟨h1, h2⟩; first | omega | (rw [hf] at h1; cases h1))]
      have hr : r.write k b = r.put ⟨k, false, b⟩ := by unfold Rf.RDisk.write; rw [if_pos hw]
      rw [hr, hw]
      exact hx_ret2A (.inl rfl) rfl rfl rfl Tryz.underlying33 Tryz.ty33 rfl (cells_pt Z.p (Nat.le_of_ble_eq_true rfl) rfl) y rfl (Ent.roD Z.p Z.f)
    ·skip
     refine Z.go 18 ?_
     refine Z.la 2 ?_
     refine Z.ev (ev_build1 (csl := [_, .bool false, _]) rfl Tryz.st111 (.cons rfl (.cons rfl .nil)) (.cons rfl (.cons rfl .nil)) rfl rfl) 0 ?_
     refine Z.cd (c := rf_put r x k false b h1 h2 (by omega) hold) 0 (fun y => ?_)
     refine Z.sA 4 ?_
     have hw : r.werr k b = 0 := by
      unfold Rf.RDisk.werr
      rw [if_neg (by omega), if_neg (by omega), if_neg (by rintro ⟨h1, h2⟩; first | omega | (rw [hf] at h1; cases h1))]
     have hr : r.write k b = r.put ⟨k, false, b⟩ := by unfold Rf.RDisk.write; rw [if_pos hw]
     rw [hr, hw]
     exact hx_ret2A (.inl rfl) rfl rfl rfl Tryz.underlying33 Tryz.ty33 rfl (cells_pt Z.p (Nat.le_of_ble_eq_true rfl) rfl) y rfl (Ent.roD Z.p Z.f)
theorem rf_Free (r : Rf.RDisk) (x : RX) (k : Int) (h1 : r.view.length ≤ 1000000) (h2 : r.L.length ≤ 1000000) (hold : ((Rf.rfind r.view k).getD []).length ≤ 1099511627776) : Ctr Tryz.prog 54 #[rdV r x, .int .i64 k] [ro (rdR r x)] (fun y : RX => .tuple #[rdV (r.free k) y, .int .i64 (if (Rf.rfind r.view k).isSome then 0 else 61)]) (fun y => [ro (rdR (r.free k) y)]) := by
 refine Z.fn Tryz.func54 Tryz.ntmps54 (fun κ F => ?_)
 refine ht_rd3 Z.p ?_
 refine Z.go 2 ?_
 refine Z.bA 0 (fun b2 => ?_)
 refine Z.al 7 (fun b4 => ?_)
 refine Z.ld 1 ?_
 refine Z.cd (c := rf_Find x.va x.vc r.view k h1) 8 (fun _ => ?_)
 rcases hf : Rf.rfind r.view k with _ | old
 ·skip
  refine Z.go 8 ?_
  refine Z.la 0 ?_
  refine Z.sA 5 ?_
  have hr : r.free k = r := by unfold Rf.RDisk.free; rw [hf]; rfl
  rw [hr]
  exact hx_ret2A (.inl rfl) rfl rfl rfl Tryz.underlying33 Tryz.ty33 rfl (cells_pt Z.p (Nat.le_of_ble_eq_true rfl) rfl) x rfl (Ent.rd3 (r := r) Z.k Z.k Z.k rfl rfl rfl rfl rfl rfl Z.f)
 ·skip
  refine Z.go 10 ?_
  refine Z.la 1 ?_
  refine Z.ev (ev_build1 (csl := [_, _, .string (mkS [])]) rfl Tryz.st111 (.cons rfl (.cons rfl .nil)) (.cons rfl (.cons rfl .nil)) rfl rfl) 0 ?_
  refine Z.cd (c := rf_put r x k true [] h1 h2 (by decide) hold) 0 (fun y => ?_)
  refine Z.sA 4 ?_
  have hr : r.free k = r.put ⟨k, true, []⟩ := by unfold Rf.RDisk.free; rw [hf]; rfl
  rw [hr]
  exact hx_ret2A (.inl rfl) rfl rfl rfl Tryz.underlying33 Tryz.ty33 rfl (cells_pt Z.p (Nat.le_of_ble_eq_true rfl) rfl) y rfl (Ent.roD Z.p Z.f)
theorem rf_Sync (r : Rf.RDisk) (x : RX) : Ctr Tryz.prog 42 #[rdV r x] [ro (rdR r x)] (fun _ : Unit => rdV r.sync ⟨x.va, x.vc, x.va, x.vc, none, 0⟩) (fun _ => [ro (rdR r.sync ⟨x.va, x.vc, x.va, x.vc, none, 0⟩)]) := by
 refine Z.fn Tryz.func42 Tryz.ntmps42 (fun κ F => ?_)
 refine ht_rd3 Z.p ?_
 refine Z.go 2 ?_
 refine Z.bA 0 (fun b1 => ?_)
 refine Z.al 5 (fun b2 => ?_)
 refine Z.ld 1 ?_
 refine Z.s1 1 ?_
 refine Z.s1 4 ?_
 refine Z.la 0 ?_
 refine Z.sA 3 ?_
 refine hx_ent (Ent.roTrue (ψ := roS (α := Rf.RPend) none 0 []) (fun r => SliceIn.empty _ _) (Ent.refl _)) ?_
 exact hx_ret1A (.inl rfl) rfl rfl Tryz.underlying33 Tryz.ty33 rfl (cells_pt Z.p (Nat.le_of_ble_eq_true rfl) rfl) () rfl (Ent.rd3 (r := r.sync) Z.k Z.k Z.k rfl rfl rfl rfl rfl rfl Z.f)
theorem rf_Crash (r : Rf.RDisk) (x : RX) (la : Option Addr) (lc : Nat) (l : List (Int × Int)) (hl : l.length ≤ 1000000) (h2 : r.L.length ≤ 1000) (h3 : r.ground.length ≤ 1000) (hg0 : ∀ y ∈ r.ground, y.2.length ≤ 1048576) (hL0 : ∀ p ∈ r.L, p.b.length ≤ 524288) : Ctr Tryz.prog 18 #[rdV r x, .slice la l.length lc] [ro (rdR r x), ro (roS la l.length l)] (fun y : RX => rdV (r.crash l) y) (fun y => [ro (rdR (r.crash l) y)]) := by
 refine Z.fn Tryz.func18 Tryz.ntmps18 (fun κ F => ?_)
 refine ht_rd3 Z.p ?_
 refine Z.go 2 ?_
 refine Z.bA 0 (fun b2 => ?_)
 refine Z.al 9 (fun b4 => ?_)
 refine Z.lo (fun q : Nat × List (Int × List UInt8) × Option Addr × Nat => ([pt b2 (.cells #[.int .i64 r.size, .int .i64 r.limit, .slice x.va r.view.length x.vc, .slice q.2.2.1 q.2.1.length q.2.2.2, .slice x.la r.L.length x.lc] 33 (0, 0)), ro (roS q.2.2.1 q.2.1.length q.2.1), ro (roS x.la r.L.length r.L), ro (roS la l.length l), pt b4 (.cells #[.int .i64 0, .int .i64 0, .slice none 0 0, .slice none 0 0, .slice none 0 0] 33 (0, 0)), pu (Rf.rcrashFrom l 0 r.L r.ground = Rf.rcrashFrom l q.1 (r.L.drop q.1) q.2.1 ∧ q.1 ≤ r.L.length ∧ q.2.1.length ≤ r.ground.length + q.1 ∧ (∀ y ∈ q.2.1, y.2.length ≤ 1048576)), F], [(2, .pointer (some ⟨b2, 0, none⟩)), (4, .pointer (some ⟨b4, 0, none⟩)), (1, .slice la l.length lc), (5, .int .i64 q.1)])) (fun q : Nat × List (Int × List UInt8) × Option Addr × Nat => r.L.length - q.1) (0, r.ground, x.ga, x.gc) ?_ (fun q => ?_)
 ·(first | dsimp only | skip)
  exact Ent.cons Z.k (Ent.roD Z.p (Ent.roD Z.p (Ent.roD Z.p (Ent.cons Z.k (Ent.pu ⟨rfl, by omega, by omega, hg0⟩ Z.f)))))
 obtain ⟨i, g, ga, gc⟩ := q
 dsimp only
 refine ht_pick (A := pu (Rf.rcrashFrom l 0 r.L r.ground = Rf.rcrashFrom l i (r.L.drop i) g ∧ i ≤ r.L.length ∧ g.length ≤ r.ground.length + i ∧ (∀ y ∈ g, y.2.length ≤ 1048576))) Z.k (ht_pure fun hq => ?_)
 obtain ⟨hinv, hil, hgl, hgb⟩ := hq
 refine Z.go 5 ?_
 refine Z.ld 1 ?_
 refine Z.lt 5 9 (fun g1 => ?_) (fun g1 => ?_)
 ·skip
  obtain ⟨p0, hp0⟩ : ∃ p, r.L[i]? = some p := ⟨_, List.getElem?_eq_getElem (by omega)⟩
  have hpb0 := hL0 p0 (List.mem_of_getElem? hp0)
  obtain ⟨gg, hgg⟩ : ∃ gg, gg = g := ⟨g, rfl⟩
  refine Z.jo (fun g : List (Int × List UInt8) × Option Addr × Nat => ([pt b2 (.cells #[.int .i64 r.size, .int .i64 r.limit, .slice x.va r.view.length x.vc, .slice g.2.1 g.1.length g.2.2, .slice x.la r.L.length x.lc] 33 (0, 0)), ro (roS g.2.1 g.1.length g.1), ro (roS x.la r.L.length r.L), ro (roS la l.length l), pt b4 (.cells #[.int .i64 0, .int .i64 0, .slice none 0 0, .slice none 0 0, .slice none 0 0] 33 (0, 0)), pu (g.1 = (match Dk.stays l i with | some m => Rf.rdone gg p0 m | none => gg)), F], [(2, .pointer (some ⟨b2, 0, none⟩)), (4, .pointer (some ⟨b4, 0, none⟩)), (1, .slice la l.length lc), (5, .int .i64 i)])) ?_ (fun g => ?_)
  ·skip
   refine Z.go 7 ?_
   refine Z.lo (fun q : Nat => ([pt b2 (.cells #[.int .i64 r.size, .int .i64 r.limit, .slice x.va r.view.length x.vc, .slice ga g.length gc, .slice x.la r.L.length x.lc] 33 (0, 0)), ro (roS ga g.length g), ro (roS x.la r.L.length r.L), ro (roS la l.length l), pt b4 (.cells #[.int .i64 0, .int .i64 0, .slice none 0 0, .slice none 0 0, .slice none 0 0] 33 (0, 0)), pu ((l.take q).find? (·.1 == (i : Int)) = none ∧ q ≤ l.length), F], [(2, .pointer (some ⟨b2, 0, none⟩)), (4, .pointer (some ⟨b4, 0, none⟩)), (1, .slice la l.length lc), (5, .int .i64 i), (6, .int .i64 q)])) (fun q : Nat => l.length - q) 0 ?_ (fun q => ?_)
   ·(first | dsimp only | skip)
    exact Ent.cons Z.k (Ent.roD Z.p (Ent.roD Z.p (Ent.roD Z.p (Ent.cons Z.k (Ent.pu ⟨rfl, by omega⟩ Z.f)))))
   dsimp only
   refine ht_pick (A := pu ((l.take q).find? (·.1 == (i : Int)) = none ∧ q ≤ l.length)) Z.k (ht_pure fun hq => ?_)
   obtain ⟨hnf, hql⟩ := hq
   refine Z.go 6 ?_
   refine Z.lt 8 8 (fun g2 => ?_) (fun g2 => ?_)
   ·skip
    obtain ⟨x0, hx⟩ : ∃ x, l[q]? = some x := ⟨_, List.getElem?_eq_getElem (by omega)⟩
    refine ht_someS (α := Int × Int) (a := la) (xs := l) (reads_ro Z.p) (by omega) (fun ab ao ha => ?_)
    refine ht_someS (α := Rf.RPend) (a := x.la) (xs := r.L) (reads_ro Z.p) (by omega) (fun pb po hpa => ?_)
    refine Z.go 3 ?_
    refine Z.ev (ev_indexAddr rfl Tryz.underlying47 Tryz.ty104 (congrArg (fun z => some (Value.slice z l.length lc)) ha) rfl (by omega) (by omega)) 0 ?_
    refine Z.ev (by first | exact ev_fieldAddr0 rfl Tryz.fld104_0 rfl | exact ev_fieldAddr rfl Tryz.fld104_0 rfl) 0 ?_
    refine Z.ld (hc := by exact cell_Sa (α := Int × Int) (k := 0) ha (reads_ro Z.p) hx rfl) 1 ?_
    refine Z.eq 4 8 (fun g3 => ?_) (fun g3 => ?_)
    ·skip
     refine ht_draw (.op 0 (.op 1 (.op 2 (.op 3 (.op 4 (.op 5 (.op 6 (.op 7 (.op 8 (.op 9 (.op 10 (.op 11 (.op 12 (.op 13 (.op 14 .done))))))))))))))) [12, 14] Tryz.mixed rfl ?_
     refine Z.dr 1 ?_
     refine Z.dl ?_
     refine Z.dr 1 ?_
     refine Z.dl ?_
     refine Z.dr 1 ?_
     refine hd_ev rfl rfl rfl rfl (EvG.go rfl (ev_indexAddr rfl Tryz.underlying31 Tryz.ty111 (congrArg (fun z => some (Value.slice z r.L.length x.lc)) hpa) rfl (by omega) (by omega))) ?_
     refine Z.dA (hc := by exact cells_Sa hpa (reads_ro Z.p) hp0) ?_
     refine Z.dr 2 ?_
     refine hd_ev rfl rfl rfl rfl (EvG.go rfl (ev_indexAddr rfl Tryz.underlying47 Tryz.ty104 (congrArg (fun z => some (Value.slice z l.length lc)) ha) rfl (by omega) (by omega))) ?_
     refine hd_ev rfl rfl rfl rfl (EvG.go rfl (by first | exact ev_fieldAddr0 rfl Tryz.fld104_1 rfl | exact ev_fieldAddr rfl Tryz.fld104_1 rfl)) ?_
     refine Z.dl (hc := by exact cell_Sa (α := Int × Int) (k := 1) ha (reads_ro Z.p) hx rfl) ?_
     refine Z.dd (c := rf_done ga gc g p0.place p0.free p0.b x0.2 (by omega) (by omega) (Rf.rfind_short hgb)) (fun y => ?_)
     refine Z.dr 1 ?_
     refine Z.d1 ?_
     refine hd_nil ?_
     refine Z.xg 7 ?_
     refine Z.me (Rf.rdone g p0 x0.2, y.1, y.2) ?_
     (first | dsimp only | skip)
     exact Ent.cons Z.k (Ent.roD Z.p (Ent.roD Z.p (Ent.roD Z.p (Ent.cons Z.k (Ent.pu (by rw [hgg, Rf.st_here hnf hx (by omega)]) Z.f)))))
    ·skip
     refine Z.ad 2 ?_
     refine Z.ag (q + 1) (by (first | dsimp only | skip); omega) ?_
     (first | dsimp only | skip)
     exact Ent.cons Z.k (Ent.roD Z.p (Ent.roD Z.p (Ent.roD Z.p (Ent.cons Z.k (Ent.pu ⟨Rf.st_step hnf hx (by omega), by omega⟩ Z.f)))))
   ·skip
    refine Z.me (g, ga, gc) ?_
    (first | dsimp only | skip)
    exact Ent.cons Z.k (Ent.roD Z.p (Ent.roD Z.p (Ent.roD Z.p (Ent.cons Z.k (Ent.pu (by rw [hgg, Rf.st_none (show (l.take l.length).find? (·.1 == (i : Int)) = none by rw [← show q = l.length by omega]; exact hnf)]) Z.f)))))
  ·skip
   obtain ⟨g2, ga2, gc2⟩ := g
   (first | dsimp only | skip)
   refine ht_pick (A := pu (g2 = (match Dk.stays l i with | some m => Rf.rdone gg p0 m | none => gg))) Z.k (ht_pure fun hg2 => ?_)
   rw [hgg] at hg2
   have hgl2 : g2.length ≤ g.length + 1 := by rw [hg2]; cases Dk.stays l i with | none => simp | some m => exact Rf.rdone_len g p0 m
   have hgb2 : ∀ y ∈ g2, y.2.length ≤ 1048576 := by rw [hg2]; cases Dk.stays l i with | none => exact hgb | some m => exact Rf.rdone_short hgb hpb0 m
   refine Z.go 2 ?_
   refine Z.ad 2 ?_
   refine Z.ag (i + 1, g2, ga2, gc2) (by (first | dsimp only | skip); omega) ?_
   (first | dsimp only | skip)
   exact Ent.cons Z.k (Ent.roD Z.p (Ent.roD Z.p (Ent.roD Z.p (Ent.cons Z.k (Ent.pu ⟨by rw [hinv, Rf.rcrash_step hp0, hg2] <;> rfl, by omega, by omega, hgb2⟩ Z.f)))))
 ·skip
  have hii : i = r.L.length := by omega
  subst hii
  rw [List.drop_length] at hinv
  refine Z.go 2 ?_
  refine Z.ld 1 ?_
  refine Z.s1 1 ?_
  refine Z.s1 4 ?_
  refine Z.la 0 ?_
  refine Z.sA 3 ?_
  refine hx_ent (Ent.roTrue (ψ := roS (α := Rf.RPend) none 0 []) (fun r => SliceIn.empty _ _) (Ent.refl _)) ?_
  have hcr : Rf.rcrashFrom l 0 r.L r.ground = g := hinv
  have hrc : r.crash l = { r with ground := g, view := g, L := [] } := by unfold Rf.RDisk.crash; rw [hcr]
  rw [hrc]
  exact hx_ret1A (.inl rfl) rfl rfl Tryz.underlying33 Tryz.ty33 rfl (cells_pt Z.p (Nat.le_of_ble_eq_true rfl) rfl) (⟨ga, gc, ga, gc, none, 0⟩ : RX) rfl (Ent.rd3 (r := { r with ground := g, view := g, L := [] }) Z.k Z.k Z.k rfl rfl rfl rfl rfl rfl Z.f)
end Go.Proofs.YtlejcepbcfijiaaGreatDoor
