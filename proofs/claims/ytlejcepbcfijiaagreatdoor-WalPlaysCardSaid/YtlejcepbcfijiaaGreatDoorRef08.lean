/-
  THE DOCUMENT'S LOG (08): the walks. Conditions: as each contract says.
-/
import Derived.Test.YtlejcepbcfijiaaGreatDoorRefd
import Derived.Test.YtlejcepbcfijiaaGreatDoorWalR
import Derived.Test.YtlejcepbcfijiaaGreatDoorWal
set_option maxRecDepth 100000
set_option linter.unusedVariables false
set_option linter.unusedSimpArgs false
namespace Go.Proofs.YtlejcepbcfijiaaGreatDoor
open Go Go.SL


/-- the document's log in memory -/
abbrev rlC (l : Wl.Lg) (r : Rf.RDisk) (x : RX) (a : Option Addr) (c : Nat) : Array Value := #[.int .i64 r.size, .int .i64 r.limit, .slice x.va r.view.length x.vc, .slice x.ga r.ground.length x.gc, .slice x.la r.L.length x.lc, .int .i64 l.at_, .int .i64 (l.n : Int), .int .i64 (l.size : Int), .slice a l.live.length c, vS l.stream, .int .u64 (l.last : Int), .int .u64 (l.synced : Int)]
abbrev rlV (l : Wl.Lg) (r : Rf.RDisk) (x : RX) (a : Option Addr) (c : Nat) : Value := .agg (rlC l r x a c)

theorem ref8_UsedR (l : Wl.Lg) (r : Rf.RDisk) (x : RX) (a : Option Addr) (c : Nat) (i : Int) (b : Bool) (hl : l.live.length ≤ 1000000) (hb : Wl.has l.live i = b) : Ctr Tryz.prog 32 #[rlV l r x a c, .int .i64 i] [ro (roS a l.live.length l.live)] (fun _ : Unit => .bool b) (fun _ => []) := by
 refine Z.fn Tryz.func32 Tryz.ntmps32 (fun κ F => ?_)
 refine Z.go 2 ?_
 refine Z.bA 10 (fun b2 => ?_)
 refine Z.lo (fun q : Nat => ([pt b2 (.cells (rlC l r x a c) 43 (0, 0)), ro (roS a l.live.length l.live), pu (Wl.has (l.live.take q) i = false ∧ q ≤ l.live.length), F], [(1, .int .i64 i), (2, .pointer (some ⟨b2, 0, none⟩)), (5, .int .i64 q)])) (fun q : Nat => l.live.length - q) 0 ?_ (fun q => ?_)
 ·(first | dsimp only | skip)
  exact Ent.cons Z.k (Ent.roD Z.p (Ent.pu ⟨rfl, by omega⟩ Z.f))
 dsimp only
 refine ht_pick (A := pu (Wl.has (l.live.take q) i = false ∧ q ≤ l.live.length)) Z.k (ht_pure fun hq => ?_)
 obtain ⟨hnf, hq⟩ := hq
 refine Z.go 5 ?_
 refine Z.ld 1 ?_
 refine Z.lt 8 14 (fun g1 => ?_) (fun g1 => ?_)
 ·first | (exfalso; first | omega | (simp at g1; done) | contradiction) | skip
  all_goals (
   obtain ⟨s, hx⟩ : ∃ s, l.live[q]? = some s := ⟨_, List.getElem?_eq_getElem (by omega)⟩
   refine ht_someS (α := Wl.Seg) (a := a) (reads_ro Z.p) (by omega) (fun ab ao ha => ?_)
   refine Z.go 2 ?_
   refine Z.ld 1 ?_
   refine Z.ev (ev_indexAddr rfl Tryz.underlying41 Tryz.ty89 (congrArg (fun z => some (Value.slice z l.live.length c)) ha) rfl (by omega) (by omega)) 0 ?_
   refine Z.ev (by first | exact ev_fieldAddr0 rfl Tryz.fld89_0 rfl | exact ev_fieldAddr rfl Tryz.fld89_0 rfl) 0 ?_
   refine Z.ld (hc := by exact cell_Sa (α := Wl.Seg) (k := 0) ha (reads_ro Z.p) hx rfl) 1 ?_
   refine Z.eq 14 8 (fun g2 => ?_) (fun g2 => ?_)
   ·first | (exfalso; first | omega | (simp at g2; done) | contradiction) | skip
    all_goals (
     rw [Wl.has_here hx (by omega)] at hb
     subst hb
     exact hx_ret1 (.inl rfl) rfl rfl () rfl Z.f
    )
   ·first | (exfalso; first | omega | (simp at g2; done) | contradiction) | skip
    all_goals (
     refine Z.ad 2 ?_
     refine Z.ag (q + 1) (by (first | dsimp only | skip); omega) ?_
     (first | dsimp only | skip)
     exact Ent.cons Z.k (Ent.roD Z.p (Ent.pu ⟨Wl.has_step hnf hx (by omega), by omega⟩ Z.f))
    )
  )
 ·first | (exfalso; first | omega | (simp at g1; done) | contradiction) | skip
  all_goals (
   have hqq : q = l.live.length := by omega
   subst hqq
   rw [Wl.has_none hnf] at hb
   subst hb
   exact hx_ret1 (.inl rfl) rfl rfl () rfl Z.f
  )
theorem ref8_UsedO (l : Wl.Lg) (r : Rf.RDisk) (x : RX) (a : Option Addr) (c : Nat) (i : Int) (b : Bool) (hl : l.live.length ≤ 1000000) (hb : Wl.has l.live i = b) : Ctr Tryz.prog 32 #[rlV l r x a c, .int .i64 i] [ownS 89 a l.live.length c l.live] (fun _ : Unit => .bool b) (fun _ => [ownS 89 a l.live.length c l.live]) := by
 refine Z.fn Tryz.func32 Tryz.ntmps32 (fun κ F => ?_)
 refine Z.go 2 ?_
 refine Z.bA 10 (fun b2 => ?_)
 refine Z.lo (fun q : Nat => ([pt b2 (.cells (rlC l r x a c) 43 (0, 0)), ownS 89 a l.live.length c l.live, pu (Wl.has (l.live.take q) i = false ∧ q ≤ l.live.length), F], [(1, .int .i64 i), (2, .pointer (some ⟨b2, 0, none⟩)), (5, .int .i64 q)])) (fun q : Nat => l.live.length - q) 0 ?_ (fun q => ?_)
 ·(first | dsimp only | skip)
  exact Ent.cons Z.k (Ent.cons Z.k (Ent.pu ⟨rfl, by omega⟩ Z.f))
 dsimp only
 refine ht_pick (A := pu (Wl.has (l.live.take q) i = false ∧ q ≤ l.live.length)) Z.k (ht_pure fun hq => ?_)
 obtain ⟨hnf, hq⟩ := hq
 refine Z.go 5 ?_
 refine Z.ld 1 ?_
 refine Z.lt 8 14 (fun g1 => ?_) (fun g1 => ?_)
 ·first | (exfalso; first | omega | (simp at g1; done) | contradiction) | skip
  all_goals (
   obtain ⟨s, hx⟩ : ∃ s, l.live[q]? = some s := ⟨_, List.getElem?_eq_getElem (by omega)⟩
   refine ht_someS (α := Wl.Seg) (a := a) (reads_own Z.p) (by omega) (fun ab ao ha => ?_)
   refine Z.go 2 ?_
   refine Z.ld 1 ?_
   refine Z.ev (ev_indexAddr rfl Tryz.underlying41 Tryz.ty89 (congrArg (fun z => some (Value.slice z l.live.length c)) ha) rfl (by omega) (by omega)) 0 ?_
   refine Z.ev (by first | exact ev_fieldAddr0 rfl Tryz.fld89_0 rfl | exact ev_fieldAddr rfl Tryz.fld89_0 rfl) 0 ?_
   refine Z.ld (hc := by exact cell_Sa (α := Wl.Seg) (k := 0) ha (reads_own Z.p) hx rfl) 1 ?_
   refine Z.eq 14 8 (fun g2 => ?_) (fun g2 => ?_)
   ·first | (exfalso; first | omega | (simp at g2; done) | contradiction) | skip
    all_goals (
     rw [Wl.has_here hx (by omega)] at hb
     subst hb
     exact hx_ret1 (.inl rfl) rfl rfl () rfl (Ent.cons Z.k Z.f)
    )
   ·first | (exfalso; first | omega | (simp at g2; done) | contradiction) | skip
    all_goals (
     refine Z.ad 2 ?_
     refine Z.ag (q + 1) (by (first | dsimp only | skip); omega) ?_
     (first | dsimp only | skip)
     exact Ent.cons Z.k (Ent.cons Z.k (Ent.pu ⟨Wl.has_step hnf hx (by omega), by omega⟩ Z.f))
    )
  )
 ·first | (exfalso; first | omega | (simp at g1; done) | contradiction) | skip
  all_goals (
   have hqq : q = l.live.length := by omega
   subst hqq
   rw [Wl.has_none hnf] at hb
   subst hb
   exact hx_ret1 (.inl rfl) rfl rfl () rfl (Ent.cons Z.k Z.f)
  )
theorem ref8_Sync (l : Wl.Lg) (r : Rf.RDisk) (x : RX) (a : Option Addr) (c : Nat) : Ctr Tryz.prog 16 #[rlV l r x a c] [ro (rdR r x)] (fun _ : Unit => rlV { l with synced := l.last, d := l.d.sync } r.sync ⟨x.va, x.vc, x.va, x.vc, none, 0⟩ a c) (fun _ => [ro (rdR r.sync ⟨x.va, x.vc, x.va, x.vc, none, 0⟩)]) := by
 refine Z.fn Tryz.func16 Tryz.ntmps16 (fun κ F => ?_)
 refine Z.go 2 ?_
 refine Z.bA 0 (fun b1 => ?_)
 refine Z.al 5 (fun b2 => ?_)
 refine Z.la 0 ?_
 refine Z.cd (c := rf_Sync r x) 1 (fun _ => ?_)
 refine Z.sA 5 ?_
 refine Z.ld 1 ?_
 refine Z.s1 4 ?_
 refine Z.la 0 ?_
 refine Z.sA 3 ?_
 exact hx_ret1A (.inl rfl) rfl rfl Tryz.underlying43 Tryz.ty43 rfl (cells_pt Z.p (Nat.le_of_ble_eq_true rfl) rfl) () rfl (Ent.roD Z.p Z.f)
theorem ref8_free (l : Wl.Lg) (r : Rf.RDisk) (x : RX) (a : Option Addr) (c : Nat) (d : Dk.Disk) (V Q : Nat) (h : Wl.RD r d V Q) (i o : Nat) (hm : (i : Int) * (l.size : Int) = (o : Int)) (hat : 0 ≤ l.at_ ∧ l.at_ + (o : Int) + (l.size : Int) ≤ 65536) (hsz : l.size ≤ 64) (hV : V ≤ 900000) (hQ : Q ≤ 900000) : Ctr Tryz.prog 33 #[rlV l r x a c, .int .i64 (i : Int)] [ro (rdR r x)] (fun q : Rf.RDisk × RX => rlV l q.1 q.2 a c) (fun q => [ro (rdR q.1 q.2), pu (Wl.RD q.1 (Wl.freeAll d (l.at_ + (o : Int)) l.size) V (Q + l.size))]) := by
 refine Z.fn Tryz.func33 Tryz.ntmps33 (fun κ F => ?_)
 refine Z.go 2 ?_
 refine Z.bA 0 (fun b2 => ?_)
 refine Z.al 9 (fun b4 => ?_)
 refine Z.lo (fun q : Nat × Rf.RDisk × RX => ([pt b2 (.cells (rlC l q.2.1 q.2.2 a c) 43 (0, 0)), pt b4 (.cells #[.int .i64 0, .int .i64 0, .slice none 0 0, .slice none 0 0, .slice none 0 0, .int .i64 0, .int .i64 0, .int .i64 0, .slice none 0 0, vS [], .int .u64 0, .int .u64 0] 43 (0, 0)), ro (rdR q.2.1 q.2.2), pu (Wl.RD q.2.1 (Wl.freeAll d (l.at_ + (o : Int)) q.1) V (Q + q.1) ∧ q.1 ≤ l.size), F], [(1, .int .i64 (i : Int)), (2, .pointer (some ⟨b2, 0, none⟩)), (4, .pointer (some ⟨b4, 0, none⟩)), (5, .int .i64 q.1)])) (fun q : Nat × Rf.RDisk × RX => l.size - q.1) (0, r, x) ?_ (fun q => ?_)
 ·(first | dsimp only | skip)
  exact Ent.cons Z.k (Ent.cons Z.k (Ent.roD Z.k (Ent.pu ⟨h, by omega⟩ Z.f)))
 obtain ⟨q, s, y⟩ := q
 dsimp only
 refine ht_pick (A := pu (Wl.RD s (Wl.freeAll d (l.at_ + (o : Int)) q) V (Q + q) ∧ q ≤ l.size)) Z.k (ht_pure fun hq => ?_)
 obtain ⟨hr, hq⟩ := hq
 have hv1 := hr.view
 have hv2 := hr.all
 refine Z.go 5 ?_
 refine Z.ld 0 ?_
 refine Z.lt 9 10 (fun g1 => ?_) (fun g1 => ?_)
 ·first | (exfalso; first | omega | (simp at g1; done) | contradiction) | skip
  all_goals (
   refine Z.la 1 ?_
   refine Z.ld 2 ?_
   refine Z.ld 0 ?_
   refine Z.ml (r := (o : Int)) (hw := by rw [hm]; exact in_i64 (by omega)) 0 ?_
   refine Z.ad 1 ?_
   refine Z.ad 0 ?_
   refine Z.cd (c := rf_Free s y (l.at_ + (o : Int) + (q : Int)) (by omega) (by omega) (hr.old _)) 4 (fun z => ?_)
   refine Z.sA 5 ?_
   refine Z.ad 2 ?_
   refine Z.ag (q + 1, s.free (l.at_ + (o : Int) + (q : Int)), z) (by (first | dsimp only | skip); omega) ?_
   (first | dsimp only | skip)
   exact Ent.cons Z.k (Ent.cons Z.k (Ent.roD Z.k (Ent.pu ⟨hr.free _, by omega⟩ Z.f)))
  )
 ·first | (exfalso; first | omega | (simp at g1; done) | contradiction) | skip
  all_goals (
   refine Z.la 0 ?_
   refine Z.sA 3 ?_
   have hqq : q = l.size := by omega
   subst hqq
   exact hx_ret1A (.inl rfl) rfl rfl Tryz.underlying43 Tryz.ty43 rfl (cells_pt Z.p (Nat.le_of_ble_eq_true rfl) rfl) (s, y) rfl (Ent.roD Z.k (Ent.pu hr Z.f))
  )
theorem ref8_Bytes (l : Wl.Lg) (r : Rf.RDisk) (x : RX) (a : Option Addr) (c : Nat) (d : Dk.Disk) (V Q : Nat) (h : Wl.RD r d V Q) (i o : Nat) (hm : (i : Int) * (l.size : Int) = (o : Int)) (hat : 0 ≤ l.at_ ∧ l.at_ + (o : Int) + (l.size : Int) ≤ 65536) (hsz : l.size ≤ 64) (hV : V ≤ 900000) (h5 : ∀ k s, d.view k = some s → s.length ≤ 512) : Ctr Tryz.prog 51 #[rlV l r x a c, .int .i64 (i : Int)] [ro (rdR r x)] (fun _ : Unit => vS (Wl.segBytes d.view (l.at_ + (o : Int)) l.size)) (fun _ => []) := by
 refine Z.fn Tryz.func51 Tryz.ntmps51 (fun κ F => ?_)
 refine ht_rd3 Z.p ?_
 have hv1 := h.view
 refine Z.go 2 ?_
 refine Z.bA 15 (fun b2 => ?_)
 refine Z.lo (fun q : Nat × List UInt8 => ([pt b2 (.cells (rlC l r x a c) 43 (0, 0)), ro (roS x.va r.view.length r.view), pu (q.2 ++ Wl.segBytes d.view (l.at_ + (o : Int) + (q.1 : Int)) (l.size - q.1) = (Wl.segBytes d.view (l.at_ + (o : Int)) l.size) ∧ q.1 ≤ l.size ∧ q.2.length ≤ 512 * q.1), F], [(1, .int .i64 (i : Int)), (2, .pointer (some ⟨b2, 0, none⟩)), (5, vS q.2), (6, .int .i64 q.1)])) (fun q : Nat × List UInt8 => l.size - q.1) (0, []) ?_ (fun q => ?_)
 ·(first | dsimp only | skip)
  exact Ent.cons Z.k (Ent.roD Z.p (Ent.pu ⟨by simp, by omega, by simp⟩ Z.f))
 obtain ⟨q, out⟩ := q
 dsimp only
 refine ht_pick (A := pu (out ++ Wl.segBytes d.view (l.at_ + (o : Int) + (q : Int)) (l.size - q) = (Wl.segBytes d.view (l.at_ + (o : Int)) l.size) ∧ q ≤ l.size ∧ out.length ≤ 512 * q)) Z.k (ht_pure fun hq => ?_)
 obtain ⟨hinv, hq, hol⟩ := hq
 refine Z.go 5 ?_
 refine Z.ld 0 ?_
 refine Z.lt 11 15 (fun g1 => ?_) (fun g1 => ?_)
 ·first | (exfalso; first | omega | (simp at g1; done) | contradiction) | skip
  all_goals (
   refine Z.ld 1 ?_
   refine Z.ld 2 ?_
   refine Z.ld 0 ?_
   refine Z.ml (r := (o : Int)) (hw := by rw [hm]; exact in_i64 (by omega)) 0 ?_
   refine Z.ad 1 ?_
   refine Z.ad 0 ?_
   refine Z.cd (c := rf_Find x.va x.vc r.view (l.at_ + (o : Int) + (q : Int)) (by omega)) 9 (fun _ => ?_)
   rw [h.find]
   rcases hv : d.view (l.at_ + (o : Int) + (q : Int)) with _ | s
   ·skip
    refine Z.go 19 ?_
    have hb0 : Wl.segBytes d.view (l.at_ + (o : Int) + (q : Int)) (l.size - q) = [] := Wl.segBytes_none hv
    rw [hb0, List.append_nil] at hinv
    rw [hinv]
    exact hx_ret1 (.inl rfl) rfl rfl () rfl Z.f
   ·skip
    have hsl := h5 _ _ hv
    dsimp only [Option.getD]
    refine Z.go 12 ?_
    refine Z.ev (ev_addS rfl rfl rfl (by show out.length + s.length ≤ _; omega)) 7 ?_
    refine Z.lt 15 8 (fun g39 => ?_) (fun g39 => ?_)
    ·first | (exfalso; first | omega | (simp at g39; done) | contradiction) | skip
     all_goals (
      rw [show l.size - q = l.size - (q + 1) + 1 by omega, Wl.segBytes_short hv (by omega)] at hinv
      rw [hinv]
      exact hx_ret1 (.inl rfl) rfl rfl () rfl Z.f
     )
    ·first | (exfalso; first | omega | (simp at g39; done) | contradiction) | skip
     all_goals (
      refine Z.ad 2 ?_
      refine Z.ag (q + 1, out ++ s) (by (first | dsimp only | skip); omega) ?_
      (first | dsimp only | skip)
      exact Ent.cons Z.k (Ent.roD Z.p (Ent.pu ⟨by rw [← hinv, show l.size - q = l.size - (q + 1) + 1 by omega, Wl.segBytes_long hv (by omega), List.append_assoc, show l.at_ + (o : Int) + ((q + 1 : Nat) : Int) = l.at_ + (o : Int) + (q : Int) + 1 by omega], by omega, by rw [List.length_append]; omega⟩ Z.f))
     )
  )
 ·first | (exfalso; first | omega | (simp at g1; done) | contradiction) | skip
  all_goals (
   rw [show l.size - q = 0 by omega] at hinv
   rw [show Wl.segBytes d.view (l.at_ + (o : Int) + (q : Int)) 0 = [] from rfl, List.append_nil] at hinv
   rw [hinv]
   exact hx_ret1 (.inl rfl) rfl rfl () rfl Z.f
  )
theorem ref8_Scan (s : List UInt8) (first : Nat) (hs : s.length ≤ 100000) (hf : first < 18446744073709551616) : Ctr Tryz.prog 53 #[vS s, .int .u64 (first : Int)] [] (fun q : Option Addr × Nat × Nat => .tuple #[.slice q.1 (Wl.scan s.length s first).length q.2.1, .int .i64 (q.2.2 : Int)]) (fun q => [ro (roS q.1 (Wl.scan s.length s first).length (Wl.scan s.length s first))]) := by
 refine Z.fn Tryz.func53 Tryz.ntmps53 (fun κ F => ?_)
 refine Z.go 8 ?_
 refine Z.ef (eff_buildAll (α := Wl.Rec) [] rfl Tryz.underlying38 Tryz.ty71 .nil .nil rfl (Nat.le_of_ble_eq_true rfl)) 9 (fun b11 => ?_)
 refine ht_env (ρ' := [(0, vS s), (1, .int .u64 ((first % 18446744073709551616 : Nat) : Int)), (6, .slice (some ⟨b11, 0, none⟩) 0 0), (7, .int .i64 0)]) (by refine EnvSub.cons rfl (EnvSub.cons (by rw [Nat.mod_eq_of_lt hf]; rfl) (EnvSub.cons rfl (EnvSub.cons rfl (EnvSub.nil _))))) ?_
 refine Z.lo (fun q : Nat × Nat × List Wl.Rec × Option Addr × Nat => ([ownS 71 q.2.2.2.1 q.2.2.1.length q.2.2.2.2 q.2.2.1, pu (q.2.2.1 ++ Wl.scan (s.length - q.1) (s.drop q.2.1) (first + q.1) = Wl.scan s.length s first ∧ q.1 ≤ q.2.1 ∧ q.2.1 ≤ s.length ∧ q.2.2.1.length = q.1), F], [(0, vS s), (1, .int .u64 (((first + q.1) % 18446744073709551616 : Nat) : Int)), (6, .slice q.2.2.2.1 q.2.2.1.length q.2.2.2.2), (7, .int .i64 (q.2.1 : Int))])) (fun q : Nat × Nat × List Wl.Rec × Option Addr × Nat => s.length - q.2.1) (0, 0, [], some ⟨b11, 0, none⟩, 0) ?_ (fun q => ?_)
 ·(first | dsimp only | skip)
  exact Ent.cons Z.k (Ent.pu ⟨rfl, by omega, by omega, rfl⟩ Z.f)
 obtain ⟨i, t, acc, ad, cp⟩ := q
 dsimp only
 refine ht_pick (A := pu (acc ++ Wl.scan (s.length - i) (s.drop t) (first + i) = Wl.scan s.length s first ∧ i ≤ t ∧ t ≤ s.length ∧ acc.length = i)) Z.k (ht_pure fun hq => ?_)
 obtain ⟨hinv, hi, ht, hal⟩ := hq
 have hdl : (s.drop t).length = s.length - t := List.length_drop
 refine Z.go 5 ?_
 refine Z.ev (ev_sliceS rfl Tryz.underlying9 rfl ⟨_, rfl⟩ rfl (by omega) (by omega)) 0 ?_
 rw [List.take_length]
 refine Z.cd (c := ref_RGet (s.drop t) (by omega)) 4 (fun _ => ?_)
 refine Z.al 0 (fun b8 => ?_)
 refine Z.sA 6 ?_
 rcases hok : (Wire.getV (s.drop t)).2.2.2 with _ | _
 ·skip
  refine Z.go 25 ?_
  rw [Wl.scan_none (Wl.getV_get_no hok), List.append_nil] at hinv
  refine hx_freezeS (xs := acc) Z.k ?_
  rw [hinv]
  exact hx_ret2 (.inl rfl) rfl rfl rfl (ad, cp, t) rfl (Ent.roD Z.k Z.f)
 ·skip
  have hget := Wl.getV_get hok
  have hgl : 8 ≤ (Wire.getV (s.drop t)).2.2.1 ∧ (Wire.getV (s.drop t)).2.2.1 ≤ s.length - t ∧ (Wire.getV (s.drop t)).1 < 18446744073709551616 := by have h1 := Wl.get_len hget; rw [hdl] at h1; exact h1
  refine Z.go 5 ?_
  refine Z.ld 1 ?_
  refine Z.ne 17 8 (fun g1 => ?_) (fun g1 => ?_)
  ·first | (exfalso; first | omega | (simp at g1; done) | contradiction) | skip
   all_goals (
    rw [Wl.scan_no (Wl.getV_get hok) (by show ¬ _ = (first + i) % 18446744073709551616; omega), List.append_nil] at hinv
    refine hx_freezeS (xs := acc) Z.k ?_
    rw [hinv]
    exact hx_ret2 (.inl rfl) rfl rfl rfl (ad, cp, t) rfl (Ent.roD Z.k Z.f)
   )
  ·first | (exfalso; first | omega | (simp at g1; done) | contradiction) | skip
   all_goals (
    refine Z.la 0 ?_
    refine Z.ef (eff_buildAll (α := Wl.Rec) [(⟨(Wire.getV (s.drop t)).1, (Wire.getV (s.drop t)).2.1⟩ : Wl.Rec)] rfl Tryz.underlying38 Tryz.ty71 (.cons rfl .nil) (.cons rfl .nil) rfl (Nat.le_of_ble_eq_true rfl)) 0 (fun b32 => ?_)
    refine Z.ef (eff_append (α := Wl.Rec) rfl Tryz.underlying38 Tryz.ty71 rfl (by decide) Tryz.underlying38 rfl rfl Z.p (by first | exact reads_ro Z.p | exact reads_own Z.p | exact reads_nil _) (by first | omega | (simp only [List.length_append, List.length_cons, List.length_nil, List.length_drop, List.length_take]; omega) | (simp; omega))) 2 (fun p33 => ?_)
    refine Z.ad 1 ?_
    refine Z.ad (r := (((first + (i + 1)) % 18446744073709551616 : Nat) : Int)) (hw := by rw [show ((1 : Int)) = ((1 : Nat) : Int) from rfl, add_wrap]; congr 1; omega) 5 ?_
    refine Z.ag (i + 1, t + (Wire.getV (s.drop t)).2.2.1, acc ++ [(⟨(Wire.getV (s.drop t)).1, (Wire.getV (s.drop t)).2.1⟩ : Wl.Rec)], p33.1, p33.2) (by (first | dsimp only | skip); omega) ?_
    (first | dsimp only | skip)
    exact Ent.cons Z.k (Ent.pu ⟨by rw [← hinv, show s.length - i = s.length - (i + 1) + 1 by omega, Wl.scan_yes hget (by show _ = (first + i) % 18446744073709551616; omega), List.drop_drop, List.append_assoc]; rfl, by omega, by omega, by rw [List.length_append, hal]; rfl⟩ Z.f)
   )
theorem ref8_Look_no (l : Wl.Lg) (r : Rf.RDisk) (x : RX) (a : Option Addr) (c : Nat) (d : Dk.Disk) (V Q : Nat) (h : Wl.RD r d V Q) (i : Nat) (hat : 0 ≤ l.at_ ∧ l.at_ + ((i * l.size : Nat) : Int) + (l.size : Int) ≤ 65536) (hsz : l.size ≤ 64) (hV : V ≤ 900000) (h5 : ∀ k s, d.view k = some s → s.length ≤ 512) (hno : Wl.fd d.view l.at_ l.size i = none) : Ctr Tryz.prog 31 #[rlV l r x a c, .int .i64 (i : Int)] [ro (rdR r x)] (fun _ : Unit => .tuple #[.int .u64 0, .slice none 0 0, .bool false]) (fun _ => []) := by
 refine Z.fn Tryz.func31 Tryz.ntmps31 (fun κ F => ?_)
 refine Z.go 2 ?_
 refine Z.bA 7 (fun b2 => ?_)
 refine Z.la 1 ?_
 refine Z.cd (c := ref8_Bytes l r x a c d V Q h i (i * l.size) (by push_cast; rfl) hat hsz hV h5) 0 (fun _ => ?_)
 have hsl := Wl.segBytes_len d.view h5 l.size (l.at_ + ((i * l.size : Nat) : Int))
 refine Z.og 6 ?_
 refine Z.cd (c := ref_RGet (Wl.segBytes d.view (l.at_ + ((i * l.size : Nat) : Int)) l.size) (by omega)) 4 (fun _ => ?_)
 refine Z.al 0 (fun b8 => ?_)
 refine Z.sA 6 ?_
 have hfu : Wl.fd d.view l.at_ l.size i = Wl.fdOf (Wl.segBytes d.view (l.at_ + ((i * l.size : Nat) : Int)) l.size) i := rfl
 rcases hok2 : (Wire.getV (Wl.segBytes d.view (l.at_ + ((i * l.size : Nat) : Int)) l.size)).2.2.2 with _ | _
 ·skip
  refine Z.go 20 ?_
  exact hx_ret3 (.inl rfl) rfl rfl rfl rfl () rfl Z.f
 ·skip
  have hget := Wl.getV_get hok2
  have hgl : 8 ≤ (Wire.getV (Wl.segBytes d.view (l.at_ + ((i * l.size : Nat) : Int)) l.size)).2.2.1 ∧ (Wire.getV (Wl.segBytes d.view (l.at_ + ((i * l.size : Nat) : Int)) l.size)).2.2.1 ≤ (Wl.segBytes d.view (l.at_ + ((i * l.size : Nat) : Int)) l.size).length ∧ (Wire.getV (Wl.segBytes d.view (l.at_ + ((i * l.size : Nat) : Int)) l.size)).1 < 18446744073709551616 := Wl.get_len hget
  have hdl : ((Wl.segBytes d.view (l.at_ + ((i * l.size : Nat) : Int)) l.size).drop (Wire.getV (Wl.segBytes d.view (l.at_ + ((i * l.size : Nat) : Int)) l.size)).2.2.1).length = (Wl.segBytes d.view (l.at_ + ((i * l.size : Nat) : Int)) l.size).length - (Wire.getV (Wl.segBytes d.view (l.at_ + ((i * l.size : Nat) : Int)) l.size)).2.2.1 := List.length_drop
  have hscl := Wl.scan_len ((Wl.segBytes d.view (l.at_ + ((i * l.size : Nat) : Int)) l.size).drop (Wire.getV (Wl.segBytes d.view (l.at_ + ((i * l.size : Nat) : Int)) l.size)).2.2.1).length ((Wl.segBytes d.view (l.at_ + ((i * l.size : Nat) : Int)) l.size).drop (Wire.getV (Wl.segBytes d.view (l.at_ + ((i * l.size : Nat) : Int)) l.size)).2.2.1) (Wire.getV (Wl.segBytes d.view (l.at_ + ((i * l.size : Nat) : Int)) l.size)).1
  refine Z.go 5 ?_
  refine Z.ld 0 ?_
  refine Z.neS 13 0 (fun g1 => ?_) (fun g1 => ?_)
  ·first | (exfalso; first | omega | (simp at g1; done) | contradiction | (rw [hfu, Wl.fdOf_yes hget (Classical.not_not.1 g1)] at hno; cases hno; done) | (rw [hfu, Wl.fdOf_yes hget g1] at hno; cases hno; done)) | skip
   all_goals (
    exact hx_ret3 (.inl rfl) rfl rfl rfl rfl () rfl Z.f
   )
  ·(exfalso; first | omega | (simp at g1; done) | contradiction | (rw [hfu, Wl.fdOf_yes hget (Classical.not_not.1 g1)] at hno; cases hno; done) | (rw [hfu, Wl.fdOf_yes hget g1] at hno; cases hno; done))
theorem ref8_Look (l : Wl.Lg) (r : Rf.RDisk) (x : RX) (a : Option Addr) (c : Nat) (d : Dk.Disk) (V Q : Nat) (h : Wl.RD r d V Q) (i : Nat) (hat : 0 ≤ l.at_ ∧ l.at_ + ((i * l.size : Nat) : Int) + (l.size : Int) ≤ 65536) (hsz : l.size ≤ 64) (hV : V ≤ 900000) (h5 : ∀ k s, d.view k = some s → s.length ≤ 512) (f : Wl.Fd) (hyes : Wl.fd d.view l.at_ l.size i = some f) : Ctr Tryz.prog 31 #[rlV l r x a c, .int .i64 (i : Int)] [ro (rdR r x)] (fun q : Option Addr × Nat => .tuple #[.int .u64 (f.base : Int), .slice q.1 f.recs.length q.2, .bool true]) (fun q => [ro (roS q.1 f.recs.length f.recs)]) := by
 refine Z.fn Tryz.func31 Tryz.ntmps31 (fun κ F => ?_)
 refine Z.go 2 ?_
 refine Z.bA 7 (fun b2 => ?_)
 refine Z.la 1 ?_
 refine Z.cd (c := ref8_Bytes l r x a c d V Q h i (i * l.size) (by push_cast; rfl) hat hsz hV h5) 0 (fun _ => ?_)
 have hsl := Wl.segBytes_len d.view h5 l.size (l.at_ + ((i * l.size : Nat) : Int))
 refine Z.og 6 ?_
 refine Z.cd (c := ref_RGet (Wl.segBytes d.view (l.at_ + ((i * l.size : Nat) : Int)) l.size) (by omega)) 4 (fun _ => ?_)
 refine Z.al 0 (fun b8 => ?_)
 refine Z.sA 6 ?_
 have hfu : Wl.fd d.view l.at_ l.size i = Wl.fdOf (Wl.segBytes d.view (l.at_ + ((i * l.size : Nat) : Int)) l.size) i := rfl
 rcases hok2 : (Wire.getV (Wl.segBytes d.view (l.at_ + ((i * l.size : Nat) : Int)) l.size)).2.2.2 with _ | _
 ·skip
  exfalso; rw [hfu, Wl.fdOf_no1 (Wl.getV_get_no hok2)] at hyes; cases hyes
 ·skip
  have hget := Wl.getV_get hok2
  have hgl : 8 ≤ (Wire.getV (Wl.segBytes d.view (l.at_ + ((i * l.size : Nat) : Int)) l.size)).2.2.1 ∧ (Wire.getV (Wl.segBytes d.view (l.at_ + ((i * l.size : Nat) : Int)) l.size)).2.2.1 ≤ (Wl.segBytes d.view (l.at_ + ((i * l.size : Nat) : Int)) l.size).length ∧ (Wire.getV (Wl.segBytes d.view (l.at_ + ((i * l.size : Nat) : Int)) l.size)).1 < 18446744073709551616 := Wl.get_len hget
  have hdl : ((Wl.segBytes d.view (l.at_ + ((i * l.size : Nat) : Int)) l.size).drop (Wire.getV (Wl.segBytes d.view (l.at_ + ((i * l.size : Nat) : Int)) l.size)).2.2.1).length = (Wl.segBytes d.view (l.at_ + ((i * l.size : Nat) : Int)) l.size).length - (Wire.getV (Wl.segBytes d.view (l.at_ + ((i * l.size : Nat) : Int)) l.size)).2.2.1 := List.length_drop
  have hscl := Wl.scan_len ((Wl.segBytes d.view (l.at_ + ((i * l.size : Nat) : Int)) l.size).drop (Wire.getV (Wl.segBytes d.view (l.at_ + ((i * l.size : Nat) : Int)) l.size)).2.2.1).length ((Wl.segBytes d.view (l.at_ + ((i * l.size : Nat) : Int)) l.size).drop (Wire.getV (Wl.segBytes d.view (l.at_ + ((i * l.size : Nat) : Int)) l.size)).2.2.1) (Wire.getV (Wl.segBytes d.view (l.at_ + ((i * l.size : Nat) : Int)) l.size)).1
  refine Z.go 5 ?_
  refine Z.ld 0 ?_
  refine Z.neS 0 7 (fun g27 => ?_) (fun g27 => ?_)
  ·(exfalso; first | omega | (simp at g27; done) | contradiction | (rw [hfu, Wl.fdOf_no2 hget g27] at hyes; cases hyes; done))
  ·first | (exfalso; first | omega | (simp at g27; done) | contradiction | (rw [hfu, Wl.fdOf_no2 hget g27] at hyes; cases hyes; done)) | skip
   all_goals (
    refine ht_draw (.op 0 (.op 1 (.op 2 (.op 3 (.op 4 (.op 5 (.op 6 (.op 7 (.op 8 (.op 9 (.op 10 .done))))))))))) [5] Tryz.mixed rfl ?_
    refine Z.dr 2 ?_
    refine hd_ev rfl rfl rfl rfl (EvG.go rfl (ev_sliceS rfl Tryz.underlying9 rfl ⟨_, rfl⟩ rfl (by omega) (by omega))) ?_
    refine Z.dr 1 ?_
    refine Z.dl ?_
    rw [List.take_length]
    refine Z.dd (c := ref8_Scan ((Wl.segBytes d.view (l.at_ + ((i * l.size : Nat) : Int)) l.size).drop (Wire.getV (Wl.segBytes d.view (l.at_ + ((i * l.size : Nat) : Int)) l.size)).2.2.1) (Wire.getV (Wl.segBytes d.view (l.at_ + ((i * l.size : Nat) : Int)) l.size)).1 (by omega) (by omega)) (fun z => ?_)
    refine Z.dr 5 ?_
    refine hd_nil ?_
    refine Z.xg 4 ?_
    refine Z.ld 7 ?_
    rw [hfu, Wl.fdOf_yes hget g27] at hyes
    obtain rfl := Option.some.inj hyes
    exact hx_ret3 (.inl rfl) rfl rfl rfl rfl (z.1, z.2.1) rfl (Ent.roD Z.k Z.f)
   )
end Go.Proofs.YtlejcepbcfijiaaGreatDoor
