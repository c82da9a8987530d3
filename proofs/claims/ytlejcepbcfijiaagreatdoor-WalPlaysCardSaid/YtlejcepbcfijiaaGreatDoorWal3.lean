/-
  PACKAGE wal (layer 8), third text: giving back. Conditions: as each contract says.
-/
import Derived.Test.YtlejcepbcfijiaaGreatDoorWal2
import Derived.Test.YtlejcepbcfijiaaGreatDoorWalR
import Derived.Laws.StructEq
set_option maxRecDepth 100000
set_option linter.unusedVariables false
set_option linter.unusedSimpArgs false
namespace Go.Proofs.YtlejcepbcfijiaaGreatDoor
open Go Go.SL


section
variable {κ : World} {n : Nat} {tp : Int} {L : List Assn} {ρ : Env} {ops : Array Oper} {o : Oper} {l : List Oper} {Q : Exit → Act → World → Prop}
theorem ev_eqSeg {x y : Operand} {u : TypeId} {s t : Wl.Seg} (ho : o.op = .binOp .eql 79 x y u) (hx : oev ρ x = some (segV s)) (hy : oev ρ y = some (.agg #[.int .i64 tp, .int .u64 (t.base : Int), .int .u64 (t.count : Int)])) : Ev Tryz.prog κ n L ρ o (.bool (decide ((s.place : Int) = tp ∧ s.base = t.base ∧ s.count = t.count))) := fun a w ha hw => by
  have hS : Tryz.prog.underlying 79 = some (.struct (Tryz.prog.fieldsOf 79)) := by kernel_rfl
  have hp : Tryz.prog.stoodInHeld 79 = false := by kernel_rfl
  have u1 := Tryz.underlying24
  have u2 := Tryz.underlying3
  have hg : (eqGuard .eql 79 x y (segV s) (.agg #[.int .i64 tp, .int .u64 (t.base : Int), .int .u64 (t.count : Int)])).run Tryz.prog w = .ok () w := run_eqGuard_agg w .eql _ _ _ _ _ (by kernel_rfl)
  have hq : (binOp .eql 79 (segV s) (.agg #[.int .i64 tp, .int .u64 (t.base : Int), .int .u64 (t.count : Int)])).run Tryz.prog w = .ok (.bool (decide ((s.place : Int) = tp ∧ s.base = t.base ∧ s.count = t.count))) w := by
    have a1 := Tryz.isAgg24
    have z1 := Tryz.sizeOf24
    have a2 := Tryz.isAgg3
    have z2 := Tryz.sizeOf3
    rw [run_eql_struct, show (10000 : Nat) = 9999 + 1 from rfl, run_equalIn_agg w 9999 79 _ _ hS hp]
    simp only [Program.fieldsOf, Tryz.underlying79]
    go_simp
    by_cases h1 : (s.place : Int) = tp <;> by_cases h2 : s.base = t.base <;> by_cases h3 : s.count = t.count <;> simp [h1, h2, h3, Int.natCast_inj]
  simp only [execOp, ho, ha.eval hx, ha.eval hy, Sem.run_bind, hg, Result.andThen_ok, hq]; rfl
end

theorem wal_freeX (p : Nat) (g : LG) (x : LX) (d : Dk.Disk) (i o : Nat) (hm : (i : Int) * (g.size : Int) = (o : Int)) (hat : 0 ≤ g.at_ ∧ g.at_ + (o : Int) + (g.size : Int) ≤ 65536) (hsz : g.size ≤ 64) (hp : d.pend.length ≤ 1000000) : Ctr Tryz.prog 30 #[.pointer (some ⟨p, 0, none⟩), .int .i64 (i : Int)] [pt p (.cells (lgCells g x) 75 (0, 0)), DiskAt g.dk d] (fun _ : Unit => .tuple #[]) (fun _ => [pt p (.cells (lgCells g x) 75 (0, 0)), DiskAt g.dk (Wl.freeAll d (g.at_ + (o : Int)) g.size)]) := by
 refine Z.fn Tryz.func30 Tryz.ntmps30 (fun κ F => ?_)
 refine Z.go 5 ?_
 refine Z.ld 4 ?_
 refine Z.lo (fun q : Nat => ([pt p (.cells (lgCells g x) 75 (0, 0)), DiskAt g.dk (Wl.freeAll d (g.at_ + (o : Int)) q), pu (q ≤ g.size), F], [(0, .pointer (some ⟨p, 0, none⟩)), (1, .int .i64 (i : Int)), (8, .int .i64 (g.size : Int)), (9, .int .i64 q)])) (fun q : Nat => g.size - q) 0 ?_ (fun q => ?_)
 ·(first | dsimp only | skip)
  exact Ent.cons Z.k (Ent.cons Z.k (Ent.pu (by omega) Z.f))
 dsimp only
 refine ht_pick (A := pu (q ≤ g.size)) Z.k (ht_pure fun hq => ?_)
 have hpl := Wl.freeAll_pend d (g.at_ + (o : Int)) q
 refine Z.go 2 ?_
 refine Z.lt 14 8 (fun g1 => ?_) (fun g1 => ?_)
 ·first | (exfalso; first | omega | (simp at g1; done) | contradiction) | skip
  all_goals (
   refine ht_draw (.op 0 (.op 1 (.op 2 (.op 3 (.op 4 (.op 5 (.op 6 (.op 7 (.op 8 (.op 9 (.op 10 (.op 11 (.op 12 (.op 13 (.op 14 (.op 15 (.op 16 (.op 17 .done)))))))))))))))))) [17] Tryz.mixed rfl ?_
   refine Z.dr 3 ?_
   refine Z.dl ?_
   refine Z.dr 3 ?_
   refine Z.dl ?_
   refine Z.dr 4 ?_
   refine Z.dl ?_
   refine hd_ev rfl rfl rfl rfl (EvG.go rfl (ev_mul (r := (o : Int)) rfl rfl rfl (by rw [hm]; exact in_i64 (by omega)))) ?_
   refine hd_ev rfl rfl rfl rfl (EvG.go rfl (ev_add rfl rfl rfl (by first | exact in_i64 (by omega) | rfl | exact IntWalk.u64_in _ (by omega)))) ?_
   refine Z.dr 1 ?_
   refine hd_ev rfl rfl rfl rfl (EvG.go rfl (ev_add rfl rfl rfl (by first | exact in_i64 (by omega) | rfl | exact IntWalk.u64_in _ (by omega)))) ?_
   refine Z.dd (c := disk_Free g.dk (Wl.freeAll d (g.at_ + (o : Int)) q) (g.at_ + (o : Int) + (q : Int)) (by omega)) (fun _ => ?_)
   refine hd_nil ?_
   refine Z.xg 3 ?_
   refine Z.ad 2 ?_
   refine Z.ag (q + 1) (by (first | dsimp only | skip); omega) ?_
   (first | dsimp only | skip)
   exact Ent.cons Z.k (Ent.cons Z.k (Ent.pu (by omega) Z.f))
  )
 ·first | (exfalso; first | omega | (simp at g1; done) | contradiction) | skip
  all_goals (
   have hqq : q = g.size := by omega
   subst hqq
   exact hx_ret0 (.inr rfl) rfl () rfl (Ent.cons Z.k (Ent.cons Z.k Z.f))
  )
theorem wal_Truncate (p dk : Nat) (l : Wl.Lg) (seq : Nat) (hok : l.Ok) (hsq : seq < 18446744073709551616) : Ctr Tryz.prog 14 #[.pointer (some ⟨p, 0, none⟩), .int .u64 (seq : Int)] [LogAt p (lgOf dk l), DiskAt dk l.d] (fun _ : Unit => .int .i64 (l.truncate seq).2) (fun _ => [LogAt p (lgOf dk (l.truncate seq).1), DiskAt dk (l.truncate seq).1.d]) := by
 refine Z.fn Tryz.func14 Tryz.ntmps14 (fun κ F => ?_)
 refine ht_log Z.p (fun x hx => ?_)
 refine ht_ent (M := [pt p (.cells #[.pointer (some ⟨dk, 0, none⟩), .int .i64 l.at_, .int .i64 (l.n : Int), .int .i64 (l.size : Int), .slice x.la l.live.length x.lc, .slice x.sa l.stream.length x.sc, .int .u64 (l.last : Int), .int .u64 (l.synced : Int)] 75 (0, 0)), ownS 79 x.la l.live.length x.lc l.live, ro (roS x.sa l.stream.length l.stream), DiskAt dk l.d, F]) (Ent.refl _) ?_
 have hx : l.stream.length ≤ x.sc := hx
 obtain ⟨hat0, hat1, hsz, hnn, hlv, hpls, hst0_, hcur, hlast, hpend⟩ := id hok
 have hls : l.live.length * l.size ≤ 1000 * 64 := Nat.mul_le_mul hlv hsz
 refine Z.go 12 ?_
 refine Z.ld 0 ?_
 refine Z.gt 10 12 (fun g1 => ?_) (fun g1 => ?_)
 ·first | (exfalso; first | omega | (simp at g1; done) | contradiction) | skip
  all_goals (
   have ht : l.truncate seq = (l, 83) := by unfold Wl.Lg.truncate; rw [if_pos (by omega)]
   rw [ht]
   exact hx_ret1 (.inl rfl) rfl rfl () rfl (Ent.log (g := lgOf dk l) (x := x) Z.d rfl rfl rfl rfl rfl rfl rfl rfl rfl rfl hx (Ent.cons Z.k Z.f))
  )
 ·first | (exfalso; first | omega | (simp at g1; done) | contradiction) | skip
  all_goals (
   refine Z.ev (ev_build1 (csl := [_, .int .u64 0, .int .u64 0]) rfl Tryz.st79 (.cons rfl .nil) (.cons rfl .nil) rfl rfl) 0 ?_
   refine Z.al 0 (fun b6 => ?_)
   refine Z.sA 2 ?_
   refine Z.jo (fun g : Int × Wl.Seg => ([pt p (.cells #[.pointer (some ⟨dk, 0, none⟩), .int .i64 l.at_, .int .i64 (l.n : Int), .int .i64 (l.size : Int), .slice x.la l.live.length x.lc, .slice x.sa l.stream.length x.sc, .int .u64 (l.last : Int), .int .u64 (l.synced : Int)] 75 (0, 0)), ownS 79 x.la l.live.length x.lc l.live, ro (roS x.sa l.stream.length l.stream), DiskAt dk l.d, pt b6 (.cells #[.int .i64 g.1, .int .u64 (g.2.base : Int), .int .u64 (g.2.count : Int)] 79 (0, 0)), pu (Wl.CurOk l g.1 g.2), F], [(0, .pointer (some ⟨p, 0, none⟩)), (1, .int .u64 (seq : Int)), (5, .slice none 0 0), (6, .pointer (some ⟨b6, 0, none⟩))])) ?_ (fun g => ?_)
   ·skip
    refine Z.go 5 ?_
    refine Z.ld 1 ?_
    refine Z.gt 3 4 (fun g2 => ?_) (fun g2 => ?_)
    ·first | (exfalso; first | omega | (simp at g2; done) | contradiction) | skip
     all_goals (
      obtain ⟨ini, sl, hsp⟩ := Wl.live_split (hcur (by omega))
      refine ht_someS (α := Wl.Seg) (a := x.la) (reads_own Z.p) (by rw [hsp]; simp) (fun ab ao ha => ?_)
      have hil := congrArg List.length hsp
      rw [List.length_append, List.length_singleton] at hil
      have hxs : l.live[ini.length]? = some sl := by rw [hsp]; simp
      have hsl : l.live.getLast? = some sl := by rw [hsp]; simp
      refine ht_draw (.op 0 (.op 1 (.op 2 (.op 3 (.op 4 (.op 5 (.op 6 (.op 7 (.op 8 (.op 9 (.op 10 (.op 11 (.op 12 .done))))))))))))) [12] Tryz.mixed rfl ?_
      refine Z.dr 3 ?_
      refine Z.dl ?_
      refine Z.dr 3 ?_
      refine Z.dl ?_
      refine Z.dr 1 ?_
      refine hd_ev rfl rfl rfl rfl (EvG.go rfl (ev_sub (r := ((ini.length : Nat) : Int)) rfl rfl rfl (by rw [hil]; exact (in_i64 (by omega)).trans (by omega)))) ?_
      refine hd_ev rfl rfl rfl rfl (EvG.go rfl (ev_indexAddr rfl Tryz.underlying72 Tryz.ty79 (congrArg (fun z => some (Value.slice z l.live.length x.lc)) ha) rfl (by omega) (by omega))) ?_
      refine Z.dA (hc := by exact show Cells _ _ _ _ #[.int .i64 (sl.place : Int), .int .u64 (sl.base : Int), .int .u64 (sl.count : Int)] from cells_Sa ha (reads_own Z.p) hxs) ?_
      refine Z.dS ?_
      refine hd_nil ?_
      refine Z.me ((sl.place : Int), sl) ?_
      (first | dsimp only | skip)
      exact Ent.cons Z.k (Ent.cons Z.k (Ent.roD Z.p (Ent.cons Z.k (Ent.cons Z.k (Ent.pu (.inr ⟨by omega, hsl, rfl⟩) Z.f)))))
     )
    ·first | (exfalso; first | omega | (simp at g2; done) | contradiction) | skip
     all_goals (
      refine Z.me (-1, ⟨0, 0, 0⟩) ?_
      (first | dsimp only | skip)
      exact Ent.cons Z.k (Ent.cons Z.k (Ent.roD Z.p (Ent.cons Z.k (Ent.cons Z.k (Ent.pu (.inl ⟨by omega, rfl⟩) Z.f)))))
     )
   ·skip
    obtain ⟨tp, tt⟩ := g
    (first | dsimp only | skip)
    refine ht_pick (A := pu (Wl.CurOk l tp tt)) Z.k (ht_pure fun hcur2 => ?_)
    refine Z.go 6 ?_
    refine Z.ld 5 ?_
    refine Z.lo (fun q : Nat × List UInt8 × Option Addr × Nat × Option Addr × Nat => ([pt p (.cells #[.pointer (some ⟨dk, 0, none⟩), .int .i64 l.at_, .int .i64 (l.n : Int), .int .i64 (l.size : Int), .slice x.la l.live.length x.lc, .slice q.2.2.1 q.2.1.length q.2.2.2.1, .int .u64 (l.last : Int), .int .u64 (l.synced : Int)] 75 (0, 0)), ownS 79 x.la l.live.length x.lc l.live, ro (roS q.2.2.1 q.2.1.length q.2.1), DiskAt dk (Wl.freeTr l.at_ l.size seq l.d (l.live.take q.1)), pt b6 (.cells #[.int .i64 tp, .int .u64 (tt.base : Int), .int .u64 (tt.count : Int)] 79 (0, 0)), ownS 79 q.2.2.2.2.1 ((l.live.take q.1).filter (Wl.keeps seq)).length q.2.2.2.2.2 ((l.live.take q.1).filter (Wl.keeps seq)), pu (Wl.StOk l seq q.1 tt q.2.1 ∧ q.1 ≤ l.live.length ∧ q.2.1.length ≤ q.2.2.2.1), F], [(0, .pointer (some ⟨p, 0, none⟩)), (1, .int .u64 (seq : Int)), (5, .slice q.2.2.2.2.1 ((l.live.take q.1).filter (Wl.keeps seq)).length q.2.2.2.2.2), (6, .pointer (some ⟨b6, 0, none⟩)), (37, .slice x.la l.live.length x.lc), (38, .int .i64 (l.live.length : Int)), (39, .int .i64 q.1)])) (fun q : Nat × List UInt8 × Option Addr × Nat × Option Addr × Nat => l.live.length - q.1) (0, l.stream, x.sa, x.sc, none, 0) ?_ (fun q => ?_)
    ·(first | dsimp only | skip)
     refine (ownS_nil (α := Wl.Seg) 79).trans ?_
     exact Ent.cons Z.k (Ent.cons Z.k (Ent.roD Z.k (Ent.cons Z.k (Ent.cons Z.k (Ent.cons Z.k (Ent.pu ⟨Wl.stOk_zero, by omega, hx⟩ Z.f))))))
    obtain ⟨q, st, sa, sc, ka, kc⟩ := q
    dsimp only
    refine ht_pick (A := pu (Wl.StOk l seq q tt st ∧ q ≤ l.live.length ∧ st.length ≤ sc)) Z.k (ht_pure fun hq => ?_)
    obtain ⟨hso, hql, hsc⟩ := hq
    have hfp := Wl.freeTr_pend l.at_ l.size seq l.d l.live q
    have hkl : ((l.live.take q).filter (Wl.keeps seq)).length ≤ l.live.length := Nat.le_trans (List.length_filter_le _ _) (by rw [List.length_take]; omega)
    have hqs : q * l.size ≤ l.live.length * l.size := Nat.mul_le_mul_right _ hql
    refine Z.go 2 ?_
    refine Z.lt 9 10 (fun g3 => ?_) (fun g3 => ?_)
    ·first | (exfalso; first | omega | (simp at g3; done) | contradiction) | skip
     all_goals (
      obtain ⟨s, hs⟩ : ∃ s, l.live[q]? = some s := ⟨_, List.getElem?_eq_getElem (by omega)⟩
      refine ht_someS (α := Wl.Seg) (a := x.la) (reads_own (cap := x.lc) (xs := l.live) Z.p) (by omega) (fun ab ao ha => ?_)
      have hpl := hpls s (List.mem_of_getElem? hs)
      have hms : s.place * l.size + l.size ≤ l.n * l.size := by have h := Nat.mul_le_mul_right l.size (show s.place + 1 ≤ l.n by omega); rw [Nat.succ_mul] at h; exact h
      refine Z.go 1 ?_
      refine Z.ev (ev_indexAddr rfl Tryz.underlying72 Tryz.ty79 (congrArg (fun z => some (Value.slice z l.live.length x.lc)) ha) rfl (by omega) (by omega)) 0 ?_
      refine Z.la (hc := by exact show Cells _ _ _ _ #[.int .i64 (s.place : Int), .int .u64 (s.base : Int), .int .u64 (s.count : Int)] from cells_Sa ha (reads_own (cap := x.lc) (xs := l.live) Z.p) hs) 0 ?_
      refine Z.al 0 (fun b8 => ?_)
      refine Z.sA 6 ?_
      refine Z.ld 0 ?_
      refine Z.gt 2 16 (fun g4 => ?_) (fun g4 => ?_)
      ·skip
       refine Z.ld 1 ?_
       refine Z.ld 0 ?_
       refine Z.ad (r := (((s.base + s.count) % 18446744073709551616 : Nat) : Int)) (hw := by exact add_wrap _ _) 0 ?_
       refine Z.sb (r := ((Wl.upTo s.base s.count : Nat) : Int)) (hw := by exact sub_wrap _) 1 ?_
       refine Z.gt 5 7 (fun g5 => ?_) (fun g5 => ?_)
       ·skip
        have hk : Wl.keeps seq s = true := (by unfold Wl.keeps; simp; omega)
        refine Z.go 2 ?_
        refine Z.la 0 ?_
        refine Z.ef (eff_buildAll (α := Wl.Seg) [s] rfl Tryz.underlying72 Tryz.ty79 (.cons rfl .nil) (.cons rfl .nil) rfl (Nat.le_of_ble_eq_true rfl)) 0 (fun b58 => ?_)
        refine Z.ef (eff_append (α := Wl.Seg) rfl Tryz.underlying72 Tryz.ty79 rfl (by decide) Tryz.underlying72 rfl rfl Z.p (by first | exact reads_ro Z.p | exact reads_own Z.p | exact reads_nil _) (by first | omega | (simp only [List.length_append, List.length_cons, List.length_nil, List.length_drop, List.length_take]; omega) | (simp; omega))) 8 (fun p59 => ?_)
        refine Z.ad 2 ?_
        rw [← Wl.keep_yes hs hk]
        have hdt : Wl.freeTr l.at_ l.size seq l.d (l.live.take (q + 1)) = (Wl.freeTr l.at_ l.size seq l.d (l.live.take q)) := by rw [Wl.freeTr_step hs]; unfold Wl.freeStep; rw [if_pos hk]
        rw [← hdt]
        refine Z.ag (q + 1, st, sa, sc, p59.1, p59.2) (by (first | dsimp only | skip); omega) ?_
        (first | dsimp only | skip)
        skip
        exact Ent.cons Z.k (Ent.cons Z.k (Ent.roD Z.k (Ent.cons Z.k (Ent.cons Z.k (Ent.cons Z.k (Ent.pu ⟨Wl.stOk_keep hso hs hk, by omega, hsc⟩ Z.f))))))
       ·skip
        have hk : ¬ Wl.keeps seq s = true := (by unfold Wl.keeps; simp; omega)
        refine Z.go 3 ?_
        refine Z.ld 0 ?_
        refine Z.cd (c := wal_freeX p (⟨dk, l.at_, l.n, l.size, l.live, st, l.last, l.synced⟩ : LG) (⟨x.la, x.lc, sa, sc⟩ : LX) (Wl.freeTr l.at_ l.size seq l.d (l.live.take q)) s.place (s.place * l.size) (by push_cast; rfl) ⟨hat0, by show l.at_ + ((s.place * l.size : Nat) : Int) + (l.size : Int) ≤ 65536; omega⟩ hsz (by omega)) 4 (fun _ => ?_)
        refine Z.la 0 ?_
        refine Z.la 0 ?_
        refine Z.ev (ev_eqSeg (s := s) (t := tt) (tp := tp) rfl rfl rfl) 2 ?_
        refine Z.bc 66 5 5 (fun g66 => ?_) (fun g66 => ?_)
        ·skip
         refine Z.s1 4 ?_
         refine Z.ad 2 ?_
         rw [← Wl.keep_no hs (by simpa using hk)]
         have hdt : Wl.freeTr l.at_ l.size seq l.d (l.live.take (q + 1)) = Wl.freeAll (Wl.freeTr l.at_ l.size seq l.d (l.live.take q)) (l.at_ + ((s.place * l.size : Nat) : Int)) l.size := by rw [Wl.freeTr_step hs]; unfold Wl.freeStep; rw [if_neg hk]
         rw [← hdt]
         refine Z.ag (q + 1, [], none, 0, ka, kc) (by (first | dsimp only | skip); omega) ?_
         (first | dsimp only | skip)
         refine Ent.trans (Ent.roTrue (ψ := roS (α := UInt8) none 0 []) (fun r => SliceIn.empty _ _) (Ent.refl _)) ?_
         exact Ent.cons Z.k (Ent.cons Z.k (Ent.roD Z.k (Ent.cons Z.k (Ent.cons Z.k (Ent.cons Z.k (Ent.pu ⟨Wl.stOk_same hcur2 hs (by simpa using hk) (by simpa using g66), by omega, Nat.le_refl _⟩ Z.f))))))
        ·skip
         refine Z.ad 2 ?_
         rw [← Wl.keep_no hs (by simpa using hk)]
         have hdt : Wl.freeTr l.at_ l.size seq l.d (l.live.take (q + 1)) = Wl.freeAll (Wl.freeTr l.at_ l.size seq l.d (l.live.take q)) (l.at_ + ((s.place * l.size : Nat) : Int)) l.size := by rw [Wl.freeTr_step hs]; unfold Wl.freeStep; rw [if_neg hk]
         rw [← hdt]
         refine Z.ag (q + 1, st, sa, sc, ka, kc) (by (first | dsimp only | skip); omega) ?_
         (first | dsimp only | skip)
         skip
         exact Ent.cons Z.k (Ent.cons Z.k (Ent.roD Z.k (Ent.cons Z.k (Ent.cons Z.k (Ent.cons Z.k (Ent.pu ⟨Wl.stOk_diff hso hcur2 hs (by simpa using g66), by omega, hsc⟩ Z.f))))))
      ·skip
       have hk : ¬ Wl.keeps seq s = true := (by unfold Wl.keeps; simp; omega)
       refine Z.go 3 ?_
       refine Z.ld 0 ?_
       refine Z.cd (c := wal_freeX p (⟨dk, l.at_, l.n, l.size, l.live, st, l.last, l.synced⟩ : LG) (⟨x.la, x.lc, sa, sc⟩ : LX) (Wl.freeTr l.at_ l.size seq l.d (l.live.take q)) s.place (s.place * l.size) (by push_cast; rfl) ⟨hat0, by show l.at_ + ((s.place * l.size : Nat) : Int) + (l.size : Int) ≤ 65536; omega⟩ hsz (by omega)) 4 (fun _ => ?_)
       refine Z.la 0 ?_
       refine Z.la 0 ?_
       refine Z.ev (ev_eqSeg (s := s) (t := tt) (tp := tp) rfl rfl rfl) 2 ?_
       refine Z.bc 66 5 5 (fun g66 => ?_) (fun g66 => ?_)
       ·skip
        refine Z.s1 4 ?_
        refine Z.ad 2 ?_
        rw [← Wl.keep_no hs (by simpa using hk)]
        have hdt : Wl.freeTr l.at_ l.size seq l.d (l.live.take (q + 1)) = Wl.freeAll (Wl.freeTr l.at_ l.size seq l.d (l.live.take q)) (l.at_ + ((s.place * l.size : Nat) : Int)) l.size := by rw [Wl.freeTr_step hs]; unfold Wl.freeStep; rw [if_neg hk]
        rw [← hdt]
        refine Z.ag (q + 1, [], none, 0, ka, kc) (by (first | dsimp only | skip); omega) ?_
        (first | dsimp only | skip)
        refine Ent.trans (Ent.roTrue (ψ := roS (α := UInt8) none 0 []) (fun r => SliceIn.empty _ _) (Ent.refl _)) ?_
        exact Ent.cons Z.k (Ent.cons Z.k (Ent.roD Z.k (Ent.cons Z.k (Ent.cons Z.k (Ent.cons Z.k (Ent.pu ⟨Wl.stOk_same hcur2 hs (by simpa using hk) (by simpa using g66), by omega, Nat.le_refl _⟩ Z.f))))))
       ·skip
        refine Z.ad 2 ?_
        rw [← Wl.keep_no hs (by simpa using hk)]
        have hdt : Wl.freeTr l.at_ l.size seq l.d (l.live.take (q + 1)) = Wl.freeAll (Wl.freeTr l.at_ l.size seq l.d (l.live.take q)) (l.at_ + ((s.place * l.size : Nat) : Int)) l.size := by rw [Wl.freeTr_step hs]; unfold Wl.freeStep; rw [if_neg hk]
        rw [← hdt]
        refine Z.ag (q + 1, st, sa, sc, ka, kc) (by (first | dsimp only | skip); omega) ?_
        (first | dsimp only | skip)
        skip
        exact Ent.cons Z.k (Ent.cons Z.k (Ent.roD Z.k (Ent.cons Z.k (Ent.cons Z.k (Ent.cons Z.k (Ent.pu ⟨Wl.stOk_diff hso hcur2 hs (by simpa using g66), by omega, hsc⟩ Z.f))))))
     )
    ·first | (exfalso; first | omega | (simp at g3; done) | contradiction) | skip
     all_goals (
      obtain rfl : q = l.live.length := by omega
      have hke := Wl.stOk_end hso hcur2
      subst hke
      rw [List.take_length] at *
      refine Z.go 5 ?_
      refine Z.s1 3 ?_
      refine ht_ent (Ent.log (g := (⟨dk, l.at_, l.n, l.size, (l.live.filter (Wl.keeps seq)), l.keepStream seq, l.last, l.synced⟩ : LG)) (x := ⟨ka, kc, sa, sc⟩) Z.d rfl rfl rfl rfl rfl rfl rfl rfl rfl rfl hsc (Ent.refl _)) ?_
      refine Z.go 2 ?_
      refine Z.cd (c := wal_Sync p (⟨dk, l.at_, l.n, l.size, (l.live.filter (Wl.keeps seq)), l.keepStream seq, l.last, l.synced⟩ : LG) (Wl.freeTr l.at_ l.size seq l.d l.live)) 8 (fun _ => ?_)
      have ht : l.truncate seq = ({ l with live := (l.live.filter (Wl.keeps seq)), stream := l.keepStream seq, synced := l.last, d := (Wl.freeTr l.at_ l.size seq l.d l.live).sync }, 0) := by unfold Wl.Lg.truncate; rw [if_neg (by omega)]
      rw [ht]
      exact hx_ret1 (.inl rfl) rfl rfl () rfl (Ent.cons Z.k (Ent.cons Z.k Z.f))
     )
  )
end Go.Proofs.YtlejcepbcfijiaaGreatDoor
