/-
  PACKAGE wal (layer 8), second text: what is appended. Conditions: as each contract says.
-/
import Derived.Test.YtlejcepbcfijiaaGreatDoorWal
import Derived.Test.YtlejcepbcfijiaaGreatDoorWalN
set_option maxRecDepth 100000
set_option linter.unusedVariables false
set_option linter.unusedSimpArgs false
namespace Go.Proofs.YtlejcepbcfijiaaGreatDoor
open Go Go.SL


/-- the log in memory of the plain one -/
abbrev lgOf (dk : Nat) (l : Wl.Lg) : LG := ⟨dk, l.at_, l.n, l.size, l.live, l.stream, l.last, l.synced⟩

theorem wal_roomX (p : Nat) (g : LG) (x : LX) (hs : g.size ≤ 64) : Ctr Tryz.prog 37 #[.pointer (some ⟨p, 0, none⟩)] [pt p (.cells (lgCells g x) 75 (0, 0))] (fun _ : Unit => .int .i64 ((g.size * 512 : Nat) : Int)) (fun _ => [pt p (.cells (lgCells g x) 75 (0, 0))]) := by
 refine Z.fn Tryz.func37 Tryz.ntmps37 (fun κ F => ?_)
 refine Z.go 10 ?_
 refine Z.ld 0 ?_
 refine Z.ml (r := ((g.size * 512 : Nat) : Int)) (hw := by push_cast; exact in_i64 (by omega)) 4 ?_
 exact hx_ret1 (.inl rfl) rfl rfl () rfl (Ent.cons Z.k Z.f)
theorem wal_putX (p : Nat) (g : LG) (x : LX) (d : Dk.Disk) (i fr : Nat) (a : Option Addr) (c : Nat) (b : List UInt8) (hb : b.length ≤ g.size * 512) (hc : b.length ≤ c) (hf : fr ≤ 32768) (hat : 0 ≤ g.at_ ∧ g.at_ + ((i * g.size : Nat) : Int) + (g.size : Int) ≤ 65536) (hsz : g.size ≤ 64) (hp : d.pend.length ≤ 1000000) : Ctr Tryz.prog 40 #[.pointer (some ⟨p, 0, none⟩), .int .i64 (i : Int), .int .i64 (fr : Int), .slice a b.length c] [pt p (.cells (lgCells g x) 75 (0, 0)), DiskAt g.dk d, ro (roS a b.length b)] (fun _ : Unit => .int .i64 (Wl.put (g.at_ + ((i * g.size : Nat) : Int)) b fr d).2) (fun _ => [pt p (.cells (lgCells g x) 75 (0, 0)), DiskAt g.dk (Wl.put (g.at_ + ((i * g.size : Nat) : Int)) b fr d).1]) := by
 refine Z.fn Tryz.func40 Tryz.ntmps40 (fun κ F => ?_)
 refine Z.go 9 ?_
 refine Z.ev (ev_quo (r := ((fr / 512 : Nat) : Int)) rfl rfl rfl (by omega) (by rw [Int.tdiv_eq_ediv_of_nonneg (by omega)]; exact (in_i64 (by omega)).trans (by omega))) 4 ?_
 refine Z.lo (fun q : Nat × Nat × Dk.Disk => ([pt p (.cells (lgCells g x) 75 (0, 0)), DiskAt g.dk q.2.2, ro (roS a b.length b), pu (Wl.putF (g.at_ + ((i * g.size : Nat) : Int)) b q.1 q.2.1 q.2.2 = (Wl.put (g.at_ + ((i * g.size : Nat) : Int)) b fr d) ∧ b.length ≤ 512 * (q.2.1 + q.1) ∧ q.2.2.pend.length + q.1 ≤ d.pend.length + b.length ∧ q.1 ≤ b.length ∧ q.2.1 ≤ 70000), F], [(0, .pointer (some ⟨p, 0, none⟩)), (1, .int .i64 (i : Int)), (3, .slice a b.length c), (9, .int .i64 q.2.1)])) (fun q : Nat × Nat × Dk.Disk => b.length - 512 * q.2.1) (b.length, fr / 512, d) ?_ (fun q => ?_)
 ·(first | dsimp only | skip)
  exact Ent.cons Z.k (Ent.cons Z.k (Ent.roD Z.p (Ent.pu ⟨rfl, by omega, by omega, by omega, by omega⟩ Z.f)))
 obtain ⟨m, j, e⟩ := q
 dsimp only
 refine ht_pick (A := pu (Wl.putF (g.at_ + ((i * g.size : Nat) : Int)) b m j e = (Wl.put (g.at_ + ((i * g.size : Nat) : Int)) b fr d) ∧ b.length ≤ 512 * (j + m) ∧ e.pend.length + m ≤ d.pend.length + b.length ∧ m ≤ b.length ∧ j ≤ 70000)) Z.k (ht_pure fun hq => ?_)
 obtain ⟨hput, hbm, hpe, hm, hj⟩ := hq
 refine Z.go 4 ?_
 refine Z.ml (r := ((j * 512 : Nat) : Int)) (hw := by push_cast; exact in_i64 (by omega)) 2 ?_
 refine Z.lt 10 14 (fun g1 => ?_) (fun g1 => ?_)
 ·first | (exfalso; first | omega | (simp at g1; done) | contradiction) | skip
  all_goals (
   refine Z.ad (r := ((j + 1 : Nat) : Int)) (hw := by push_cast; exact in_i64 (by omega)) 0 ?_
   refine Z.ml (r := (((j + 1) * 512 : Nat) : Int)) (hw := by push_cast; exact in_i64 (by omega)) 2 ?_
   refine Z.ev (ev_minI (r := ((min ((j + 1) * 512) b.length : Nat) : Int)) rfl rfl rfl (by omega)) 4 ?_
   refine ht_draw (.op 0 (.op 1 (.op 2 (.op 3 (.op 4 (.op 5 (.op 6 (.op 7 (.op 8 (.op 9 (.op 10 (.op 11 (.op 12 (.op 13 (.op 14 (.op 15 (.op 16 (.op 17 (.op 18 (.op 19 (.op 20 (.op 21 (.op 22 (.op 23 .done)))))))))))))))))))))))) [21, 22] Tryz.mixed rfl ?_
   refine Z.dr 3 ?_
   refine Z.dl ?_
   refine Z.dr 3 ?_
   refine Z.dl ?_
   refine Z.dr 4 ?_
   refine Z.dl ?_
   refine hd_ev rfl rfl rfl rfl (EvG.go rfl (ev_mul (r := ((i * g.size : Nat) : Int)) rfl rfl rfl (by rw [← Int.natCast_mul]; exact in_i64 (by omega)))) ?_
   refine hd_ev rfl rfl rfl rfl (EvG.go rfl (ev_add rfl rfl rfl (by first | exact in_i64 (by omega) | rfl | exact IntWalk.u64_in _ (by omega)))) ?_
   refine Z.dr 1 ?_
   refine hd_ev rfl rfl rfl rfl (EvG.go rfl (ev_add rfl rfl rfl (by first | exact in_i64 (by omega) | rfl | exact IntWalk.u64_in _ (by omega)))) ?_
   refine Z.dr 2 ?_
   refine hd_ev rfl rfl rfl rfl (EvG.go rfl (ev_mul (r := ((j * 512 : Nat) : Int)) rfl rfl rfl (by push_cast; exact in_i64 (by omega)))) ?_
   refine Z.dr 1 ?_
   refine Z.de rfl (eff_slice (α := UInt8) rfl Tryz.underlying73 Tryz.ty5 rfl Z.p ⟨_, rfl⟩ ⟨_, rfl⟩ rfl (by decide) (by omega) (by omega) (by omega) (by omega)) (hf := fun _ => by (refine FL.skip rfl ?_); (refine FL.skip rfl ?_); (refine FL.skip rfl ?_); (refine FL.skip rfl ?_); (refine FL.ev rfl (EvG.go rfl Z.el) ?_); (refine FL.pu rfl rfl ?_); (refine FL.ev rfl (EvG.go rfl Z.el) ?_); (refine FL.ev rfl (EvG.go rfl (ev_mul (r := ((i * g.size : Nat) : Int)) rfl rfl rfl (by rw [← Int.natCast_mul]; exact in_i64 (by omega)))) ?_); (refine FL.ev rfl (EvG.go rfl Z.el) ?_); (refine FL.pu rfl rfl ?_); (refine FL.pu rfl rfl ?_); (refine FL.pu rfl rfl ?_); (refine FL.pu rfl rfl ?_); (refine FL.ev rfl (EvG.go rfl Z.el) ?_); (refine FL.pu rfl rfl ?_); (refine FL.pu rfl rfl ?_); (refine FL.pu rfl rfl ?_); (refine FL.ev rfl (EvG.go rfl Z.el) ?_); (refine FL.pu rfl rfl ?_); (refine FL.pu rfl rfl ?_); (refine FL.pu rfl rfl ?_); exact FL.nil) (fun a48 => ?_)
   refine Z.dd (c := disk_Write g.dk e ((g.at_ + ((i * g.size : Nat) : Int)) + (j : Int)) _ _ (Wl.sect b j) (by omega) (by have := Wl.sect_len b j; omega)) (fun _ => ?_)
   refine Z.dr 1 ?_
   refine hd_nil ?_
   refine Z.xg 4 ?_
   refine Z.ne 15 8 (fun g2 => ?_) (fun g2 => ?_)
   ·first | (exfalso; first | omega | (simp at g2; done) | contradiction) | skip
    all_goals (
     have he0 : ¬ e.werr ((g.at_ + ((i * g.size : Nat) : Int)) + (j : Int)) (Wl.sect b j) = 0 := by omega
     rw [Wl.putF_err (by omega) (by omega) he0] at hput
     rw [← hput]
     exact hx_ret1 (.inl rfl) rfl rfl () rfl (Ent.cons Z.k (Ent.cons Z.k Z.f))
    )
   ·first | (exfalso; first | omega | (simp at g2; done) | contradiction) | skip
    all_goals (
     refine Z.ad (r := ((j + 1 : Nat) : Int)) (hw := by push_cast; exact in_i64 (by omega)) 2 ?_
     refine Z.ag (m - 1, j + 1, e.write ((g.at_ + ((i * g.size : Nat) : Int)) + (j : Int)) (Wl.sect b j)) (by (first | dsimp only | skip); omega) ?_
     (first | dsimp only | skip)
     exact Ent.cons Z.k (Ent.cons Z.k (Ent.roD Z.p (Ent.pu ⟨by rw [← hput]; exact (Wl.putF_go (by omega) (by omega) (by omega)).symm, by omega, by have := Wl.write_pend e ((g.at_ + ((i * g.size : Nat) : Int)) + (j : Int)) (Wl.sect b j); omega, by omega, by omega⟩ Z.f)))
    )
  )
 ·first | (exfalso; first | omega | (simp at g1; done) | contradiction) | skip
  all_goals (
   rw [Wl.putF_end (by omega)] at hput
   rw [← hput]
   exact hx_ret1 (.inl rfl) rfl rfl () rfl (Ent.cons Z.k (Ent.cons Z.k Z.f))
  )
theorem wal_roomL (p dk : Nat) (l : Wl.Lg) (x : LX) (hs : l.size ≤ 64) : Ctr Tryz.prog 37 #[.pointer (some ⟨p, 0, none⟩)] [pt p (.cells #[.pointer (some ⟨dk, 0, none⟩), .int .i64 l.at_, .int .i64 (l.n : Int), .int .i64 (l.size : Int), .slice x.la l.live.length x.lc, .slice x.sa l.stream.length x.sc, .int .u64 (l.last : Int), .int .u64 (l.synced : Int)] 75 (0, 0))] (fun _ : Unit => .int .i64 ((l.size * 512 : Nat) : Int)) (fun _ => [pt p (.cells #[.pointer (some ⟨dk, 0, none⟩), .int .i64 l.at_, .int .i64 (l.n : Int), .int .i64 (l.size : Int), .slice x.la l.live.length x.lc, .slice x.sa l.stream.length x.sc, .int .u64 (l.last : Int), .int .u64 (l.synced : Int)] 75 (0, 0))]) := wal_roomX p (lgOf dk l) x hs
theorem wal_usedM (p dk : Nat) (l : Wl.Lg) (x : LX) (i : Int) (b : Bool) (hl : l.live.length ≤ 1000000) (hb : Wl.has l.live i = b) : Ctr Tryz.prog 29 #[.pointer (some ⟨p, 0, none⟩), .int .i64 i] [pt p (.cells #[.pointer (some ⟨dk, 0, none⟩), .int .i64 l.at_, .int .i64 (l.n : Int), .int .i64 (l.size : Int), .slice x.la l.live.length x.lc, .slice x.sa l.stream.length x.sc, .int .u64 (l.last : Int), .int .u64 (l.synced : Int)] 75 (0, 0)), ownS 79 x.la l.live.length x.lc l.live] (fun _ : Unit => .bool b) (fun _ => [pt p (.cells #[.pointer (some ⟨dk, 0, none⟩), .int .i64 l.at_, .int .i64 (l.n : Int), .int .i64 (l.size : Int), .slice x.la l.live.length x.lc, .slice x.sa l.stream.length x.sc, .int .u64 (l.last : Int), .int .u64 (l.synced : Int)] 75 (0, 0)), ownS 79 x.la l.live.length x.lc l.live]) := wal_usedB p (lgOf dk l) x i b hl hb
theorem wal_putM (p dk : Nat) (l : Wl.Lg) (x : LX) (i fr : Nat) (a : Option Addr) (c : Nat) (b : List UInt8) (hb : b.length ≤ l.size * 512) (hc : b.length ≤ c) (hf : fr ≤ 32768) (hat : 0 ≤ l.at_ ∧ l.at_ + ((i * l.size : Nat) : Int) + (l.size : Int) ≤ 65536) (hsz : l.size ≤ 64) (hp : l.d.pend.length ≤ 1000000) : Ctr Tryz.prog 40 #[.pointer (some ⟨p, 0, none⟩), .int .i64 (i : Int), .int .i64 (fr : Int), .slice a b.length c] [pt p (.cells #[.pointer (some ⟨dk, 0, none⟩), .int .i64 l.at_, .int .i64 (l.n : Int), .int .i64 (l.size : Int), .slice x.la l.live.length x.lc, .slice x.sa l.stream.length x.sc, .int .u64 (l.last : Int), .int .u64 (l.synced : Int)] 75 (0, 0)), DiskAt dk l.d, ro (roS a b.length b)] (fun _ : Unit => .int .i64 (Wl.put (l.at_ + ((i * l.size : Nat) : Int)) b fr l.d).2) (fun _ => [pt p (.cells #[.pointer (some ⟨dk, 0, none⟩), .int .i64 l.at_, .int .i64 (l.n : Int), .int .i64 (l.size : Int), .slice x.la l.live.length x.lc, .slice x.sa l.stream.length x.sc, .int .u64 (l.last : Int), .int .u64 (l.synced : Int)] 75 (0, 0)), DiskAt dk (Wl.put (l.at_ + ((i * l.size : Nat) : Int)) b fr l.d).1]) := wal_putX p (lgOf dk l) x l.d i fr a c b hb hc hf hat hsz hp
theorem wal_Append (p dk : Nat) (l : Wl.Lg) (body : List UInt8) (hok : l.Ok) (hcs : ∀ s ∈ l.live, s.count < 18446744073709551616) (hb : body.length ≤ 32768) : Ctr Tryz.prog 12 #[.pointer (some ⟨p, 0, none⟩), vS body] [LogAt p (lgOf dk l), DiskAt dk l.d, ro bitsR] (fun _ : Unit => .tuple #[.int .u64 (((l.append body).2.1 : Nat) : Int), .int .i64 (l.append body).2.2]) (fun _ => [LogAt p (lgOf dk (l.append body).1), DiskAt dk (l.append body).1.d]) := by
 refine Z.fn Tryz.func12 Tryz.ntmps12 (fun κ F => ?_)
 refine ht_log Z.p (fun x hx => ?_)
 refine ht_ent (M := [pt p (.cells #[.pointer (some ⟨dk, 0, none⟩), .int .i64 l.at_, .int .i64 (l.n : Int), .int .i64 (l.size : Int), .slice x.la l.live.length x.lc, .slice x.sa l.stream.length x.sc, .int .u64 (l.last : Int), .int .u64 (l.synced : Int)] 75 (0, 0)), ownS 79 x.la l.live.length x.lc l.live, ro (roS x.sa l.stream.length l.stream), DiskAt dk l.d, ro bitsR, F]) (Ent.refl _) ?_
 have hx : l.stream.length ≤ x.sc := hx
 obtain ⟨hat0, hat1, hsz, hnn, hlv, hpls, hst, hcur, hlast, hpend⟩ := id hok
 refine Z.go 11 ?_
 refine Z.ld 0 ?_
 refine Z.ad (r := ((l.seq : Nat) : Int)) (hw := by exact add_wrap l.last 1) 7 ?_
 refine Z.ev (ev_build1 (csl := [_, _]) rfl Tryz.st71 (.cons rfl (.cons rfl .nil)) (.cons rfl (.cons rfl .nil)) rfl rfl) 0 ?_
 refine Z.ca (c := rec_Put l.seq body l.seq_lt hb) 10 (fun y => ?_)
 refine Z.ev (ev_build1 (csl := [_, _]) rfl Tryz.st71 (.cons rfl (.cons rfl .nil)) (.cons rfl (.cons rfl .nil)) rfl rfl) 0 ?_
 refine Z.ca (c := rec_Put l.seq Wl.title l.seq_lt (by decide)) 9 (fun h => ?_)
 refine ht_freezeS (xs := (Wire.put l.seq Wl.title)) Z.p ?_
 refine ht_freezeS (xs := (Wire.put l.seq body)) Z.p ?_
 have hp1 := Wire.put_len l.seq body l.seq_lt hb
 have hp2 := Wire.put_len l.seq Wl.title l.seq_lt (by decide)
 have hp3 : Wl.title.length = 7 := rfl
 refine Z.go 2 ?_
 refine Z.ne 0 5 (fun g1 => ?_) (fun g1 => ?_)
 ·(exfalso; first | omega | (simp at g1; done) | contradiction)
 ·first | (exfalso; first | omega | (simp at g1; done) | contradiction) | skip
  all_goals (
   refine Z.ad 1 ?_
   refine Z.cd (c := wal_roomL p dk l x hsz) 0 (fun _ => ?_)
   refine Z.gt 12 7 (fun g2 => ?_) (fun g2 => ?_)
   ·first | (exfalso; first | omega | (simp at g2; done) | contradiction) | skip
    all_goals (
     rw [Wl.app_long (by omega)]
     exact hx_ret2 (.inl rfl) rfl rfl rfl () rfl (Ent.log (g := (lgOf dk l)) (x := x) Z.d rfl rfl rfl rfl rfl rfl rfl rfl rfl rfl hx (Ent.cons Z.k Z.f))
    )
   ·first | (exfalso; first | omega | (simp at g2; done) | contradiction) | skip
    all_goals (
     refine ht_draw (.op 0 (.op 1 (.op 2 (.op 3 (.op 4 (.op 5 (.op 6 (.op 7 (.op 8 (.op 9 (.op 10 (.op 11 (.op 12 (.op 13 (.op 14 (.op 15 .done)))))))))))))))) [] Tryz.mixed rfl ?_
     refine Z.dr 3 ?_
     refine Z.dl ?_
     refine Z.dr 3 ?_
     refine Z.dl ?_
     refine Z.dr 4 ?_
     refine Z.dl ?_
     refine Z.dr 3 ?_
     refine hd_nil ?_
     refine Z.xg 1 ?_
     refine Z.jo (fun g : List Wl.Seg × List Wl.Seg × Wl.Seg × List UInt8 × Nat × Option Addr × Nat × Option Addr × Nat => ([pt p (.cells #[.pointer (some ⟨dk, 0, none⟩), .int .i64 l.at_, .int .i64 (l.n : Int), .int .i64 (l.size : Int), .slice x.la l.live.length x.lc, .slice x.sa l.stream.length x.sc, .int .u64 (l.last : Int), .int .u64 (l.synced : Int)] 75 (0, 0)), ownS 79 x.la l.live.length x.lc l.live, ro (roS x.sa l.stream.length l.stream), DiskAt dk l.d, ownS 79 g.2.2.2.2.2.2.2.1 g.1.length g.2.2.2.2.2.2.2.2 g.1, ro (roS g.2.2.2.2.2.1 g.2.2.2.1.length g.2.2.2.1), ro (roS y.1 (Wire.put l.seq body).length (Wire.put l.seq body)), pu (g.1 = g.2.1 ++ [g.2.2.1] ∧ (l.append body) = l.goOn g.2.2.2.2.1 (g.2.2.2.1 ++ (Wire.put l.seq body)) g.2.1 g.2.2.1 ∧ g.2.2.1.place < l.n ∧ g.2.2.2.2.1 ≤ 32768 ∧ (g.2.2.2.1 ++ (Wire.put l.seq body)).length ≤ l.size * 512 ∧ g.2.1.length ≤ 1000 ∧ g.2.2.1.count < 18446744073709551616), F], [(0, .pointer (some ⟨p, 0, none⟩)), (6, .int .u64 ((l.seq : Nat) : Int)), (7, .slice y.1 (Wire.put l.seq body).length y.2), (11, .slice g.2.2.2.2.2.1 g.2.2.2.1.length g.2.2.2.2.2.2.1), (12, .int .i64 (g.2.2.2.2.1 : Int)), (13, .slice g.2.2.2.2.2.2.2.1 g.1.length g.2.2.2.2.2.2.2.2)])) ?_ (fun g => ?_)
     ·skip
      refine Z.go 4 ?_
      refine Z.eq 20 5 (fun g3 => ?_) (fun g3 => ?_)
      ·first | (exfalso; first | omega | (simp at g3; done) | contradiction) | skip
       all_goals (
        refine Z.lo (fun q : Nat × Nat => ([pt p (.cells #[.pointer (some ⟨dk, 0, none⟩), .int .i64 l.at_, .int .i64 (l.n : Int), .int .i64 (l.size : Int), .slice x.la l.live.length x.lc, .slice x.sa l.stream.length x.sc, .int .u64 (l.last : Int), .int .u64 (l.synced : Int)] 75 (0, 0)), ownS 79 x.la l.live.length x.lc l.live, ro (roS x.sa l.stream.length l.stream), DiskAt dk l.d, ro (roS y.1 (Wire.put l.seq body).length (Wire.put l.seq body)), ro (roS h.1 (Wire.put l.seq Wl.title).length (Wire.put l.seq Wl.title)), pu (Wl.nextFree l.live q.1 q.2 = (Wl.nextFree l.live l.n 0) ∧ q.2 + q.1 = l.n), F], [(0, .pointer (some ⟨p, 0, none⟩)), (6, .int .u64 ((l.seq : Nat) : Int)), (7, .slice y.1 (Wire.put l.seq body).length y.2), (9, .slice h.1 (Wire.put l.seq Wl.title).length h.2), (13, .slice x.la l.live.length x.lc), (14, .int .i64 (q.2 : Int))])) (fun q : Nat × Nat => q.1) (l.n, 0) ?_ (fun q => ?_)
        ·(first | dsimp only | skip)
         exact Ent.cons Z.k (Ent.cons Z.k (Ent.roD Z.p (Ent.cons Z.k (Ent.roD Z.p (Ent.roD Z.p (Ent.pu ⟨rfl, by omega⟩ Z.f))))))
        obtain ⟨m, i⟩ := q
        dsimp only
        refine ht_pick (A := pu (Wl.nextFree l.live m i = (Wl.nextFree l.live l.n 0) ∧ i + m = l.n)) Z.k (ht_pure fun hq => ?_)
        obtain ⟨hnf, him⟩ := hq
        refine Z.go 7 ?_
        refine Z.ld 0 ?_
        refine Z.lt 3 15 (fun g4 => ?_) (fun g4 => ?_)
        ·first | (exfalso; first | omega | (simp at g4; done) | contradiction) | skip
         all_goals (
          rcases hu : Wl.has l.live (i : Int) with _ | _
          ·skip
           refine Z.cd (c := wal_usedM p dk l x (i : Int) false (by omega) hu) 11 (fun _ => ?_)
           have hin : i = (Wl.nextFree l.live l.n 0) := by first | exact (Wl.nextFree_stop (.inl (by omega))).symm.trans hnf | exact (Wl.nextFree_stop (.inr hu)).symm.trans hnf
           subst hin
           refine Z.go 5 ?_
           refine Z.ld 0 ?_
           refine Z.eq 12 14 (fun g5 => ?_) (fun g5 => ?_)
           ·first | (exfalso; first | omega | (simp at g5; done) | contradiction) | skip
            all_goals (
             rw [Wl.app_full (by omega) (by omega) (by omega)]
             exact hx_ret2 (.inl rfl) rfl rfl rfl () rfl (Ent.log (g := (lgOf dk l)) (x := x) Z.d rfl rfl rfl rfl rfl rfl rfl rfl rfl rfl hx (Ent.cons Z.k Z.f))
            )
           ·first | (exfalso; first | omega | (simp at g5; done) | contradiction) | skip
            all_goals (
             refine Z.cd (c := wal_CloneS x.la x.lc l.live (by omega)) 2 (fun cl => ?_)
             refine Z.ev (ev_build1 (csl := [_, _, _]) rfl Tryz.st79 (.cons rfl (.cons rfl (.cons rfl .nil))) (.cons rfl (.cons rfl (.cons rfl .nil))) rfl rfl) 0 ?_
             refine Z.ef (eff_buildAll (α := Wl.Seg) [(⟨(Wl.nextFree l.live l.n 0), l.seq, 0⟩ : Wl.Seg)] rfl Tryz.underlying72 Tryz.ty79 (.cons rfl .nil) (.cons rfl .nil) rfl (Nat.le_of_ble_eq_true rfl)) 0 (fun b98 => ?_)
             refine Z.ef (eff_append (α := Wl.Seg) rfl Tryz.underlying72 Tryz.ty79 rfl (by decide) Tryz.underlying72 rfl rfl Z.p (by first | exact reads_ro Z.p | exact reads_own Z.p | exact reads_nil _) (by first | omega | (simp only [List.length_append, List.length_cons, List.length_nil, List.length_drop, List.length_take]; omega) | (simp; omega))) 2 (fun p99 => ?_)
             refine Z.me (l.live ++ [(⟨(Wl.nextFree l.live l.n 0), l.seq, 0⟩ : Wl.Seg)], l.live, (⟨(Wl.nextFree l.live l.n 0), l.seq, 0⟩ : Wl.Seg), (Wire.put l.seq Wl.title), 0, h.1, h.2, p99.1, p99.2) ?_
             (first | dsimp only | skip)
             exact Ent.cons Z.k (Ent.cons Z.k (Ent.roD Z.p (Ent.cons Z.k (Ent.cons Z.k (Ent.roD Z.p (Ent.roD Z.p (Ent.pu ⟨rfl, Wl.app_fresh (by omega) (by omega) (by omega), by show (Wl.nextFree l.live l.n 0) < l.n; omega, by omega, by rw [List.length_append]; omega, hok.live, by show 0 < 18446744073709551616; omega⟩ Z.f)))))))
            )
          ·skip
           refine Z.cd (c := wal_usedM p dk l x (i : Int) true (by omega) hu) 9 (fun _ => ?_)
           refine Z.ad 3 ?_
           refine Z.ag (m - 1, i + 1) (by (first | dsimp only | skip); omega) ?_
           (first | dsimp only | skip)
           exact Ent.cons Z.k (Ent.cons Z.k (Ent.roD Z.p (Ent.cons Z.k (Ent.roD Z.p (Ent.roD Z.p (Ent.pu ⟨by rw [← hnf]; exact (Wl.nextFree_go (by omega) hu).symm, by omega⟩ Z.f))))))
         )
        ·first | (exfalso; first | omega | (simp at g4; done) | contradiction) | skip
         all_goals (
          have hin : i = (Wl.nextFree l.live l.n 0) := by first | exact (Wl.nextFree_stop (.inl (by omega))).symm.trans hnf | exact (Wl.nextFree_stop (.inr hu)).symm.trans hnf
          subst hin
          refine Z.go 5 ?_
          refine Z.ld 0 ?_
          refine Z.eq 12 14 (fun g6 => ?_) (fun g6 => ?_)
          ·first | (exfalso; first | omega | (simp at g6; done) | contradiction) | skip
           all_goals (
            rw [Wl.app_full (by omega) (by omega) (by omega)]
            exact hx_ret2 (.inl rfl) rfl rfl rfl () rfl (Ent.log (g := (lgOf dk l)) (x := x) Z.d rfl rfl rfl rfl rfl rfl rfl rfl rfl rfl hx (Ent.cons Z.k Z.f))
           )
          ·first | (exfalso; first | omega | (simp at g6; done) | contradiction) | skip
           all_goals (
            refine Z.cd (c := wal_CloneS x.la x.lc l.live (by omega)) 2 (fun cl => ?_)
            refine Z.ev (ev_build1 (csl := [_, _, _]) rfl Tryz.st79 (.cons rfl (.cons rfl (.cons rfl .nil))) (.cons rfl (.cons rfl (.cons rfl .nil))) rfl rfl) 0 ?_
            refine Z.ef (eff_buildAll (α := Wl.Seg) [(⟨(Wl.nextFree l.live l.n 0), l.seq, 0⟩ : Wl.Seg)] rfl Tryz.underlying72 Tryz.ty79 (.cons rfl .nil) (.cons rfl .nil) rfl (Nat.le_of_ble_eq_true rfl)) 0 (fun b98 => ?_)
            refine Z.ef (eff_append (α := Wl.Seg) rfl Tryz.underlying72 Tryz.ty79 rfl (by decide) Tryz.underlying72 rfl rfl Z.p (by first | exact reads_ro Z.p | exact reads_own Z.p | exact reads_nil _) (by first | omega | (simp only [List.length_append, List.length_cons, List.length_nil, List.length_drop, List.length_take]; omega) | (simp; omega))) 2 (fun p99 => ?_)
            refine Z.me (l.live ++ [(⟨(Wl.nextFree l.live l.n 0), l.seq, 0⟩ : Wl.Seg)], l.live, (⟨(Wl.nextFree l.live l.n 0), l.seq, 0⟩ : Wl.Seg), (Wire.put l.seq Wl.title), 0, h.1, h.2, p99.1, p99.2) ?_
            (first | dsimp only | skip)
            exact Ent.cons Z.k (Ent.cons Z.k (Ent.roD Z.p (Ent.cons Z.k (Ent.cons Z.k (Ent.roD Z.p (Ent.roD Z.p (Ent.pu ⟨rfl, Wl.app_fresh (by omega) (by omega) (by omega), by show (Wl.nextFree l.live l.n 0) < l.n; omega, by omega, by rw [List.length_append]; omega, hok.live, by show 0 < 18446744073709551616; omega⟩ Z.f)))))))
           )
         )
       )
      ·first | (exfalso; first | omega | (simp at g3; done) | contradiction) | skip
       all_goals (
        refine Z.ad 1 ?_
        refine Z.cd (c := wal_roomL p dk l x hsz) 0 (fun _ => ?_)
        refine Z.gt 11 4 (fun g7 => ?_) (fun g7 => ?_)
        ·first | (exfalso; first | omega | (simp at g7; done) | contradiction) | skip
         all_goals (
          refine Z.lo (fun q : Nat × Nat => ([pt p (.cells #[.pointer (some ⟨dk, 0, none⟩), .int .i64 l.at_, .int .i64 (l.n : Int), .int .i64 (l.size : Int), .slice x.la l.live.length x.lc, .slice x.sa l.stream.length x.sc, .int .u64 (l.last : Int), .int .u64 (l.synced : Int)] 75 (0, 0)), ownS 79 x.la l.live.length x.lc l.live, ro (roS x.sa l.stream.length l.stream), DiskAt dk l.d, ro (roS y.1 (Wire.put l.seq body).length (Wire.put l.seq body)), ro (roS h.1 (Wire.put l.seq Wl.title).length (Wire.put l.seq Wl.title)), pu (Wl.nextFree l.live q.1 q.2 = (Wl.nextFree l.live l.n 0) ∧ q.2 + q.1 = l.n), F], [(0, .pointer (some ⟨p, 0, none⟩)), (6, .int .u64 ((l.seq : Nat) : Int)), (7, .slice y.1 (Wire.put l.seq body).length y.2), (9, .slice h.1 (Wire.put l.seq Wl.title).length h.2), (13, .slice x.la l.live.length x.lc), (14, .int .i64 (q.2 : Int))])) (fun q : Nat × Nat => q.1) (l.n, 0) ?_ (fun q => ?_)
          ·(first | dsimp only | skip)
           exact Ent.cons Z.k (Ent.cons Z.k (Ent.roD Z.p (Ent.cons Z.k (Ent.roD Z.p (Ent.roD Z.p (Ent.pu ⟨rfl, by omega⟩ Z.f))))))
          obtain ⟨m, i⟩ := q
          dsimp only
          refine ht_pick (A := pu (Wl.nextFree l.live m i = (Wl.nextFree l.live l.n 0) ∧ i + m = l.n)) Z.k (ht_pure fun hq => ?_)
          obtain ⟨hnf, him⟩ := hq
          refine Z.go 7 ?_
          refine Z.ld 0 ?_
          refine Z.lt 3 15 (fun g8 => ?_) (fun g8 => ?_)
          ·first | (exfalso; first | omega | (simp at g8; done) | contradiction) | skip
           all_goals (
            rcases hu : Wl.has l.live (i : Int) with _ | _
            ·skip
             refine Z.cd (c := wal_usedM p dk l x (i : Int) false (by omega) hu) 11 (fun _ => ?_)
             have hin : i = (Wl.nextFree l.live l.n 0) := by first | exact (Wl.nextFree_stop (.inl (by omega))).symm.trans hnf | exact (Wl.nextFree_stop (.inr hu)).symm.trans hnf
             subst hin
             refine Z.go 5 ?_
             refine Z.ld 0 ?_
             refine Z.eq 12 14 (fun g9 => ?_) (fun g9 => ?_)
             ·first | (exfalso; first | omega | (simp at g9; done) | contradiction) | skip
              all_goals (
               rw [Wl.app_full (by omega) (by omega) (by omega)]
               exact hx_ret2 (.inl rfl) rfl rfl rfl () rfl (Ent.log (g := (lgOf dk l)) (x := x) Z.d rfl rfl rfl rfl rfl rfl rfl rfl rfl rfl hx (Ent.cons Z.k Z.f))
              )
             ·first | (exfalso; first | omega | (simp at g9; done) | contradiction) | skip
              all_goals (
               refine Z.cd (c := wal_CloneS x.la x.lc l.live (by omega)) 2 (fun cl => ?_)
               refine Z.ev (ev_build1 (csl := [_, _, _]) rfl Tryz.st79 (.cons rfl (.cons rfl (.cons rfl .nil))) (.cons rfl (.cons rfl (.cons rfl .nil))) rfl rfl) 0 ?_
               refine Z.ef (eff_buildAll (α := Wl.Seg) [(⟨(Wl.nextFree l.live l.n 0), l.seq, 0⟩ : Wl.Seg)] rfl Tryz.underlying72 Tryz.ty79 (.cons rfl .nil) (.cons rfl .nil) rfl (Nat.le_of_ble_eq_true rfl)) 0 (fun b98 => ?_)
               refine Z.ef (eff_append (α := Wl.Seg) rfl Tryz.underlying72 Tryz.ty79 rfl (by decide) Tryz.underlying72 rfl rfl Z.p (by first | exact reads_ro Z.p | exact reads_own Z.p | exact reads_nil _) (by first | omega | (simp only [List.length_append, List.length_cons, List.length_nil, List.length_drop, List.length_take]; omega) | (simp; omega))) 2 (fun p99 => ?_)
               refine Z.me (l.live ++ [(⟨(Wl.nextFree l.live l.n 0), l.seq, 0⟩ : Wl.Seg)], l.live, (⟨(Wl.nextFree l.live l.n 0), l.seq, 0⟩ : Wl.Seg), (Wire.put l.seq Wl.title), 0, h.1, h.2, p99.1, p99.2) ?_
               (first | dsimp only | skip)
               exact Ent.cons Z.k (Ent.cons Z.k (Ent.roD Z.p (Ent.cons Z.k (Ent.cons Z.k (Ent.roD Z.p (Ent.roD Z.p (Ent.pu ⟨rfl, Wl.app_fresh (by omega) (by omega) (by omega), by show (Wl.nextFree l.live l.n 0) < l.n; omega, by omega, by rw [List.length_append]; omega, hok.live, by show 0 < 18446744073709551616; omega⟩ Z.f)))))))
              )
            ·skip
             refine Z.cd (c := wal_usedM p dk l x (i : Int) true (by omega) hu) 9 (fun _ => ?_)
             refine Z.ad 3 ?_
             refine Z.ag (m - 1, i + 1) (by (first | dsimp only | skip); omega) ?_
             (first | dsimp only | skip)
             exact Ent.cons Z.k (Ent.cons Z.k (Ent.roD Z.p (Ent.cons Z.k (Ent.roD Z.p (Ent.roD Z.p (Ent.pu ⟨by rw [← hnf]; exact (Wl.nextFree_go (by omega) hu).symm, by omega⟩ Z.f))))))
           )
          ·first | (exfalso; first | omega | (simp at g8; done) | contradiction) | skip
           all_goals (
            have hin : i = (Wl.nextFree l.live l.n 0) := by first | exact (Wl.nextFree_stop (.inl (by omega))).symm.trans hnf | exact (Wl.nextFree_stop (.inr hu)).symm.trans hnf
            subst hin
            refine Z.go 5 ?_
            refine Z.ld 0 ?_
            refine Z.eq 12 14 (fun g10 => ?_) (fun g10 => ?_)
            ·first | (exfalso; first | omega | (simp at g10; done) | contradiction) | skip
             all_goals (
              rw [Wl.app_full (by omega) (by omega) (by omega)]
              exact hx_ret2 (.inl rfl) rfl rfl rfl () rfl (Ent.log (g := (lgOf dk l)) (x := x) Z.d rfl rfl rfl rfl rfl rfl rfl rfl rfl rfl hx (Ent.cons Z.k Z.f))
             )
            ·first | (exfalso; first | omega | (simp at g10; done) | contradiction) | skip
             all_goals (
              refine Z.cd (c := wal_CloneS x.la x.lc l.live (by omega)) 2 (fun cl => ?_)
              refine Z.ev (ev_build1 (csl := [_, _, _]) rfl Tryz.st79 (.cons rfl (.cons rfl (.cons rfl .nil))) (.cons rfl (.cons rfl (.cons rfl .nil))) rfl rfl) 0 ?_
              refine Z.ef (eff_buildAll (α := Wl.Seg) [(⟨(Wl.nextFree l.live l.n 0), l.seq, 0⟩ : Wl.Seg)] rfl Tryz.underlying72 Tryz.ty79 (.cons rfl .nil) (.cons rfl .nil) rfl (Nat.le_of_ble_eq_true rfl)) 0 (fun b98 => ?_)
              refine Z.ef (eff_append (α := Wl.Seg) rfl Tryz.underlying72 Tryz.ty79 rfl (by decide) Tryz.underlying72 rfl rfl Z.p (by first | exact reads_ro Z.p | exact reads_own Z.p | exact reads_nil _) (by first | omega | (simp only [List.length_append, List.length_cons, List.length_nil, List.length_drop, List.length_take]; omega) | (simp; omega))) 2 (fun p99 => ?_)
              refine Z.me (l.live ++ [(⟨(Wl.nextFree l.live l.n 0), l.seq, 0⟩ : Wl.Seg)], l.live, (⟨(Wl.nextFree l.live l.n 0), l.seq, 0⟩ : Wl.Seg), (Wire.put l.seq Wl.title), 0, h.1, h.2, p99.1, p99.2) ?_
              (first | dsimp only | skip)
              exact Ent.cons Z.k (Ent.cons Z.k (Ent.roD Z.p (Ent.cons Z.k (Ent.cons Z.k (Ent.roD Z.p (Ent.roD Z.p (Ent.pu ⟨rfl, Wl.app_fresh (by omega) (by omega) (by omega), by show (Wl.nextFree l.live l.n 0) < l.n; omega, by omega, by rw [List.length_append]; omega, hok.live, by show 0 < 18446744073709551616; omega⟩ Z.f)))))))
             )
           )
         )
        ·first | (exfalso; first | omega | (simp at g7; done) | contradiction) | skip
         all_goals (
          obtain ⟨ini, s, hsp⟩ := Wl.live_split (hcur (by omega))
          have hcnt := hcs s (by rw [hsp]; simp)
          have hil := congrArg List.length hsp
          rw [List.length_append, List.length_singleton] at hil
          refine Z.go 2 ?_
          refine Z.cd (c := wal_CloneS x.la x.lc l.live (by omega)) 2 (fun cl => ?_)
          refine Z.me (l.live, ini, s, l.stream, l.stream.length, x.sa, x.sc, cl.1, cl.2) ?_
          (first | dsimp only | skip)
          exact Ent.cons Z.k (Ent.cons Z.k (Ent.roD Z.p (Ent.cons Z.k (Ent.cons Z.k (Ent.roD Z.p (Ent.roD Z.p (Ent.pu ⟨hsp, Wl.app_cur (by omega) (by omega) (by omega) hsp, hok.places s (by rw [hsp]; simp), by omega, by rw [List.length_append]; omega, by omega, hcnt⟩ Z.f)))))))
         )
       )
     ·skip
      obtain ⟨lv, ini, s, st0, fr, a11, c11, a13, c13⟩ := g
      (first | dsimp only | skip)
      refine ht_pick (A := pu (lv = ini ++ [s] ∧ (l.append body) = l.goOn fr (st0 ++ (Wire.put l.seq body)) ini s ∧ s.place < l.n ∧ fr ≤ 32768 ∧ (st0 ++ (Wire.put l.seq body)).length ≤ l.size * 512 ∧ ini.length ≤ 1000 ∧ s.count < 18446744073709551616)) Z.k (ht_pure fun hg => ?_)
      obtain ⟨rfl, happ, hpl, hfr, hstr, hini, hcnt⟩ := hg
      have hstr2 : st0.length + (Wire.put l.seq body).length ≤ l.size * 512 := by rw [← List.length_append]; exact hstr
      refine Z.go 3 ?_
      refine Z.cd (c := wal_CloneB a11 c11 st0 (by rw [List.length_append] at hstr; omega)) 1 (fun cb => ?_)
      refine Z.ef (eff_append (α := UInt8) rfl Tryz.underlying73 Tryz.ty5 rfl (by decide) Tryz.underlying73 rfl rfl Z.p (by first | exact reads_ro Z.p | exact reads_own Z.p | exact reads_nil _) (by first | omega | (simp only [List.length_append, List.length_cons, List.length_nil, List.length_drop, List.length_take]; omega) | (simp; omega))) 4 (fun p105 => ?_)
      refine ht_someS (α := Wl.Seg) (a := a13) (reads_own Z.p) (by simp) (fun ab ao ha => ?_)
      have hxs : (ini ++ [s])[ini.length]? = some s := by simp
      have hsl : (ini ++ [s]).length = ini.length + 1 := by simp
      refine Z.go 4 ?_
      refine Z.sb (r := ((ini.length : Nat) : Int)) (hw := by rw [List.length_append]; simp; exact (in_i64 (by omega)).trans (by omega)) 0 ?_
      refine Z.ev (ev_indexAddr rfl Tryz.underlying72 Tryz.ty79 (congrArg (fun z => some (Value.slice z (ini ++ [s]).length c13)) ha) rfl (by omega) (by omega)) 5 ?_
      refine ht_cap (xs := (st0 ++ (Wire.put l.seq body))) Z.p (fun hl2 hcap => ?_)
      refine ht_freezeS (xs := (st0 ++ (Wire.put l.seq body))) Z.p ?_
      have hms : s.place * l.size + l.size ≤ l.n * l.size := by have h := Nat.mul_le_mul_right l.size (show s.place + 1 ≤ l.n by omega); rw [Nat.succ_mul] at h; exact h
      have hpp := Wl.putF_pend (l.at_ + ((s.place * l.size : Nat) : Int)) (st0 ++ (Wire.put l.seq body)) (st0 ++ (Wire.put l.seq body)).length (fr / 512) l.d
      refine Z.go 4 ?_
      refine Z.ev (by first | exact ev_fieldAddr0 rfl Tryz.fld79_0 rfl | exact ev_fieldAddr rfl Tryz.fld79_0 rfl) 0 ?_
      refine Z.ld (hc := by exact cell_Sa0 ha (reads_own Z.p) hxs rfl) 2 ?_
      refine Z.cd (c := wal_putM p dk l x s.place fr _ _ (st0 ++ (Wire.put l.seq body)) hstr hcap hfr ⟨hat0, by omega⟩ hsz (by omega)) 6 (fun _ => ?_)
      refine Z.ne 8 9 (fun g11 => ?_) (fun g11 => ?_)
      ·first | (exfalso; first | omega | (simp at g11; done) | contradiction) | skip
       all_goals (
        refine Z.s1 8 ?_
        refine Z.ev (by first | exact ev_fieldAddr0 rfl Tryz.fld79_0 rfl | exact ev_fieldAddr rfl Tryz.fld79_0 rfl) 0 ?_
        refine Z.ld (hc := by exact cell_Sa0 ha (reads_own Z.p) hxs rfl) 0 ?_
        rcases hu2 : Wl.has l.live (s.place : Int) with _ | _
        ·skip
         refine Z.cd (c := wal_usedB p (⟨dk, l.at_, l.n, l.size, l.live, [], l.last, l.synced⟩ : LG) (⟨x.la, x.lc, none, 0⟩ : LX) (s.place : Int) false (by show l.live.length ≤ 1000000; omega) hu2) 5 (fun _ => ?_)
         refine ht_ent ((Ent.roTrue (ψ := roS (α := UInt8) none 0 []) (fun r => SliceIn.empty _ _) (Ent.refl _)).trans (Ent.log (g := (⟨dk, l.at_, l.n, l.size, l.live, [], l.last, l.synced⟩ : LG)) (x := (⟨x.la, x.lc, none, 0⟩ : LX)) Z.d rfl rfl rfl rfl rfl rfl rfl rfl rfl rfl (Nat.le_refl _) (Ent.refl _))) ?_
         refine Z.go 4 ?_
         refine Z.ev (by first | exact ev_fieldAddr0 rfl Tryz.fld79_0 rfl | exact ev_fieldAddr rfl Tryz.fld79_0 rfl) 0 ?_
         refine Z.ld (hc := by exact cell_Sa0 ha (reads_own Z.p) hxs rfl) 0 ?_
         refine Z.cd (c := wal_free p (⟨dk, l.at_, l.n, l.size, l.live, [], l.last, l.synced⟩ : LG) (Wl.put (l.at_ + ((s.place * l.size : Nat) : Int)) (st0 ++ (Wire.put l.seq body)) fr l.d).1 s.place (s.place * l.size) (by push_cast; rfl) ⟨hat0, by show l.at_ + ((s.place * l.size : Nat) : Int) + (l.size : Int) ≤ 65536; omega⟩ hsz (by show (Wl.putF (l.at_ + ((s.place * l.size : Nat) : Int)) (st0 ++ (Wire.put l.seq body)) (st0 ++ (Wire.put l.seq body)).length (fr / 512) l.d).1.pend.length ≤ 1000000; omega)) 4 (fun _ => ?_)
         refine Z.cd (c := wal_Sync p (⟨dk, l.at_, l.n, l.size, l.live, [], l.last, l.synced⟩ : LG) (Wl.freeAll (Wl.put (l.at_ + ((s.place * l.size : Nat) : Int)) (st0 ++ (Wire.put l.seq body)) fr l.d).1 (l.at_ + ((s.place * l.size : Nat) : Int)) l.size)) 11 (fun _ => ?_)
         rw [happ, Wl.goOn_err2 (by omega) hu2]
         exact hx_ret2 (.inl rfl) rfl rfl rfl () rfl (Ent.cons Z.k (Ent.cons Z.k Z.f))
        ·skip
         refine Z.cd (c := wal_usedB p (⟨dk, l.at_, l.n, l.size, l.live, [], l.last, l.synced⟩ : LG) (⟨x.la, x.lc, none, 0⟩ : LX) (s.place : Int) true (by show l.live.length ≤ 1000000; omega) hu2) 15 (fun _ => ?_)
         rw [happ, Wl.goOn_err1 (by omega) hu2]
         refine hx_ent (Ent.roTrue (ψ := roS (α := UInt8) none 0 []) (fun r => SliceIn.empty _ _) (Ent.refl _)) ?_
         exact hx_ret2 (.inl rfl) rfl rfl rfl () rfl (Ent.log (x := ⟨x.la, x.lc, none, 0⟩) Z.d rfl rfl rfl rfl rfl rfl rfl rfl rfl rfl (Nat.le_refl _) (Ent.cons Z.k Z.f))
       )
      ·first | (exfalso; first | omega | (simp at g11; done) | contradiction) | skip
       all_goals (
        refine Z.ev (by first | exact ev_fieldAddr0 rfl Tryz.fld79_2 rfl | exact ev_fieldAddr rfl Tryz.fld79_2 rfl) 0 ?_
        refine Z.ld (hc := by exact cell_Sa (k := 2) ha (reads_own Z.p) hxs rfl) 0 ?_
        refine Z.ad (r := (((s.count + 1) % Wl.W : Nat) : Int)) (hw := by exact add_wrap s.count 1) 1 ?_
        refine Z.ev (by first | exact ev_fieldAddr0 rfl Tryz.fld79_2 rfl | exact ev_fieldAddr rfl Tryz.fld79_2 rfl) 0 ?_
        refine Z.ef0 (eff_storeS (α := Wl.Seg) (k := 2) (x' := (⟨s.place, s.base, (s.count + 1) % Wl.W⟩ : Wl.Seg)) rfl Tryz.ty24 ha rfl rfl Z.p rfl rfl hxs (by decide) rfl) 12 (fun _ => ?_)
        refine Z.s1 2 ?_
        refine Z.s1 2 ?_
        refine Z.s1 10 ?_
        rw [happ, Wl.goOn_ok (by omega)]
        exact hx_ret2 (.inl rfl) rfl rfl rfl () rfl (Ent.log (x := ⟨a13, c13, p105.1, p105.2⟩) Z.d rfl rfl rfl rfl (Wl.set_snoc _ _ _) rfl rfl rfl (by show _ = (ini ++ [(⟨s.place, s.base, (s.count + 1) % Wl.W⟩ : Wl.Seg)]).length; simp) rfl hcap (Ent.cons Z.k Z.f))
       )
    )
  )
end Go.Proofs.YtlejcepbcfijiaaGreatDoor
