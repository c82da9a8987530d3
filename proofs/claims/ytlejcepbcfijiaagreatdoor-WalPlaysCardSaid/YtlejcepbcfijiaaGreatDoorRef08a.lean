/-
  THE DOCUMENT'S LOG (08), third text: appending. Conditions: as each contract says.
-/
import Derived.Test.YtlejcepbcfijiaaGreatDoorRef08
set_option maxRecDepth 100000
set_option linter.unusedVariables false
set_option linter.unusedSimpArgs false
namespace Go.Proofs.YtlejcepbcfijiaaGreatDoor
open Go Go.SL

theorem ref8_Append (l : Wl.Lg) (r : Rf.RDisk) (x : RX) (a : Option Addr) (c : Nat) (V Q : Nat) (h : Wl.RD r l.d V Q) (hVQ : V ≤ Q) (hQ : Q ≤ 800000) (body : List UInt8) (hok : l.Ok) (hcs : ∀ s ∈ l.live, s.count < 18446744073709551616) (hb : body.length ≤ 32768) : Ctr Tryz.prog 11 #[rlV l r x a c, vS body] [ro (rdR r x), ro (roS a l.live.length l.live)] (fun q : Rf.RDisk × RX × Option Addr × Nat => .tuple #[rlV (l.append body).1 q.1 q.2.1 q.2.2.1 q.2.2.2, .int .u64 (((l.append body).2.1 : Nat) : Int), .int .i64 (l.append body).2.2]) (fun q => [ro (rdR q.1 q.2.1), ro (roS q.2.2.1 (l.append body).1.live.length (l.append body).1.live), pu (Wl.RD q.1 (l.append body).1.d (V + l.size) (Q + 2 * l.size))]) := by
 refine Z.fn Tryz.func11 Tryz.ntmps11 (fun κ F => ?_)
 obtain ⟨hat0, hat1, hsz, hnn, hlv, hpls, hst, hcur, hlast, hpend⟩ := id hok
 refine Z.go 2 ?_
 refine Z.bA 0 (fun b2 => ?_)
 refine Z.al 7 (fun b4 => ?_)
 refine Z.ld 0 ?_
 refine Z.ad (r := ((l.seq : Nat) : Int)) (hw := by exact add_wrap l.last 1) 7 ?_
 refine Z.ev (ev_build1 (csl := [_, _]) rfl Tryz.st71 (.cons rfl (.cons rfl .nil)) (.cons rfl (.cons rfl .nil)) rfl rfl) 0 ?_
 refine Z.cd (c := ref_RPut l.seq body l.seq_lt hb) 10 (fun _ => ?_)
 refine Z.ev (ev_build1 (csl := [_, _]) rfl Tryz.st71 (.cons rfl (.cons rfl .nil)) (.cons rfl (.cons rfl .nil)) rfl rfl) 0 ?_
 refine Z.cd (c := ref_RPut l.seq Wl.title l.seq_lt (by decide)) 9 (fun _ => ?_)
 have hp1 := Wire.put_len l.seq body l.seq_lt hb
 have hp2 := Wire.put_len l.seq Wl.title l.seq_lt (by decide)
 have hp3 : Wl.title.length = 7 := rfl
 refine Z.go 2 ?_
 refine Z.ne 0 5 (fun g1 => ?_) (fun g1 => ?_)
 ·(exfalso; first | omega | (simp at g1; done) | contradiction)
 ·first | (exfalso; first | omega | (simp at g1; done) | contradiction) | skip
  all_goals (
   refine Z.ad 1 ?_
   refine Z.ld 0 ?_
   refine Z.ml (r := ((l.size * 512 : Nat) : Int)) (hw := by rw [Int.mul_comm]; push_cast; exact in_i64 (by omega)) 0 ?_
   refine Z.gt 6 8 (fun g2 => ?_) (fun g2 => ?_)
   ·first | (exfalso; first | omega | (simp at g2; done) | contradiction) | skip
    all_goals (
     refine Z.la 0 ?_
     refine Z.sA 6 ?_
     rw [Wl.app_long (by omega)]
     exact hx_ret3A (.inl rfl) rfl rfl rfl rfl Tryz.underlying43 Tryz.ty43 rfl (cells_pt Z.p (Nat.le_of_ble_eq_true rfl) rfl) (r, x, a, c) rfl (Ent.roD Z.p (Ent.roD Z.p (Ent.pu (h.mono (by omega) (by omega)) Z.f)))
    )
   ·first | (exfalso; first | omega | (simp at g2; done) | contradiction) | skip
    all_goals (
     refine Z.la 0 ?_
     refine Z.al 0 (fun b12 => ?_)
     refine Z.sA 4 ?_
     refine Z.ef (eff_buildAll (α := Wl.Seg) [] rfl Tryz.underlying41 Tryz.ty89 .nil .nil rfl (Nat.le_of_ble_eq_true rfl)) 1 (fun b52 => ?_)
     refine Z.ld 0 ?_
     refine Z.ef (eff_append (α := Wl.Seg) rfl Tryz.underlying41 Tryz.ty89 rfl (by decide) Tryz.underlying41 rfl rfl Z.p (by first | exact reads_ro Z.p | exact reads_own Z.p | exact reads_nil _) (by first | omega | (simp only [List.length_append, List.length_cons, List.length_nil, List.length_drop, List.length_take]; omega) | (simp; omega))) 1 (fun p55 => ?_)
     refine Z.s1 3 ?_
     rw [List.nil_append]
     refine Z.go 2 ?_
     refine Z.ld 5 ?_
     refine Z.jo (fun g : List Wl.Seg × List Wl.Seg × Wl.Seg × List UInt8 × Nat × Int × Option Addr × Nat => ([pt b2 (.cells (rlC l r x a c) 43 (0, 0)), pt b4 (.cells #[.int .i64 0, .int .i64 0, .slice none 0 0, .slice none 0 0, .slice none 0 0, .int .i64 0, .int .i64 0, .int .i64 0, .slice none 0 0, vS [], .int .u64 0, .int .u64 0] 43 (0, 0)), pt b12 (.cells #[.int .i64 r.size, .int .i64 r.limit, .slice x.va r.view.length x.vc, .slice x.ga r.ground.length x.gc, .slice x.la r.L.length x.lc, .int .i64 l.at_, .int .i64 (l.n : Int), .int .i64 (l.size : Int), .slice g.2.2.2.2.2.2.1 g.1.length g.2.2.2.2.2.2.2, vS g.2.2.2.1, .int .u64 (l.last : Int), .int .u64 (l.synced : Int)] 43 (0, 0)), ownS 89 g.2.2.2.2.2.2.1 g.1.length g.2.2.2.2.2.2.2 g.1, ro (roS a l.live.length l.live), ro (rdR r x), pu (g.1 = g.2.1 ++ [g.2.2.1] ∧ (l.append body) = l.goOn g.2.2.2.2.1 (g.2.2.2.1 ++ (Wire.put l.seq body)) g.2.1 g.2.2.1 ∧ g.2.2.1.place < l.n ∧ g.2.2.2.2.1 ≤ 32768 ∧ (g.2.2.2.1 ++ (Wire.put l.seq body)).length ≤ l.size * 512 ∧ g.2.1.length ≤ 1000 ∧ g.2.2.1.count < 18446744073709551616 ∧ ((g.2.2.2.2.2.1 < 0 ∧ Wl.has l.live (g.2.2.1.place : Int) = true) ∨ (g.2.2.2.2.2.1 = (g.2.2.1.place : Int) ∧ Wl.has l.live (g.2.2.1.place : Int) = false))), F], [(2, .pointer (some ⟨b2, 0, none⟩)), (4, .pointer (some ⟨b4, 0, none⟩)), (7, .int .u64 ((l.seq : Nat) : Int)), (8, vS (Wire.put l.seq body)), (12, .pointer (some ⟨b12, 0, none⟩)), (13, .int .i64 (g.2.2.2.2.1 : Int)), (14, .int .i64 g.2.2.2.2.2.1)])) ?_ (fun g => ?_)
     ·skip
      refine Z.go 3 ?_
      refine Z.ld 0 ?_
      refine Z.eqS 17 2 (fun g62 => ?_) (fun g62 => ?_)
      ·skip
       have hl0 : l.stream.length = 0 ∨ l.size * 512 < l.stream.length + (Wire.put l.seq body).length := by first | (left; rw [g62]; rfl) | omega
       refine Z.go 2 ?_
       refine Z.ld 0 ?_
       refine Z.sb 4 ?_
       refine Z.lo (fun q : Nat × Int => ([pt b2 (.cells (rlC l r x a c) 43 (0, 0)), pt b4 (.cells #[.int .i64 0, .int .i64 0, .slice none 0 0, .slice none 0 0, .slice none 0 0, .int .i64 0, .int .i64 0, .int .i64 0, .slice none 0 0, vS [], .int .u64 0, .int .u64 0] 43 (0, 0)), pt b12 (.cells (rlC l r x p55.1 p55.2) 43 (0, 0)), ownS 89 p55.1 l.live.length p55.2 l.live, ro (roS a l.live.length l.live), ro (rdR r x), pu (q.2 = Wl.fresh l.live l.n q.1 ∧ q.1 ≤ l.n), F], [(2, .pointer (some ⟨b2, 0, none⟩)), (4, .pointer (some ⟨b4, 0, none⟩)), (7, .int .u64 ((l.seq : Nat) : Int)), (8, vS (Wire.put l.seq body)), (10, vS (Wire.put l.seq Wl.title)), (12, .pointer (some ⟨b12, 0, none⟩)), (14, .int .i64 q.2), (15, .int .i64 ((q.1 : Int) - 1))])) (fun q : Nat × Int => q.1) (l.n, -1) ?_ (fun q => ?_)
       ·(first | dsimp only | skip)
        exact Ent.cons Z.k (Ent.cons Z.k (Ent.cons Z.k (Ent.cons Z.k (Ent.roD Z.p (Ent.roD Z.p (Ent.pu ⟨(Wl.fresh_end _ _).symm, by omega⟩ Z.f))))))
       obtain ⟨qq, np⟩ := q
       dsimp only
       refine ht_pick (A := pu (np = Wl.fresh l.live l.n qq ∧ qq ≤ l.n)) Z.k (ht_pure fun hq3 => ?_)
       obtain ⟨hnp, hqn⟩ := hq3
       refine Z.go 4 ?_
       refine Z.ge 8 10 (fun g3 => ?_) (fun g3 => ?_)
       ·first | (exfalso; first | omega | (simp at g3; done) | contradiction) | skip
        all_goals (
         obtain ⟨e, rfl⟩ : ∃ e, qq = e + 1 := ⟨qq - 1, by omega⟩
         rw [show (((e + 1 : Nat) : Int) - 1) = (e : Int) by omega]
         refine Z.go 1 ?_
         refine Z.la 1 ?_
         rcases hu : Wl.has l.live (e : Int) with _ | _
         ·skip
          refine Z.cd (c := ref8_UsedR l r x a c (e : Int) false (by omega) hu) 12 (fun _ => ?_)
          refine Z.sb 2 ?_
          refine Z.ag (e, (e : Int)) (by (first | dsimp only | skip); omega) ?_
          (first | dsimp only | skip)
          exact Ent.cons Z.k (Ent.cons Z.k (Ent.cons Z.k (Ent.cons Z.k (Ent.roD Z.p (Ent.roD Z.p (Ent.pu ⟨(Wl.fresh_free (by omega) hu).symm, by omega⟩ Z.f))))))
         ·skip
          refine Z.cd (c := ref8_UsedR l r x a c (e : Int) true (by omega) hu) 9 (fun _ => ?_)
          refine Z.sb 2 ?_
          refine Z.ag (e, np) (by (first | dsimp only | skip); omega) ?_
          (first | dsimp only | skip)
          exact Ent.cons Z.k (Ent.cons Z.k (Ent.cons Z.k (Ent.cons Z.k (Ent.roD Z.p (Ent.roD Z.p (Ent.pu ⟨hnp.trans (Wl.fresh_used (by omega) hu).symm, by omega⟩ Z.f))))))
        )
       ·first | (exfalso; first | omega | (simp at g3; done) | contradiction) | skip
        all_goals (
         obtain rfl : qq = 0 := by omega
         rcases Wl.fresh_zero l.live l.n with ⟨e1, e2⟩ | ⟨e1, e2, e3⟩
         ·skip
          rw [e1] at hnp
          subst hnp
          refine Z.go 2 ?_
          refine Z.lt 5 0 (fun g4 => ?_) (fun g4 => ?_)
          ·first | (exfalso; first | omega | (simp at g4; done) | contradiction) | skip
           all_goals (
            refine Z.la 0 ?_
            refine Z.sA 7 ?_
            rw [Wl.app_full (by omega) (by omega) (by omega)]
            exact hx_ret3A (.inl rfl) rfl rfl rfl rfl Tryz.underlying43 Tryz.ty43 rfl (cells_pt Z.p (Nat.le_of_ble_eq_true rfl) rfl) (r, x, a, c) rfl (Ent.roD Z.p (Ent.roD Z.p (Ent.pu (h.mono (by omega) (by omega)) Z.f)))
           )
          ·(exfalso; first | omega | (simp at g4; done) | contradiction)
         ·skip
          rw [e1] at hnp
          subst hnp
          refine Z.go 2 ?_
          refine Z.lt 0 8 (fun g5 => ?_) (fun g5 => ?_)
          ·(exfalso; first | omega | (simp at g5; done) | contradiction)
          ·first | (exfalso; first | omega | (simp at g5; done) | contradiction) | skip
           all_goals (
            refine Z.ld 2 ?_
            refine Z.ev (ev_build1 (csl := [_, _, _]) rfl Tryz.st89 (.cons rfl (.cons rfl (.cons rfl .nil))) (.cons rfl (.cons rfl (.cons rfl .nil))) rfl rfl) 0 ?_
            refine Z.ef (eff_buildAll (α := Wl.Seg) [(⟨(Wl.nextFree l.live l.n 0), l.seq, 0⟩ : Wl.Seg)] rfl Tryz.underlying41 Tryz.ty89 (.cons rfl .nil) (.cons rfl .nil) rfl (Nat.le_of_ble_eq_true rfl)) 0 (fun b95 => ?_)
            refine Z.ef (eff_append (α := Wl.Seg) rfl Tryz.underlying41 Tryz.ty89 rfl (by decide) Tryz.underlying41 rfl rfl Z.p (by first | exact reads_ro Z.p | exact reads_own Z.p | exact reads_nil _) (by first | omega | (simp only [List.length_append, List.length_cons, List.length_nil, List.length_drop, List.length_take]; omega) | (simp; omega))) 1 (fun p96 => ?_)
            refine Z.s1 5 ?_
            refine Z.s1 2 ?_
            refine Z.me (l.live ++ [(⟨(Wl.nextFree l.live l.n 0), l.seq, 0⟩ : Wl.Seg)], l.live, (⟨(Wl.nextFree l.live l.n 0), l.seq, 0⟩ : Wl.Seg), (Wire.put l.seq Wl.title), 0, ((Wl.nextFree l.live l.n 0) : Int), p96.1, p96.2) ?_
            (first | dsimp only | skip)
            exact Ent.cons Z.k (Ent.cons Z.k (Ent.cons Z.k (Ent.cons Z.k (Ent.roD Z.p (Ent.roD Z.p (Ent.pu ⟨rfl, Wl.app_fresh (by omega) (by omega) (by omega), by show (Wl.nextFree l.live l.n 0) < l.n; omega, by omega, by rw [List.length_append]; omega, hok.live, by show 0 < 18446744073709551616; omega, .inr ⟨rfl, e3⟩⟩ Z.f))))))
           )
        )
      ·skip
       refine Z.ld 3 ?_
       refine Z.ad 1 ?_
       refine Z.ld 0 ?_
       refine Z.ml (r := ((l.size * 512 : Nat) : Int)) (hw := by rw [Int.mul_comm]; push_cast; exact in_i64 (by omega)) 0 ?_
       refine Z.gt 6 5 (fun g6 => ?_) (fun g6 => ?_)
       ·first | (exfalso; first | omega | (simp at g6; done) | contradiction) | skip
        all_goals (
         have hl0 : l.stream.length = 0 ∨ l.size * 512 < l.stream.length + (Wire.put l.seq body).length := by first | (left; rw [g62]; rfl) | omega
         refine Z.go 2 ?_
         refine Z.ld 0 ?_
         refine Z.sb 4 ?_
         refine Z.lo (fun q : Nat × Int => ([pt b2 (.cells (rlC l r x a c) 43 (0, 0)), pt b4 (.cells #[.int .i64 0, .int .i64 0, .slice none 0 0, .slice none 0 0, .slice none 0 0, .int .i64 0, .int .i64 0, .int .i64 0, .slice none 0 0, vS [], .int .u64 0, .int .u64 0] 43 (0, 0)), pt b12 (.cells (rlC l r x p55.1 p55.2) 43 (0, 0)), ownS 89 p55.1 l.live.length p55.2 l.live, ro (roS a l.live.length l.live), ro (rdR r x), pu (q.2 = Wl.fresh l.live l.n q.1 ∧ q.1 ≤ l.n), F], [(2, .pointer (some ⟨b2, 0, none⟩)), (4, .pointer (some ⟨b4, 0, none⟩)), (7, .int .u64 ((l.seq : Nat) : Int)), (8, vS (Wire.put l.seq body)), (10, vS (Wire.put l.seq Wl.title)), (12, .pointer (some ⟨b12, 0, none⟩)), (14, .int .i64 q.2), (15, .int .i64 ((q.1 : Int) - 1))])) (fun q : Nat × Int => q.1) (l.n, -1) ?_ (fun q => ?_)
         ·(first | dsimp only | skip)
          exact Ent.cons Z.k (Ent.cons Z.k (Ent.cons Z.k (Ent.cons Z.k (Ent.roD Z.p (Ent.roD Z.p (Ent.pu ⟨(Wl.fresh_end _ _).symm, by omega⟩ Z.f))))))
         obtain ⟨qq, np⟩ := q
         dsimp only
         refine ht_pick (A := pu (np = Wl.fresh l.live l.n qq ∧ qq ≤ l.n)) Z.k (ht_pure fun hq3 => ?_)
         obtain ⟨hnp, hqn⟩ := hq3
         refine Z.go 4 ?_
         refine Z.ge 8 10 (fun g7 => ?_) (fun g7 => ?_)
         ·first | (exfalso; first | omega | (simp at g7; done) | contradiction) | skip
          all_goals (
           obtain ⟨e, rfl⟩ : ∃ e, qq = e + 1 := ⟨qq - 1, by omega⟩
           rw [show (((e + 1 : Nat) : Int) - 1) = (e : Int) by omega]
           refine Z.go 1 ?_
           refine Z.la 1 ?_
           rcases hu : Wl.has l.live (e : Int) with _ | _
           ·skip
            refine Z.cd (c := ref8_UsedR l r x a c (e : Int) false (by omega) hu) 12 (fun _ => ?_)
            refine Z.sb 2 ?_
            refine Z.ag (e, (e : Int)) (by (first | dsimp only | skip); omega) ?_
            (first | dsimp only | skip)
            exact Ent.cons Z.k (Ent.cons Z.k (Ent.cons Z.k (Ent.cons Z.k (Ent.roD Z.p (Ent.roD Z.p (Ent.pu ⟨(Wl.fresh_free (by omega) hu).symm, by omega⟩ Z.f))))))
           ·skip
            refine Z.cd (c := ref8_UsedR l r x a c (e : Int) true (by omega) hu) 9 (fun _ => ?_)
            refine Z.sb 2 ?_
            refine Z.ag (e, np) (by (first | dsimp only | skip); omega) ?_
            (first | dsimp only | skip)
            exact Ent.cons Z.k (Ent.cons Z.k (Ent.cons Z.k (Ent.cons Z.k (Ent.roD Z.p (Ent.roD Z.p (Ent.pu ⟨hnp.trans (Wl.fresh_used (by omega) hu).symm, by omega⟩ Z.f))))))
          )
         ·first | (exfalso; first | omega | (simp at g7; done) | contradiction) | skip
          all_goals (
           obtain rfl : qq = 0 := by omega
           rcases Wl.fresh_zero l.live l.n with ⟨e1, e2⟩ | ⟨e1, e2, e3⟩
           ·skip
            rw [e1] at hnp
            subst hnp
            refine Z.go 2 ?_
            refine Z.lt 5 0 (fun g8 => ?_) (fun g8 => ?_)
            ·first | (exfalso; first | omega | (simp at g8; done) | contradiction) | skip
             all_goals (
              refine Z.la 0 ?_
              refine Z.sA 7 ?_
              rw [Wl.app_full (by omega) (by omega) (by omega)]
              exact hx_ret3A (.inl rfl) rfl rfl rfl rfl Tryz.underlying43 Tryz.ty43 rfl (cells_pt Z.p (Nat.le_of_ble_eq_true rfl) rfl) (r, x, a, c) rfl (Ent.roD Z.p (Ent.roD Z.p (Ent.pu (h.mono (by omega) (by omega)) Z.f)))
             )
            ·(exfalso; first | omega | (simp at g8; done) | contradiction)
           ·skip
            rw [e1] at hnp
            subst hnp
            refine Z.go 2 ?_
            refine Z.lt 0 8 (fun g9 => ?_) (fun g9 => ?_)
            ·(exfalso; first | omega | (simp at g9; done) | contradiction)
            ·first | (exfalso; first | omega | (simp at g9; done) | contradiction) | skip
             all_goals (
              refine Z.ld 2 ?_
              refine Z.ev (ev_build1 (csl := [_, _, _]) rfl Tryz.st89 (.cons rfl (.cons rfl (.cons rfl .nil))) (.cons rfl (.cons rfl (.cons rfl .nil))) rfl rfl) 0 ?_
              refine Z.ef (eff_buildAll (α := Wl.Seg) [(⟨(Wl.nextFree l.live l.n 0), l.seq, 0⟩ : Wl.Seg)] rfl Tryz.underlying41 Tryz.ty89 (.cons rfl .nil) (.cons rfl .nil) rfl (Nat.le_of_ble_eq_true rfl)) 0 (fun b95 => ?_)
              refine Z.ef (eff_append (α := Wl.Seg) rfl Tryz.underlying41 Tryz.ty89 rfl (by decide) Tryz.underlying41 rfl rfl Z.p (by first | exact reads_ro Z.p | exact reads_own Z.p | exact reads_nil _) (by first | omega | (simp only [List.length_append, List.length_cons, List.length_nil, List.length_drop, List.length_take]; omega) | (simp; omega))) 1 (fun p96 => ?_)
              refine Z.s1 5 ?_
              refine Z.s1 2 ?_
              refine Z.me (l.live ++ [(⟨(Wl.nextFree l.live l.n 0), l.seq, 0⟩ : Wl.Seg)], l.live, (⟨(Wl.nextFree l.live l.n 0), l.seq, 0⟩ : Wl.Seg), (Wire.put l.seq Wl.title), 0, ((Wl.nextFree l.live l.n 0) : Int), p96.1, p96.2) ?_
              (first | dsimp only | skip)
              exact Ent.cons Z.k (Ent.cons Z.k (Ent.cons Z.k (Ent.cons Z.k (Ent.roD Z.p (Ent.roD Z.p (Ent.pu ⟨rfl, Wl.app_fresh (by omega) (by omega) (by omega), by show (Wl.nextFree l.live l.n 0) < l.n; omega, by omega, by rw [List.length_append]; omega, hok.live, by show 0 < 18446744073709551616; omega, .inr ⟨rfl, e3⟩⟩ Z.f))))))
             )
          )
        )
       ·first | (exfalso; first | omega | (simp at g6; done) | contradiction) | skip
        all_goals (
         have hl1 : l.stream.length ≠ 0 := fun e => g62 (List.eq_nil_of_length_eq_zero e)
         obtain ⟨ini, sg, hsp⟩ := Wl.live_split (hcur (by omega))
         have hcnt := hcs sg (by rw [hsp]; simp)
         have hil := congrArg List.length hsp
         rw [List.length_append, List.length_singleton] at hil
         refine Z.me (l.live, ini, sg, l.stream, l.stream.length, -1, p55.1, p55.2) ?_
         (first | dsimp only | skip)
         exact Ent.cons Z.k (Ent.cons Z.k (Ent.cons Z.k (Ent.cons Z.k (Ent.roD Z.p (Ent.roD Z.p (Ent.pu ⟨hsp, Wl.app_cur (by omega) (by omega) (by omega) hsp, hok.places sg (by rw [hsp]; simp), by omega, by rw [List.length_append]; omega, by omega, hcnt, .inl ⟨by omega, Wl.has_here (q := ini.length) (by rw [hsp]; simp) rfl⟩⟩ Z.f))))))
        )
     ·skip
      obtain ⟨lv, ini, sg, st0, fr, fn, sa, sc⟩ := g
      (first | dsimp only | skip)
      refine ht_pick (A := pu (lv = ini ++ [sg] ∧ (l.append body) = l.goOn fr (st0 ++ (Wire.put l.seq body)) ini sg ∧ sg.place < l.n ∧ fr ≤ 32768 ∧ (st0 ++ (Wire.put l.seq body)).length ≤ l.size * 512 ∧ ini.length ≤ 1000 ∧ sg.count < 18446744073709551616 ∧ ((fn < 0 ∧ Wl.has l.live (sg.place : Int) = true) ∨ (fn = (sg.place : Int) ∧ Wl.has l.live (sg.place : Int) = false)))) Z.k (ht_pure fun hg => ?_)
      obtain ⟨rfl, happ, hpl, hfr, hstr, hini, hcnt, hfn⟩ := hg
      have hstr2 : st0.length + (Wire.put l.seq body).length ≤ l.size * 512 := by rw [← List.length_append]; exact hstr
      refine Z.go 3 ?_
      refine Z.ld 1 ?_
      refine Z.ev (ev_addS rfl rfl rfl (by omega)) 1 ?_
      refine Z.s1 3 ?_
      refine ht_someS (α := Wl.Seg) (a := sa) (reads_own Z.p) (by simp) (fun ab ao ha => ?_)
      have hxs : (ini ++ [sg])[ini.length]? = some sg := by simp
      have hsl0 : (ini ++ [sg]).length = ini.length + 1 := by simp
      refine Z.go 2 ?_
      refine Z.ld 1 ?_
      refine Z.ld 1 ?_
      refine Z.sb (r := ((ini.length : Nat) : Int)) (hw := by rw [List.length_append]; simp; exact (in_i64 (by omega)).trans (by omega)) 0 ?_
      refine Z.ev (ev_indexAddr rfl Tryz.underlying41 Tryz.ty89 (congrArg (fun z => some (Value.slice z (ini ++ [sg]).length sc)) ha) rfl (by omega) (by omega)) 0 ?_
      refine Z.ev (by first | exact ev_fieldAddr0 rfl Tryz.fld89_0 rfl | exact ev_fieldAddr rfl Tryz.fld89_0 rfl) 0 ?_
      refine Z.ld (hc := by exact cell_Sa (α := Wl.Seg) (k := 0) ha (reads_own Z.p) hxs rfl) 7 ?_
      refine Z.ev (ev_quo (r := ((fr / 512 : Nat) : Int)) rfl rfl rfl (by omega) (by rw [Int.tdiv_eq_ediv_of_nonneg (by omega)]; exact (in_i64 (by omega)).trans (by omega))) 4 ?_
      refine Z.lo (fun q : Nat × Nat × Dk.Disk × Rf.RDisk × RX => ([pt b2 (.cells (rlC l r x a c) 43 (0, 0)), pt b4 (.cells #[.int .i64 0, .int .i64 0, .slice none 0 0, .slice none 0 0, .slice none 0 0, .int .i64 0, .int .i64 0, .int .i64 0, .slice none 0 0, vS [], .int .u64 0, .int .u64 0] 43 (0, 0)), pt b12 (.cells #[.int .i64 q.2.2.2.1.size, .int .i64 q.2.2.2.1.limit, .slice q.2.2.2.2.va q.2.2.2.1.view.length q.2.2.2.2.vc, .slice q.2.2.2.2.ga q.2.2.2.1.ground.length q.2.2.2.2.gc, .slice q.2.2.2.2.la q.2.2.2.1.L.length q.2.2.2.2.lc, .int .i64 l.at_, .int .i64 (l.n : Int), .int .i64 (l.size : Int), .slice sa (ini ++ [sg]).length sc, vS (st0 ++ (Wire.put l.seq body)), .int .u64 (l.last : Int), .int .u64 (l.synced : Int)] 43 (0, 0)), ownS 89 sa (ini ++ [sg]).length sc (ini ++ [sg]), ro (roS a l.live.length l.live), ro (rdR q.2.2.2.1 q.2.2.2.2), pu (Wl.putF (l.at_ + ((sg.place * l.size : Nat) : Int)) (st0 ++ (Wire.put l.seq body)) q.1 q.2.1 q.2.2.1 = (Wl.put (l.at_ + ((sg.place * l.size : Nat) : Int)) (st0 ++ (Wire.put l.seq body)) fr l.d) ∧ (st0 ++ (Wire.put l.seq body)).length ≤ 512 * (q.2.1 + q.1) ∧ q.1 ≤ (st0 ++ (Wire.put l.seq body)).length ∧ q.2.1 ≤ 70000 ∧ fr / 512 ≤ q.2.1 ∧ Wl.RD q.2.2.2.1 q.2.2.1 (V + (q.2.1 - fr / 512)) (Q + (q.2.1 - fr / 512)) ∧ (q.2.1 ≤ l.size ∨ q.2.1 = fr / 512)), F], [(2, .pointer (some ⟨b2, 0, none⟩)), (4, .pointer (some ⟨b4, 0, none⟩)), (7, .int .u64 ((l.seq : Nat) : Int)), (12, .pointer (some ⟨b12, 0, none⟩)), (14, .int .i64 fn), (16, .int .i64 (sg.place : Int)), (17, .int .i64 q.2.1)])) (fun q : Nat × Nat × Dk.Disk × Rf.RDisk × RX => (st0 ++ (Wire.put l.seq body)).length - 512 * q.2.1) ((st0 ++ (Wire.put l.seq body)).length, fr / 512, l.d, r, x) ?_ (fun q => ?_)
      ·(first | dsimp only | skip)
       exact Ent.cons Z.k (Ent.cons Z.k (Ent.cons Z.k (Ent.cons Z.k (Ent.roD Z.p (Ent.roD Z.k (Ent.pu ⟨rfl, by omega, by omega, by omega, by omega, h.mono (by omega) (by omega), by omega⟩ Z.f))))))
      obtain ⟨m, j, dk, rr, y⟩ := q
      dsimp only
      refine ht_pick (A := pu (Wl.putF (l.at_ + ((sg.place * l.size : Nat) : Int)) (st0 ++ (Wire.put l.seq body)) m j dk = (Wl.put (l.at_ + ((sg.place * l.size : Nat) : Int)) (st0 ++ (Wire.put l.seq body)) fr l.d) ∧ (st0 ++ (Wire.put l.seq body)).length ≤ 512 * (j + m) ∧ m ≤ (st0 ++ (Wire.put l.seq body)).length ∧ j ≤ 70000 ∧ fr / 512 ≤ j ∧ Wl.RD rr dk (V + (j - fr / 512)) (Q + (j - fr / 512)) ∧ (j ≤ l.size ∨ j = fr / 512))) Z.k (ht_pure fun hq => ?_)
      obtain ⟨hput, hbm, hm, hj, hfj, hrd, hjs⟩ := hq
      have hv1 := hrd.view
      have hv2 := hrd.all
      refine Z.go 4 ?_
      refine Z.ml (r := ((j * 512 : Nat) : Int)) (hw := by rw [Int.mul_comm]; push_cast; exact in_i64 (by omega)) 1 ?_
      refine Z.ld 1 ?_
      refine Z.lt 10 11 (fun g10 => ?_) (fun g10 => ?_)
      ·first | (exfalso; first | omega | (simp at g10; done) | contradiction) | skip
       all_goals (
        refine Z.ml (r := ((j * 512 : Nat) : Int)) (hw := by rw [Int.mul_comm]; push_cast; exact in_i64 (by omega)) 0 ?_
        refine Z.ad (r := (((j + 1) * 512 : Nat) : Int)) (hw := by push_cast; exact (in_i64 (by omega)).trans (by omega)) 3 ?_
        refine Z.jo (fun g : Nat => ([pt b2 (.cells (rlC l r x a c) 43 (0, 0)), pt b4 (.cells #[.int .i64 0, .int .i64 0, .slice none 0 0, .slice none 0 0, .slice none 0 0, .int .i64 0, .int .i64 0, .int .i64 0, .slice none 0 0, vS [], .int .u64 0, .int .u64 0] 43 (0, 0)), pt b12 (.cells #[.int .i64 rr.size, .int .i64 rr.limit, .slice y.va rr.view.length y.vc, .slice y.ga rr.ground.length y.gc, .slice y.la rr.L.length y.lc, .int .i64 l.at_, .int .i64 (l.n : Int), .int .i64 (l.size : Int), .slice sa (ini ++ [sg]).length sc, vS (st0 ++ (Wire.put l.seq body)), .int .u64 (l.last : Int), .int .u64 (l.synced : Int)] 43 (0, 0)), ownS 89 sa (ini ++ [sg]).length sc (ini ++ [sg]), ro (roS a l.live.length l.live), ro (rdR rr y), pu (g = min ((j + 1) * 512) (st0 ++ (Wire.put l.seq body)).length), F], [(2, .pointer (some ⟨b2, 0, none⟩)), (4, .pointer (some ⟨b4, 0, none⟩)), (7, .int .u64 ((l.seq : Nat) : Int)), (12, .pointer (some ⟨b12, 0, none⟩)), (14, .int .i64 fn), (16, .int .i64 (sg.place : Int)), (17, .int .i64 j), (18, .int .i64 (g : Int))])) ?_ (fun g => ?_)
        ·skip
         refine Z.go 4 ?_
         refine Z.ld 1 ?_
         refine Z.gt 5 4 (fun g11 => ?_) (fun g11 => ?_)
         ·first | (exfalso; first | omega | (simp at g11; done) | contradiction) | skip
          all_goals (
           refine Z.ld 3 ?_
           refine Z.me (st0 ++ (Wire.put l.seq body)).length ?_
           (first | dsimp only | skip)
           exact Ent.cons Z.k (Ent.cons Z.k (Ent.cons Z.k (Ent.cons Z.k (Ent.roD Z.p (Ent.roD Z.k (Ent.pu (by omega) Z.f))))))
          )
         ·first | (exfalso; first | omega | (simp at g11; done) | contradiction) | skip
          all_goals (
           refine Z.me ((j + 1) * 512) ?_
           (first | dsimp only | skip)
           exact Ent.cons Z.k (Ent.cons Z.k (Ent.cons Z.k (Ent.cons Z.k (Ent.roD Z.p (Ent.roD Z.k (Ent.pu (by omega) Z.f))))))
          )
        ·skip
         (first | dsimp only | skip)
         refine ht_pick (A := pu (g = min ((j + 1) * 512) (st0 ++ (Wire.put l.seq body)).length)) Z.k (ht_pure fun hen => ?_)
         have hsl := Wl.sect_len (st0 ++ (Wire.put l.seq body)) j
         have hwr : Wl.RD (rr.write ((l.at_ + ((sg.place * l.size : Nat) : Int)) + (j : Int)) (Wl.sect (st0 ++ (Wire.put l.seq body)) j)) (dk.write ((l.at_ + ((sg.place * l.size : Nat) : Int)) + (j : Int)) (Wl.sect (st0 ++ (Wire.put l.seq body)) j)) (V + (j - fr / 512) + 1) (Q + (j - fr / 512) + 1) := hrd.write _ (by omega)
         have hms : sg.place * l.size + l.size ≤ l.n * l.size := by have h := Nat.mul_le_mul_right l.size (show sg.place + 1 ≤ l.n by omega); rw [Nat.succ_mul] at h; exact h
         have hjl : j < l.size := by omega
         refine Z.jo (fun g : Nat × RX => ([pt b2 (.cells (rlC l r x a c) 43 (0, 0)), pt b4 (.cells #[.int .i64 0, .int .i64 0, .slice none 0 0, .slice none 0 0, .slice none 0 0, .int .i64 0, .int .i64 0, .int .i64 0, .slice none 0 0, vS [], .int .u64 0, .int .u64 0] 43 (0, 0)), pt b12 (.cells #[.int .i64 rr.size, .int .i64 rr.limit, .slice y.va rr.view.length y.vc, .slice y.ga rr.ground.length y.gc, .slice y.la rr.L.length y.lc, .int .i64 l.at_, .int .i64 (l.n : Int), .int .i64 (l.size : Int), .slice sa (ini ++ [sg]).length sc, vS (st0 ++ (Wire.put l.seq body)), .int .u64 (l.last : Int), .int .u64 (l.synced : Int)] 43 (0, 0)), ownS 89 sa (ini ++ [sg]).length sc (ini ++ [sg]), pt g.1 (.cells #[.int .i64 (rr.write ((l.at_ + ((sg.place * l.size : Nat) : Int)) + (j : Int)) (Wl.sect (st0 ++ (Wire.put l.seq body)) j)).size, .int .i64 (rr.write ((l.at_ + ((sg.place * l.size : Nat) : Int)) + (j : Int)) (Wl.sect (st0 ++ (Wire.put l.seq body)) j)).limit, .slice g.2.va (rr.write ((l.at_ + ((sg.place * l.size : Nat) : Int)) + (j : Int)) (Wl.sect (st0 ++ (Wire.put l.seq body)) j)).view.length g.2.vc, .slice g.2.ga (rr.write ((l.at_ + ((sg.place * l.size : Nat) : Int)) + (j : Int)) (Wl.sect (st0 ++ (Wire.put l.seq body)) j)).ground.length g.2.gc, .slice g.2.la (rr.write ((l.at_ + ((sg.place * l.size : Nat) : Int)) + (j : Int)) (Wl.sect (st0 ++ (Wire.put l.seq body)) j)).L.length g.2.lc] 33 (0, 0)), ro (roS a l.live.length l.live), ro (rdR (rr.write ((l.at_ + ((sg.place * l.size : Nat) : Int)) + (j : Int)) (Wl.sect (st0 ++ (Wire.put l.seq body)) j)) g.2), F], [(2, .pointer (some ⟨b2, 0, none⟩)), (4, .pointer (some ⟨b4, 0, none⟩)), (7, .int .u64 ((l.seq : Nat) : Int)), (12, .pointer (some ⟨b12, 0, none⟩)), (14, .int .i64 fn), (16, .int .i64 (sg.place : Int)), (17, .int .i64 j), (19, .pointer (some ⟨g.1, 0, none⟩)), (20, .int .i64 (rr.werr ((l.at_ + ((sg.place * l.size : Nat) : Int)) + (j : Int)) (Wl.sect (st0 ++ (Wire.put l.seq body)) j)))])) ?_ (fun g => ?_)
         ·skip
          subst hen
          refine ht_draw (.op 0 (.op 1 (.op 2 (.op 3 (.op 4 (.op 5 (.op 6 (.op 7 (.op 8 (.op 9 (.op 10 (.op 11 (.op 12 (.op 13 (.op 14 (.op 15 (.op 16 (.fork (.op 17 (.op 18 (.op 19 (.op 20 (.op 21 (.op 22 (.op 23 .done))))))) (.op 21 (.op 17 (.op 18 (.op 19 (.op 20 (.op 22 (.op 23 .done))))))))))))))))))))))))) [17, 21, 22] Tryz.mixed rfl ?_
          refine Z.dr 1 ?_
          refine Z.dA ?_
          refine Z.dr 1 ?_
          refine Z.dl ?_
          refine Z.dr 2 ?_
          refine Z.dl ?_
          refine hd_ev rfl rfl rfl rfl (EvG.go rfl (ev_mul (r := ((sg.place * l.size : Nat) : Int)) rfl rfl rfl (by rw [← Int.natCast_mul]; exact in_i64 (by omega)))) ?_
          refine hd_ev rfl rfl rfl rfl (EvG.go rfl (ev_add rfl rfl rfl (by first | exact in_i64 (by omega) | rfl | exact IntWalk.u64_in _ (by omega)))) ?_
          refine Z.dr 1 ?_
          refine hd_ev rfl rfl rfl rfl (EvG.go rfl (ev_add rfl rfl rfl (by first | exact in_i64 (by omega) | rfl | exact IntWalk.u64_in _ (by omega)))) ?_
          refine Z.dr 1 ?_
          refine Z.dl ?_
          refine Z.dr 1 ?_
          refine hd_ev rfl rfl rfl rfl (EvG.go rfl (ev_mul (r := ((j * 512 : Nat) : Int)) rfl rfl rfl (by rw [Int.mul_comm]; push_cast; exact in_i64 (by omega)))) ?_
          refine Z.dr 1 ?_
          refine hd_ev rfl rfl rfl rfl (EvG.go rfl (ev_sliceS rfl Tryz.underlying9 rfl ⟨_, rfl⟩ ⟨_, rfl⟩ (by omega) (by omega))) ?_
          refine hd_fork ?_ ?_
          ·skip
           refine Z.dd (c := rf_Write rr y ((l.at_ + ((sg.place * l.size : Nat) : Int)) + (j : Int)) (Wl.sect (st0 ++ (Wire.put l.seq body)) j) (by omega) (by omega) (hrd.old _)) (fun y2 => ?_)
           refine Z.dr 3 ?_
           refine Z.de rfl (eff_alloc rfl Tryz.ty33 (by first | exact cells_agg _ | exact rfl)) (hf := fun _ => by (refine FL.pu rfl rfl ?_); (refine FL.pu rfl rfl ?_); (refine FL.pu rfl rfl ?_); (refine FL.ev rfl (EvG.go rfl (ev_sliceS rfl Tryz.underlying9 rfl ⟨_, rfl⟩ ⟨_, rfl⟩ (by omega) (by omega))) ?_); (refine FL.pu rfl rfl ?_); (refine FL.ev rfl (EvG.go rfl (ev_mul (r := ((j * 512 : Nat) : Int)) rfl rfl rfl (by rw [Int.mul_comm]; push_cast; exact in_i64 (by omega)))) ?_); (refine FL.pu rfl rfl ?_); (refine FL.ev rfl (EvG.go rfl Z.el) ?_); (refine FL.pu rfl rfl ?_); (refine FL.ev rfl (EvG.go rfl Z.el) ?_); (refine FL.pu rfl rfl ?_); (refine FL.ev rfl (EvG.go rfl Z.el) ?_); (refine FL.ev rfl (EvG.go rfl (ev_mul (r := ((sg.place * l.size : Nat) : Int)) rfl rfl rfl (by rw [← Int.natCast_mul]; exact in_i64 (by omega)))) ?_); (refine FL.ev rfl (EvG.go rfl Z.el) ?_); (refine FL.pu rfl rfl ?_); (refine FL.pu rfl rfl ?_); (refine FL.ev rfl (EvG.go rfl Z.el) ?_); (refine FL.pu rfl rfl ?_); (refine FL.ev rfl (EvG.go rfl Z.el) ?_); (refine FL.pu rfl rfl ?_); exact FL.nil) (fun b19 => ?_)
           refine Z.dS ?_
           refine Z.dr 1 ?_
           refine hd_nil ?_
           refine Z.me (b19, y2) ?_
           (first | dsimp only | skip)
           exact Ent.cons Z.k (Ent.cons Z.k (Ent.cons Z.k (Ent.cons Z.k (Ent.cons Z.k (Ent.roD Z.p (Ent.roD Z.k Z.f))))))
          ·skip
           refine Z.de rfl (eff_alloc rfl Tryz.ty33 (by first | exact cells_agg _ | exact rfl)) (hf := fun _ => by (refine FL.ev rfl (EvG.go rfl (ev_sliceS rfl Tryz.underlying9 rfl ⟨_, rfl⟩ ⟨_, rfl⟩ (by omega) (by omega))) ?_); (refine FL.pu rfl rfl ?_); (refine FL.ev rfl (EvG.go rfl (ev_mul (r := ((j * 512 : Nat) : Int)) rfl rfl rfl (by rw [Int.mul_comm]; push_cast; exact in_i64 (by omega)))) ?_); (refine FL.pu rfl rfl ?_); (refine FL.ev rfl (EvG.go rfl Z.el) ?_); (refine FL.pu rfl rfl ?_); (refine FL.ev rfl (EvG.go rfl Z.el) ?_); (refine FL.pu rfl rfl ?_); (refine FL.ev rfl (EvG.go rfl Z.el) ?_); (refine FL.ev rfl (EvG.go rfl (ev_mul (r := ((sg.place * l.size : Nat) : Int)) rfl rfl rfl (by rw [← Int.natCast_mul]; exact in_i64 (by omega)))) ?_); (refine FL.ev rfl (EvG.go rfl Z.el) ?_); (refine FL.pu rfl rfl ?_); (refine FL.pu rfl rfl ?_); (refine FL.ev rfl (EvG.go rfl Z.el) ?_); (refine FL.pu rfl rfl ?_); (refine FL.ev rfl (EvG.go rfl Z.el) ?_); (refine FL.pu rfl rfl ?_); exact FL.nil) (fun b19 => ?_)
           refine Z.dd (c := rf_Write rr y ((l.at_ + ((sg.place * l.size : Nat) : Int)) + (j : Int)) (Wl.sect (st0 ++ (Wire.put l.seq body)) j) (by omega) (by omega) (hrd.old _)) (fun y2 => ?_)
           refine Z.dr 3 ?_
           refine Z.dS ?_
           refine Z.dr 1 ?_
           refine hd_nil ?_
           refine Z.me (b19, y2) ?_
           (first | dsimp only | skip)
           exact Ent.cons Z.k (Ent.cons Z.k (Ent.cons Z.k (Ent.cons Z.k (Ent.cons Z.k (Ent.roD Z.p (Ent.roD Z.k Z.f))))))
         ·skip
          obtain ⟨b19, y2⟩ := g
          (first | dsimp only | skip)
          refine Z.go 2 ?_
          refine Z.la 1 ?_
          refine Z.sA 5 ?_
          refine Z.ne 5 8 (fun g12 => ?_) (fun g12 => ?_)
          ·first | (exfalso; first | omega | (simp at g12; done) | contradiction) | skip
           all_goals (
            refine Z.la 1 ?_
            refine Z.sA 1 ?_
            refine Z.s1 6 ?_
            refine Z.ge 4 7 (fun g13 => ?_) (fun g13 => ?_)
            ·first | (exfalso; first | omega | (simp at g13; done) | contradiction) | skip
             all_goals (
              refine Z.la 1 ?_
              rcases hfn with ⟨hf1, hf2⟩ | ⟨hf1, hf2⟩
              ·exfalso; omega
              rw [hf1]
              refine Z.cd (c := ref8_free ({ l with stream := [] } : Wl.Lg) (rr.write ((l.at_ + ((sg.place * l.size : Nat) : Int)) + (j : Int)) (Wl.sect (st0 ++ (Wire.put l.seq body)) j)) y2 a c (dk.write ((l.at_ + ((sg.place * l.size : Nat) : Int)) + (j : Int)) (Wl.sect (st0 ++ (Wire.put l.seq body)) j)) (V + (j - fr / 512) + 1) (Q + (j - fr / 512) + 1) hwr sg.place (sg.place * l.size) (by push_cast; rfl) ⟨hat0, by show l.at_ + ((sg.place * l.size : Nat) : Int) + (l.size : Int) ≤ 65536; omega⟩ hsz (by omega) (by omega)) 0 (fun z => ?_)
              refine ho_pick (A := pu (Wl.RD z.1 (Wl.freeAll (dk.write ((l.at_ + ((sg.place * l.size : Nat) : Int)) + (j : Int)) (Wl.sect (st0 ++ (Wire.put l.seq body)) j)) (l.at_ + ((sg.place * l.size : Nat) : Int)) l.size) (V + (j - fr / 512) + 1) (Q + (j - fr / 512) + 1 + l.size))) Z.k (ho_pure fun hfr2 => ?_)
              refine Z.cd (c := ref8_Sync ({ l with stream := [] } : Wl.Lg) z.1 z.2 a c) 0 (fun _ => ?_)
              refine Z.sA 4 ?_
              refine Z.la 1 ?_
              refine Z.sA 10 ?_
              have hew : ¬ dk.werr ((l.at_ + ((sg.place * l.size : Nat) : Int)) + (j : Int)) (Wl.sect (st0 ++ (Wire.put l.seq body)) j) = 0 := by rw [← hrd.werr]; omega
              rw [Wl.putF_err (by omega) (by omega) hew, ← hrd.werr] at hput
              have hp1 : (Wl.put (l.at_ + ((sg.place * l.size : Nat) : Int)) (st0 ++ (Wire.put l.seq body)) fr l.d).1 = dk.write ((l.at_ + ((sg.place * l.size : Nat) : Int)) + (j : Int)) (Wl.sect (st0 ++ (Wire.put l.seq body)) j) := by rw [← hput]
              have hp2 : (Wl.put (l.at_ + ((sg.place * l.size : Nat) : Int)) (st0 ++ (Wire.put l.seq body)) fr l.d).2 = rr.werr ((l.at_ + ((sg.place * l.size : Nat) : Int)) + (j : Int)) (Wl.sect (st0 ++ (Wire.put l.seq body)) j) := by rw [← hput]
              rw [happ, Wl.goOn_err2 (by rw [hp2]; omega) hf2, hp1, hp2]
              exact hx_ret3A (.inl rfl) rfl rfl rfl rfl Tryz.underlying43 Tryz.ty43 rfl (cells_pt Z.p (Nat.le_of_ble_eq_true rfl) rfl) (z.1.sync, ⟨z.2.va, z.2.vc, z.2.va, z.2.vc, none, 0⟩, a, c) rfl (Ent.roD Z.k (Ent.roD Z.k (Ent.pu (hfr2.sync.mono (by omega) (by omega)) Z.f)))
             )
            ·first | (exfalso; first | omega | (simp at g13; done) | contradiction) | skip
             all_goals (
              refine Z.la 1 ?_
              refine Z.sA 10 ?_
              have hew : ¬ dk.werr ((l.at_ + ((sg.place * l.size : Nat) : Int)) + (j : Int)) (Wl.sect (st0 ++ (Wire.put l.seq body)) j) = 0 := by rw [← hrd.werr]; omega
              rw [Wl.putF_err (by omega) (by omega) hew, ← hrd.werr] at hput
              have hp1 : (Wl.put (l.at_ + ((sg.place * l.size : Nat) : Int)) (st0 ++ (Wire.put l.seq body)) fr l.d).1 = dk.write ((l.at_ + ((sg.place * l.size : Nat) : Int)) + (j : Int)) (Wl.sect (st0 ++ (Wire.put l.seq body)) j) := by rw [← hput]
              have hp2 : (Wl.put (l.at_ + ((sg.place * l.size : Nat) : Int)) (st0 ++ (Wire.put l.seq body)) fr l.d).2 = rr.werr ((l.at_ + ((sg.place * l.size : Nat) : Int)) + (j : Int)) (Wl.sect (st0 ++ (Wire.put l.seq body)) j) := by rw [← hput]
              rcases hfn with ⟨hf1, hf2⟩ | ⟨hf1, hf2⟩
              ·skip
               rw [happ, Wl.goOn_err1 (by rw [hp2]; omega) hf2, hp1, hp2]
               exact hx_ret3A (.inl rfl) rfl rfl rfl rfl Tryz.underlying43 Tryz.ty43 rfl (cells_pt Z.p (Nat.le_of_ble_eq_true rfl) rfl) ((rr.write ((l.at_ + ((sg.place * l.size : Nat) : Int)) + (j : Int)) (Wl.sect (st0 ++ (Wire.put l.seq body)) j)), y2, a, c) rfl (Ent.roD Z.k (Ent.roD Z.k (Ent.pu (hwr.mono (by omega) (by omega)) Z.f)))
              ·exfalso; omega
             )
           )
          ·first | (exfalso; first | omega | (simp at g12; done) | contradiction) | skip
           all_goals (
            refine Z.ad 2 ?_
            refine Z.ag (m - 1, j + 1, dk.write ((l.at_ + ((sg.place * l.size : Nat) : Int)) + (j : Int)) (Wl.sect (st0 ++ (Wire.put l.seq body)) j), (rr.write ((l.at_ + ((sg.place * l.size : Nat) : Int)) + (j : Int)) (Wl.sect (st0 ++ (Wire.put l.seq body)) j)), y2) (by (first | dsimp only | skip); omega) ?_
            (first | dsimp only | skip)
            exact Ent.cons Z.k (Ent.cons Z.k (Ent.cons Z.k (Ent.cons Z.k (Ent.roD Z.p (Ent.roD Z.k (Ent.pu ⟨by rw [← hput]; exact (Wl.putF_go (by omega) (by omega) (by rw [← hrd.werr]; omega)).symm, by omega, by omega, by omega, by omega, hwr.mono (by omega) (by omega), by omega⟩ Z.f))))))
           )
       )
      ·first | (exfalso; first | omega | (simp at g10; done) | contradiction) | skip
       all_goals (
        refine Z.ld 1 ?_
        refine Z.ld 1 ?_
        refine Z.sb (r := ((ini.length : Nat) : Int)) (hw := by rw [List.length_append]; simp; exact (in_i64 (by omega)).trans (by omega)) 0 ?_
        refine Z.ev (ev_indexAddr rfl Tryz.underlying41 Tryz.ty89 (congrArg (fun z => some (Value.slice z (ini ++ [sg]).length sc)) ha) rfl (by omega) (by omega)) 0 ?_
        refine Z.ev (by first | exact ev_fieldAddr0 rfl Tryz.fld89_2 rfl | exact ev_fieldAddr rfl Tryz.fld89_2 rfl) 0 ?_
        refine Z.ld (hc := by exact cell_Sa (α := Wl.Seg) (k := 2) ha (reads_own Z.p) hxs rfl) 0 ?_
        refine Z.ad (r := (((sg.count + 1) % Wl.W : Nat) : Int)) (hw := by exact add_wrap sg.count 1) 0 ?_
        refine Z.ev (ev_indexAddr rfl Tryz.underlying41 Tryz.ty89 (congrArg (fun z => some (Value.slice z (ini ++ [sg]).length sc)) ha) rfl (by omega) (by omega)) 0 ?_
        refine Z.ev (by first | exact ev_fieldAddr0 rfl Tryz.fld89_2 rfl | exact ev_fieldAddr rfl Tryz.fld89_2 rfl) 0 ?_
        refine Z.ef0 (eff_storeS (α := Wl.Seg) (k := 2) (x' := (⟨sg.place, sg.base, (sg.count + 1) % Wl.W⟩ : Wl.Seg)) rfl Tryz.ty24 ha rfl rfl Z.p rfl rfl hxs (by decide) rfl) 6 (fun _ => ?_)
        refine Z.s1 4 ?_
        refine Z.la 1 ?_
        refine Z.sA 5 ?_
        rw [Wl.putF_end (by omega)] at hput
        have hp1 : (Wl.put (l.at_ + ((sg.place * l.size : Nat) : Int)) (st0 ++ (Wire.put l.seq body)) fr l.d).1 = dk := by rw [← hput]
        have hp2 : (Wl.put (l.at_ + ((sg.place * l.size : Nat) : Int)) (st0 ++ (Wire.put l.seq body)) fr l.d).2 = 0 := by rw [← hput]
        rw [happ, Wl.goOn_ok hp2, hp1]
        refine hx_freezeS (α := Wl.Seg) (xs := (ini ++ [sg]).set ini.length (⟨sg.place, sg.base, (sg.count + 1) % Wl.W⟩ : Wl.Seg)) Z.k ?_
        rw [Wl.set_snoc]
        rw [show (ini ++ [sg]).length = (ini ++ [(⟨sg.place, sg.base, (sg.count + 1) % Wl.W⟩ : Wl.Seg)]).length by simp]
        exact hx_ret3A (.inl rfl) rfl rfl rfl rfl Tryz.underlying43 Tryz.ty43 rfl (cells_pt Z.p (Nat.le_of_ble_eq_true rfl) rfl) (rr, y, sa, sc) rfl (Ent.roD Z.k (Ent.roD Z.k (Ent.pu (hrd.mono (by omega) (by omega)) Z.f)))
       )
    )
  )
theorem ref8_Truncate (l : Wl.Lg) (r : Rf.RDisk) (x : RX) (a : Option Addr) (c : Nat) (V Q : Nat) (h : Wl.RD r l.d V Q) (hVQ : V ≤ Q) (hQ : Q ≤ 500000) (seq : Nat) (hok : l.Ok) (hsq : seq < 18446744073709551616) : Ctr Tryz.prog 13 #[rlV l r x a c, .int .u64 (seq : Int)] [ro (rdR r x), ro (roS a l.live.length l.live)] (fun q : Rf.RDisk × RX × Option Addr × Nat => .tuple #[rlV (l.truncate seq).1 q.1 q.2.1 q.2.2.1 q.2.2.2, .int .i64 (l.truncate seq).2]) (fun q => [ro (rdR q.1 q.2.1), ro (roS q.2.2.1 (l.truncate seq).1.live.length (l.truncate seq).1.live), pu (Wl.RD q.1 (l.truncate seq).1.d V Q)]) := by
 refine Z.fn Tryz.func13 Tryz.ntmps13 (fun κ F => ?_)
 obtain ⟨hat0, hat1, hsz, hnn, hlv, hpls, hst0_, hcur, hlast, hpend⟩ := id hok
 have hls : l.live.length * l.size ≤ 1000 * 64 := Nat.mul_le_mul hlv hsz
 refine Z.go 2 ?_
 refine Z.bA 0 (fun b2 => ?_)
 refine Z.al 8 (fun b4 => ?_)
 refine Z.ld 0 ?_
 refine Z.gt 5 7 (fun g1 => ?_) (fun g1 => ?_)
 ·first | (exfalso; first | omega | (simp at g1; done) | contradiction) | skip
  all_goals (
   refine Z.la 0 ?_
   refine Z.sA 5 ?_
   have ht : l.truncate seq = (l, 83) := by unfold Wl.Lg.truncate; rw [if_pos (by omega)]
   rw [ht]
   exact hx_ret2A (.inl rfl) rfl rfl rfl Tryz.underlying43 Tryz.ty43 rfl (cells_pt Z.p (Nat.le_of_ble_eq_true rfl) rfl) (r, x, a, c) rfl (Ent.roD Z.p (Ent.roD Z.p (Ent.pu (h.mono (Nat.le_refl _) (by omega)) Z.f)))
  )
 ·first | (exfalso; first | omega | (simp at g1; done) | contradiction) | skip
  all_goals (
   refine Z.ef (eff_buildAll (α := Wl.Seg) [] rfl Tryz.underlying41 Tryz.ty89 .nil .nil rfl (Nat.le_of_ble_eq_true rfl)) 10 (fun b14 => ?_)
   refine Z.lo (fun q : Nat × Rf.RDisk × RX × List UInt8 × Option Addr × Nat => ([pt b2 (.cells #[.int .i64 q.2.1.size, .int .i64 q.2.1.limit, .slice q.2.2.1.va q.2.1.view.length q.2.2.1.vc, .slice q.2.2.1.ga q.2.1.ground.length q.2.2.1.gc, .slice q.2.2.1.la q.2.1.L.length q.2.2.1.lc, .int .i64 l.at_, .int .i64 (l.n : Int), .int .i64 (l.size : Int), .slice a l.live.length c, vS q.2.2.2.1, .int .u64 (l.last : Int), .int .u64 (l.synced : Int)] 43 (0, 0)), pt b4 (.cells #[.int .i64 0, .int .i64 0, .slice none 0 0, .slice none 0 0, .slice none 0 0, .int .i64 0, .int .i64 0, .int .i64 0, .slice none 0 0, vS [], .int .u64 0, .int .u64 0] 43 (0, 0)), ownS 89 q.2.2.2.2.1 ((l.live.take q.1).filter (Wl.keeps seq)).length q.2.2.2.2.2 ((l.live.take q.1).filter (Wl.keeps seq)), ro (roS a l.live.length l.live), ro (rdR q.2.1 q.2.2.1), pu (Wl.RD q.2.1 (Wl.freeTr l.at_ l.size seq l.d (l.live.take q.1)) V (Q + q.1 * l.size) ∧ q.1 ≤ l.live.length ∧ (q.2.2.2.1 = l.stream ∨ (q.2.2.2.1 = [] ∧ q.1 = l.live.length)) ∧ (q.1 = l.live.length → q.2.2.2.1 = l.keepStream seq)), F], [(1, .int .u64 (seq : Int)), (2, .pointer (some ⟨b2, 0, none⟩)), (4, .pointer (some ⟨b4, 0, none⟩)), (6, .slice q.2.2.2.2.1 ((l.live.take q.1).filter (Wl.keeps seq)).length q.2.2.2.2.2), (7, .int .i64 q.1)])) (fun q : Nat × Rf.RDisk × RX × List UInt8 × Option Addr × Nat => l.live.length - q.1) (0, r, x, l.stream, some ⟨b14, 0, none⟩, 0) ?_ (fun q => ?_)
   ·(first | dsimp only | skip)
    exact Ent.cons Z.k (Ent.cons Z.k (Ent.cons Z.k (Ent.roD Z.p (Ent.roD Z.k (Ent.pu ⟨h.mono (Nat.le_refl _) (by omega), by omega, .inl rfl, fun e => by have e2 : l.live = [] := List.eq_nil_of_length_eq_zero e.symm; unfold Wl.Lg.keepStream; rw [e2]; rfl⟩ Z.f)))))
   obtain ⟨q, rr, y, st, ka, kc⟩ := q
   dsimp only
   refine ht_pick (A := pu (Wl.RD rr (Wl.freeTr l.at_ l.size seq l.d (l.live.take q)) V (Q + q * l.size) ∧ q ≤ l.live.length ∧ (st = l.stream ∨ (st = [] ∧ q = l.live.length)) ∧ (q = l.live.length → st = l.keepStream seq))) Z.k (ht_pure fun hq => ?_)
   obtain ⟨hr, hql, hst, hks⟩ := hq
   have hv1 := hr.view
   have hv2 := hr.all
   have hkl : ((l.live.take q).filter (Wl.keeps seq)).length ≤ l.live.length := Nat.le_trans (List.length_filter_le _ _) (by rw [List.length_take]; omega)
   have hqs : q * l.size ≤ l.live.length * l.size := Nat.mul_le_mul_right _ hql
   refine Z.go 5 ?_
   refine Z.ld 1 ?_
   refine Z.lt 8 9 (fun g2 => ?_) (fun g2 => ?_)
   ·first | (exfalso; first | omega | (simp at g2; done) | contradiction) | skip
    all_goals (
     obtain ⟨s, hs⟩ : ∃ s, l.live[q]? = some s := ⟨_, List.getElem?_eq_getElem (by omega)⟩
     refine ht_someS (α := Wl.Seg) (a := a) (reads_ro Z.p) (by omega) (fun ab ao ha => ?_)
     have hpl := hpls s (List.mem_of_getElem? hs)
     have hms : s.place * l.size + l.size ≤ l.n * l.size := by have h := Nat.mul_le_mul_right l.size (show s.place + 1 ≤ l.n by omega); rw [Nat.succ_mul] at h; exact h
     obtain hst0 : st = l.stream := by rcases hst with e | ⟨e, e2⟩ <;> first | exact e | (exfalso; omega)
     refine Z.go 2 ?_
     refine Z.ld 1 ?_
     refine Z.ev (ev_indexAddr rfl Tryz.underlying41 Tryz.ty89 (congrArg (fun z => some (Value.slice z l.live.length c)) ha) rfl (by omega) (by omega)) 0 ?_
     refine Z.la (hc := by exact show Cells _ _ _ _ #[.int .i64 (s.place : Int), .int .u64 (s.base : Int), .int .u64 (s.count : Int)] from cells_Sa ha (reads_ro Z.p) hs) 0 ?_
     refine Z.al 0 (fun b8 => ?_)
     refine Z.sA 6 ?_
     refine Z.ld 0 ?_
     refine Z.gt 2 16 (fun g3 => ?_) (fun g3 => ?_)
     ·skip
      refine Z.ld 1 ?_
      refine Z.ld 0 ?_
      refine Z.ad (r := (((s.base + s.count) % 18446744073709551616 : Nat) : Int)) (hw := by exact add_wrap _ _) 0 ?_
      refine Z.sb (r := ((Wl.upTo s.base s.count : Nat) : Int)) (hw := by exact sub_wrap _) 1 ?_
      refine Z.gt 5 7 (fun g4 => ?_) (fun g4 => ?_)
      ·skip
       have hk : Wl.keeps seq s = true := (by unfold Wl.keeps; simp; omega)
       refine Z.go 2 ?_
       refine Z.la 0 ?_
       refine Z.ef (eff_buildAll (α := Wl.Seg) [s] rfl Tryz.underlying41 Tryz.ty89 (.cons rfl .nil) (.cons rfl .nil) rfl (Nat.le_of_ble_eq_true rfl)) 0 (fun b42 => ?_)
       refine Z.ef (eff_append (α := Wl.Seg) rfl Tryz.underlying41 Tryz.ty89 rfl (by decide) Tryz.underlying41 rfl rfl Z.p (by first | exact reads_ro Z.p | exact reads_own Z.p | exact reads_nil _) (by first | omega | (simp only [List.length_append, List.length_cons, List.length_nil, List.length_drop, List.length_take]; omega) | (simp; omega))) 9 (fun p43 => ?_)
       refine Z.ad 2 ?_
       rw [← Wl.keep_yes hs hk]
       refine Z.ag (q + 1, rr, y, st, p43.1, p43.2) (by (first | dsimp only | skip); omega) ?_
       (first | dsimp only | skip)
       skip
       exact Ent.cons Z.k (Ent.cons Z.k (Ent.cons Z.k (Ent.roD Z.p (Ent.roD Z.k (Ent.pu ⟨by rw [Wl.freeTr_step hs]; unfold Wl.freeStep; rw [if_pos hk]; exact hr.mono (Nat.le_refl _) (by rw [Nat.succ_mul]; omega), by omega, .inl hst0, (fun e => by have hg : l.live.getLast? = some s := (by rw [List.getLast?_eq_getElem?, show l.live.length - 1 = q by omega]; exact hs); unfold Wl.Lg.keepStream; rw [hg]; simp only [hk, if_true]; exact hst0)⟩ Z.f)))))
      ·skip
       have hk : ¬ Wl.keeps seq s = true := (by unfold Wl.keeps; simp; omega)
       refine Z.go 1 ?_
       refine Z.la 1 ?_
       refine Z.ld 0 ?_
       refine Z.cd (c := ref8_free ({ l with stream := st } : Wl.Lg) rr y a c (Wl.freeTr l.at_ l.size seq l.d (l.live.take q)) V (Q + q * l.size) hr s.place (s.place * l.size) (by push_cast; rfl) ⟨hat0, by show l.at_ + ((s.place * l.size : Nat) : Int) + (l.size : Int) ≤ 65536; omega⟩ hsz (by omega) (by omega)) 0 (fun z => ?_)
       refine ho_pick (A := pu (Wl.RD z.1 (Wl.freeAll (Wl.freeTr l.at_ l.size seq l.d (l.live.take q)) (l.at_ + ((s.place * l.size : Nat) : Int)) l.size) V (Q + q * l.size + l.size))) Z.k (ho_pure fun hr2 => ?_)
       refine Z.sA 6 ?_
       refine Z.ld 1 ?_
       refine Z.sb 0 ?_
       refine Z.eq 5 8 (fun g5 => ?_) (fun g5 => ?_)
       ·skip
        refine Z.s1 5 ?_
        refine Z.ad 2 ?_
        rw [← Wl.keep_no hs (by simpa using hk)]
        refine Z.ag (q + 1, z.1, z.2, [], ka, kc) (by (first | dsimp only | skip); omega) ?_
        (first | dsimp only | skip)
        skip
        exact Ent.cons Z.k (Ent.cons Z.k (Ent.cons Z.k (Ent.roD Z.p (Ent.roD Z.k (Ent.pu ⟨by rw [Wl.freeTr_step hs]; unfold Wl.freeStep; rw [if_neg hk]; exact hr2.mono (Nat.le_refl _) (by rw [Nat.succ_mul]; omega), by omega, .inr ⟨rfl, by omega⟩, (fun e => by have hg : l.live.getLast? = some s := (by rw [List.getLast?_eq_getElem?, show l.live.length - 1 = q by omega]; exact hs); unfold Wl.Lg.keepStream; rw [hg]; simp only [hk, if_false]; rfl)⟩ Z.f)))))
       ·skip
        refine Z.ad 2 ?_
        rw [← Wl.keep_no hs (by simpa using hk)]
        refine Z.ag (q + 1, z.1, z.2, st, ka, kc) (by (first | dsimp only | skip); omega) ?_
        (first | dsimp only | skip)
        skip
        exact Ent.cons Z.k (Ent.cons Z.k (Ent.cons Z.k (Ent.roD Z.p (Ent.roD Z.k (Ent.pu ⟨by rw [Wl.freeTr_step hs]; unfold Wl.freeStep; rw [if_neg hk]; exact hr2.mono (Nat.le_refl _) (by rw [Nat.succ_mul]; omega), by omega, .inl hst0, (fun e => by exfalso; omega)⟩ Z.f)))))
     ·skip
      have hk : ¬ Wl.keeps seq s = true := (by unfold Wl.keeps; simp; omega)
      refine Z.go 1 ?_
      refine Z.la 1 ?_
      refine Z.ld 0 ?_
      refine Z.cd (c := ref8_free ({ l with stream := st } : Wl.Lg) rr y a c (Wl.freeTr l.at_ l.size seq l.d (l.live.take q)) V (Q + q * l.size) hr s.place (s.place * l.size) (by push_cast; rfl) ⟨hat0, by show l.at_ + ((s.place * l.size : Nat) : Int) + (l.size : Int) ≤ 65536; omega⟩ hsz (by omega) (by omega)) 0 (fun z => ?_)
      refine ho_pick (A := pu (Wl.RD z.1 (Wl.freeAll (Wl.freeTr l.at_ l.size seq l.d (l.live.take q)) (l.at_ + ((s.place * l.size : Nat) : Int)) l.size) V (Q + q * l.size + l.size))) Z.k (ho_pure fun hr2 => ?_)
      refine Z.sA 6 ?_
      refine Z.ld 1 ?_
      refine Z.sb 0 ?_
      refine Z.eq 5 8 (fun g6 => ?_) (fun g6 => ?_)
      ·skip
       refine Z.s1 5 ?_
       refine Z.ad 2 ?_
       rw [← Wl.keep_no hs (by simpa using hk)]
       refine Z.ag (q + 1, z.1, z.2, [], ka, kc) (by (first | dsimp only | skip); omega) ?_
       (first | dsimp only | skip)
       skip
       exact Ent.cons Z.k (Ent.cons Z.k (Ent.cons Z.k (Ent.roD Z.p (Ent.roD Z.k (Ent.pu ⟨by rw [Wl.freeTr_step hs]; unfold Wl.freeStep; rw [if_neg hk]; exact hr2.mono (Nat.le_refl _) (by rw [Nat.succ_mul]; omega), by omega, .inr ⟨rfl, by omega⟩, (fun e => by have hg : l.live.getLast? = some s := (by rw [List.getLast?_eq_getElem?, show l.live.length - 1 = q by omega]; exact hs); unfold Wl.Lg.keepStream; rw [hg]; simp only [hk, if_false]; rfl)⟩ Z.f)))))
      ·skip
       refine Z.ad 2 ?_
       rw [← Wl.keep_no hs (by simpa using hk)]
       refine Z.ag (q + 1, z.1, z.2, st, ka, kc) (by (first | dsimp only | skip); omega) ?_
       (first | dsimp only | skip)
       skip
       exact Ent.cons Z.k (Ent.cons Z.k (Ent.cons Z.k (Ent.roD Z.p (Ent.roD Z.k (Ent.pu ⟨by rw [Wl.freeTr_step hs]; unfold Wl.freeStep; rw [if_neg hk]; exact hr2.mono (Nat.le_refl _) (by rw [Nat.succ_mul]; omega), by omega, .inl hst0, (fun e => by exfalso; omega)⟩ Z.f)))))
    )
   ·first | (exfalso; first | omega | (simp at g2; done) | contradiction) | skip
    all_goals (
     obtain rfl : q = l.live.length := by omega
     have hks := hks rfl
     subst hks
     rw [List.take_length] at *
     refine Z.go 3 ?_
     refine Z.s1 4 ?_
     refine Z.la 0 ?_
     refine Z.cd (c := ref8_Sync ({ l with live := l.live.filter (Wl.keeps seq), stream := l.keepStream seq } : Wl.Lg) rr y ka kc) 0 (fun _ => ?_)
     refine Z.sA 4 ?_
     have ht : l.truncate seq = ({ l with live := l.live.filter (Wl.keeps seq), stream := l.keepStream seq, synced := l.last, d := (Wl.freeTr l.at_ l.size seq l.d l.live).sync }, 0) := by unfold Wl.Lg.truncate; rw [if_neg (by omega)]
     rw [ht]
     refine hx_freezeS (α := Wl.Seg) (xs := l.live.filter (Wl.keeps seq)) Z.k ?_
     exact hx_ret2A (.inl rfl) rfl rfl rfl Tryz.underlying43 Tryz.ty43 rfl (cells_pt Z.p (Nat.le_of_ble_eq_true rfl) rfl) (rr.sync, ⟨y.va, y.vc, y.va, y.vc, none, 0⟩, ka, kc) rfl (Ent.roD Z.k (Ent.roD Z.k (Ent.pu (hr.sync.mono (Nat.le_refl _) (by omega)) Z.f)))
    )
  )
end Go.Proofs.YtlejcepbcfijiaaGreatDoor
