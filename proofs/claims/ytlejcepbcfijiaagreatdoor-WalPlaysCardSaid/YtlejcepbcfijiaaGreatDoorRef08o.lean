/-
  THE DOCUMENT'S LOG (08), second text: opening. Conditions: as each contract says.
-/
import Derived.Test.YtlejcepbcfijiaaGreatDoorRef08
set_option maxRecDepth 100000
set_option linter.unusedVariables false
set_option linter.unusedSimpArgs false
namespace Go.Proofs.YtlejcepbcfijiaaGreatDoor
open Go Go.SL

theorem ref8_Open_no (r : Rf.RDisk) (x : RX) (at_ n s k : Int) (h : ¬ (2 ≤ n ∧ n ≤ 64 ∧ 1 ≤ s ∧ s ≤ 64 ∧ 0 ≤ at_ ∧ at_ ≤ 65536 - n * s)) : Ctr Tryz.prog 8 #[rdV r x, .int .i64 at_, .int .i64 n, .int .i64 s, .int .u64 k] [] (fun _ : Unit => .tuple #[.agg #[.int .i64 0, .int .i64 0, .slice none 0 0, .slice none 0 0, .slice none 0 0, .int .i64 0, .int .i64 0, .int .i64 0, .slice none 0 0, vS [], .int .u64 0, .int .u64 0], .slice none 0 0, .int .i64 80]) (fun _ => []) := by
 refine Z.fn Tryz.func8 Tryz.ntmps8 (fun κ F => ?_)
 have hms : 0 ≤ n → n ≤ 64 → 0 ≤ s → s ≤ 64 → 0 ≤ n * s ∧ n * s ≤ 4096 := fun h1 h2 h3 h4 => mul_small h1 h2 h3 h4
 refine Z.go 2 ?_
 refine Z.bA 0 (fun b5 => ?_)
 refine Z.al 8 (fun b10 => ?_)
 refine Z.lt 29 2 (fun g1 => ?_) (fun g1 => ?_)
 ·first | (exfalso; first | omega | (simp at g1; done) | contradiction) | skip
  all_goals (
   refine Z.ev (ev_build1 (csl := [.int .i64 0, .int .i64 0, .slice none 0 0, .slice none 0 0, .slice none 0 0, .int .i64 0, .int .i64 0, .int .i64 0, .slice none 0 0, .string (mkS []), .int .u64 0, .int .u64 0]) rfl Tryz.st43 .nil .nil rfl rfl) 0 ?_
   refine Z.sA 6 ?_
   exact hx_ret3A (.inl rfl) rfl rfl rfl rfl Tryz.underlying43 Tryz.ty43 rfl (cells_pt Z.p (Nat.le_of_ble_eq_true rfl) rfl) () rfl Z.f
  )
 ·first | (exfalso; first | omega | (simp at g1; done) | contradiction) | skip
  all_goals (
   refine Z.gt 26 3 (fun g2 => ?_) (fun g2 => ?_)
   ·first | (exfalso; first | omega | (simp at g2; done) | contradiction) | skip
    all_goals (
     refine Z.ev (ev_build1 (csl := [.int .i64 0, .int .i64 0, .slice none 0 0, .slice none 0 0, .slice none 0 0, .int .i64 0, .int .i64 0, .int .i64 0, .slice none 0 0, .string (mkS []), .int .u64 0, .int .u64 0]) rfl Tryz.st43 .nil .nil rfl rfl) 0 ?_
     refine Z.sA 6 ?_
     exact hx_ret3A (.inl rfl) rfl rfl rfl rfl Tryz.underlying43 Tryz.ty43 rfl (cells_pt Z.p (Nat.le_of_ble_eq_true rfl) rfl) () rfl Z.f
    )
   ·first | (exfalso; first | omega | (simp at g2; done) | contradiction) | skip
    all_goals (
     refine Z.lt 22 3 (fun g3 => ?_) (fun g3 => ?_)
     ·first | (exfalso; first | omega | (simp at g3; done) | contradiction) | skip
      all_goals (
       refine Z.ev (ev_build1 (csl := [.int .i64 0, .int .i64 0, .slice none 0 0, .slice none 0 0, .slice none 0 0, .int .i64 0, .int .i64 0, .int .i64 0, .slice none 0 0, .string (mkS []), .int .u64 0, .int .u64 0]) rfl Tryz.st43 .nil .nil rfl rfl) 0 ?_
       refine Z.sA 6 ?_
       exact hx_ret3A (.inl rfl) rfl rfl rfl rfl Tryz.underlying43 Tryz.ty43 rfl (cells_pt Z.p (Nat.le_of_ble_eq_true rfl) rfl) () rfl Z.f
      )
     ·first | (exfalso; first | omega | (simp at g3; done) | contradiction) | skip
      all_goals (
       refine Z.gt 18 3 (fun g4 => ?_) (fun g4 => ?_)
       ·first | (exfalso; first | omega | (simp at g4; done) | contradiction) | skip
        all_goals (
         refine Z.ev (ev_build1 (csl := [.int .i64 0, .int .i64 0, .slice none 0 0, .slice none 0 0, .slice none 0 0, .int .i64 0, .int .i64 0, .int .i64 0, .slice none 0 0, .string (mkS []), .int .u64 0, .int .u64 0]) rfl Tryz.st43 .nil .nil rfl rfl) 0 ?_
         refine Z.sA 6 ?_
         exact hx_ret3A (.inl rfl) rfl rfl rfl rfl Tryz.underlying43 Tryz.ty43 rfl (cells_pt Z.p (Nat.le_of_ble_eq_true rfl) rfl) () rfl Z.f
        )
       ·first | (exfalso; first | omega | (simp at g4; done) | contradiction) | skip
        all_goals (
         refine Z.lt 14 5 (fun g5 => ?_) (fun g5 => ?_)
         ·first | (exfalso; first | omega | (simp at g5; done) | contradiction) | skip
          all_goals (
           refine Z.ev (ev_build1 (csl := [.int .i64 0, .int .i64 0, .slice none 0 0, .slice none 0 0, .slice none 0 0, .int .i64 0, .int .i64 0, .int .i64 0, .slice none 0 0, .string (mkS []), .int .u64 0, .int .u64 0]) rfl Tryz.st43 .nil .nil rfl rfl) 0 ?_
           refine Z.sA 6 ?_
           exact hx_ret3A (.inl rfl) rfl rfl rfl rfl Tryz.underlying43 Tryz.ty43 rfl (cells_pt Z.p (Nat.le_of_ble_eq_true rfl) rfl) () rfl Z.f
          )
         ·first | (exfalso; first | omega | (simp at g5; done) | contradiction) | skip
          all_goals (
           refine Z.ml (r := n * s) (hw := by have h0 := mul_small (n := n) (s := s) (by omega) (by omega) (by omega) (by omega); exact in_i64 (by omega)) 0 ?_
           refine Z.sb (r := 65536 - n * s) (hw := by have h0 := mul_small (n := n) (s := s) (by omega) (by omega) (by omega) (by omega); exact in_i64 (by omega)) 0 ?_
           refine Z.gt 6 0 (fun g6 => ?_) (fun g6 => ?_)
           ·first | (exfalso; first | omega | (simp at g6; done) | contradiction) | skip
            all_goals (
             refine Z.ev (ev_build1 (csl := [.int .i64 0, .int .i64 0, .slice none 0 0, .slice none 0 0, .slice none 0 0, .int .i64 0, .int .i64 0, .int .i64 0, .slice none 0 0, .string (mkS []), .int .u64 0, .int .u64 0]) rfl Tryz.st43 .nil .nil rfl rfl) 0 ?_
             refine Z.sA 6 ?_
             exact hx_ret3A (.inl rfl) rfl rfl rfl rfl Tryz.underlying43 Tryz.ty43 rfl (cells_pt Z.p (Nat.le_of_ble_eq_true rfl) rfl) () rfl Z.f
            )
           ·(exfalso; first | omega | (simp at g6; done) | contradiction)
          )
        )
      )
    )
  )
theorem ref8_Open (r : Rf.RDisk) (x : RX) (d : Dk.Disk) (V Q : Nat) (h : Wl.RD r d V Q) (hV : V ≤ 800000) (hQ : Q ≤ 800000) (h5 : ∀ k s, d.view k = some s → s.length ≤ 512) (n s k : Nat) (at_ : Int) (hn : 2 ≤ n ∧ n ≤ 64) (hs : 1 ≤ s ∧ s ≤ 64) (hat : 0 ≤ at_ ∧ at_ + ((n * s : Nat) : Int) ≤ 65536) (hk : k < 18446744073709551616) : Ctr Tryz.prog 8 #[rdV r x, .int .i64 at_, .int .i64 (n : Int), .int .i64 (s : Int), .int .u64 (k : Int)] [ro (rdR r x)] (fun q : Rf.RDisk × RX × Option Addr × Nat × Option Addr × Nat => .tuple #[rlV (⟨at_, n, s, (Wl.found d at_ s n k).live, [], max (Wl.found d at_ s n k).last k, max (Wl.found d at_ s n k).last k, Wl.openDisk d at_ s n k⟩ : Wl.Lg) q.1 q.2.1 q.2.2.1 q.2.2.2.1, .slice q.2.2.2.2.1 (Wl.found d at_ s n k).out.length q.2.2.2.2.2, .int .i64 0]) (fun q => [ro (rdR q.1 q.2.1), ro (roS q.2.2.1 (Wl.found d at_ s n k).live.length (Wl.found d at_ s n k).live), ro (roS q.2.2.2.2.1 (Wl.found d at_ s n k).out.length (Wl.found d at_ s n k).out), pu (Wl.RD q.1 (Wl.openDisk d at_ s n k) V V)]) := by
 refine Z.fn Tryz.func8 Tryz.ntmps8 (fun κ F => ?_)
 have hV : V ≤ 900000 := by omega
 have hnn := mul_small (n := (n : Int)) (s := (s : Int)) (by omega) (by omega) (by omega) (by omega)
 have hlk := Wl.look_len d.view at_ s n
 have hns : n * s ≤ 4096 := Nat.mul_le_mul hn.2 hs.2
 refine Z.go 2 ?_
 refine Z.bA 0 (fun b5 => ?_)
 refine Z.al 8 (fun b10 => ?_)
 refine Z.lt 0 2 (fun g1 => ?_) (fun g1 => ?_)
 ·(exfalso; first | omega | (simp at g1; done) | contradiction)
 ·first | (exfalso; first | omega | (simp at g1; done) | contradiction) | skip
  all_goals (
   refine Z.gt 0 3 (fun g2 => ?_) (fun g2 => ?_)
   ·(exfalso; first | omega | (simp at g2; done) | contradiction)
   ·first | (exfalso; first | omega | (simp at g2; done) | contradiction) | skip
    all_goals (
     refine Z.lt 0 3 (fun g3 => ?_) (fun g3 => ?_)
     ·(exfalso; first | omega | (simp at g3; done) | contradiction)
     ·first | (exfalso; first | omega | (simp at g3; done) | contradiction) | skip
      all_goals (
       refine Z.gt 0 3 (fun g4 => ?_) (fun g4 => ?_)
       ·(exfalso; first | omega | (simp at g4; done) | contradiction)
       ·first | (exfalso; first | omega | (simp at g4; done) | contradiction) | skip
        all_goals (
         refine Z.lt 0 5 (fun g5 => ?_) (fun g5 => ?_)
         ·(exfalso; first | omega | (simp at g5; done) | contradiction)
         ·first | (exfalso; first | omega | (simp at g5; done) | contradiction) | skip
          all_goals (
           refine Z.ml (r := (n : Int) * (s : Int)) (hw := by exact in_i64 (by omega)) 0 ?_
           refine Z.sb (r := 65536 - (n : Int) * (s : Int)) (hw := by exact in_i64 (by omega)) 0 ?_
           refine Z.gt 0 8 (fun g6 => ?_) (fun g6 => ?_)
           ·(exfalso; first | omega | (simp at g6; done) | contradiction)
           ·first | (exfalso; first | omega | (simp at g6; done) | contradiction) | skip
            all_goals (
             refine Z.la 4 ?_
             refine Z.ev (ev_buildM (csl := [_, _, _, _, _, _, _, _, .slice none 0 0, .string (mkS []), _, .int .u64 0]) rfl Tryz.st43 (.cons rfl (.cons rfl (.cons rfl (.cons rfl (.cons rfl .nil))))) (.cons rfl (.cons rfl (.cons rfl (.cons rfl (.cons rfl .nil))))) rfl rfl) 0 ?_
             refine Z.al 0 (fun b13 => ?_)
             refine Z.sA 15 ?_
             refine Z.lo (fun q : Nat × Int × Nat => ([pt b10 (.cells #[.int .i64 0, .int .i64 0, .slice none 0 0, .slice none 0 0, .slice none 0 0, .int .i64 0, .int .i64 0, .int .i64 0, .slice none 0 0, vS [], .int .u64 0, .int .u64 0] 43 (0, 0)), pt b13 (.cells (rlC (⟨at_, n, s, [], [], k, 0, d⟩ : Wl.Lg) r x none 0) 43 (0, 0)), ro (rdR r x), pu (Wl.BestP k d.view at_ s q.1 q.2.1 q.2.2 ∧ q.1 ≤ n), F], [(1, .int .i64 at_), (2, .int .i64 (n : Int)), (3, .int .i64 (s : Int)), (4, .int .u64 (k : Int)), (10, .pointer (some ⟨b10, 0, none⟩)), (13, .pointer (some ⟨b13, 0, none⟩)), (14, .int .i64 q.2.1), (15, .int .u64 (q.2.2 : Int)), (16, .int .i64 q.1)])) (fun q : Nat × Int × Nat => n - q.1) (0, -1, 0) ?_ (fun q => ?_)
             ·(first | dsimp only | skip)
              exact Ent.cons Z.k (Ent.cons Z.k (Ent.roD Z.p (Ent.pu ⟨Wl.bestP_zero k 0, by omega⟩ Z.f)))
             obtain ⟨i, p, b⟩ := q
             dsimp only
             refine ht_pick (A := pu (Wl.BestP k d.view at_ s i p b ∧ i ≤ n)) Z.k (ht_pure fun hq => ?_)
             obtain ⟨hbp, hi⟩ := hq
             refine Z.go 5 ?_
             refine Z.lt 8 10 (fun g7 => ?_) (fun g7 => ?_)
             ·first | (exfalso; first | omega | (simp at g7; done) | contradiction) | skip
              all_goals (
               rcases hfd : Wl.fd d.view at_ s i with _ | f
               ·skip
                refine Z.go 1 ?_
                refine Z.la 1 ?_
                have hms : i * s + s ≤ n * s := by have h := Nat.mul_le_mul_right s (show i + 1 ≤ n by omega); rw [Nat.succ_mul] at h; exact h
                refine Z.cd (c := ref8_Look_no (⟨at_, n, s, [], [], k, 0, d⟩ : Wl.Lg) r x none 0 d V Q h i (by show 0 ≤ at_ ∧ at_ + ((i * s : Nat) : Int) + (s : Int) ≤ 65536; omega) (by show s ≤ 64; omega) hV h5 hfd) 45 (fun _ => ?_)
                refine Z.ad 2 ?_
                refine Z.ag (i + 1, p, b) (by (first | dsimp only | skip); omega) ?_
                (first | dsimp only | skip)
                exact Ent.cons Z.k (Ent.cons Z.k (Ent.roD Z.p (Ent.pu ⟨Wl.bestP_none hbp hfd, by omega⟩ Z.f)))
               ·skip
                have hfw := Wl.fd_ok h5 hs.2 hfd
                refine Z.go 1 ?_
                refine Z.la 1 ?_
                have hms : i * s + s ≤ n * s := by have h := Nat.mul_le_mul_right s (show i + 1 ≤ n by omega); rw [Nat.succ_mul] at h; exact h
                refine Z.cd (c := ref8_Look (⟨at_, n, s, [], [], k, 0, d⟩ : Wl.Lg) r x none 0 d V Q h i (by show 0 ≤ at_ ∧ at_ + ((i * s : Nat) : Int) + (s : Int) ≤ 65536; omega) (by show s ≤ 64; omega) hV h5 f hfd) 15 (fun z => ?_)
                refine Z.ad (r := (((k + 1) % 18446744073709551616 : Nat) : Int)) (hw := by exact add_wrap k 1) 0 ?_
                refine Z.le 5 28 (fun g8 => ?_) (fun g8 => ?_)
                ·first | (exfalso; first | omega | (simp at g8; done) | contradiction) | skip
                 all_goals (
                  refine Z.ev (ev_convI (r := ((f.recs.length : Nat) : Int)) rfl ⟨_, Tryz.underlying3⟩ Tryz.underlying24 rfl (by exact IntWalk.u64_in _ (by omega))) 0 ?_
                  refine Z.ad (r := (((f.base + f.recs.length) % 18446744073709551616 : Nat) : Int)) (hw := by exact add_wrap _ _) 1 ?_
                  refine Z.ad (r := (((k + 1) % 18446744073709551616 : Nat) : Int)) (hw := by exact add_wrap k 1) 0 ?_
                  refine Z.ge 3 18 (fun g9 => ?_) (fun g9 => ?_)
                  ·first | (exfalso; first | omega | (simp at g9; done) | contradiction) | skip
                   all_goals (
                    refine Z.lt 19 3 (fun g10 => ?_) (fun g10 => ?_)
                    ·first | (exfalso; first | omega | (simp at g10; done) | contradiction) | skip
                     all_goals (
                      refine Z.ad 2 ?_
                      refine Z.ag (i + 1, (i : Int), f.base) (by (first | dsimp only | skip); omega) ?_
                      (first | dsimp only | skip)
                      exact Ent.cons Z.k (Ent.cons Z.k (Ent.roD Z.p (Ent.pu ⟨Wl.bestP_yes hbp hfd (by omega) (by omega) (by omega), by omega⟩ Z.f)))
                     )
                    ·first | (exfalso; first | omega | (simp at g10; done) | contradiction) | skip
                     all_goals (
                      refine Z.gt 15 10 (fun g11 => ?_) (fun g11 => ?_)
                      ·first | (exfalso; first | omega | (simp at g11; done) | contradiction) | skip
                       all_goals (
                        refine Z.ad 2 ?_
                        refine Z.ag (i + 1, (i : Int), f.base) (by (first | dsimp only | skip); omega) ?_
                        (first | dsimp only | skip)
                        exact Ent.cons Z.k (Ent.cons Z.k (Ent.roD Z.p (Ent.pu ⟨Wl.bestP_yes hbp hfd (by omega) (by omega) (by omega), by omega⟩ Z.f)))
                       )
                      ·first | (exfalso; first | omega | (simp at g11; done) | contradiction) | skip
                       all_goals (
                        refine Z.ad 2 ?_
                        refine Z.ag (i + 1, p, b) (by (first | dsimp only | skip); omega) ?_
                        (first | dsimp only | skip)
                        exact Ent.cons Z.k (Ent.cons Z.k (Ent.roD Z.p (Ent.pu ⟨Wl.bestP_no hbp hfd (by omega), by omega⟩ Z.f)))
                       )
                     )
                   )
                  ·first | (exfalso; first | omega | (simp at g9; done) | contradiction) | skip
                   all_goals (
                    refine Z.ad 2 ?_
                    refine Z.ag (i + 1, p, b) (by (first | dsimp only | skip); omega) ?_
                    (first | dsimp only | skip)
                    exact Ent.cons Z.k (Ent.cons Z.k (Ent.roD Z.p (Ent.pu ⟨Wl.bestP_no hbp hfd (by omega), by omega⟩ Z.f)))
                   )
                 )
                ·first | (exfalso; first | omega | (simp at g8; done) | contradiction) | skip
                 all_goals (
                  refine Z.ad 2 ?_
                  refine Z.ag (i + 1, p, b) (by (first | dsimp only | skip); omega) ?_
                  (first | dsimp only | skip)
                  exact Ent.cons Z.k (Ent.cons Z.k (Ent.roD Z.p (Ent.pu ⟨Wl.bestP_no hbp hfd (by omega), by omega⟩ Z.f)))
                 )
              )
             ·first | (exfalso; first | omega | (simp at g7; done) | contradiction) | skip
              all_goals (
               refine Z.ef (eff_buildAll (α := Wl.Rec) [] rfl Tryz.underlying38 Tryz.ty71 .nil .nil rfl (Nat.le_of_ble_eq_true rfl)) 5 (fun b103 => ?_)
               refine Z.lo (fun q : Nat × List Wl.Seg × Nat × List Wl.Rec × Int × Int × Option Addr × Nat × Option Addr × Nat => ([pt b10 (.cells #[.int .i64 0, .int .i64 0, .slice none 0 0, .slice none 0 0, .slice none 0 0, .int .i64 0, .int .i64 0, .int .i64 0, .slice none 0 0, vS [], .int .u64 0, .int .u64 0] 43 (0, 0)), pt b13 (.cells (rlC (⟨at_, n, s, q.2.1, [], q.2.2.1, 0, d⟩ : Wl.Lg) r x q.2.2.2.2.2.2.2.2.1 q.2.2.2.2.2.2.2.2.2) 43 (0, 0)), ownS 89 q.2.2.2.2.2.2.2.2.1 q.2.1.length q.2.2.2.2.2.2.2.2.2 q.2.1, ownS 71 q.2.2.2.2.2.2.1 q.2.2.2.1.length q.2.2.2.2.2.2.2.1 q.2.2.2.1, ro (rdR r x), pu (Wl.Ch.run k (Wl.look d.view at_ s n) q.1 ⟨q.2.1, q.2.2.1, q.2.2.2.1, q.2.2.2.2.1⟩ = (Wl.found d at_ s n k) ∧ (q.2.2.2.2.1 = -1 ∨ ∃ j f, q.2.2.2.2.1 = ((j : Nat) : Int) ∧ (Wl.look d.view at_ s n)[j]? = some f ∧ Wl.has q.2.1 f.place = false) ∧ Wl.idle (Wl.look d.view at_ s n) q.2.1 ≤ q.1 ∧ q.1 ≤ 64 ∧ q.2.1.length + q.1 ≤ 64 ∧ q.2.2.2.1.length + 32768 * q.1 ≤ 2097152 ∧ q.2.2.1 < 18446744073709551616 ∧ Wl.Nx d.view at_ s n q.2.2.2.2.1 q.2.2.2.2.2.1), F], [(2, .int .i64 (n : Int)), (4, .int .u64 (k : Int)), (10, .pointer (some ⟨b10, 0, none⟩)), (13, .pointer (some ⟨b13, 0, none⟩)), (14, .int .i64 q.2.2.2.2.2.1), (20, .slice q.2.2.2.2.2.2.1 q.2.2.2.1.length q.2.2.2.2.2.2.2.1)])) (fun q : Nat × List Wl.Seg × Nat × List Wl.Rec × Int × Int × Option Addr × Nat × Option Addr × Nat => q.1) ((Wl.look d.view at_ s n).length, [], k, [], Wl.bestF k (Wl.look d.view at_ s n) (Wl.look d.view at_ s n).length, p, some ⟨b103, 0, none⟩, 0, none, 0) ?_ (fun q => ?_)
               ·(first | dsimp only | skip)
                refine (ownS_nil (α := Wl.Seg) 89).trans ?_
                obtain rfl : n = i := by omega
                exact Ent.cons Z.k (Ent.cons Z.k (Ent.cons Z.k (Ent.cons Z.k (Ent.roD Z.p (Ent.pu ⟨rfl, Wl.first_ok k (Wl.look d.view at_ s n), Wl.idle_len _ _, by omega, by simp; omega, by simp; omega, hk, Wl.bestP_nx hbp⟩ Z.f)))))
               obtain ⟨m, lv, la, out, nx, p, oa, oc, sa, sc⟩ := q
               dsimp only
               refine ht_pick (A := pu (Wl.Ch.run k (Wl.look d.view at_ s n) m ⟨lv, la, out, nx⟩ = (Wl.found d at_ s n k) ∧ (nx = -1 ∨ ∃ j f, nx = ((j : Nat) : Int) ∧ (Wl.look d.view at_ s n)[j]? = some f ∧ Wl.has lv f.place = false) ∧ Wl.idle (Wl.look d.view at_ s n) lv ≤ m ∧ m ≤ 64 ∧ lv.length + m ≤ 64 ∧ out.length + 32768 * m ≤ 2097152 ∧ la < 18446744073709551616 ∧ Wl.Nx d.view at_ s n nx p)) Z.k (ht_pure fun hq => ?_)
               obtain ⟨hrun, hnx, hidle, hm, hlv, hout, hla, hNx⟩ := hq
               refine Z.go 4 ?_
               refine Z.ge 7 10 (fun g12 => ?_) (fun g12 => ?_)
               ·first | (exfalso; first | omega | (simp at g12; done) | contradiction) | skip
                all_goals (
                 rcases hNx with ⟨_, hp⟩ | ⟨j, f, hj, hf, hp, hfd⟩
                 ·exfalso; omega
                 subst hj hp
                 rcases hnx with hx1 | ⟨j2, f2, hj2, hf2, hu0⟩
                 ·exfalso; omega
                 obtain rfl : j = j2 := by omega
                 obtain rfl := fds_get hf hf2
                 have hfw := Wl.fd_ok h5 hs.2 hfd
                 have hil := Wl.idle_lt hu0 hf
                 have hnx2 := Wl.next_ok (lv ++ [f.seg]) (Wl.upTo f.base f.recs.length) (Wl.look d.view at_ s n)
                 have hbl := Wl.behind_len k f.recs
                 have hpl := Wl.look_place d.view at_ s n f (List.mem_of_getElem? hf)
                 refine Z.go 1 ?_
                 refine Z.la 1 ?_
                 have hms : f.place * s + s ≤ n * s := by have h := Nat.mul_le_mul_right s (show f.place + 1 ≤ n by omega); rw [Nat.succ_mul] at h; exact h
                 refine Z.cd (c := ref8_Look (⟨at_, n, s, lv, [], la, 0, d⟩ : Wl.Lg) r x sa sc d V Q h f.place (by show 0 ≤ at_ ∧ at_ + ((f.place * s : Nat) : Int) + (s : Int) ≤ 65536; omega) (by show s ≤ 64; omega) hV h5 f hfd) 12 (fun z => ?_)
                 refine Z.ld 4 ?_
                 refine Z.ev (ev_convI (r := ((f.recs.length : Nat) : Int)) rfl ⟨_, Tryz.underlying3⟩ Tryz.underlying24 rfl (by exact IntWalk.u64_in _ (by omega))) 0 ?_
                 refine Z.ev (ev_build1 (csl := [_, _, _]) rfl Tryz.st89 (.cons rfl (.cons rfl (.cons rfl .nil))) (.cons rfl (.cons rfl (.cons rfl .nil))) rfl rfl) 0 ?_
                 refine Z.ef (eff_buildAll (α := Wl.Seg) [f.seg] rfl Tryz.underlying41 Tryz.ty89 (.cons rfl .nil) (.cons rfl .nil) rfl (Nat.le_of_ble_eq_true rfl)) 0 (fun b121 => ?_)
                 refine Z.ef (eff_append (α := Wl.Seg) rfl Tryz.underlying41 Tryz.ty89 rfl (by decide) Tryz.underlying41 rfl rfl Z.p (by first | exact reads_ro Z.p | exact reads_own Z.p | exact reads_nil _) (by first | omega | (simp only [List.length_append, List.length_cons, List.length_nil, List.length_drop, List.length_take]; omega) | (simp; omega))) 1 (fun p122 => ?_)
                 refine Z.s1 7 ?_
                 refine Z.ev (ev_convI (r := ((f.recs.length : Nat) : Int)) rfl ⟨_, Tryz.underlying3⟩ Tryz.underlying24 rfl (by exact IntWalk.u64_in _ (by omega))) 0 ?_
                 refine Z.ad (r := (((f.base + f.recs.length) % 18446744073709551616 : Nat) : Int)) (hw := by exact add_wrap _ _) 0 ?_
                 refine Z.sb (r := (((Wl.upTo f.base f.recs.length) : Nat) : Int)) (hw := by exact sub_wrap _) 1 ?_
                 refine Z.s1 9 ?_
                 refine Z.lo (fun q : Nat × List Wl.Rec × Option Addr × Nat => ([pt b10 (.cells #[.int .i64 0, .int .i64 0, .slice none 0 0, .slice none 0 0, .slice none 0 0, .int .i64 0, .int .i64 0, .int .i64 0, .slice none 0 0, vS [], .int .u64 0, .int .u64 0] 43 (0, 0)), pt b13 (.cells (rlC (⟨at_, n, s, (lv ++ [f.seg]), [], (Wl.upTo f.base f.recs.length), 0, d⟩ : Wl.Lg) r x p122.1 p122.2) 43 (0, 0)), ownS 89 p122.1 (lv ++ [f.seg]).length p122.2 (lv ++ [f.seg]), ownS 71 q.2.2.1 q.2.1.length q.2.2.2 q.2.1, ro (roS z.1 f.recs.length f.recs), ro (rdR r x), pu (q.2.1 = out ++ Wl.behind k (f.recs.take q.1) ∧ q.1 ≤ f.recs.length), F], [(2, .int .i64 (n : Int)), (4, .int .u64 (k : Int)), (10, .pointer (some ⟨b10, 0, none⟩)), (13, .pointer (some ⟨b13, 0, none⟩)), (20, .slice q.2.2.1 q.2.1.length q.2.2.2), (22, .slice z.1 f.recs.length z.2), (24, .int .i64 q.1)])) (fun q : Nat × List Wl.Rec × Option Addr × Nat => f.recs.length - q.1) (0, out, oa, oc) ?_ (fun q => ?_)
                 ·(first | dsimp only | skip)
                  exact Ent.cons Z.k (Ent.cons Z.k (Ent.cons Z.k (Ent.cons Z.k (Ent.roD Z.p (Ent.roD Z.p (Ent.pu ⟨by simp [Wl.behind], by omega⟩ Z.f))))))
                 obtain ⟨i, acc, aa, ac⟩ := q
                 dsimp only
                 refine ht_pick (A := pu (acc = out ++ Wl.behind k (f.recs.take i) ∧ i ≤ f.recs.length)) Z.k (ht_pure fun hq2 => ?_)
                 obtain ⟨hacc, hi2⟩ := hq2
                 have hal : acc.length ≤ out.length + f.recs.length := by rw [hacc, List.length_append]; have h1 := Wl.behind_len k (f.recs.take i); rw [List.length_take] at h1; omega
                 refine Z.go 6 ?_
                 refine Z.lt 8 9 (fun g13 => ?_) (fun g13 => ?_)
                 ·first | (exfalso; first | omega | (simp at g13; done) | contradiction) | skip
                  all_goals (
                   obtain ⟨rr, hrr⟩ : ∃ r, f.recs[i]? = some r := ⟨_, List.getElem?_eq_getElem (by omega)⟩
                   refine ht_someS (α := Wl.Rec) (a := z.1) (reads_ro Z.p) (by omega) (fun ab ao ha => ?_)
                   refine Z.go 3 ?_
                   refine Z.ev (ev_indexAddr rfl Tryz.underlying38 Tryz.ty71 (congrArg (fun z0 => some (Value.slice z0 f.recs.length z.2)) ha) rfl (by omega) (by omega)) 0 ?_
                   refine Z.ev (by first | exact ev_fieldAddr0 rfl Tryz.fld71_0 rfl | exact ev_fieldAddr rfl Tryz.fld71_0 rfl) 0 ?_
                   refine Z.ld (hc := by exact cell_Sa (α := Wl.Rec) (k := 0) ha (reads_ro Z.p) hrr rfl) 1 ?_
                   refine Z.gt 7 8 (fun g14 => ?_) (fun g14 => ?_)
                   ·first | (exfalso; first | omega | (simp at g14; done) | contradiction) | skip
                    all_goals (
                     refine Z.ev (ev_indexAddr rfl Tryz.underlying38 Tryz.ty71 (congrArg (fun z0 => some (Value.slice z0 f.recs.length z.2)) ha) rfl (by omega) (by omega)) 0 ?_
                     refine Z.la (hc := by exact cells_Sa ha (reads_ro Z.p) hrr) 0 ?_
                     refine Z.ef (eff_buildAll (α := Wl.Rec) [rr] rfl Tryz.underlying38 Tryz.ty71 (.cons rfl .nil) (.cons rfl .nil) rfl (Nat.le_of_ble_eq_true rfl)) 0 (fun b149 => ?_)
                     refine Z.ef (eff_append (α := Wl.Rec) rfl Tryz.underlying38 Tryz.ty71 rfl (by decide) Tryz.underlying38 rfl rfl Z.p (by first | exact reads_ro Z.p | exact reads_own Z.p | exact reads_nil _) (by first | omega | (simp only [List.length_append, List.length_cons, List.length_nil, List.length_drop, List.length_take]; omega) | (simp; omega))) 6 (fun p150 => ?_)
                     refine Z.ad 2 ?_
                     refine Z.ag (i + 1, acc ++ [rr], p150.1, p150.2) (by (first | dsimp only | skip); omega) ?_
                     (first | dsimp only | skip)
                     exact Ent.cons Z.k (Ent.cons Z.k (Ent.cons Z.k (Ent.cons Z.k (Ent.roD Z.p (Ent.roD Z.p (Ent.pu ⟨by rw [Wl.behind_yes hrr (by omega), hacc, List.append_assoc], by omega⟩ Z.f))))))
                    )
                   ·first | (exfalso; first | omega | (simp at g14; done) | contradiction) | skip
                    all_goals (
                     refine Z.ad 2 ?_
                     refine Z.ag (i + 1, acc, aa, ac) (by (first | dsimp only | skip); omega) ?_
                     (first | dsimp only | skip)
                     exact Ent.cons Z.k (Ent.cons Z.k (Ent.cons Z.k (Ent.cons Z.k (Ent.roD Z.p (Ent.roD Z.p (Ent.pu ⟨by rw [Wl.behind_no hrr (by omega), hacc], by omega⟩ Z.f))))))
                    )
                  )
                 ·first | (exfalso; first | omega | (simp at g13; done) | contradiction) | skip
                  all_goals (
                   obtain rfl : i = f.recs.length := by omega
                   rw [List.take_length] at hacc
                   subst hacc
                   refine Z.go 7 ?_
                   refine Z.sb 4 ?_
                   refine Z.lo (fun q : Nat × Int => ([pt b10 (.cells #[.int .i64 0, .int .i64 0, .slice none 0 0, .slice none 0 0, .slice none 0 0, .int .i64 0, .int .i64 0, .int .i64 0, .slice none 0 0, vS [], .int .u64 0, .int .u64 0] 43 (0, 0)), pt b13 (.cells (rlC (⟨at_, n, s, (lv ++ [f.seg]), [], (Wl.upTo f.base f.recs.length), 0, d⟩ : Wl.Lg) r x p122.1 p122.2) 43 (0, 0)), ownS 89 p122.1 (lv ++ [f.seg]).length p122.2 (lv ++ [f.seg]), ownS 71 aa (out ++ Wl.behind k f.recs).length ac (out ++ Wl.behind k f.recs), ro (roS z.1 f.recs.length f.recs), ro (rdR r x), pu (q.2 = Wl.firstP (Wl.okNext (lv ++ [f.seg]) (Wl.upTo f.base f.recs.length)) d.view at_ s (n - q.1) q.1 ∧ q.1 ≤ n), F], [(2, .int .i64 (n : Int)), (4, .int .u64 (k : Int)), (10, .pointer (some ⟨b10, 0, none⟩)), (13, .pointer (some ⟨b13, 0, none⟩)), (14, .int .i64 q.2), (20, .slice aa (out ++ Wl.behind k f.recs).length ac), (25, .int .i64 ((q.1 : Int) - 1))])) (fun q : Nat × Int => q.1) (n, -1) ?_ (fun q => ?_)
                   ·(first | dsimp only | skip)
                    have hnn : n - n = 0 := Nat.sub_self n
                    exact Ent.cons Z.k (Ent.cons Z.k (Ent.cons Z.k (Ent.cons Z.k (Ent.roD Z.p (Ent.roD Z.p (Ent.pu ⟨by rw [hnn]; rfl, by omega⟩ Z.f))))))
                   obtain ⟨qq, np⟩ := q
                   dsimp only
                   refine ht_pick (A := pu (np = Wl.firstP (Wl.okNext (lv ++ [f.seg]) (Wl.upTo f.base f.recs.length)) d.view at_ s (n - qq) qq ∧ qq ≤ n)) Z.k (ht_pure fun hq3 => ?_)
                   obtain ⟨hnp, hqn⟩ := hq3
                   refine Z.go 4 ?_
                   refine Z.ge 8 8 (fun g15 => ?_) (fun g15 => ?_)
                   ·first | (exfalso; first | omega | (simp at g15; done) | contradiction) | skip
                    all_goals (
                     obtain ⟨e, rfl⟩ : ∃ e, qq = e + 1 := ⟨qq - 1, by omega⟩
                     rw [show (((e + 1 : Nat) : Int) - 1) = (e : Int) by omega]
                     rcases hfd2 : Wl.fd d.view at_ s e with _ | g
                     ·skip
                      refine Z.go 1 ?_
                      refine Z.la 1 ?_
                      have hms : e * s + s ≤ n * s := by have h := Nat.mul_le_mul_right s (show e + 1 ≤ n by omega); rw [Nat.succ_mul] at h; exact h
                      refine Z.cd (c := ref8_Look_no (⟨at_, n, s, (lv ++ [f.seg]), [], (Wl.upTo f.base f.recs.length), 0, d⟩ : Wl.Lg) r x p122.1 p122.2 d V Q h e (by show 0 ≤ at_ ∧ at_ + ((e * s : Nat) : Int) + (s : Int) ≤ 65536; omega) (by show s ≤ 64; omega) hV h5 hfd2) 33 (fun _ => ?_)
                      refine Z.sb 2 ?_
                      refine Z.ag (e, np) (by (first | dsimp only | skip); omega) ?_
                      (first | dsimp only | skip)
                      exact Ent.cons Z.k (Ent.cons Z.k (Ent.cons Z.k (Ent.cons Z.k (Ent.roD Z.p (Ent.roD Z.p (Ent.pu ⟨by rw [show n - e = (n - (e + 1)) + 1 by omega]; exact hnp.trans (Wl.firstP_no1 hfd2).symm, by omega⟩ Z.f))))))
                     ·skip
                      have hgw := Wl.fd_ok h5 hs.2 hfd2
                      refine Z.go 1 ?_
                      refine Z.la 1 ?_
                      have hms : e * s + s ≤ n * s := by have h := Nat.mul_le_mul_right s (show e + 1 ≤ n by omega); rw [Nat.succ_mul] at h; exact h
                      refine Z.cd (c := ref8_Look (⟨at_, n, s, (lv ++ [f.seg]), [], (Wl.upTo f.base f.recs.length), 0, d⟩ : Wl.Lg) r x p122.1 p122.2 d V Q h e (by show 0 ≤ at_ ∧ at_ + ((e * s : Nat) : Int) + (s : Int) ≤ 65536; omega) (by show s ≤ 64; omega) hV h5 g hfd2) 15 (fun z3 => ?_)
                      refine Z.ld 0 ?_
                      refine Z.ad (r := ((((Wl.upTo f.base f.recs.length) + 1) % 18446744073709551616 : Nat) : Int)) (hw := by exact add_wrap _ 1) 0 ?_
                      refine Z.eq 2 15 (fun g16 => ?_) (fun g16 => ?_)
                      ·skip
                       refine Z.la 1 ?_
                       rcases hu : Wl.has (lv ++ [f.seg]) (e : Int) with _ | _
                       ·skip
                        refine Z.cd (c := ref8_UsedO (⟨at_, n, s, (lv ++ [f.seg]), [], (Wl.upTo f.base f.recs.length), 0, d⟩ : Wl.Lg) r x p122.1 p122.2 (e : Int) false (by show (lv ++ [f.seg]).length ≤ 1000000; rw [List.length_append]; simp; omega) hu) 13 (fun _ => ?_)
                        refine Z.sb 2 ?_
                        refine Z.ag (e, (e : Int)) (by (first | dsimp only | skip); omega) ?_
                        (first | dsimp only | skip)
                        exact Ent.cons Z.k (Ent.cons Z.k (Ent.cons Z.k (Ent.cons Z.k (Ent.roD Z.p (Ent.roD Z.p (Ent.pu ⟨by rw [show n - e = (n - (e + 1)) + 1 by omega]; exact (Wl.firstP_yes hfd2 (by rw [Wl.okNext_is (b := false) (by omega) (by rw [Wl.fd_place hfd2]; exact hu)] <;> rfl)).symm, by omega⟩ Z.f))))))
                       ·skip
                        refine Z.cd (c := ref8_UsedO (⟨at_, n, s, (lv ++ [f.seg]), [], (Wl.upTo f.base f.recs.length), 0, d⟩ : Wl.Lg) r x p122.1 p122.2 (e : Int) true (by show (lv ++ [f.seg]).length ≤ 1000000; rw [List.length_append]; simp; omega) hu) 10 (fun _ => ?_)
                        refine Z.sb 2 ?_
                        refine Z.ag (e, np) (by (first | dsimp only | skip); omega) ?_
                        (first | dsimp only | skip)
                        exact Ent.cons Z.k (Ent.cons Z.k (Ent.cons Z.k (Ent.cons Z.k (Ent.roD Z.p (Ent.roD Z.p (Ent.pu ⟨by rw [show n - e = (n - (e + 1)) + 1 by omega]; exact hnp.trans (Wl.firstP_no2 hfd2 (by rw [Wl.okNext_is (b := true) (by omega) (by rw [Wl.fd_place hfd2]; exact hu)] <;> rfl)).symm, by omega⟩ Z.f))))))
                      ·skip
                       refine Z.sb 2 ?_
                       refine Z.ag (e, np) (by (first | dsimp only | skip); omega) ?_
                       (first | dsimp only | skip)
                       exact Ent.cons Z.k (Ent.cons Z.k (Ent.cons Z.k (Ent.cons Z.k (Ent.roD Z.p (Ent.roD Z.p (Ent.pu ⟨by rw [show n - e = (n - (e + 1)) + 1 by omega]; exact hnp.trans (Wl.firstP_no2 hfd2 (Wl.okNext_no (by omega))).symm, by omega⟩ Z.f))))))
                    )
                   ·first | (exfalso; first | omega | (simp at g15; done) | contradiction) | skip
                    all_goals (
                     refine Z.ag (m - 1, (lv ++ [f.seg]), (Wl.upTo f.base f.recs.length), (out ++ Wl.behind k f.recs), (Wl.pos (Wl.okNext (lv ++ [f.seg]) (Wl.upTo f.base f.recs.length)) (Wl.look d.view at_ s n) 0), np, aa, ac, p122.1, p122.2) (by (first | dsimp only | skip); omega) ?_
                     (first | dsimp only | skip)
                     exact Ent.cons Z.k (Ent.cons Z.k (Ent.cons Z.k (Ent.cons Z.k (Ent.roD Z.p (Ent.pu ⟨by rw [← hrun, show m = (m - 1) + 1 by omega, Wl.Ch.run_go hf]; rfl, hnx2, by omega, by omega, by rw [List.length_append]; simp; omega, by rw [List.length_append]; omega, Nat.mod_lt _ (by decide), by rw [hnp, show qq = 0 by omega]; exact Wl.nx_first n⟩ Z.f)))))
                    )
                  )
                )
               ·first | (exfalso; first | omega | (simp at g12; done) | contradiction) | skip
                all_goals (
                 have hneg : nx < 0 := by rcases hNx with ⟨hj, hp⟩ | ⟨j, f, hj, hf, hp, hfd⟩ <;> omega
                 have hC : (⟨lv, la, out, nx⟩ : Wl.Ch) = (Wl.found d at_ s n k) := by rw [← hrun, Wl.Ch.run_stop hneg]
                 obtain rfl : lv = (Wl.found d at_ s n k).live := by rw [← hC]
                 obtain rfl : la = (Wl.found d at_ s n k).last := by rw [← hC]
                 obtain rfl : out = (Wl.found d at_ s n k).out := by rw [← hC]
                 refine Z.go 5 ?_
                 refine Z.lo (fun q : Nat × Rf.RDisk × RX => ([pt b10 (.cells #[.int .i64 0, .int .i64 0, .slice none 0 0, .slice none 0 0, .slice none 0 0, .int .i64 0, .int .i64 0, .int .i64 0, .slice none 0 0, vS [], .int .u64 0, .int .u64 0] 43 (0, 0)), pt b13 (.cells (rlC (⟨at_, n, s, (Wl.found d at_ s n k).live, [], (Wl.found d at_ s n k).last, 0, d⟩ : Wl.Lg) q.2.1 q.2.2 sa sc) 43 (0, 0)), ownS 89 sa (Wl.found d at_ s n k).live.length sc (Wl.found d at_ s n k).live, ownS 71 oa (Wl.found d at_ s n k).out.length oc (Wl.found d at_ s n k).out, ro (rdR q.2.1 q.2.2), pu (Wl.RD q.2.1 (Wl.freeUn d at_ s (Wl.found d at_ s n k).live q.1) V (Q + q.1 * s) ∧ q.1 ≤ n), F], [(2, .int .i64 (n : Int)), (4, .int .u64 (k : Int)), (10, .pointer (some ⟨b10, 0, none⟩)), (13, .pointer (some ⟨b13, 0, none⟩)), (20, .slice oa (Wl.found d at_ s n k).out.length oc), (29, .int .i64 q.1)])) (fun q : Nat × Rf.RDisk × RX => n - q.1) (0, r, x) ?_ (fun q => ?_)
                 ·(first | dsimp only | skip)
                  exact Ent.cons Z.k (Ent.cons Z.k (Ent.cons Z.k (Ent.cons Z.k (Ent.roD Z.k (Ent.pu ⟨h.mono (Nat.le_refl _) (by omega), by omega⟩ Z.f)))))
                 obtain ⟨q, r2, y⟩ := q
                 dsimp only
                 refine ht_pick (A := pu (Wl.RD r2 (Wl.freeUn d at_ s (Wl.found d at_ s n k).live q) V (Q + q * s) ∧ q ≤ n)) Z.k (ht_pure fun hq4 => ?_)
                 obtain ⟨hr2, hqn4⟩ := hq4
                 have hv3 := hr2.view
                 have hv4 := hr2.all
                 have hqs : q * s ≤ n * s := Nat.mul_le_mul_right s hqn4
                 refine Z.go 5 ?_
                 refine Z.lt 9 10 (fun g17 => ?_) (fun g17 => ?_)
                 ·first | (exfalso; first | omega | (simp at g17; done) | contradiction) | skip
                  all_goals (
                   refine Z.la 1 ?_
                   rcases hu4 : Wl.has (Wl.found d at_ s n k).live (q : Int) with _ | _
                   ·skip
                    refine Z.cd (c := ref8_UsedO (⟨at_, n, s, (Wl.found d at_ s n k).live, [], (Wl.found d at_ s n k).last, 0, d⟩ : Wl.Lg) r2 y sa sc (q : Int) false (by show (Wl.found d at_ s n k).live.length ≤ 1000000; omega) hu4) 5 (fun _ => ?_)
                    refine Z.la 1 ?_
                    have hms : q * s + s ≤ n * s := by have h := Nat.mul_le_mul_right s (show q + 1 ≤ n by omega); rw [Nat.succ_mul] at h; exact h
                    refine Z.cd (c := ref8_free (⟨at_, n, s, (Wl.found d at_ s n k).live, [], (Wl.found d at_ s n k).last, 0, d⟩ : Wl.Lg) r2 y sa sc (Wl.freeUn d at_ s (Wl.found d at_ s n k).live q) V (Q + q * s) hr2 q (q * s) (by push_cast; rfl) (by show 0 ≤ at_ ∧ at_ + ((q * s : Nat) : Int) + (s : Int) ≤ 65536; omega) (by show s ≤ 64; omega) hV (by omega)) 0 (fun z2 => ?_)
                    refine ho_pick (A := pu (Wl.RD z2.1 (Wl.freeAll (Wl.freeUn d at_ s (Wl.found d at_ s n k).live q) (at_ + ((q * s : Nat) : Int)) s) V (Q + q * s + s))) Z.k (ho_pure fun hr3 => ?_)
                    refine Z.sA 5 ?_
                    refine Z.ad 2 ?_
                    refine Z.ag (q + 1, z2.1, z2.2) (by (first | dsimp only | skip); omega) ?_
                    (first | dsimp only | skip)
                    exact Ent.cons Z.k (Ent.cons Z.k (Ent.cons Z.k (Ent.cons Z.k (Ent.roD Z.k (Ent.pu ⟨by rw [show Wl.freeUn d at_ s (Wl.found d at_ s n k).live (q + 1) = (if Wl.has (Wl.found d at_ s n k).live (q : Int) then (Wl.freeUn d at_ s (Wl.found d at_ s n k).live q) else Wl.freeAll (Wl.freeUn d at_ s (Wl.found d at_ s n k).live q) (at_ + ((q * s : Nat) : Int)) s) from rfl, hu4]; exact hr3.mono (Nat.le_refl _) (by rw [Nat.succ_mul]; omega), by omega⟩ Z.f)))))
                   ·skip
                    refine Z.cd (c := ref8_UsedO (⟨at_, n, s, (Wl.found d at_ s n k).live, [], (Wl.found d at_ s n k).last, 0, d⟩ : Wl.Lg) r2 y sa sc (q : Int) true (by show (Wl.found d at_ s n k).live.length ≤ 1000000; omega) hu4) 9 (fun _ => ?_)
                    refine Z.ad 2 ?_
                    refine Z.ag (q + 1, r2, y) (by (first | dsimp only | skip); omega) ?_
                    (first | dsimp only | skip)
                    exact Ent.cons Z.k (Ent.cons Z.k (Ent.cons Z.k (Ent.cons Z.k (Ent.roD Z.k (Ent.pu ⟨by rw [show Wl.freeUn d at_ s (Wl.found d at_ s n k).live (q + 1) = (if Wl.has (Wl.found d at_ s n k).live (q : Int) then (Wl.freeUn d at_ s (Wl.found d at_ s n k).live q) else Wl.freeAll (Wl.freeUn d at_ s (Wl.found d at_ s n k).live q) (at_ + ((q * s : Nat) : Int)) s) from rfl, hu4]; exact hr2.mono (Nat.le_refl _) (by rw [Nat.succ_mul]; omega), by omega⟩ Z.f)))))
                  )
                 ·first | (exfalso; first | omega | (simp at g17; done) | contradiction) | skip
                  all_goals (
                   obtain rfl : n = q := by omega
                   refine Z.go 2 ?_
                   refine Z.ld 1 ?_
                   refine Z.lt 6 7 (fun g194 => ?_) (fun g194 => ?_)
                   ·first | (exfalso; first | omega | (simp at g194; done) | contradiction) | skip
                    all_goals (
                     refine Z.s1 4 ?_
                     refine Z.la 0 ?_
                     refine Z.cd (c := ref8_Sync (⟨at_, n, s, (Wl.found d at_ s n k).live, [], _, 0, Wl.freeUn d at_ s (Wl.found d at_ s n k).live n⟩ : Wl.Lg) r2 y sa sc) 1 (fun _ => ?_)
                     refine Z.sA 5 ?_
                     dsimp only at g194
                     rw [show max (Wl.found d at_ s n k).last k = k by omega]
                     refine hx_freezeS (α := Wl.Rec) (xs := (Wl.found d at_ s n k).out) Z.k ?_
                     refine hx_freezeS (α := Wl.Seg) (xs := (Wl.found d at_ s n k).live) Z.k ?_
                     exact hx_ret3A (.inl rfl) rfl rfl rfl rfl Tryz.underlying43 Tryz.ty43 rfl (cells_pt Z.p (Nat.le_of_ble_eq_true rfl) rfl) (r2.sync, ⟨y.va, y.vc, y.va, y.vc, none, 0⟩, sa, sc, oa, oc) rfl (Ent.roD Z.k (Ent.roD Z.k (Ent.roD Z.k (Ent.pu hr2.sync Z.f))))
                    )
                   ·first | (exfalso; first | omega | (simp at g194; done) | contradiction) | skip
                    all_goals (
                     refine Z.la 0 ?_
                     refine Z.cd (c := ref8_Sync (⟨at_, n, s, (Wl.found d at_ s n k).live, [], _, 0, Wl.freeUn d at_ s (Wl.found d at_ s n k).live n⟩ : Wl.Lg) r2 y sa sc) 1 (fun _ => ?_)
                     refine Z.sA 5 ?_
                     dsimp only at g194
                     rw [show max (Wl.found d at_ s n k).last k = (Wl.found d at_ s n k).last by omega]
                     refine hx_freezeS (α := Wl.Rec) (xs := (Wl.found d at_ s n k).out) Z.k ?_
                     refine hx_freezeS (α := Wl.Seg) (xs := (Wl.found d at_ s n k).live) Z.k ?_
                     exact hx_ret3A (.inl rfl) rfl rfl rfl rfl Tryz.underlying43 Tryz.ty43 rfl (cells_pt Z.p (Nat.le_of_ble_eq_true rfl) rfl) (r2.sync, ⟨y.va, y.vc, y.va, y.vc, none, 0⟩, sa, sc, oa, oc) rfl (Ent.roD Z.k (Ent.roD Z.k (Ent.roD Z.k (Ent.pu hr2.sync Z.f))))
                    )
                  )
                )
              )
            )
          )
        )
      )
    )
  )
end Go.Proofs.YtlejcepbcfijiaaGreatDoor
