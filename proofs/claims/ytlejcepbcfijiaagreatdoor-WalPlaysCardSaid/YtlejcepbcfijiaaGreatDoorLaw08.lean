/-
  LAW 08 (wal): the walks of awake and WalPlaces. Conditions: as each contract says.
-/
import Derived.Test.YtlejcepbcfijiaaGreatDoorWal2
import Derived.Test.YtlejcepbcfijiaaGreatDoorWalK
set_option maxRecDepth 100000
set_option linter.unusedVariables false
set_option linter.unusedSimpArgs false
namespace Go.Proofs.YtlejcepbcfijiaaGreatDoor
open Go Go.SL

theorem law_awake08 : Ctr Tryz.prog 6 #[] [ro bitsR] (fun _ : Unit => .bool true) (fun _ => []) := by
 refine Z.fn Tryz.func6 Tryz.ntmps6 (fun κ F => ?_)
 obtain ⟨l1, l2, hA1, hA2, hok0, hok1, hlast, hpl, hout, hmx, hlv⟩ := Wl.aw08
 refine Z.go 7 ?_
 refine Z.cd (c := disk_New 9 (by omega)) 11 (fun b0 => ?_)
 refine Z.ne 0 12 (fun g1 => ?_) (fun g1 => ?_)
 ·(exfalso; first | omega | (simp at g1; done) | contradiction)
 ·first | (exfalso; first | omega | (simp at g1; done) | contradiction) | skip
  all_goals (
   refine Z.cd (c := wal_Open b0 2 1 0 0 (Dk.Disk.new 9) (by decide) (by decide) (by decide) (by decide) (by decide)) 0 (fun y => ?_)
   rw [Wl.found_none rfl, Wl.open_new]
   dsimp only
   rw [show max 0 0 = 0 from rfl]
   refine Z.og 13 ?_
   refine Z.ne 0 7 (fun g2 => ?_) (fun g2 => ?_)
   ·(exfalso; first | omega | (simp at g2; done) | contradiction)
   ·first | (exfalso; first | omega | (simp at g2; done) | contradiction) | skip
    all_goals (
     refine Z.gt 0 9 (fun g3 => ?_) (fun g3 => ?_)
     ·(exfalso; first | omega | (simp at g3; done) | contradiction)
     ·first | (exfalso; first | omega | (simp at g3; done) | contradiction) | skip
      all_goals (
       refine Z.cd (c := wal_Append y.1 b0 Wl.lg0 [97] hok0.1 hok0.2 (by decide)) 0 (fun _ => ?_)
       rw [hA1]
       dsimp only
       refine Z.og 10 ?_
       refine Z.cd (c := wal_Append y.1 b0 l1 [98] hok1.1 hok1.2 (by decide)) 0 (fun _ => ?_)
       rw [hA2]
       dsimp only
       refine Z.og 10 ?_
       refine Z.cd (c := wal_Sync y.1 (lgOf b0 l2) l2.d) 0 (fun _ => ?_)
       dsimp only
       refine Z.og 5 ?_
       refine ho_ent (Ent.roTrue (ψ := roS (α := Int × Int) none 0 []) (fun r => SliceIn.empty _ _) (Ent.refl _)) ?_
       refine Z.cd (c := disk_Crash b0 l2.d.sync none 0 [] (by decide) (by show 0 < 4294967296; decide)) 5 (fun _ => ?_)
       refine Z.cd (c := wal_Open b0 2 1 1 0 (l2.d.sync.crash []) (by decide) (by decide) (by decide) (by decide) (by show 0 ≤ 900000; decide)) 0 (fun z => ?_)
       rw [hout, hmx]
       refine Z.og 12 ?_
       refine Z.eq 2 0 (fun g4 => ?_) (fun g4 => ?_)
       ·first | (exfalso; first | omega | (simp at g4; done) | contradiction) | skip
        all_goals (
         refine Z.eq 3 0 (fun g5 => ?_) (fun g5 => ?_)
         ·first | (exfalso; first | omega | (simp at g5; done) | contradiction) | skip
          all_goals (
           refine Z.eq 3 0 (fun g6 => ?_) (fun g6 => ?_)
           ·first | (exfalso; first | omega | (simp at g6; done) | contradiction) | skip
            all_goals (
             refine Z.eq 3 0 (fun g7 => ?_) (fun g7 => ?_)
             ·first | (exfalso; first | omega | (simp at g7; done) | contradiction) | skip
              all_goals (
               refine Z.cd (c := wal_Synced y.1 (⟨b0, l2.at_, l2.n, l2.size, l2.live, l2.stream, l2.last, l2.last⟩ : LG)) 0 (fun _ => ?_)
               dsimp only
               refine Z.eq 7 0 (fun g8 => ?_) (fun g8 => ?_)
               ·first | (exfalso; first | omega | (simp at g8; done) | contradiction) | skip
                all_goals (
                 refine Z.ev (ev_build1 (csl := [_, _]) rfl Tryz.st71 (.cons rfl (.cons rfl .nil)) (.cons rfl (.cons rfl .nil)) rfl rfl) 0 ?_
                 refine Z.ef (eff_buildAll (α := Wl.Rec) [(⟨2, [98]⟩ : Wl.Rec)] rfl Tryz.underlying38 Tryz.ty71 (.cons rfl .nil) (.cons rfl .nil) rfl (Nat.le_of_ble_eq_true rfl)) 0 (fun b86 => ?_)
                 refine ho_freezeS (α := Wl.Rec) Z.p ?_
                 refine Z.cd (c := wal_Same z.2.1 _ z.2.2 _ [⟨2, [98]⟩] (by decide)) 3 (fun _ => ?_)
                 refine Z.eq 3 0 (fun g9 => ?_) (fun g9 => ?_)
                 ·first | (exfalso; first | omega | (simp at g9; done) | contradiction) | skip
                  all_goals (
                   refine Z.cd (c := wal_Last z.1 (⟨b0, 0, 2, 1, (Wl.found (l2.d.sync.crash []) 0 1 2 1).live, [], 2, 2⟩ : LG)) 0 (fun _ => ?_)
                   dsimp only
                   refine Z.eq 3 0 (fun g10 => ?_) (fun g10 => ?_)
                   ·first | (exfalso; first | omega | (simp at g10; done) | contradiction) | skip
                    all_goals (
                     refine Z.cd (c := wal_Live z.1 (⟨b0, 0, 2, 1, (Wl.found (l2.d.sync.crash []) 0 1 2 1).live, [], 2, 2⟩ : LG)) 0 (fun _ => ?_)
                     dsimp only
                     refine Z.eq 5 0 (fun g11 => ?_) (fun g11 => ?_)
                     ·first | (exfalso; first | omega | (simp at g11; done) | contradiction) | skip
                      all_goals (
                       exact hx_ret1 (.inl rfl) rfl rfl () rfl Z.f
                      )
                     ·(exfalso; first | omega | (simp at g11; done) | contradiction)
                    )
                   ·(exfalso; first | omega | (simp at g10; done) | contradiction)
                  )
                 ·(exfalso; first | omega | (simp at g9; done) | contradiction)
                )
               ·(exfalso; first | omega | (simp at g8; done) | contradiction)
              )
             ·(exfalso; first | omega | (simp at g7; done) | contradiction)
            )
           ·(exfalso; first | omega | (simp at g6; done) | contradiction)
          )
         ·(exfalso; first | omega | (simp at g5; done) | contradiction)
        )
       ·(exfalso; first | omega | (simp at g4; done) | contradiction)
      )
    )
  )
end Go.Proofs.YtlejcepbcfijiaaGreatDoor
