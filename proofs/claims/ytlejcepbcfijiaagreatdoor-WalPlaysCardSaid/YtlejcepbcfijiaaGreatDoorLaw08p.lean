/-
  LAW 08 (wal): the walk of WalPlays. Conditions: as its contract says.
-/
import Derived.Test.YtlejcepbcfijiaaGreatDoorLaw08
import Derived.Test.YtlejcepbcfijiaaGreatDoorWal3
import Derived.Test.YtlejcepbcfijiaaGreatDoorRef08o
import Derived.Test.YtlejcepbcfijiaaGreatDoorRef08a
import Derived.Test.YtlejcepbcfijiaaGreatDoorWalP
set_option maxRecDepth 100000
set_option linter.unusedVariables false
set_option linter.unusedSimpArgs false
namespace Go.Proofs.YtlejcepbcfijiaaGreatDoor
open Go Go.SL


/-- an act in memory -/
structure ActW where mk ::
  kind : Int
  limit : Int
  seq : Nat
  b : List UInt8
  la : Option Addr
  lc : Nat
  l : List (Int × Int)
instance : Enc ActW := ⟨5, fun x => [.int .i64 x.kind, .int .i64 x.limit, .int .u64 (x.seq : Int), vS x.b, .slice x.la x.l.length x.lc], fun _ => rfl, fun x v h => by simp at h; rcases h with rfl | rfl | rfl | rfl | rfl <;> rfl, by decide⟩
abbrev ActW.val (x : ActW) : Value := .agg #[.int .i64 x.kind, .int .i64 x.limit, .int .u64 (x.seq : Int), vS x.b, .slice x.la x.l.length x.lc]
structure ActWOk (r : Part) (x : ActW) : Prop where mk ::
  seq : x.seq < 18446744073709551616
  lc : x.l.length ≤ x.lc
  l : SliceIn r x.la x.l.length x.l
def actWs (xs : List ActW) : RoP := ⟨fun r => ∀ x ∈ xs, ActWOk r x, fun h k x hx => let a := h x hx; ⟨a.seq, a.lc, a.l.mono k⟩⟩
section
variable {P : Program} {κ : World} {n : Nat} {L R : List Assn} {ρ : Env} {Q : Exit → Act → World → Prop}
theorem ht_actW {c : Code} {xs : List ActW} {i : Nat} (hi : i < xs.length) (k : Pick (ro (actWs xs)) L R) (h : ∀ x, xs[i]? = some x → x.seq < 18446744073709551616 → x.l.length ≤ x.lc → HT P κ n (ro (roS x.la x.l.length x.l) :: L) ρ c Q) : HT P κ n L ρ c Q := fun a w ha hw => by
  obtain ⟨p, r, h1, h2, h3, h4⟩ := hw.sep
  obtain ⟨p1, p2, k1, k2, k3, hA, hL⟩ := k.sep h4
  have e := List.getElem?_eq_getElem hi
  have hx : ActWOk r xs[i] := hA _ (List.getElem_mem hi)
  exact h _ e hx.seq hx.lc a w ha ⟨hw.os, hw.tape, hw.output, p, r, h1, h2, h3, Sep.addRo (φ := roS _ _ _) hx.l h4⟩
end

theorem law_few08 (x : ActW) (hc : x.l.length ≤ x.lc) : Ctr Tryz.prog 10 #[x.val] [ro (roS x.la x.l.length x.l)] (fun y : ActW => y.val) (fun y => [ro (roS y.la y.l.length y.l), pu (y.b.length ≤ 1500 ∧ y.l.length ≤ 60 ∧ y.l.length ≤ y.lc ∧ y.seq = x.seq)]) := by
 refine Z.fn Tryz.func10 Tryz.ntmps10 (fun κ F => ?_)
 refine Z.go 2 ?_
 refine Z.bA 0 (fun b1 => ?_)
 refine Z.al 6 (fun b2 => ?_)
 refine Z.ld 1 ?_
 refine Z.gt 5 9 (fun g1 => ?_) (fun g1 => ?_)
 ·first | (exfalso; first | omega | (simp at g1; done) | contradiction) | skip
  all_goals (
   refine Z.ld 0 ?_
   refine Z.ev (ev_sliceS (j := 1500) rfl Tryz.underlying9 rfl rfl ⟨_, rfl⟩ (by omega) (by omega)) 1 ?_
   refine Z.s1 6 ?_
   refine Z.ld 1 ?_
   refine Z.gt 5 7 (fun g2 => ?_) (fun g2 => ?_)
   ·first | (exfalso; first | omega | (simp at g2; done) | contradiction) | skip
    all_goals (
     refine Z.ld 0 ?_
     refine Z.ef (eff_slice (α := (Int × Int)) (j := 60) rfl Tryz.underlying47 Tryz.ty104 rfl Z.p rfl ⟨_, rfl⟩ rfl (by decide) (by omega) (by omega) (by omega) (by omega)) 1 (fun a17 => ?_)
     refine Z.s1 4 ?_
     refine Z.la 0 ?_
     refine Z.sA 3 ?_
     refine hx_ret1A (.inl rfl) rfl rfl Tryz.underlying49 Tryz.ty49 rfl (cells_pt Z.p (Nat.le_of_ble_eq_true rfl) rfl) (⟨x.kind, x.limit, x.seq, ((x.b.take 1500).drop 0), a17, (x.lc - 0), ((x.l.take 60).drop 0)⟩ : ActW) rfl ?_
     exact Ent.roD Z.k (Ent.pu ⟨by first | omega | (simp; omega), by first | omega | (simp; omega), by first | omega | (simp; omega), rfl⟩ Z.f)
    )
   ·first | (exfalso; first | omega | (simp at g2; done) | contradiction) | skip
    all_goals (
     refine Z.la 0 ?_
     refine Z.sA 3 ?_
     refine hx_ret1A (.inl rfl) rfl rfl Tryz.underlying49 Tryz.ty49 rfl (cells_pt Z.p (Nat.le_of_ble_eq_true rfl) rfl) (⟨x.kind, x.limit, x.seq, ((x.b.take 1500).drop 0), x.la, x.lc, x.l⟩ : ActW) rfl ?_
     exact Ent.roD Z.k (Ent.pu ⟨by first | omega | (simp; omega), by first | omega | (simp; omega), by first | omega | (simp; omega), rfl⟩ Z.f)
    )
  )
 ·first | (exfalso; first | omega | (simp at g1; done) | contradiction) | skip
  all_goals (
   refine Z.ld 1 ?_
   refine Z.gt 5 7 (fun g3 => ?_) (fun g3 => ?_)
   ·first | (exfalso; first | omega | (simp at g3; done) | contradiction) | skip
    all_goals (
     refine Z.ld 0 ?_
     refine Z.ef (eff_slice (α := (Int × Int)) (j := 60) rfl Tryz.underlying47 Tryz.ty104 rfl Z.p rfl ⟨_, rfl⟩ rfl (by decide) (by omega) (by omega) (by omega) (by omega)) 1 (fun a17 => ?_)
     refine Z.s1 4 ?_
     refine Z.la 0 ?_
     refine Z.sA 3 ?_
     refine hx_ret1A (.inl rfl) rfl rfl Tryz.underlying49 Tryz.ty49 rfl (cells_pt Z.p (Nat.le_of_ble_eq_true rfl) rfl) (⟨x.kind, x.limit, x.seq, x.b, a17, (x.lc - 0), ((x.l.take 60).drop 0)⟩ : ActW) rfl ?_
     exact Ent.roD Z.k (Ent.pu ⟨by first | omega | (simp; omega), by first | omega | (simp; omega), by first | omega | (simp; omega), rfl⟩ Z.f)
    )
   ·first | (exfalso; first | omega | (simp at g3; done) | contradiction) | skip
    all_goals (
     refine Z.la 0 ?_
     refine Z.sA 3 ?_
     refine hx_ret1A (.inl rfl) rfl rfl Tryz.underlying49 Tryz.ty49 rfl (cells_pt Z.p (Nat.le_of_ble_eq_true rfl) rfl) (⟨x.kind, x.limit, x.seq, x.b, x.la, x.lc, x.l⟩ : ActW) rfl ?_
     exact Ent.roD Z.k (Ent.pu ⟨by first | omega | (simp; omega), by first | omega | (simp; omega), by first | omega | (simp; omega), rfl⟩ Z.f)
    )
  )
set_option maxHeartbeats 2000000 in
theorem law_WalPlays (v0 at_ n s : Int) (k : Nat) (hk0 : k < 18446744073709551616) (aa : Option Addr) (ac : Nat) (xs : List ActW) : Ctr Tryz.prog 3 #[.agg #[.int .i64 v0, .int .i64 at_, .int .i64 n, .int .i64 s], .int .u64 (k : Int), .slice aa xs.length ac] [ro bitsR, ro (roS aa xs.length xs), ro (actWs xs)] (fun _ : Unit => .bool true) (fun _ => []) := by
 refine Z.fn Tryz.func3 Tryz.ntmps3 (fun κ F => ?_)
 rcases (show (v0 < 1 ∨ 65536 < v0) ∨ ((1 ≤ v0 ∧ v0 ≤ 65536) ∧ 10 < n) ∨ ((1 ≤ v0 ∧ v0 ≤ 65536) ∧ n ≤ 10 ∧ 4 < s) ∨ ((1 ≤ v0 ∧ v0 ≤ 65536) ∧ n ≤ 10 ∧ s ≤ 4 ∧ 4611686018427387904 < k) ∨ ((1 ≤ v0 ∧ v0 ≤ 65536) ∧ (n ≤ 10 ∧ s ≤ 4 ∧ k ≤ 4611686018427387904) ∧ ¬ (2 ≤ n ∧ n ≤ 64 ∧ 1 ≤ s ∧ s ≤ 64 ∧ 0 ≤ at_ ∧ at_ ≤ 65536 - n * s)) ∨ ((1 ≤ v0 ∧ v0 ≤ 65536) ∧ (n ≤ 10 ∧ s ≤ 4 ∧ k ≤ 4611686018427387904) ∧ (2 ≤ n ∧ n ≤ 64 ∧ 1 ≤ s ∧ s ≤ 64 ∧ 0 ≤ at_ ∧ at_ ≤ 65536 - n * s)) by by_cases hpp : 2 ≤ n ∧ n ≤ 64 ∧ 1 ≤ s ∧ s ≤ 64 ∧ 0 ≤ at_ ∧ at_ ≤ 65536 - n * s <;> omega) with hn | ⟨hn, hb⟩ | ⟨hn, hb⟩ | ⟨hn, hb⟩ | ⟨hn, hsm, hb⟩ | ⟨hn, hsm, hb⟩
 ·skip
  refine Z.go 2 ?_
  refine Z.bA 6 (fun b3 => ?_)
  refine Z.ld 0 ?_
  refine Z.cd (c := disk_New_no v0 hn) 10 (fun _ => ?_)
  refine Z.ld 0 ?_
  refine Z.cd (c := rf_New_no v0 hn) 3 (fun _ => ?_)
  refine Z.al 0 (fun b9 => ?_)
  refine Z.sA 6 ?_
  refine Z.cd (c := law_awake08) 4 (fun _ => ?_)
  refine Z.ne 0 3 (fun g1 => ?_) (fun g1 => ?_)
  ·(exfalso; first | omega | (simp at g1; done) | contradiction)
  ·first | (exfalso; first | omega | (simp at g1; done) | contradiction) | skip
   all_goals (
    refine Z.ne 10 0 (fun g2 => ?_) (fun g2 => ?_)
    ·first | (exfalso; first | omega | (simp at g2; done) | contradiction) | skip
     all_goals (
      refine Z.cd (c := law_awake08) 3 (fun _ => ?_)
      refine Z.eq 6 0 (fun g3 => ?_) (fun g3 => ?_)
      ·first | (exfalso; first | omega | (simp at g3; done) | contradiction) | skip
       all_goals (
        exact hx_ret1 (.inl rfl) rfl rfl () rfl Z.f
       )
      ·(exfalso; first | omega | (simp at g3; done) | contradiction)
     )
    ·(exfalso; first | omega | (simp at g2; done) | contradiction)
   )
 ·skip
  refine Z.go 2 ?_
  refine Z.bA 6 (fun b3 => ?_)
  refine Z.ld 0 ?_
  refine Z.cd (c := disk_New v0 (by omega)) 10 (fun b0 => ?_)
  refine Z.ld 0 ?_
  refine Z.cd (c := rf_New v0 (by omega)) 3 (fun _ => ?_)
  refine Z.al 0 (fun b9 => ?_)
  refine Z.sA 6 ?_
  refine Z.cd (c := law_awake08) 4 (fun _ => ?_)
  refine Z.ne 0 3 (fun g1 => ?_) (fun g1 => ?_)
  ·(exfalso; first | omega | (simp at g1; done) | contradiction)
  ·first | (exfalso; first | omega | (simp at g1; done) | contradiction) | skip
   all_goals (
    refine Z.ne 0 14 (fun g2 => ?_) (fun g2 => ?_)
    ·(exfalso; first | omega | (simp at g2; done) | contradiction)
    ·first | (exfalso; first | omega | (simp at g2; done) | contradiction) | skip
     all_goals (
      refine Z.ld 0 ?_
      refine Z.gt 19 0 (fun g3 => ?_) (fun g3 => ?_)
      ·first | (exfalso; first | omega | (simp at g3; done) | contradiction) | skip
       all_goals (
        exact hx_ret1 (.inl rfl) rfl rfl () rfl Z.f
       )
      ·(exfalso; first | omega | (simp at g3; done) | contradiction)
     )
   )
 ·skip
  refine Z.go 2 ?_
  refine Z.bA 6 (fun b3 => ?_)
  refine Z.ld 0 ?_
  refine Z.cd (c := disk_New v0 (by omega)) 10 (fun b0 => ?_)
  refine Z.ld 0 ?_
  refine Z.cd (c := rf_New v0 (by omega)) 3 (fun _ => ?_)
  refine Z.al 0 (fun b9 => ?_)
  refine Z.sA 6 ?_
  refine Z.cd (c := law_awake08) 4 (fun _ => ?_)
  refine Z.ne 0 3 (fun g1 => ?_) (fun g1 => ?_)
  ·(exfalso; first | omega | (simp at g1; done) | contradiction)
  ·first | (exfalso; first | omega | (simp at g1; done) | contradiction) | skip
   all_goals (
    refine Z.ne 0 14 (fun g2 => ?_) (fun g2 => ?_)
    ·(exfalso; first | omega | (simp at g2; done) | contradiction)
    ·first | (exfalso; first | omega | (simp at g2; done) | contradiction) | skip
     all_goals (
      refine Z.ld 0 ?_
      refine Z.gt 0 2 (fun g3 => ?_) (fun g3 => ?_)
      ·(exfalso; first | omega | (simp at g3; done) | contradiction)
      ·first | (exfalso; first | omega | (simp at g3; done) | contradiction) | skip
       all_goals (
        refine Z.ld 0 ?_
        refine Z.gt 15 0 (fun g4 => ?_) (fun g4 => ?_)
        ·first | (exfalso; first | omega | (simp at g4; done) | contradiction) | skip
         all_goals (
          exact hx_ret1 (.inl rfl) rfl rfl () rfl Z.f
         )
        ·(exfalso; first | omega | (simp at g4; done) | contradiction)
       )
     )
   )
 ·skip
  refine Z.go 2 ?_
  refine Z.bA 6 (fun b3 => ?_)
  refine Z.ld 0 ?_
  refine Z.cd (c := disk_New v0 (by omega)) 10 (fun b0 => ?_)
  refine Z.ld 0 ?_
  refine Z.cd (c := rf_New v0 (by omega)) 3 (fun _ => ?_)
  refine Z.al 0 (fun b9 => ?_)
  refine Z.sA 6 ?_
  refine Z.cd (c := law_awake08) 4 (fun _ => ?_)
  refine Z.ne 0 3 (fun g1 => ?_) (fun g1 => ?_)
  ·(exfalso; first | omega | (simp at g1; done) | contradiction)
  ·first | (exfalso; first | omega | (simp at g1; done) | contradiction) | skip
   all_goals (
    refine Z.ne 0 14 (fun g2 => ?_) (fun g2 => ?_)
    ·(exfalso; first | omega | (simp at g2; done) | contradiction)
    ·first | (exfalso; first | omega | (simp at g2; done) | contradiction) | skip
     all_goals (
      refine Z.ld 0 ?_
      refine Z.gt 0 2 (fun g3 => ?_) (fun g3 => ?_)
      ·(exfalso; first | omega | (simp at g3; done) | contradiction)
      ·first | (exfalso; first | omega | (simp at g3; done) | contradiction) | skip
       all_goals (
        refine Z.ld 0 ?_
        refine Z.gt 0 3 (fun g4 => ?_) (fun g4 => ?_)
        ·(exfalso; first | omega | (simp at g4; done) | contradiction)
        ·first | (exfalso; first | omega | (simp at g4; done) | contradiction) | skip
         all_goals (
          refine Z.gt 11 0 (fun g5 => ?_) (fun g5 => ?_)
          ·first | (exfalso; first | omega | (simp at g5; done) | contradiction) | skip
           all_goals (
            exact hx_ret1 (.inl rfl) rfl rfl () rfl Z.f
           )
          ·(exfalso; first | omega | (simp at g5; done) | contradiction)
         )
       )
     )
   )
 ·skip
  have hpl : ¬ (2 ≤ n ∧ n ≤ 64 ∧ 1 ≤ s ∧ s ≤ 64 ∧ 0 ≤ at_ ∧ at_ ≤ 65536 - n * s) := hb
  refine Z.go 2 ?_
  refine Z.bA 6 (fun b3 => ?_)
  refine Z.ld 0 ?_
  refine Z.cd (c := disk_New v0 (by omega)) 10 (fun b0 => ?_)
  refine Z.ld 0 ?_
  refine Z.cd (c := rf_New v0 (by omega)) 3 (fun _ => ?_)
  refine Z.al 0 (fun b9 => ?_)
  refine Z.sA 6 ?_
  refine Z.cd (c := law_awake08) 4 (fun _ => ?_)
  refine Z.ne 0 3 (fun g1 => ?_) (fun g1 => ?_)
  ·(exfalso; first | omega | (simp at g1; done) | contradiction)
  ·first | (exfalso; first | omega | (simp at g1; done) | contradiction) | skip
   all_goals (
    refine Z.ne 0 14 (fun g2 => ?_) (fun g2 => ?_)
    ·(exfalso; first | omega | (simp at g2; done) | contradiction)
    ·first | (exfalso; first | omega | (simp at g2; done) | contradiction) | skip
     all_goals (
      refine Z.ld 0 ?_
      refine Z.gt 0 2 (fun g3 => ?_) (fun g3 => ?_)
      ·(exfalso; first | omega | (simp at g3; done) | contradiction)
      ·first | (exfalso; first | omega | (simp at g3; done) | contradiction) | skip
       all_goals (
        refine Z.ld 0 ?_
        refine Z.gt 0 3 (fun g4 => ?_) (fun g4 => ?_)
        ·(exfalso; first | omega | (simp at g4; done) | contradiction)
        ·first | (exfalso; first | omega | (simp at g4; done) | contradiction) | skip
         all_goals (
          refine Z.gt 0 10 (fun g5 => ?_) (fun g5 => ?_)
          ·(exfalso; first | omega | (simp at g5; done) | contradiction)
          ·first | (exfalso; first | omega | (simp at g5; done) | contradiction) | skip
           all_goals (
            refine Z.ld 1 ?_
            refine Z.ld 1 ?_
            refine Z.ld 1 ?_
            refine Z.cd (c := wal_Open_no b0 at_ n s k hpl) 11 (fun _ => ?_)
            refine Z.la 1 ?_
            refine Z.ld 1 ?_
            refine Z.ld 1 ?_
            refine Z.ld 1 ?_
            refine Z.cd (c := ref8_Open_no (Rf.RDisk.new v0) ⟨none, 0, none, 0, none, 0⟩ at_ n s k hpl) 4 (fun _ => ?_)
            refine Z.al 0 (fun b14 => ?_)
            refine Z.sA 9 ?_
            refine Z.ne 0 3 (fun g6 => ?_) (fun g6 => ?_)
            ·(exfalso; first | omega | (simp at g6; done) | contradiction)
            ·first | (exfalso; first | omega | (simp at g6; done) | contradiction) | skip
             all_goals (
              refine ho_ent (Ent.roTrue (ψ := roS (α := Wl.Rec) none 0 []) (fun r => SliceIn.empty _ _) (Ent.refl _)) ?_
              refine Z.cd (c := wal_Same none none 0 0 [] (by decide)) 6 (fun _ => ?_)
              refine Z.ne 14 0 (fun g7 => ?_) (fun g7 => ?_)
              ·first | (exfalso; first | omega | (simp at g7; done) | contradiction) | skip
               all_goals (
                refine Z.lo (fun q : Unit => ([F], [(2, .slice aa xs.length ac), (11, .pointer none), (17, .int .i64 0)])) (fun q : Unit => 0) () ?_ (fun q => ?_)
                ·(first | dsimp only | skip)
                 exact Z.f
                dsimp only
                refine Z.go 6 ?_
                refine Z.lt 2 22 (fun g8 => ?_) (fun g8 => ?_)
                ·first | (exfalso; first | omega | (simp at g8; done) | contradiction) | skip
                 all_goals (
                  refine Z.lt 19 19 (fun g9 => ?_) (fun g9 => ?_)
                  ·first | (exfalso; first | omega | (simp at g9; done) | contradiction) | skip
                   all_goals (
                    exact hx_ret1 (.inl rfl) rfl rfl () rfl Z.f
                   )
                  ·first | (exfalso; first | omega | (simp at g9; done) | contradiction) | skip
                   all_goals (
                    exact hx_ret1 (.inl rfl) rfl rfl () rfl Z.f
                   )
                 )
                ·first | (exfalso; first | omega | (simp at g8; done) | contradiction) | skip
                 all_goals (
                  exact hx_ret1 (.inl rfl) rfl rfl () rfl Z.f
                 )
               )
              ·(exfalso; first | omega | (simp at g7; done) | contradiction)
             )
           )
         )
       )
     )
   )
 ·skip
  obtain ⟨n, rfl⟩ : ∃ m : Nat, n = (m : Int) := ⟨n.toNat, by omega⟩
  obtain ⟨s, rfl⟩ : ∃ m : Nat, s = (m : Int) := ⟨s.toNat, by omega⟩
  have hns : ((n * s : Nat) : Int) = (n : Int) * (s : Int) := by push_cast; rfl
  have hat : 0 ≤ at_ ∧ at_ + ((n * s : Nat) : Int) ≤ 65536 := by omega
  refine Z.go 2 ?_
  refine Z.bA 6 (fun b3 => ?_)
  refine Z.ld 0 ?_
  refine Z.cd (c := disk_New v0 (by omega)) 10 (fun b0 => ?_)
  refine Z.ld 0 ?_
  refine Z.cd (c := rf_New v0 (by omega)) 3 (fun _ => ?_)
  refine Z.al 0 (fun b9 => ?_)
  refine Z.sA 6 ?_
  refine Z.cd (c := law_awake08) 4 (fun _ => ?_)
  refine Z.ne 0 3 (fun g1 => ?_) (fun g1 => ?_)
  ·(exfalso; first | omega | (simp at g1; done) | contradiction)
  ·first | (exfalso; first | omega | (simp at g1; done) | contradiction) | skip
   all_goals (
    refine Z.ne 0 14 (fun g2 => ?_) (fun g2 => ?_)
    ·(exfalso; first | omega | (simp at g2; done) | contradiction)
    ·first | (exfalso; first | omega | (simp at g2; done) | contradiction) | skip
     all_goals (
      refine Z.ld 0 ?_
      refine Z.gt 0 2 (fun g3 => ?_) (fun g3 => ?_)
      ·(exfalso; first | omega | (simp at g3; done) | contradiction)
      ·first | (exfalso; first | omega | (simp at g3; done) | contradiction) | skip
       all_goals (
        refine Z.ld 0 ?_
        refine Z.gt 0 3 (fun g4 => ?_) (fun g4 => ?_)
        ·(exfalso; first | omega | (simp at g4; done) | contradiction)
        ·first | (exfalso; first | omega | (simp at g4; done) | contradiction) | skip
         all_goals (
          refine Z.gt 0 10 (fun g5 => ?_) (fun g5 => ?_)
          ·(exfalso; first | omega | (simp at g5; done) | contradiction)
          ·first | (exfalso; first | omega | (simp at g5; done) | contradiction) | skip
           all_goals (
            refine Z.ld 1 ?_
            refine Z.ld 1 ?_
            refine Z.ld 1 ?_
            refine Z.cd (c := wal_Open b0 n s k at_ (Dk.Disk.new v0) (by omega) (by omega) hat (by omega) (by show 0 ≤ 900000; decide)) 11 (fun y => ?_)
            refine Z.la 1 ?_
            refine Z.ld 1 ?_
            refine Z.ld 1 ?_
            refine Z.ld 1 ?_
            refine Z.cd (c := ref8_Open (Rf.RDisk.new v0) ⟨none, 0, none, 0, none, 0⟩ (Dk.Disk.new v0) 0 0 (Wl.RD.new v0) (by omega) (by omega) (fun k s e => by cases e) n s k at_ (by omega) (by omega) hat (by omega)) 0 (fun z => ?_)
            refine ho_pick (A := pu (Wl.RD z.1 (Wl.openDisk (Dk.Disk.new v0) at_ s n k) 0 0)) Z.k (ho_pure fun hz => ?_)
            have hp0 : Wl.Plays at_ n s 0 (⟨at_, n, s, (Wl.found (Dk.Disk.new v0) at_ s n k).live, [], max (Wl.found (Dk.Disk.new v0) at_ s n k).last k, max (Wl.found (Dk.Disk.new v0) at_ s n k).last k, Wl.openDisk (Dk.Disk.new v0) at_ s n k⟩ : Wl.Lg) z.1 := Wl.plays_open (fun k s e => by cases e) (by omega) (by omega) (by show k < 18446744073709551616; omega) hz
            refine Z.og 4 ?_
            refine Z.al 0 (fun b14 => ?_)
            refine Z.sA 9 ?_
            refine Z.ne 0 3 (fun g6 => ?_) (fun g6 => ?_)
            ·(exfalso; first | omega | (simp at g6; done) | contradiction)
            ·first | (exfalso; first | omega | (simp at g6; done) | contradiction) | skip
             all_goals (
              refine Z.cd (c := wal_Same y.2.1 z.2.2.2.2.1 y.2.2 z.2.2.2.2.2 (Wl.found (Dk.Disk.new v0) at_ s n k).out (by have := Wl.found_out (d := (Dk.Disk.new v0)) (at_ := at_) (size := s) (n := n) (k := k) (fun k s e => by cases e) (by omega) (by omega); omega)) 6 (fun _ => ?_)
              refine Z.ne 0 14 (fun g7 => ?_) (fun g7 => ?_)
              ·(exfalso; first | omega | (simp at g7; done) | contradiction)
              ·first | (exfalso; first | omega | (simp at g7; done) | contradiction) | skip
               all_goals (
                refine Z.lo (fun q : Nat × Wl.Lg × Rf.RDisk × RX × Option Addr × Nat × Nat => ([DiskAt b0 q.2.1.d, LogAt q.2.2.2.2.2.2 (lgOf b0 q.2.1), ro bitsR, ro (roS aa xs.length xs), ro (actWs xs), pt b3 (.cells #[.int .i64 v0, .int .i64 at_, .int .i64 (n : Int), .int .i64 (s : Int)] 23 (0, 0)), pt b14 (.cells #[.int .i64 q.2.2.1.size, .int .i64 q.2.2.1.limit, .slice q.2.2.2.1.va q.2.2.1.view.length q.2.2.2.1.vc, .slice q.2.2.2.1.ga q.2.2.1.ground.length q.2.2.2.1.gc, .slice q.2.2.2.1.la q.2.2.1.L.length q.2.2.2.1.lc, .int .i64 q.2.1.at_, .int .i64 (q.2.1.n : Int), .int .i64 (q.2.1.size : Int), .slice q.2.2.2.2.1 q.2.1.live.length q.2.2.2.2.2.1, vS q.2.1.stream, .int .u64 (q.2.1.last : Int), .int .u64 (q.2.1.synced : Int)] 43 (0, 0)), ro (rdR q.2.2.1 q.2.2.2.1), ro (roS q.2.2.2.2.1 q.2.1.live.length q.2.1.live), pu (Wl.Plays at_ n s q.1 q.2.1 q.2.2.1 ∧ q.1 ≤ 30 ∧ q.1 ≤ xs.length), F], [(2, .slice aa xs.length ac), (3, .pointer (some ⟨b3, 0, none⟩)), (7, .pointer (some ⟨b0, 0, none⟩)), (11, .pointer (some ⟨q.2.2.2.2.2.2, 0, none⟩)), (14, .pointer (some ⟨b14, 0, none⟩)), (17, .int .i64 q.1)])) (fun q : Nat × Wl.Lg × Rf.RDisk × RX × Option Addr × Nat × Nat => 30 - q.1) (0, (⟨at_, n, s, (Wl.found (Dk.Disk.new v0) at_ s n k).live, [], max (Wl.found (Dk.Disk.new v0) at_ s n k).last k, max (Wl.found (Dk.Disk.new v0) at_ s n k).last k, Wl.openDisk (Dk.Disk.new v0) at_ s n k⟩ : Wl.Lg), z.1, z.2.1, z.2.2.1, z.2.2.2.1, y.1) ?_ (fun q => ?_)
                ·(first | dsimp only | skip)
                 exact Ent.cons Z.k (Ent.cons Z.k (Ent.roD Z.p (Ent.roD Z.p (Ent.roD Z.p (Ent.cons Z.k (Ent.cons Z.k (Ent.roD Z.k (Ent.roD Z.k (Ent.pu ⟨hp0, by omega, by omega⟩ Z.f)))))))))
                obtain ⟨q, l, r, x, a, c, lp⟩ := q
                dsimp only
                refine ht_pick (A := pu (Wl.Plays at_ n s q l r ∧ q ≤ 30 ∧ q ≤ xs.length)) Z.k (ht_pure fun hq => ?_)
                obtain ⟨hp, hq30, hql⟩ := hq
                refine Z.go 6 ?_
                refine Z.lt 2 22 (fun g8 => ?_) (fun g8 => ?_)
                ·first | (exfalso; first | omega | (simp at g8; done) | contradiction) | skip
                 all_goals (
                  refine Z.lt 13 19 (fun g9 => ?_) (fun g9 => ?_)
                  ·first | (exfalso; first | omega | (simp at g9; done) | contradiction) | skip
                   all_goals (
                    refine ht_actW (xs := xs) (i := q) (by omega) Z.p (fun m0 hm0 hm0s hm0c => ?_)
                    refine ht_someS (α := ActW) (a := aa) (xs := xs) (reads_ro Z.p) (by omega) (fun ab ao ha => ?_)
                    refine Z.go 3 ?_
                    refine Z.ev (ev_indexAddr rfl Tryz.underlying25 Tryz.ty49 (congrArg (fun z => some (Value.slice z xs.length ac)) ha) rfl (by omega) (by omega)) 0 ?_
                    refine Z.la (hc := by exact show Cells _ _ _ _ #[.int .i64 m0.kind, .int .i64 m0.limit, .int .u64 (m0.seq : Int), vS m0.b, .slice m0.la m0.l.length m0.lc] from cells_Sa ha (reads_ro Z.p) hm0) 0 ?_
                    refine Z.cd (c := law_few08 m0 hm0c) 0 (fun m => ?_)
                    refine ho_pick (A := pu (m.b.length ≤ 1500 ∧ m.l.length ≤ 60 ∧ m.l.length ≤ m.lc ∧ m.seq = m0.seq)) Z.k (ho_pure fun hm => ?_)
                    obtain ⟨hmb, hml, hmc, hms⟩ := hm
                    refine Z.al 0 (fun b18 => ?_)
                    refine Z.sA 2 ?_
                    refine Z.jo (fun g : Nat => ([DiskAt b0 l.d, LogAt lp (lgOf b0 l), ro bitsR, ro (roS aa xs.length xs), ro (actWs xs), pt b3 (.cells #[.int .i64 v0, .int .i64 at_, .int .i64 (n : Int), .int .i64 (s : Int)] 23 (0, 0)), pt b14 (.cells #[.int .i64 r.size, .int .i64 r.limit, .slice x.va r.view.length x.vc, .slice x.ga r.ground.length x.gc, .slice x.la r.L.length x.lc, .int .i64 l.at_, .int .i64 (l.n : Int), .int .i64 (l.size : Int), .slice a l.live.length c, vS l.stream, .int .u64 (l.last : Int), .int .u64 (l.synced : Int)] 43 (0, 0)), ro (rdR r x), ro (roS a l.live.length l.live), pt b18 (.cells #[.int .i64 m.kind, .int .i64 m.limit, .int .u64 ((g : Nat) : Int), vS m.b, .slice m.la m.l.length m.lc] 49 (0, 0)), ro (roS m.la m.l.length m.l), pu (g ≤ 4611686018427387904), F], [(2, .slice aa xs.length ac), (3, .pointer (some ⟨b3, 0, none⟩)), (7, .pointer (some ⟨b0, 0, none⟩)), (11, .pointer (some ⟨lp, 0, none⟩)), (14, .pointer (some ⟨b14, 0, none⟩)), (17, .int .i64 q), (18, .pointer (some ⟨b18, 0, none⟩))])) ?_ (fun g => ?_)
                    ·skip
                     refine Z.go 3 ?_
                     refine Z.ld 0 ?_
                     refine Z.gt 5 4 (fun g10 => ?_) (fun g10 => ?_)
                     ·first | (exfalso; first | omega | (simp at g10; done) | contradiction) | skip
                      all_goals (
                       refine Z.s1 1 ?_
                       refine Z.me 0 ?_
                       (first | dsimp only | skip)
                       exact Ent.cons Z.k (Ent.cons Z.k (Ent.roD Z.p (Ent.roD Z.p (Ent.roD Z.p (Ent.cons Z.k (Ent.cons Z.k (Ent.roD Z.p (Ent.roD Z.p (Ent.cons Z.k (Ent.roD Z.p (Ent.pu (by omega) Z.f)))))))))))
                      )
                     ·first | (exfalso; first | omega | (simp at g10; done) | contradiction) | skip
                      all_goals (
                       refine Z.me m.seq ?_
                       (first | dsimp only | skip)
                       exact Ent.cons Z.k (Ent.cons Z.k (Ent.roD Z.p (Ent.roD Z.p (Ent.roD Z.p (Ent.cons Z.k (Ent.cons Z.k (Ent.roD Z.p (Ent.roD Z.p (Ent.cons Z.k (Ent.roD Z.p (Ent.pu (by omega) Z.f)))))))))))
                      )
                    ·skip
                     (first | dsimp only | skip)
                     refine ht_pick (A := pu (g ≤ 4611686018427387904)) Z.k (ht_pure fun hg => ?_)
                     obtain ⟨hok, hcs⟩ := hp.ok (by omega) (by omega) (by omega) hat
                     have hpend := hp.pend
                     have hra := hp.rd.all
                     have hrv := hp.rd.view
                     have hea := hp.ea
                     have hen := hp.en
                     have hes := hp.es
                     refine ht_dkOkW Z.p (fun hdk => ?_)
                     refine Z.jo (fun g : Wl.Lg × Rf.RDisk × RX × Option Addr × Nat × Nat => ([DiskAt b0 g.1.d, LogAt g.2.2.2.2.2 (lgOf b0 g.1), ro bitsR, ro (roS aa xs.length xs), ro (actWs xs), pt b3 (.cells #[.int .i64 v0, .int .i64 at_, .int .i64 (n : Int), .int .i64 (s : Int)] 23 (0, 0)), pt b14 (.cells #[.int .i64 g.2.1.size, .int .i64 g.2.1.limit, .slice g.2.2.1.va g.2.1.view.length g.2.2.1.vc, .slice g.2.2.1.ga g.2.1.ground.length g.2.2.1.gc, .slice g.2.2.1.la g.2.1.L.length g.2.2.1.lc, .int .i64 g.1.at_, .int .i64 (g.1.n : Int), .int .i64 (g.1.size : Int), .slice g.2.2.2.1 g.1.live.length g.2.2.2.2.1, vS g.1.stream, .int .u64 (g.1.last : Int), .int .u64 (g.1.synced : Int)] 43 (0, 0)), ro (rdR g.2.1 g.2.2.1), ro (roS g.2.2.2.1 g.1.live.length g.1.live), pu (Wl.Plays at_ n s (q + 1) g.1 g.2.1), F], [(2, .slice aa xs.length ac), (3, .pointer (some ⟨b3, 0, none⟩)), (7, .pointer (some ⟨b0, 0, none⟩)), (11, .pointer (some ⟨g.2.2.2.2.2, 0, none⟩)), (14, .pointer (some ⟨b14, 0, none⟩)), (17, .int .i64 q)])) ?_ (fun g => ?_)
                     ·skip
                      refine Z.go 3 ?_
                      refine Z.ld 5 ?_
                      refine Z.eq 6 6 (fun g11 => ?_) (fun g11 => ?_)
                      ·skip
                       refine Z.la 1 ?_
                       refine Z.ld 0 ?_
                       refine Z.cd (c := ref8_Append l r x a c (10 * q) (10 * q) hp.rd (by omega) (by omega) m.b hok hcs (by omega)) 0 (fun u => ?_)
                       refine ho_pick (A := pu (Wl.RD u.1 (l.append m.b).1.d (10 * q + l.size) (10 * q + 2 * l.size))) Z.k (ho_pure fun hu2 => ?_)
                       refine Z.og 4 ?_
                       refine Z.al 0 (fun b19 => ?_)
                       refine Z.sA 8 ?_
                       refine Z.ld 0 ?_
                       refine Z.cd (c := wal_Append lp b0 l m.b hok hcs (by omega)) 9 (fun _ => ?_)
                       refine Z.la 0 ?_
                       refine Z.sA 6 ?_
                       refine Z.ne 0 3 (fun g12 => ?_) (fun g12 => ?_)
                       ·(exfalso; first | omega | (simp at g12; done) | contradiction)
                       ·first | (exfalso; first | omega | (simp at g12; done) | contradiction) | skip
                        all_goals (
                         refine Z.ne 0 6 (fun g13 => ?_) (fun g13 => ?_)
                         ·(exfalso; first | omega | (simp at g13; done) | contradiction)
                         ·first | (exfalso; first | omega | (simp at g13; done) | contradiction) | skip
                          all_goals (
                           refine Z.me ((l.append m.b).1, u.1, u.2.1, u.2.2.1, u.2.2.2, lp) ?_
                           (first | dsimp only | skip)
                           exact Ent.cons Z.k (Ent.cons Z.k (Ent.roD Z.p (Ent.roD Z.p (Ent.roD Z.p (Ent.cons Z.k (Ent.cons Z.k (Ent.roD Z.k (Ent.roD Z.k (Ent.pu (hp.append hu2 (by omega)) Z.f)))))))))
                          )
                        )
                      ·skip
                       refine Z.eq 6 6 (fun g14 => ?_) (fun g14 => ?_)
                       ·skip
                        refine Z.la 1 ?_
                        refine Z.ld 0 ?_
                        refine Z.cd (c := ref8_Truncate l r x a c (10 * q) (10 * q) hp.rd (by omega) (by omega) g hok (by omega)) 0 (fun u => ?_)
                        refine ho_pick (A := pu (Wl.RD u.1 (l.truncate g).1.d (10 * q) (10 * q))) Z.k (ho_pure fun hu2 => ?_)
                        refine Z.og 3 ?_
                        refine Z.al 0 (fun b24 => ?_)
                        refine Z.sA 5 ?_
                        refine Z.la 0 ?_
                        refine Z.sA 6 ?_
                        refine Z.ld 0 ?_
                        refine Z.cd (c := wal_Truncate lp b0 l g hok (by omega)) 1 (fun _ => ?_)
                        refine Z.ne 0 5 (fun g15 => ?_) (fun g15 => ?_)
                        ·(exfalso; first | omega | (simp at g15; done) | contradiction)
                        ·first | (exfalso; first | omega | (simp at g15; done) | contradiction) | skip
                         all_goals (
                          refine Z.me ((l.truncate g).1, u.1, u.2.1, u.2.2.1, u.2.2.2, lp) ?_
                          (first | dsimp only | skip)
                          exact Ent.cons Z.k (Ent.cons Z.k (Ent.roD Z.p (Ent.roD Z.p (Ent.roD Z.p (Ent.cons Z.k (Ent.cons Z.k (Ent.roD Z.k (Ent.roD Z.k (Ent.pu (hp.truncate hu2) Z.f)))))))))
                         )
                       ·skip
                        refine Z.eq 7 7 (fun g16 => ?_) (fun g16 => ?_)
                        ·skip
                         refine Z.cd (c := wal_Sync lp (lgOf b0 l) l.d) 3 (fun _ => ?_)
                         refine Z.la 0 ?_
                         refine Z.cd (c := ref8_Sync l r x a c) 0 (fun _ => ?_)
                         refine Z.sA 2 ?_
                         refine Z.me ({ l with synced := l.last, d := l.d.sync }, r.sync, ⟨x.va, x.vc, x.va, x.vc, none, 0⟩, a, c, lp) ?_
                         (first | dsimp only | skip)
                         exact Ent.cons Z.k (Ent.cons Z.k (Ent.roD Z.p (Ent.roD Z.p (Ent.roD Z.p (Ent.cons Z.k (Ent.cons Z.k (Ent.roD Z.k (Ent.roD Z.k (Ent.pu hp.sync Z.f)))))))))
                        ·skip
                         refine Z.eq 9 5 (fun g17 => ?_) (fun g17 => ?_)
                         ·first | (exfalso; first | omega | (simp at g17; done) | contradiction) | skip
                          all_goals (
                           by_cases hkk : m.kind = 3
                           ·skip
                            refine Z.go 2 ?_
                            refine Z.ld 0 ?_
                            refine Z.eq 7 0 (fun g18 => ?_) (fun g18 => ?_)
                            ·first | (exfalso; first | omega | (simp at g18; done) | contradiction) | skip
                             all_goals (
                              refine Z.ld 0 ?_
                              refine Z.cd (c := disk_Crash b0 l.d m.la m.lc m.l (by omega) (by omega)) 4 (fun _ => ?_)
                              refine Z.la 1 ?_
                              refine Z.ld 0 ?_
                              refine Z.cd (c := rf_Crash r x m.la m.lc m.l (by omega) (by omega) (by omega) hp.rd.short.ground hp.rd.short.pend) 1 (fun w => ?_)
                              refine Z.sA 3 ?_
                              refine ht_dkOkW Z.p (fun hdk3 => ?_)
                              have hdk2 := hdk3.view
                              refine Z.go 2 ?_
                              refine Z.la 1 ?_
                              refine Z.ld 1 ?_
                              refine Z.ld 1 ?_
                              refine Z.ld 1 ?_
                              refine Z.ld 0 ?_
                              have hrd3 : Wl.RD (r.crash m.l) (l.d.crash m.l) (10 * q) (10 * q) := (hp.rd.crash m.l)
                              refine Z.cd (c := ref8_Open (r.crash m.l) w (l.d.crash m.l) (10 * q) (10 * q) hrd3 (by omega) (by omega) hdk2 n s g at_ (by omega) (by omega) hat (by omega)) 0 (fun u => ?_)
                              refine ho_pick (A := pu (Wl.RD u.1 (Wl.openDisk (l.d.crash m.l) at_ s n g) (10 * q) (10 * q))) Z.k (ho_pure fun hu2 => ?_)
                              refine Z.og 4 ?_
                              refine Z.al 0 (fun b26 => ?_)
                              refine Z.sA 8 ?_
                              refine Z.ld 1 ?_
                              refine Z.ld 1 ?_
                              refine Z.ld 1 ?_
                              refine Z.ld 0 ?_
                              refine Z.cd (c := wal_Open b0 n s g at_ (l.d.crash m.l) (by omega) (by omega) hat (by omega) (by show 0 ≤ 900000; decide)) 14 (fun o => ?_)
                              refine Z.ne 0 7 (fun g19 => ?_) (fun g19 => ?_)
                              ·(exfalso; first | omega | (simp at g19; done) | contradiction)
                              ·first | (exfalso; first | omega | (simp at g19; done) | contradiction) | skip
                               all_goals (
                                refine Z.cd (c := wal_Same u.2.2.2.2.1 o.2.1 u.2.2.2.2.2 o.2.2 _ (Nat.le_trans (Wl.found_out hdk2 (by omega) (by omega)) (by decide))) 8 (fun _ => ?_)
                                refine Z.la 1 ?_
                                refine Z.sA 3 ?_
                                refine Z.me ((⟨at_, n, s, (Wl.found (l.d.crash m.l) at_ s n g).live, [], max (Wl.found (l.d.crash m.l) at_ s n g).last g, max (Wl.found (l.d.crash m.l) at_ s n g).last g, Wl.openDisk (l.d.crash m.l) at_ s n g⟩ : Wl.Lg), u.1, u.2.1, u.2.2.1, u.2.2.2.1, o.1) ?_
                                (first | dsimp only | skip)
                                exact Ent.cons Z.k (Ent.cons Z.k (Ent.roD Z.p (Ent.roD Z.p (Ent.roD Z.p (Ent.cons Z.k (Ent.cons Z.k (Ent.roD Z.k (Ent.roD Z.k (Ent.pu (Wl.plays_open hdk2 (by omega) (by omega) (by show g < 18446744073709551616; omega) (hu2.mono (by omega) (by omega))) Z.f)))))))))
                               )
                             )
                            ·(exfalso; first | omega | (simp at g18; done) | contradiction)
                           ·skip
                            refine Z.go 2 ?_
                            refine Z.ld 0 ?_
                            refine Z.eq 0 6 (fun g20 => ?_) (fun g20 => ?_)
                            ·(exfalso; first | omega | (simp at g20; done) | contradiction)
                            ·first | (exfalso; first | omega | (simp at g20; done) | contradiction) | skip
                             all_goals (
                              refine ht_dkOkW Z.p (fun hdk3 => ?_)
                              have hdk2 := hdk3.view
                              refine Z.go 2 ?_
                              refine Z.la 1 ?_
                              refine Z.ld 1 ?_
                              refine Z.ld 1 ?_
                              refine Z.ld 1 ?_
                              refine Z.ld 0 ?_
                              have hrd3 : Wl.RD r l.d (10 * q) (10 * q) := hp.rd
                              refine Z.cd (c := ref8_Open r x l.d (10 * q) (10 * q) hrd3 (by omega) (by omega) hdk2 n s g at_ (by omega) (by omega) hat (by omega)) 0 (fun u => ?_)
                              refine ho_pick (A := pu (Wl.RD u.1 (Wl.openDisk l.d at_ s n g) (10 * q) (10 * q))) Z.k (ho_pure fun hu2 => ?_)
                              refine Z.og 4 ?_
                              refine Z.al 0 (fun b26 => ?_)
                              refine Z.sA 8 ?_
                              refine Z.ld 1 ?_
                              refine Z.ld 1 ?_
                              refine Z.ld 1 ?_
                              refine Z.ld 0 ?_
                              refine Z.cd (c := wal_Open b0 n s g at_ l.d (by omega) (by omega) hat (by omega) (by omega)) 14 (fun o => ?_)
                              refine Z.ne 0 7 (fun g21 => ?_) (fun g21 => ?_)
                              ·(exfalso; first | omega | (simp at g21; done) | contradiction)
                              ·first | (exfalso; first | omega | (simp at g21; done) | contradiction) | skip
                               all_goals (
                                refine Z.cd (c := wal_Same u.2.2.2.2.1 o.2.1 u.2.2.2.2.2 o.2.2 _ (Nat.le_trans (Wl.found_out hdk2 (by omega) (by omega)) (by decide))) 8 (fun _ => ?_)
                                refine Z.la 1 ?_
                                refine Z.sA 3 ?_
                                refine Z.me ((⟨at_, n, s, (Wl.found l.d at_ s n g).live, [], max (Wl.found l.d at_ s n g).last g, max (Wl.found l.d at_ s n g).last g, Wl.openDisk l.d at_ s n g⟩ : Wl.Lg), u.1, u.2.1, u.2.2.1, u.2.2.2.1, o.1) ?_
                                (first | dsimp only | skip)
                                exact Ent.cons Z.k (Ent.cons Z.k (Ent.roD Z.p (Ent.roD Z.p (Ent.roD Z.p (Ent.cons Z.k (Ent.cons Z.k (Ent.roD Z.k (Ent.roD Z.k (Ent.pu (Wl.plays_open hdk2 (by omega) (by omega) (by show g < 18446744073709551616; omega) (hu2.mono (by omega) (by omega))) Z.f)))))))))
                               )
                             )
                          )
                         ·first | (exfalso; first | omega | (simp at g17; done) | contradiction) | skip
                          all_goals (
                           refine Z.eq 6 6 (fun g22 => ?_) (fun g22 => ?_)
                           ·first | (exfalso; first | omega | (simp at g22; done) | contradiction) | skip
                            all_goals (
                             by_cases hkk : m.kind = 3
                             ·skip
                              refine Z.go 2 ?_
                              refine Z.ld 0 ?_
                              refine Z.eq 7 0 (fun g23 => ?_) (fun g23 => ?_)
                              ·first | (exfalso; first | omega | (simp at g23; done) | contradiction) | skip
                               all_goals (
                                refine Z.ld 0 ?_
                                refine Z.cd (c := disk_Crash b0 l.d m.la m.lc m.l (by omega) (by omega)) 4 (fun _ => ?_)
                                refine Z.la 1 ?_
                                refine Z.ld 0 ?_
                                refine Z.cd (c := rf_Crash r x m.la m.lc m.l (by omega) (by omega) (by omega) hp.rd.short.ground hp.rd.short.pend) 1 (fun w => ?_)
                                refine Z.sA 3 ?_
                                refine ht_dkOkW Z.p (fun hdk3 => ?_)
                                have hdk2 := hdk3.view
                                refine Z.go 2 ?_
                                refine Z.la 1 ?_
                                refine Z.ld 1 ?_
                                refine Z.ld 1 ?_
                                refine Z.ld 1 ?_
                                refine Z.ld 0 ?_
                                have hrd3 : Wl.RD (r.crash m.l) (l.d.crash m.l) (10 * q) (10 * q) := (hp.rd.crash m.l)
                                refine Z.cd (c := ref8_Open (r.crash m.l) w (l.d.crash m.l) (10 * q) (10 * q) hrd3 (by omega) (by omega) hdk2 n s g at_ (by omega) (by omega) hat (by omega)) 0 (fun u => ?_)
                                refine ho_pick (A := pu (Wl.RD u.1 (Wl.openDisk (l.d.crash m.l) at_ s n g) (10 * q) (10 * q))) Z.k (ho_pure fun hu2 => ?_)
                                refine Z.og 4 ?_
                                refine Z.al 0 (fun b26 => ?_)
                                refine Z.sA 8 ?_
                                refine Z.ld 1 ?_
                                refine Z.ld 1 ?_
                                refine Z.ld 1 ?_
                                refine Z.ld 0 ?_
                                refine Z.cd (c := wal_Open b0 n s g at_ (l.d.crash m.l) (by omega) (by omega) hat (by omega) (by show 0 ≤ 900000; decide)) 14 (fun o => ?_)
                                refine Z.ne 0 7 (fun g24 => ?_) (fun g24 => ?_)
                                ·(exfalso; first | omega | (simp at g24; done) | contradiction)
                                ·first | (exfalso; first | omega | (simp at g24; done) | contradiction) | skip
                                 all_goals (
                                  refine Z.cd (c := wal_Same u.2.2.2.2.1 o.2.1 u.2.2.2.2.2 o.2.2 _ (Nat.le_trans (Wl.found_out hdk2 (by omega) (by omega)) (by decide))) 8 (fun _ => ?_)
                                  refine Z.la 1 ?_
                                  refine Z.sA 3 ?_
                                  refine Z.me ((⟨at_, n, s, (Wl.found (l.d.crash m.l) at_ s n g).live, [], max (Wl.found (l.d.crash m.l) at_ s n g).last g, max (Wl.found (l.d.crash m.l) at_ s n g).last g, Wl.openDisk (l.d.crash m.l) at_ s n g⟩ : Wl.Lg), u.1, u.2.1, u.2.2.1, u.2.2.2.1, o.1) ?_
                                  (first | dsimp only | skip)
                                  exact Ent.cons Z.k (Ent.cons Z.k (Ent.roD Z.p (Ent.roD Z.p (Ent.roD Z.p (Ent.cons Z.k (Ent.cons Z.k (Ent.roD Z.k (Ent.roD Z.k (Ent.pu (Wl.plays_open hdk2 (by omega) (by omega) (by show g < 18446744073709551616; omega) (hu2.mono (by omega) (by omega))) Z.f)))))))))
                                 )
                               )
                              ·(exfalso; first | omega | (simp at g23; done) | contradiction)
                             ·skip
                              refine Z.go 2 ?_
                              refine Z.ld 0 ?_
                              refine Z.eq 0 6 (fun g25 => ?_) (fun g25 => ?_)
                              ·(exfalso; first | omega | (simp at g25; done) | contradiction)
                              ·first | (exfalso; first | omega | (simp at g25; done) | contradiction) | skip
                               all_goals (
                                refine ht_dkOkW Z.p (fun hdk3 => ?_)
                                have hdk2 := hdk3.view
                                refine Z.go 2 ?_
                                refine Z.la 1 ?_
                                refine Z.ld 1 ?_
                                refine Z.ld 1 ?_
                                refine Z.ld 1 ?_
                                refine Z.ld 0 ?_
                                have hrd3 : Wl.RD r l.d (10 * q) (10 * q) := hp.rd
                                refine Z.cd (c := ref8_Open r x l.d (10 * q) (10 * q) hrd3 (by omega) (by omega) hdk2 n s g at_ (by omega) (by omega) hat (by omega)) 0 (fun u => ?_)
                                refine ho_pick (A := pu (Wl.RD u.1 (Wl.openDisk l.d at_ s n g) (10 * q) (10 * q))) Z.k (ho_pure fun hu2 => ?_)
                                refine Z.og 4 ?_
                                refine Z.al 0 (fun b26 => ?_)
                                refine Z.sA 8 ?_
                                refine Z.ld 1 ?_
                                refine Z.ld 1 ?_
                                refine Z.ld 1 ?_
                                refine Z.ld 0 ?_
                                refine Z.cd (c := wal_Open b0 n s g at_ l.d (by omega) (by omega) hat (by omega) (by omega)) 14 (fun o => ?_)
                                refine Z.ne 0 7 (fun g26 => ?_) (fun g26 => ?_)
                                ·(exfalso; first | omega | (simp at g26; done) | contradiction)
                                ·first | (exfalso; first | omega | (simp at g26; done) | contradiction) | skip
                                 all_goals (
                                  refine Z.cd (c := wal_Same u.2.2.2.2.1 o.2.1 u.2.2.2.2.2 o.2.2 _ (Nat.le_trans (Wl.found_out hdk2 (by omega) (by omega)) (by decide))) 8 (fun _ => ?_)
                                  refine Z.la 1 ?_
                                  refine Z.sA 3 ?_
                                  refine Z.me ((⟨at_, n, s, (Wl.found l.d at_ s n g).live, [], max (Wl.found l.d at_ s n g).last g, max (Wl.found l.d at_ s n g).last g, Wl.openDisk l.d at_ s n g⟩ : Wl.Lg), u.1, u.2.1, u.2.2.1, u.2.2.2.1, o.1) ?_
                                  (first | dsimp only | skip)
                                  exact Ent.cons Z.k (Ent.cons Z.k (Ent.roD Z.p (Ent.roD Z.p (Ent.roD Z.p (Ent.cons Z.k (Ent.cons Z.k (Ent.roD Z.k (Ent.roD Z.k (Ent.pu (Wl.plays_open hdk2 (by omega) (by omega) (by show g < 18446744073709551616; omega) (hu2.mono (by omega) (by omega))) Z.f)))))))))
                                 )
                               )
                            )
                           ·first | (exfalso; first | omega | (simp at g22; done) | contradiction) | skip
                            all_goals (
                             refine Z.eq 8 6 (fun g27 => ?_) (fun g27 => ?_)
                             ·first | (exfalso; first | omega | (simp at g27; done) | contradiction) | skip
                              all_goals (
                               refine Z.ld 0 ?_
                               refine Z.cd (c := disk_Limit b0 l.d m.limit) 4 (fun _ => ?_)
                               refine Z.ld 2 ?_
                               refine Z.s1 2 ?_
                               refine Z.me ({ l with d := l.d.setLimit m.limit }, { r with limit := m.limit }, x, a, c, lp) ?_
                               (first | dsimp only | skip)
                               exact Ent.cons Z.k (Ent.cons Z.k (Ent.roD Z.p (Ent.roD Z.p (Ent.roD Z.p (Ent.cons Z.k (Ent.cons Z.k (Ent.roD Z.k (Ent.roD Z.k (Ent.pu (hp.limit _) Z.f)))))))))
                              )
                             ·first | (exfalso; first | omega | (simp at g27; done) | contradiction) | skip
                              all_goals (
                               refine Z.me (l, r, x, a, c, lp) ?_
                               (first | dsimp only | skip)
                               exact Ent.cons Z.k (Ent.cons Z.k (Ent.roD Z.p (Ent.roD Z.p (Ent.roD Z.p (Ent.cons Z.k (Ent.cons Z.k (Ent.roD Z.k (Ent.roD Z.k (Ent.pu hp.mono Z.f)))))))))
                              )
                            )
                          )
                     ·skip
                      obtain ⟨l2, r2, x2, a2, c2, lp2⟩ := g
                      (first | dsimp only | skip)
                      refine ht_pick (A := pu (Wl.Plays at_ n s (q + 1) l2 r2)) Z.k (ht_pure fun hp2 => ?_)
                      have hpd2 := hp2.pend
                      have hcd2 := hp2.card
                      refine Z.go 1 ?_
                      refine ht_draw (.op 0 (.op 2 (.op 3 (.op 1 (.op 4 (.op 5 (.op 6 (.op 8 (.op 9 (.op 10 (.op 7 (.op 11 (.op 12 (.op 13 (.op 14 (.op 16 (.op 17 (.op 15 (.op 18 (.op 19 (.op 20 (.op 21 (.op 23 (.op 24 (.op 25 (.op 26 (.op 22 (.op 27 (.op 28 (.op 29 (.op 30 (.op 32 (.op 33 (.op 34 (.op 35 (.op 31 (.op 36 (.op 37 .done)))))))))))))))))))))))))))))))))))))) [1, 7, 15, 22, 31] Tryz.mixed rfl ?_
                      refine Z.dr 2 ?_
                      refine Z.dl ?_
                      refine Z.dd (c := wal_Last lp2 (lgOf b0 l2)) (fun _ => ?_)
                      dsimp only
                      refine hd_ne rfl rfl rfl rfl rfl rfl rfl rfl (fun g28 => ?_) (fun g28 => ?_)
                      ·(exfalso; first | omega | (simp at g28; done) | contradiction)
                      ·first | (exfalso; first | omega | (simp at g28; done) | contradiction) | skip
                       all_goals (
                        refine Z.dr 3 ?_
                        refine Z.dl ?_
                        refine Z.dr 1 ?_
                        refine Z.dd (c := wal_Live lp2 (lgOf b0 l2)) (fun _ => ?_)
                        dsimp only
                        refine hd_neg rfl rfl rfl rfl rfl rfl rfl rfl rfl (fun g29 => ?_) (fun g29 => ?_)
                        ·(exfalso; first | omega | (simp at g29; done) | contradiction)
                        ·first | (exfalso; first | omega | (simp at g29; done) | contradiction) | skip
                         all_goals (
                          refine Z.dr 4 ?_
                          refine Z.dl ?_
                          refine Z.dd (c := wal_Synced lp2 (lgOf b0 l2)) (fun _ => ?_)
                          dsimp only
                          refine hd_neg rfl rfl rfl rfl rfl rfl rfl rfl rfl (fun g30 => ?_) (fun g30 => ?_)
                          ·(exfalso; first | omega | (simp at g30; done) | contradiction)
                          ·first | (exfalso; first | omega | (simp at g30; done) | contradiction) | skip
                           all_goals (
                            refine Z.dr 5 ?_
                            refine Z.dl ?_
                            refine Z.dr 1 ?_
                            refine Z.dd (c := disk_Used b0 l2.d) (fun _ => ?_)
                            rw [hcd2]
                            refine hd_neg rfl rfl rfl rfl rfl rfl rfl rfl rfl (fun g31 => ?_) (fun g31 => ?_)
                            ·(exfalso; first | omega | (simp at g31; done) | contradiction)
                            ·first | (exfalso; first | omega | (simp at g31; done) | contradiction) | skip
                             all_goals (
                              refine Z.dr 5 ?_
                              refine Z.dl ?_
                              refine Z.dr 1 ?_
                              refine Z.dd (c := disk_Pending b0 l2.d) (fun _ => ?_)
                              rw [hpd2.1]
                              refine hd_neg rfl rfl rfl rfl rfl rfl rfl rfl rfl (fun g32 => ?_) (fun g32 => ?_)
                              ·(exfalso; first | omega | (simp at g32; done) | contradiction)
                              ·first | (exfalso; first | omega | (simp at g32; done) | contradiction) | skip
                               all_goals (
                                refine Z.dr 1 ?_
                                refine hd_nil ?_
                                refine Z.xg 7 ?_
                                refine Z.ad 2 ?_
                                refine Z.ag (q + 1, l2, r2, x2, a2, c2, lp2) (by (first | dsimp only | skip); omega) ?_
                                (first | dsimp only | skip)
                                exact Ent.cons Z.k (Ent.cons Z.k (Ent.roD Z.p (Ent.roD Z.p (Ent.roD Z.p (Ent.cons Z.k (Ent.cons Z.k (Ent.roD Z.k (Ent.roD Z.k (Ent.pu ⟨hp2, by omega, by omega⟩ Z.f)))))))))
                               )
                             )
                           )
                         )
                       )
                   )
                  ·first | (exfalso; first | omega | (simp at g9; done) | contradiction) | skip
                   all_goals (
                    exact hx_ret1 (.inl rfl) rfl rfl () rfl Z.f
                   )
                 )
                ·first | (exfalso; first | omega | (simp at g8; done) | contradiction) | skip
                 all_goals (
                  exact hx_ret1 (.inl rfl) rfl rfl () rfl Z.f
                 )
               )
             )
           )
         )
       )
     )
   )
end Go.Proofs.YtlejcepbcfijiaaGreatDoor
