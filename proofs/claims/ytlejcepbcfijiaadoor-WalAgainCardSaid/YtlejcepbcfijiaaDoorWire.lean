/-
  PACKAGES num, sum, code, record: the walks. Conditions: as each contract says.
-/
import Derived.Test.YtlejcepbcfijiaaDoorFacts
import Derived.Test.YtlejcepbcfijiaaDoorWireM
import Derived.Test.YtlejcepbcfijiaaDoorSlClose
set_option maxRecDepth 100000
set_option linter.unusedVariables false
set_option linter.unusedSimpArgs false
namespace Go.Proofs.YtlejcepbcfijiaaDoor
open Go Go.SL


theorem Ent.roD {φ : RoP} {L R M : List Assn} (k : Pick (ro φ) L R) (h : Ent L M) : Ent L (ro φ :: M) := Ent.roWeak k (fun _ h => h) h
/-- the table of package num -/
def bitsR : RoP := ⟨fun r => ∃ cs E fr, r 0 = some (.cells cs E fr) ∧ ∀ i : Nat, i < 9 → cs[i]? = some (.int .u64 ((8 * i : Nat) : Int)), fun ⟨cs, E, fr, h1, h2⟩ k => ⟨cs, E, fr, k.out _ _ h1, h2⟩⟩
section
variable {P : Program} {κ : World} {n : Nat} {L M R R' : List Assn} {ρ : Env} {ops : Array Oper} {l : List Oper} {Q : Exit → Act → World → Prop}
theorem cell_bits {i off : Nat} (k : Pick (ro bitsR) L R) (hi : i < 9) (e : off = i) : Cell L 0 off (.int .u64 ((8 * i : Nat) : Int)) := fun κ w hw => by
  obtain ⟨cs, E, fr, h1, h2⟩ : bitsR.p (hp w) := hw.ro k
  subst e
  exact ⟨cs, E, fr, h1, h2 _ hi⟩
end
/-- the table of package sum, as far as it is told -/
def tabL (j : Nat) : List Value := (List.range 16).map fun i => .int .u32 (((if i < j then Wire.tab i else 0) : Nat) : Int)
def tabC (j : Nat) : Array Value := (tabL j).toArray
theorem tabC_size (j : Nat) : (tabC j).size = 16 := by simp [tabC, tabL]
theorem tabC_get {i : Nat} (hi : i < 16) : (tabC 16)[i]? = some (.int .u32 ((Wire.tab i : Nat) : Int)) := by simp [tabC, tabL, hi]
theorem tabC_set {j : Nat} (hj : j < 16) : (tabC j).setIfInBounds j (.int .u32 ((Wire.tab j : Nat) : Int)) = tabC (j + 1) := by
  apply Array.ext
  · simp [tabC, tabL]
  · intro i h1 h2
    have hi : i < 16 := by simpa [tabC, tabL] using h2
    by_cases e : i = j
    · subst e; simp [tabC, tabL]
    · rw [Array.getElem_setIfInBounds_ne (by simpa [tabC, tabL] using hi) (Ne.symm e)]
      simp only [tabC, tabL, List.getElem_toArray, List.getElem_map, List.getElem_range]
      by_cases h : i < j
      · rw [if_pos h, if_pos (by omega)]
      · rw [if_neg h, if_neg (by omega)]

theorem num_Put1 (b1 b2 v s : Nat) (a : Option Addr) (c : Nat) (xs : List UInt8) (hv : v < 18446744073709551616) (hx : xs.length ≤ 2199023255552) : Ctr Tryd.prog 90 #[.int .u64 (s : Int), .pointer (some ⟨b1, 0, none⟩), .pointer (some ⟨b2, 0, none⟩)] [pt b1 (.cells #[.slice a xs.length c] 86 (0, 0)), pt b2 (.cells #[.int .u64 (v : Int)] 41 (0, 0)), ownS 5 a xs.length c xs] (fun _ : Option Addr × Nat => .tuple #[]) (fun q => [pt b1 (.cells #[.slice q.1 (xs ++ [Wire.byte (v / 2 ^ s)]).length q.2] 86 (0, 0)), pt b2 (.cells #[.int .u64 (v : Int)] 41 (0, 0)), ownS 5 q.1 (xs ++ [Wire.byte (v / 2 ^ s)]).length q.2 (xs ++ [Wire.byte (v / 2 ^ s)])]) := by
 refine fn_intro Tryd.func90 rfl rfl Tryd.ntmps90 (Nat.le_of_ble_eq_true rfl) (fun _ => by repeat (first | exact App.nil | apply App.cons)) (fun κ F => ?_)
 refine ht_region ?_
 refine ho_ev rfl rfl rfl (ev_load rfl Tryd.underlying86 rfl rfl (by first | exact cell_pt (by (with_reducible repeat constructor); done) rfl | exact cell_ro (by (with_reducible repeat constructor); done) rfl)) ?_
 refine ho_ev rfl rfl rfl (ev_load rfl Tryd.underlying41 rfl rfl (by first | exact cell_pt (by (with_reducible repeat constructor); done) rfl | exact cell_ro (by (with_reducible repeat constructor); done) rfl)) ?_
 refine ho_ev rfl rfl rfl (ev_move rfl rfl) ?_
 refine ho_ev rfl rfl rfl (ev_shr (r := ((v / 2 ^ s : Nat) : Int)) rfl rfl rfl (by omega) (by exact shr_u64 v s hv)) ?_
 refine ho_ev rfl rfl rfl (ev_convI (r := (((Wire.byte (v / 2 ^ s)).toNat : Nat) : Int)) rfl ⟨_, Tryd.underlying41⟩ Tryd.underlying5 rfl (by exact byte_u8 _)) ?_
 refine ho_eff rfl rfl rfl (eff_buildAll (α := UInt8) [Wire.byte (v / 2 ^ s)] rfl Tryd.underlying86 Tryd.ty5 (.cons rfl .nil) (.cons rfl .nil) rfl (Nat.le_of_ble_eq_true rfl)) (fun b9 => ?_)
 refine ho_eff rfl rfl rfl (eff_append (α := UInt8) rfl Tryd.underlying86 Tryd.ty5 rfl (by decide) Tryd.underlying86 rfl rfl (by (with_reducible repeat constructor); done) (by first | exact reads_ro (by (with_reducible repeat constructor); done) | exact reads_own (by (with_reducible repeat constructor); done) | exact reads_nil _) (by first | omega | (simp only [List.length_append, List.length_cons, List.length_nil, List.length_drop, List.length_take]; omega) | (simp; omega))) (fun p10 => ?_)
 refine ho_eff0 rfl rfl (eff_store1 rfl Tryd.ty86 rfl rfl (by (with_reducible repeat constructor); done) rfl rfl (lt_of_blt rfl) (by simp only [List.setIfInBounds_toArray, List.set_cons_zero, List.set_cons_succ]; rfl)) (fun _ => ?_)
 refine ho_nil ?_
 exact hx_ret0 (.inr rfl) rfl p10 rfl (Ent.cons (by (repeat constructor); done) (Ent.cons (by (repeat constructor); done) (Ent.cons (by (repeat constructor); done) (Ent.cons (by (repeat constructor); done) Ent.nil))))
theorem num_Put (a : Option Addr) (c : Nat) (b : List UInt8) (v n : Nat) (h1 : 1 ≤ n) (h8 : n ≤ 8) (hz : v / 2 ^ (8 * n) = 0) (hv : v < 18446744073709551616) (hb : b.length ≤ 1099511627776) : Ctr Tryd.prog 62 #[.slice a b.length c, .int .u64 (v : Int), .int .i64 (n : Int)] [ro (roS a b.length b), ro bitsR] (fun q : Option Addr × Nat => .tuple #[.slice q.1 (b ++ Wire.be v n).length q.2, .int .i64 0]) (fun q => [ownS 5 q.1 (b ++ Wire.be v n).length q.2 (b ++ Wire.be v n)]) := by
 refine fn_intro Tryd.func62 rfl rfl Tryd.ntmps62 (Nat.le_of_ble_eq_true rfl) (fun _ => by repeat (first | exact App.nil | apply App.cons)) (fun κ F => ?_)
 refine ht_seq ?_
 refine ht_region ?_
 refine ho_eff rfl rfl rfl (eff_box1 rfl rfl rfl) (fun b4 => ?_)
 refine ho_ev rfl rfl rfl (ev_assign rfl rfl) ?_
 refine ho_ev rfl rfl rfl (ev_assign rfl rfl) ?_
 refine ho_nil ?_
 refine hx_then ?_
 refine ht_seq ?_
 refine ht_seq ?_
 refine ht_draw (.op 0 (.op 1 (.op 2 (.op 3 (.op 4 (.op 5 (.op 6 (.op 7 (.op 8 (.op 9 (.op 10 (.op 11 (.op 12 (.op 13 (.op 14 (.op 15 (.op 16 (.op 17 .done)))))))))))))))))) [] Tryd.mixed rfl ?_
 refine hd_ev rfl rfl rfl rfl (EvG.of rfl (ev_move rfl rfl)) ?_
 refine hd_lt rfl rfl rfl rfl rfl rfl rfl rfl (fun g1 => ?_) (fun g1 => ?_)
 ·omega
 ·skip
  refine hd_ev rfl rfl rfl rfl (EvG.of rfl (ev_move rfl rfl)) ?_
  refine hd_ev rfl rfl rfl rfl (EvG.ofg rfl rfl (ev_move rfl rfl)) ?_
  refine hd_gtg rfl rfl rfl rfl rfl rfl rfl rfl rfl (fun g2 => ?_) (fun g2 => ?_)
  ·omega
  ·skip
   refine hd_ev rfl rfl rfl rfl (EvG.of rfl (ev_pick_f rfl rfl rfl)) ?_
   refine hd_ev rfl rfl rfl rfl (EvG.of rfl (ev_move rfl rfl)) ?_
   refine hd_ev rfl rfl rfl rfl (EvG.ofg rfl rfl (ev_move rfl rfl)) ?_
   refine hd_ltg rfl rfl rfl rfl rfl rfl rfl rfl rfl (fun g3 => ?_) (fun g3 => ?_)
   ·skip
    refine hd_ev rfl rfl rfl rfl (EvG.ofg rfl rfl (ev_move rfl rfl)) ?_
    refine hd_ev rfl rfl rfl rfl (EvG.ofg rfl rfl (ev_load rfl Tryd.underlying41 rfl rfl (by first | exact cell_pt (by (with_reducible repeat constructor); done) rfl | exact cell_ro (by (with_reducible repeat constructor); done) rfl))) ?_
    refine hd_ev rfl rfl rfl rfl (EvG.ofg rfl rfl (ev_move rfl rfl)) ?_
    refine hd_ev rfl rfl rfl rfl (EvG.ofg rfl rfl (ev_indexAddrA rfl Tryd.underlying168 Tryd.ty167 rfl rfl (by omega) (by omega))) ?_
    refine hd_ev rfl rfl rfl rfl (EvG.ofg rfl rfl (ev_load rfl Tryd.underlying167 rfl rfl (cell_bits (i := n) (by (with_reducible repeat constructor); done) (by omega) (by omega)))) ?_
    refine hd_ev rfl rfl rfl rfl (EvG.ofg rfl rfl (ev_shr (r := 0) rfl rfl rfl (by omega) (by rw [shr_u64 v (8 * n) hv, hz]; rfl))) ?_
    refine hd_neg rfl rfl rfl rfl rfl rfl rfl rfl rfl (fun g4 => ?_) (fun g4 => ?_)
    ·omega
    ·skip
     refine hd_ev rfl rfl rfl rfl (EvG.ofg rfl rfl (ev_pick_t rfl rfl rfl)) ?_
     refine hd_ev rfl rfl rfl rfl (EvG.of rfl (ev_pick_f rfl rfl rfl)) ?_
     refine hd_nil ?_
     refine hx_then ?_
     refine ht_else rfl ?_
     refine ht_skip ?_
     refine hx_then ?_
     refine ht_seq ?_
     refine ht_region ?_
     refine ho_eff rfl rfl rfl (eff_buildAll (α := UInt8) [] rfl Tryd.underlying86 Tryd.ty5 .nil .nil rfl (Nat.le_of_ble_eq_true rfl)) (fun b29 => ?_)
     refine ho_ev rfl rfl rfl (ev_move rfl rfl) ?_
     refine ho_eff rfl rfl rfl (eff_append (α := UInt8) rfl Tryd.underlying86 Tryd.ty5 rfl (by decide) Tryd.underlying86 rfl rfl (by (with_reducible repeat constructor); done) (by first | exact reads_ro (by (with_reducible repeat constructor); done) | exact reads_own (by (with_reducible repeat constructor); done) | exact reads_nil _) (by first | omega | (simp only [List.length_append, List.length_cons, List.length_nil, List.length_drop, List.length_take]; omega) | (simp; omega))) (fun p31 => ?_)
     refine ho_eff rfl rfl rfl (eff_alloc rfl Tryd.ty86 (by first | exact cells_agg _ | exact rfl)) (fun b8 => ?_)
     refine ho_eff0 rfl rfl (eff_store1 rfl Tryd.ty86 rfl rfl (by (with_reducible repeat constructor); done) rfl rfl (lt_of_blt rfl) (by simp only [List.setIfInBounds_toArray, List.set_cons_zero, List.set_cons_succ]; rfl)) (fun _ => ?_)
     refine ho_nil ?_
     refine hx_then ?_
     refine ht_seq ?_
     refine ht_region ?_
     refine ho_ev rfl rfl rfl (ev_makeFunc rfl .nil (.cons rfl (.cons rfl .nil))) ?_
     refine ho_ev rfl rfl rfl (ev_assign rfl rfl) ?_
     refine ho_nil ?_
     refine hx_then ?_
     refine ht_seq ?_
     refine ht_seq ?_
     refine ht_region ?_
     refine ho_ev rfl rfl rfl (ev_move rfl rfl) ?_
     refine ho_ev rfl rfl rfl (ev_move rfl rfl) ?_
     refine ho_nil ?_
     refine hx_then ?_
     refine ht_block ?_
     refine ht_loop (fun q : Nat × Option Addr × Nat => ([pt b4 (.cells #[.int .u64 (v : Int)] 41 (0, 0)), pt b8 (.cells #[.slice q.2.1 (b ++ (Wire.be v n).take q.1).length q.2.2] 86 (0, 0)), ownS 5 q.2.1 (b ++ (Wire.be v n).take q.1).length q.2.2 (b ++ (Wire.be v n).take q.1), ro bitsR, pu (q.1 ≤ n), F], [(34, .int .i64 q.1), (33, .int .i64 n), (2, .int .i64 n), (9, .func (.func 90) #[] #[.pointer (some ⟨b8, 0, none⟩), .pointer (some ⟨b4, 0, none⟩)]), (8, .pointer (some ⟨b8, 0, none⟩))])) (fun q : Nat × Option Addr × Nat => n - q.1) (0, p31.1, p31.2) ?_ (by repeat (first | exact EnvSub.nil _ | (refine EnvSub.cons rfl ?_))) (fun q => ?_)
     ·(first | dsimp only | skip)
      rw [List.take_zero, List.append_nil]
      exact Ent.cons (by (repeat constructor); done) (Ent.cons (by (repeat constructor); done) (Ent.cons (by (repeat constructor); done) (Ent.roD (by (with_reducible repeat constructor); done) (Ent.pu (by omega) (Ent.cons (by (repeat constructor); done) Ent.nil)))))
     obtain ⟨q, ad, cp⟩ := q
     dsimp only
     refine ht_pick (A := pu (q ≤ n)) (by (repeat constructor); done) (ht_pure fun hq => ?_)
     have hlen : (b ++ (Wire.be v n).take q).length = b.length + q := by rw [List.length_append, List.length_take, Wire.be_len]; omega
     refine ht_seq ?_
     refine ht_region ?_
     refine ho_lt rfl rfl rfl rfl rfl rfl (fun g5 => ?_) (fun g5 => ?_)
     ·skip
      refine ho_nil ?_
      refine hx_then ?_
      refine ht_seq ?_
      refine ht_then rfl ?_
      refine ht_skip ?_
      refine hx_then ?_
      refine ht_seq ?_
      refine ht_block ?_
      refine ht_seq ?_
      refine ht_region ?_
      refine ho_ev rfl rfl rfl (ev_move rfl rfl) ?_
      refine ho_ev rfl rfl rfl (ev_assign rfl rfl) ?_
      refine ho_nil ?_
      refine hx_then ?_
      refine ht_region ?_
      refine ho_ev rfl rfl rfl (ev_move rfl rfl) ?_
      refine ho_ev rfl rfl rfl (ev_move rfl rfl) ?_
      refine ho_ev rfl rfl rfl (ev_sub rfl rfl rfl (by first | exact in_i64 (by omega) | rfl)) ?_
      refine ho_ev rfl rfl rfl (ev_move rfl rfl) ?_
      refine ho_ev rfl rfl rfl (ev_sub rfl rfl rfl (by first | exact in_i64 (by omega) | rfl)) ?_
      refine ho_ev rfl rfl rfl (ev_indexAddrA rfl Tryd.underlying168 Tryd.ty167 rfl rfl (by omega) (by omega)) ?_
      refine ho_ev rfl rfl rfl (ev_load rfl Tryd.underlying167 rfl rfl (cell_bits (i := n - 1 - q) (by (with_reducible repeat constructor); done) (by omega) (by omega))) ?_
      refine ho_eff rfl rfl rfl (eff_call rfl rfl (.cons rfl .nil) rfl (num_Put1 b8 b4 v (8 * (n - 1 - q)) ad cp (b ++ (Wire.be v n).take q) hv (by omega)) (by repeat (first | exact Picks.nil | (apply Picks.ro; focus ((with_reducible repeat constructor); done)) | (apply Picks.cons; focus ((with_reducible repeat constructor); done)))) (fun _ => by repeat (first | exact App.nil | apply App.cons))) (fun x44 => ?_)
      refine ho_nil ?_
      refine hx_block_normal ?_
      refine hx_then ?_
      refine ht_region ?_
      refine ho_ev rfl rfl rfl (ev_add rfl rfl rfl (by first | exact in_i64 (by omega) | rfl)) ?_
      refine ho_ev rfl rfl rfl (ev_move rfl rfl) ?_
      refine ho_nil ?_
      refine hx_again (I := (fun q : Nat × Option Addr × Nat => ([pt b4 (.cells #[.int .u64 (v : Int)] 41 (0, 0)), pt b8 (.cells #[.slice q.2.1 (b ++ (Wire.be v n).take q.1).length q.2.2] 86 (0, 0)), ownS 5 q.2.1 (b ++ (Wire.be v n).take q.1).length q.2.2 (b ++ (Wire.be v n).take q.1), ro bitsR, pu (q.1 ≤ n), F], [(34, .int .i64 q.1), (33, .int .i64 n), (2, .int .i64 n), (9, .func (.func 90) #[] #[.pointer (some ⟨b8, 0, none⟩), .pointer (some ⟨b4, 0, none⟩)]), (8, .pointer (some ⟨b8, 0, none⟩))]))) (μ := (fun q : Nat × Option Addr × Nat => n - q.1)) (i := (q, ad, cp)) (q + 1, x44.1, x44.2) ?_ ?_ ?_
      ·(first | dsimp only | skip); omega
      ·repeat (first | exact EnvSub.nil _ | (refine EnvSub.cons rfl ?_))
      ·(first | dsimp only | skip)
       rw [Wire.be_step v n q (by omega), ← List.append_assoc]
       exact Ent.cons (by (repeat constructor); done) (Ent.cons (by (repeat constructor); done) (Ent.cons (by (repeat constructor); done) (Ent.roD (by (with_reducible repeat constructor); done) (Ent.pu (by omega) (Ent.cons (by (repeat constructor); done) Ent.nil)))))
     ·skip
      refine ho_nil ?_
      refine hx_then ?_
      refine ht_seq ?_
      refine ht_else rfl ?_
      refine ht_exit ?_
      refine hx_through trivial ?_
      refine hx_through trivial ?_
      refine hx_block_here ?_
      refine hx_then ?_
      refine ht_seq ?_
      obtain rfl : q = n := by omega
      rw [List.take_of_length_le (Nat.le_of_eq (Wire.be_len v q))]
      refine ht_region ?_
      refine ho_ev rfl rfl rfl (ev_load rfl Tryd.underlying86 rfl rfl (by first | exact cell_pt (by (with_reducible repeat constructor); done) rfl | exact cell_ro (by (with_reducible repeat constructor); done) rfl)) ?_
      refine ho_ev rfl rfl rfl (ev_assign rfl rfl) ?_
      refine ho_ev rfl rfl rfl (ev_assign rfl rfl) ?_
      refine ho_nil ?_
      refine hx_then ?_
      refine ht_ret ?_
      exact hx_ret2 (.inl rfl) rfl rfl rfl (ad, cp) rfl (Ent.cons (by (repeat constructor); done) (Ent.cons (by (repeat constructor); done) Ent.nil))
   ·skip
    refine hd_ev rfl rfl rfl rfl (EvG.ofg rfl rfl (ev_move rfl rfl)) ?_
    refine hd_ev rfl rfl rfl rfl (EvG.pass rfl rfl) ?_
    refine hd_ev rfl rfl rfl rfl (EvG.pass rfl rfl) ?_
    refine hd_ev rfl rfl rfl rfl (EvG.pass rfl rfl) ?_
    refine hd_ev rfl rfl rfl rfl (EvG.pass rfl rfl) ?_
    refine hd_ev rfl rfl rfl rfl (EvG.pass rfl rfl) ?_
    refine hd_ev rfl rfl rfl rfl (EvG.pass rfl rfl) ?_
    refine hd_ev rfl rfl rfl rfl (EvG.ofg rfl rfl (ev_pick_f rfl rfl rfl)) ?_
    refine hd_ev rfl rfl rfl rfl (EvG.of rfl (ev_pick_f rfl rfl rfl)) ?_
    refine hd_nil ?_
    refine hx_then ?_
    refine ht_else rfl ?_
    refine ht_skip ?_
    refine hx_then ?_
    refine ht_seq ?_
    refine ht_region ?_
    refine ho_eff rfl rfl rfl (eff_buildAll (α := UInt8) [] rfl Tryd.underlying86 Tryd.ty5 .nil .nil rfl (Nat.le_of_ble_eq_true rfl)) (fun b29 => ?_)
    refine ho_ev rfl rfl rfl (ev_move rfl rfl) ?_
    refine ho_eff rfl rfl rfl (eff_append (α := UInt8) rfl Tryd.underlying86 Tryd.ty5 rfl (by decide) Tryd.underlying86 rfl rfl (by (with_reducible repeat constructor); done) (by first | exact reads_ro (by (with_reducible repeat constructor); done) | exact reads_own (by (with_reducible repeat constructor); done) | exact reads_nil _) (by first | omega | (simp only [List.length_append, List.length_cons, List.length_nil, List.length_drop, List.length_take]; omega) | (simp; omega))) (fun p31 => ?_)
    refine ho_eff rfl rfl rfl (eff_alloc rfl Tryd.ty86 (by first | exact cells_agg _ | exact rfl)) (fun b8 => ?_)
    refine ho_eff0 rfl rfl (eff_store1 rfl Tryd.ty86 rfl rfl (by (with_reducible repeat constructor); done) rfl rfl (lt_of_blt rfl) (by simp only [List.setIfInBounds_toArray, List.set_cons_zero, List.set_cons_succ]; rfl)) (fun _ => ?_)
    refine ho_nil ?_
    refine hx_then ?_
    refine ht_seq ?_
    refine ht_region ?_
    refine ho_ev rfl rfl rfl (ev_makeFunc rfl .nil (.cons rfl (.cons rfl .nil))) ?_
    refine ho_ev rfl rfl rfl (ev_assign rfl rfl) ?_
    refine ho_nil ?_
    refine hx_then ?_
    refine ht_seq ?_
    refine ht_seq ?_
    refine ht_region ?_
    refine ho_ev rfl rfl rfl (ev_move rfl rfl) ?_
    refine ho_ev rfl rfl rfl (ev_move rfl rfl) ?_
    refine ho_nil ?_
    refine hx_then ?_
    refine ht_block ?_
    refine ht_loop (fun q : Nat × Option Addr × Nat => ([pt b4 (.cells #[.int .u64 (v : Int)] 41 (0, 0)), pt b8 (.cells #[.slice q.2.1 (b ++ (Wire.be v n).take q.1).length q.2.2] 86 (0, 0)), ownS 5 q.2.1 (b ++ (Wire.be v n).take q.1).length q.2.2 (b ++ (Wire.be v n).take q.1), ro bitsR, pu (q.1 ≤ n), F], [(34, .int .i64 q.1), (33, .int .i64 n), (2, .int .i64 n), (9, .func (.func 90) #[] #[.pointer (some ⟨b8, 0, none⟩), .pointer (some ⟨b4, 0, none⟩)]), (8, .pointer (some ⟨b8, 0, none⟩))])) (fun q : Nat × Option Addr × Nat => n - q.1) (0, p31.1, p31.2) ?_ (by repeat (first | exact EnvSub.nil _ | (refine EnvSub.cons rfl ?_))) (fun q => ?_)
    ·(first | dsimp only | skip)
     rw [List.take_zero, List.append_nil]
     exact Ent.cons (by (repeat constructor); done) (Ent.cons (by (repeat constructor); done) (Ent.cons (by (repeat constructor); done) (Ent.roD (by (with_reducible repeat constructor); done) (Ent.pu (by omega) (Ent.cons (by (repeat constructor); done) Ent.nil)))))
    obtain ⟨q, ad, cp⟩ := q
    dsimp only
    refine ht_pick (A := pu (q ≤ n)) (by (repeat constructor); done) (ht_pure fun hq => ?_)
    have hlen : (b ++ (Wire.be v n).take q).length = b.length + q := by rw [List.length_append, List.length_take, Wire.be_len]; omega
    refine ht_seq ?_
    refine ht_region ?_
    refine ho_lt rfl rfl rfl rfl rfl rfl (fun g6 => ?_) (fun g6 => ?_)
    ·skip
     refine ho_nil ?_
     refine hx_then ?_
     refine ht_seq ?_
     refine ht_then rfl ?_
     refine ht_skip ?_
     refine hx_then ?_
     refine ht_seq ?_
     refine ht_block ?_
     refine ht_seq ?_
     refine ht_region ?_
     refine ho_ev rfl rfl rfl (ev_move rfl rfl) ?_
     refine ho_ev rfl rfl rfl (ev_assign rfl rfl) ?_
     refine ho_nil ?_
     refine hx_then ?_
     refine ht_region ?_
     refine ho_ev rfl rfl rfl (ev_move rfl rfl) ?_
     refine ho_ev rfl rfl rfl (ev_move rfl rfl) ?_
     refine ho_ev rfl rfl rfl (ev_sub rfl rfl rfl (by first | exact in_i64 (by omega) | rfl)) ?_
     refine ho_ev rfl rfl rfl (ev_move rfl rfl) ?_
     refine ho_ev rfl rfl rfl (ev_sub rfl rfl rfl (by first | exact in_i64 (by omega) | rfl)) ?_
     refine ho_ev rfl rfl rfl (ev_indexAddrA rfl Tryd.underlying168 Tryd.ty167 rfl rfl (by omega) (by omega)) ?_
     refine ho_ev rfl rfl rfl (ev_load rfl Tryd.underlying167 rfl rfl (cell_bits (i := n - 1 - q) (by (with_reducible repeat constructor); done) (by omega) (by omega))) ?_
     refine ho_eff rfl rfl rfl (eff_call rfl rfl (.cons rfl .nil) rfl (num_Put1 b8 b4 v (8 * (n - 1 - q)) ad cp (b ++ (Wire.be v n).take q) hv (by omega)) (by repeat (first | exact Picks.nil | (apply Picks.ro; focus ((with_reducible repeat constructor); done)) | (apply Picks.cons; focus ((with_reducible repeat constructor); done)))) (fun _ => by repeat (first | exact App.nil | apply App.cons))) (fun x44 => ?_)
     refine ho_nil ?_
     refine hx_block_normal ?_
     refine hx_then ?_
     refine ht_region ?_
     refine ho_ev rfl rfl rfl (ev_add rfl rfl rfl (by first | exact in_i64 (by omega) | rfl)) ?_
     refine ho_ev rfl rfl rfl (ev_move rfl rfl) ?_
     refine ho_nil ?_
     refine hx_again (I := (fun q : Nat × Option Addr × Nat => ([pt b4 (.cells #[.int .u64 (v : Int)] 41 (0, 0)), pt b8 (.cells #[.slice q.2.1 (b ++ (Wire.be v n).take q.1).length q.2.2] 86 (0, 0)), ownS 5 q.2.1 (b ++ (Wire.be v n).take q.1).length q.2.2 (b ++ (Wire.be v n).take q.1), ro bitsR, pu (q.1 ≤ n), F], [(34, .int .i64 q.1), (33, .int .i64 n), (2, .int .i64 n), (9, .func (.func 90) #[] #[.pointer (some ⟨b8, 0, none⟩), .pointer (some ⟨b4, 0, none⟩)]), (8, .pointer (some ⟨b8, 0, none⟩))]))) (μ := (fun q : Nat × Option Addr × Nat => n - q.1)) (i := (q, ad, cp)) (q + 1, x44.1, x44.2) ?_ ?_ ?_
     ·(first | dsimp only | skip); omega
     ·repeat (first | exact EnvSub.nil _ | (refine EnvSub.cons rfl ?_))
     ·(first | dsimp only | skip)
      rw [Wire.be_step v n q (by omega), ← List.append_assoc]
      exact Ent.cons (by (repeat constructor); done) (Ent.cons (by (repeat constructor); done) (Ent.cons (by (repeat constructor); done) (Ent.roD (by (with_reducible repeat constructor); done) (Ent.pu (by omega) (Ent.cons (by (repeat constructor); done) Ent.nil)))))
    ·skip
     refine ho_nil ?_
     refine hx_then ?_
     refine ht_seq ?_
     refine ht_else rfl ?_
     refine ht_exit ?_
     refine hx_through trivial ?_
     refine hx_through trivial ?_
     refine hx_block_here ?_
     refine hx_then ?_
     refine ht_seq ?_
     obtain rfl : q = n := by omega
     rw [List.take_of_length_le (Nat.le_of_eq (Wire.be_len v q))]
     refine ht_region ?_
     refine ho_ev rfl rfl rfl (ev_load rfl Tryd.underlying86 rfl rfl (by first | exact cell_pt (by (with_reducible repeat constructor); done) rfl | exact cell_ro (by (with_reducible repeat constructor); done) rfl)) ?_
     refine ho_ev rfl rfl rfl (ev_assign rfl rfl) ?_
     refine ho_ev rfl rfl rfl (ev_assign rfl rfl) ?_
     refine ho_nil ?_
     refine hx_then ?_
     refine ht_ret ?_
     exact hx_ret2 (.inl rfl) rfl rfl rfl (ad, cp) rfl (Ent.cons (by (repeat constructor); done) (Ent.cons (by (repeat constructor); done) Ent.nil))
theorem num_Get_no (a : Option Addr) (c : Nat) (b : List UInt8) (n : Nat) (h1 : 1 ≤ n) (h8 : n ≤ 8) (hb : b.length < n) : Ctr Tryd.prog 79 #[.slice a b.length c, .int .i64 (n : Int)] [ro (roS a b.length b)] (fun _ : Unit => .tuple #[.int .u64 0, .slice none 0 0, .int .i64 10]) (fun _ => []) := by
 refine fn_intro Tryd.func79 rfl rfl Tryd.ntmps79 (Nat.le_of_ble_eq_true rfl) (fun _ => by repeat (first | exact App.nil | apply App.cons)) (fun κ F => ?_)
 refine ht_seq ?_
 refine ht_region ?_
 refine ho_ev rfl rfl rfl (ev_assign rfl rfl) ?_
 refine ho_ev rfl rfl rfl (ev_assign rfl rfl) ?_
 refine ho_ev rfl rfl rfl (ev_assign rfl rfl) ?_
 refine ho_nil ?_
 refine hx_then ?_
 refine ht_seq ?_
 refine ht_block ?_
 refine ht_seq ?_
 refine ht_region ?_
 refine ho_ev rfl rfl rfl (ev_move rfl rfl) ?_
 refine ho_lt rfl rfl rfl rfl rfl rfl (fun g1 => ?_) (fun g1 => ?_)
 ·omega
 ·skip
  refine ho_ev rfl rfl rfl (ev_move rfl rfl) ?_
  refine ho_evg rfl rfl rfl rfl (ev_move rfl rfl) ?_
  refine ho_gtg rfl rfl rfl rfl rfl rfl rfl (fun g2 => ?_) (fun g2 => ?_)
  ·omega
  ·skip
   refine ho_ev rfl rfl rfl (ev_pick_f rfl rfl rfl) ?_
   refine ho_ev rfl rfl rfl (ev_assign rfl rfl) ?_
   refine ho_nil ?_
   refine hx_then ?_
   refine ht_else rfl ?_
   refine ht_seq ?_
   refine ht_region ?_
   refine ho_ev rfl rfl rfl (ev_move rfl rfl) ?_
   refine ho_ev rfl rfl rfl (ev_lenSl rfl Tryd.underlying86 rfl) ?_
   refine ho_ev rfl rfl rfl (ev_move rfl rfl) ?_
   refine ho_lt rfl rfl rfl rfl rfl rfl (fun g3 => ?_) (fun g3 => ?_)
   ·skip
    refine ho_ev rfl rfl rfl (ev_assign rfl rfl) ?_
    refine ho_nil ?_
    refine hx_then ?_
    refine ht_then rfl ?_
    refine ht_seq ?_
    refine ht_region ?_
    refine ho_ev rfl rfl rfl (ev_assign rfl rfl) ?_
    refine ho_ev rfl rfl rfl (ev_assign rfl rfl) ?_
    refine ho_ev rfl rfl rfl (ev_assign rfl rfl) ?_
    refine ho_nil ?_
    refine hx_then ?_
    refine ht_ret ?_
    refine hx_block_ret ?_
    refine hx_through trivial ?_
    exact hx_ret3 (.inl rfl) rfl rfl rfl rfl () rfl (Ent.cons (by (repeat constructor); done) Ent.nil)
   ·omega
theorem num_Get (a : Option Addr) (c : Nat) (b : List UInt8) (n : Nat) (h1 : 1 ≤ n) (h8 : n ≤ 8) (hb : n ≤ b.length) (hc : b.length ≤ c) (hb2 : b.length ≤ 1099511627776) : Ctr Tryd.prog 79 #[.slice a b.length c, .int .i64 (n : Int)] [ro (roS a b.length b)] (fun q : Option Addr × Nat => .tuple #[.int .u64 ((Wire.ofBe (b.take n) : Nat) : Int), .slice q.1 (b.drop n).length q.2, .int .i64 0]) (fun q => [ro (roS q.1 (b.drop n).length (b.drop n)), pu ((b.drop n).length ≤ q.2)]) := by
 refine fn_intro Tryd.func79 rfl rfl Tryd.ntmps79 (Nat.le_of_ble_eq_true rfl) (fun _ => by repeat (first | exact App.nil | apply App.cons)) (fun κ F => ?_)
 refine ht_seq ?_
 refine ht_region ?_
 refine ho_ev rfl rfl rfl (ev_assign rfl rfl) ?_
 refine ho_ev rfl rfl rfl (ev_assign rfl rfl) ?_
 refine ho_ev rfl rfl rfl (ev_assign rfl rfl) ?_
 refine ho_nil ?_
 refine hx_then ?_
 refine ht_seq ?_
 refine ht_block ?_
 refine ht_seq ?_
 refine ht_region ?_
 refine ho_ev rfl rfl rfl (ev_move rfl rfl) ?_
 refine ho_lt rfl rfl rfl rfl rfl rfl (fun g1 => ?_) (fun g1 => ?_)
 ·omega
 ·skip
  refine ho_ev rfl rfl rfl (ev_move rfl rfl) ?_
  refine ho_evg rfl rfl rfl rfl (ev_move rfl rfl) ?_
  refine ho_gtg rfl rfl rfl rfl rfl rfl rfl (fun g2 => ?_) (fun g2 => ?_)
  ·omega
  ·skip
   refine ho_ev rfl rfl rfl (ev_pick_f rfl rfl rfl) ?_
   refine ho_ev rfl rfl rfl (ev_assign rfl rfl) ?_
   refine ho_nil ?_
   refine hx_then ?_
   refine ht_else rfl ?_
   refine ht_seq ?_
   refine ht_region ?_
   refine ho_ev rfl rfl rfl (ev_move rfl rfl) ?_
   refine ho_ev rfl rfl rfl (ev_lenSl rfl Tryd.underlying86 rfl) ?_
   refine ho_ev rfl rfl rfl (ev_move rfl rfl) ?_
   refine ho_lt rfl rfl rfl rfl rfl rfl (fun g3 => ?_) (fun g3 => ?_)
   ·omega
   ·skip
    refine ho_ev rfl rfl rfl (ev_assign rfl rfl) ?_
    refine ho_nil ?_
    refine hx_then ?_
    refine ht_else rfl ?_
    refine ht_skip ?_
    refine hx_block_normal ?_
    refine hx_then ?_
    refine ht_seq ?_
    refine ht_region ?_
    refine ho_ev rfl rfl rfl (ev_assign rfl rfl) ?_
    refine ho_nil ?_
    refine hx_then ?_
    refine ht_seq ?_
    refine ht_seq ?_
    refine ht_region ?_
    refine ho_ev rfl rfl rfl (ev_move rfl rfl) ?_
    refine ho_ev rfl rfl rfl (ev_move rfl rfl) ?_
    refine ho_nil ?_
    refine hx_then ?_
    refine ht_block ?_
    refine ht_loop (fun q : Nat => ([ro (roS a b.length b), pu (q ≤ n), F], [(22, .int .i64 q), (21, .int .i64 n), (0, .slice a b.length c), (1, .int .i64 n), (7, .int .u64 ((Wire.ofBe (b.take q) : Nat) : Int))])) (fun q : Nat => n - q) 0 ?_ (by repeat (first | exact EnvSub.nil _ | (refine EnvSub.cons rfl ?_))) (fun q => ?_)
    ·(first | dsimp only | skip)
     exact Ent.roD (by (with_reducible repeat constructor); done) (Ent.pu (by omega) (Ent.cons (by (repeat constructor); done) Ent.nil))
    obtain q := q
    dsimp only
    refine ht_pick (A := pu (q ≤ n)) (by (repeat constructor); done) (ht_pure fun hq => ?_)
    refine ht_seq ?_
    refine ht_region ?_
    refine ho_lt rfl rfl rfl rfl rfl rfl (fun g4 => ?_) (fun g4 => ?_)
    ·skip
     refine ho_nil ?_
     refine hx_then ?_
     refine ht_seq ?_
     refine ht_then rfl ?_
     refine ht_skip ?_
     refine hx_then ?_
     refine ht_seq ?_
     refine ht_block ?_
     refine ht_seq ?_
     refine ht_region ?_
     refine ho_ev rfl rfl rfl (ev_move rfl rfl) ?_
     refine ho_ev rfl rfl rfl (ev_assign rfl rfl) ?_
     refine ho_nil ?_
     refine hx_then ?_
     obtain ⟨x, hx⟩ : ∃ x, b[q]? = some x := ⟨_, List.getElem?_eq_getElem (by omega)⟩
     have hxb := Wire.byte_lt x
     have hfit := Wire.ofBe_fit b q (by omega)
     refine ht_someS (α := UInt8) (reads_ro (by (with_reducible repeat constructor); done)) (by omega) (fun ab ao ha => ?_)
     refine ht_region ?_
     refine ho_ev rfl rfl rfl (ev_move rfl rfl) ?_
     refine ho_ev rfl rfl rfl (ev_shl (r := ((Wire.ofBe (b.take q) * 2 ^ 8 : Nat) : Int)) rfl rfl rfl (by omega) (by exact shl_u64 _ 8 (by decide) (by omega))) ?_
     refine ho_ev rfl rfl rfl (ev_move rfl rfl) ?_
     refine ho_ev rfl rfl rfl (ev_move rfl rfl) ?_
     refine ho_ev rfl rfl rfl (ev_indexAddr rfl Tryd.underlying86 Tryd.ty5 (congrArg (fun z => some (Value.slice z b.length c)) ha) rfl (by omega) (by omega)) ?_
     refine ho_ev rfl rfl rfl (ev_load rfl Tryd.underlying5 rfl rfl (cell_Sa0 ha (reads_ro (by (with_reducible repeat constructor); done)) hx rfl)) ?_
     refine ho_ev rfl rfl rfl (ev_convI rfl ⟨_, Tryd.underlying5⟩ Tryd.underlying41 rfl (by first | exact IntWalk.u64_in _ (by omega) | rfl)) ?_
     refine ho_ev rfl rfl rfl (ev_or (r := ((Wire.ofBe (b.take (q + 1)) : Nat) : Int)) rfl rfl rfl (by rw [u64_or_nat _ _ (by omega) (by omega), or_high _ _ 8 (by omega), Wire.ofBe_step b q x hx])) ?_
     refine ho_ev rfl rfl rfl (ev_assign rfl rfl) ?_
     refine ho_nil ?_
     refine hx_block_normal ?_
     refine hx_then ?_
     refine ht_region ?_
     refine ho_ev rfl rfl rfl (ev_add rfl rfl rfl (by first | exact in_i64 (by omega) | rfl)) ?_
     refine ho_ev rfl rfl rfl (ev_move rfl rfl) ?_
     refine ho_nil ?_
     refine hx_again (I := (fun q : Nat => ([ro (roS a b.length b), pu (q ≤ n), F], [(22, .int .i64 q), (21, .int .i64 n), (0, .slice a b.length c), (1, .int .i64 n), (7, .int .u64 ((Wire.ofBe (b.take q) : Nat) : Int))]))) (μ := (fun q : Nat => n - q)) (i := q) (q + 1) ?_ ?_ ?_
     ·(first | dsimp only | skip); omega
     ·repeat (first | exact EnvSub.nil _ | (refine EnvSub.cons rfl ?_))
     ·(first | dsimp only | skip)
      exact Ent.roD (by (with_reducible repeat constructor); done) (Ent.pu (by omega) (Ent.cons (by (repeat constructor); done) Ent.nil))
    ·skip
     refine ho_nil ?_
     refine hx_then ?_
     refine ht_seq ?_
     refine ht_else rfl ?_
     refine ht_exit ?_
     refine hx_through trivial ?_
     refine hx_through trivial ?_
     refine hx_block_here ?_
     refine hx_then ?_
     refine ht_seq ?_
     obtain rfl : q = n := by omega
     refine ht_region ?_
     refine ho_ev rfl rfl rfl (ev_move rfl rfl) ?_
     refine ho_eff rfl rfl rfl (eff_buildAll (α := UInt8) [] rfl Tryd.underlying86 Tryd.ty5 .nil .nil rfl (Nat.le_of_ble_eq_true rfl)) (fun b35 => ?_)
     refine ho_ev rfl rfl rfl (ev_move rfl rfl) ?_
     refine ho_ev rfl rfl rfl (ev_move rfl rfl) ?_
     refine ho_eff rfl rfl rfl (eff_slice (α := UInt8) rfl Tryd.underlying86 Tryd.ty5 rfl (by (with_reducible repeat constructor); done) ⟨_, rfl⟩ rfl rfl (by decide) (by omega) (by omega) (by omega) (by omega)) (fun a38 => ?_)
     refine ho_eff rfl rfl rfl (eff_append (α := UInt8) rfl Tryd.underlying86 Tryd.ty5 rfl (by decide) Tryd.underlying86 rfl rfl (by (with_reducible repeat constructor); done) (by first | exact reads_ro (by (with_reducible repeat constructor); done) | exact reads_own (by (with_reducible repeat constructor); done) | exact reads_nil _) (by first | omega | (simp only [List.length_append, List.length_cons, List.length_nil, List.length_drop, List.length_take]; omega) | (simp; omega))) (fun p39 => ?_)
     refine ho_ev rfl rfl rfl (ev_assign rfl rfl) ?_
     refine ho_ev rfl rfl rfl (ev_assign rfl rfl) ?_
     refine ho_ev rfl rfl rfl (ev_assign rfl rfl) ?_
     refine ho_nil ?_
     refine hx_then ?_
     refine ht_ret ?_
     refine hx_cap (xs := [] ++ (b.take b.length).drop q) (by (with_reducible repeat constructor); done) (fun hl hcap => ?_)
     refine hx_freezeS (xs := [] ++ (b.take b.length).drop q) (by (with_reducible repeat constructor); done) ?_
     have e0 : [] ++ (b.take b.length).drop q = b.drop q := by simp
     rw [e0] at hl hcap ⊢
     exact hx_ret3 (.inl rfl) rfl rfl rfl rfl p39 rfl (Ent.roD (by (with_reducible repeat constructor); done) (Ent.pu hcap (Ent.cons (by (repeat constructor); done) Ent.nil)))
theorem num_PutVar (a : Option Addr) (c : Nat) (b : List UInt8) (v : Nat) (hv : v < 18446744073709551616) (hb : b.length ≤ 1099511627776) : Ctr Tryd.prog 101 #[.slice a b.length c, .int .u64 (v : Int)] [ro (roS a b.length b)] (fun q : Option Addr × Nat => .slice q.1 (b ++ Wire.var v).length q.2) (fun q => [ownS 5 q.1 (b ++ Wire.var v).length q.2 (b ++ Wire.var v)]) := by
 refine fn_intro Tryd.func101 rfl rfl Tryd.ntmps101 (Nat.le_of_ble_eq_true rfl) (fun _ => by repeat (first | exact App.nil | apply App.cons)) (fun κ F => ?_)
 refine ht_seq ?_
 refine ht_region ?_
 refine ho_ev rfl rfl rfl (ev_assign rfl rfl) ?_
 refine ho_nil ?_
 refine hx_then ?_
 refine ht_seq ?_
 refine ht_region ?_
 refine ho_eff rfl rfl rfl (eff_buildAll (α := UInt8) [] rfl Tryd.underlying86 Tryd.ty5 .nil .nil rfl (Nat.le_of_ble_eq_true rfl)) (fun b6 => ?_)
 refine ho_ev rfl rfl rfl (ev_move rfl rfl) ?_
 refine ho_eff rfl rfl rfl (eff_append (α := UInt8) rfl Tryd.underlying86 Tryd.ty5 rfl (by decide) Tryd.underlying86 rfl rfl (by (with_reducible repeat constructor); done) (by first | exact reads_ro (by (with_reducible repeat constructor); done) | exact reads_own (by (with_reducible repeat constructor); done) | exact reads_nil _) (by first | omega | (simp only [List.length_append, List.length_cons, List.length_nil, List.length_drop, List.length_take]; omega) | (simp; omega))) (fun p8 => ?_)
 refine ho_ev rfl rfl rfl (ev_assign rfl rfl) ?_
 refine ho_nil ?_
 refine hx_then ?_
 refine ht_seq ?_
 refine ht_block ?_
 refine ht_loop (fun q : Nat × List UInt8 × Option Addr × Nat => ([ownS 5 q.2.2.1 q.2.1.length q.2.2.2 q.2.1, pu (q.2.1 ++ Wire.var q.1 = b ++ Wire.var v ∧ q.1 ≤ v), F], [(1, .int .u64 ((q.1 : Nat) : Int)), (5, .slice q.2.2.1 q.2.1.length q.2.2.2)])) (fun q : Nat × List UInt8 × Option Addr × Nat => q.1) (v, [] ++ b, _, _) ?_ (by repeat (first | exact EnvSub.nil _ | (refine EnvSub.cons rfl ?_))) (fun q => ?_)
 ·(first | dsimp only | skip)
  exact Ent.cons (by (repeat constructor); done) (Ent.pu ⟨by simp, Nat.le_refl _⟩ (Ent.cons (by (repeat constructor); done) Ent.nil))
 obtain ⟨z, out, ad, cp⟩ := q
 dsimp only
 refine ht_pick (A := pu (out ++ Wire.var z = b ++ Wire.var v ∧ z ≤ v)) (by (repeat constructor); done) (ht_pure fun hq => ?_)
 obtain ⟨hq, hzv⟩ := hq
 have hvl := Wire.var_len v 10 (Nat.lt_of_lt_of_le hv (by decide)) (by decide)
 have hol : out.length ≤ b.length + 10 := by have := congrArg List.length hq; simp only [List.length_append] at this; omega
 refine ht_seq ?_
 refine ht_seq ?_
 refine ht_region ?_
 refine ho_ev rfl rfl rfl (ev_move rfl rfl) ?_
 refine ho_ge rfl rfl rfl rfl rfl rfl (fun g1 => ?_) (fun g1 => ?_)
 ·skip
  refine ho_nil ?_
  refine hx_then ?_
  refine ht_then rfl ?_
  refine ht_skip ?_
  refine hx_then ?_
  refine ht_seq ?_
  refine ht_block ?_
  refine ht_region ?_
  refine ho_ev rfl rfl rfl (ev_move rfl rfl) ?_
  refine ho_ev rfl rfl rfl (ev_move rfl rfl) ?_
  refine ho_ev rfl rfl rfl (ev_convI (r := ((z % 256 : Nat) : Int)) rfl ⟨_, Tryd.underlying41⟩ Tryd.underlying5 rfl (by rw [IntKind.wrap_u8']; exact (Int.natCast_emod _ 256).symm)) ?_
  refine ho_ev rfl rfl rfl (ev_or (r := (((Wire.byte (z % 128 + 128)).toNat : Nat) : Int)) rfl rfl rfl (by rw [or_u8_128 _ (by omega), Wire.byte_nat]; congr 1; omega)) ?_
  refine ho_eff rfl rfl rfl (eff_buildAll (α := UInt8) [Wire.byte (z % 128 + 128)] rfl Tryd.underlying86 Tryd.ty5 (.cons rfl .nil) (.cons rfl .nil) rfl (Nat.le_of_ble_eq_true rfl)) (fun b17 => ?_)
  refine ho_eff rfl rfl rfl (eff_append (α := UInt8) rfl Tryd.underlying86 Tryd.ty5 rfl (by decide) Tryd.underlying86 rfl rfl (by (with_reducible repeat constructor); done) (by first | exact reads_ro (by (with_reducible repeat constructor); done) | exact reads_own (by (with_reducible repeat constructor); done) | exact reads_nil _) (by first | omega | (simp only [List.length_append, List.length_cons, List.length_nil, List.length_drop, List.length_take]; omega) | (simp; omega))) (fun p18 => ?_)
  refine ho_ev rfl rfl rfl (ev_assign rfl rfl) ?_
  refine ho_nil ?_
  refine hx_block_normal ?_
  refine hx_then ?_
  refine ht_region ?_
  refine ho_ev rfl rfl rfl (ev_move rfl rfl) ?_
  refine ho_ev rfl rfl rfl (ev_shr (r := ((z / 2 ^ 7 : Nat) : Int)) rfl rfl rfl (by omega) (by exact shr_u64 z 7 (by omega))) ?_
  refine ho_ev rfl rfl rfl (ev_assign rfl rfl) ?_
  refine ho_nil ?_
  refine hx_again (I := (fun q : Nat × List UInt8 × Option Addr × Nat => ([ownS 5 q.2.2.1 q.2.1.length q.2.2.2 q.2.1, pu (q.2.1 ++ Wire.var q.1 = b ++ Wire.var v ∧ q.1 ≤ v), F], [(1, .int .u64 ((q.1 : Nat) : Int)), (5, .slice q.2.2.1 q.2.1.length q.2.2.2)]))) (μ := (fun q : Nat × List UInt8 × Option Addr × Nat => q.1)) (i := (z, out, ad, cp)) (z / 2 ^ 7, out ++ [Wire.byte (z % 128 + 128)], p18.1, p18.2) ?_ ?_ ?_
  ·(first | dsimp only | skip); omega
  ·repeat (first | exact EnvSub.nil _ | (refine EnvSub.cons rfl ?_))
  ·(first | dsimp only | skip)
   exact Ent.cons (by (repeat constructor); done) (Ent.pu ⟨by rw [← hq, Wire.var_ge (show 128 ≤ z by omega), List.append_assoc]; rfl, by omega⟩ (Ent.cons (by (repeat constructor); done) Ent.nil))
 ·skip
  refine ho_nil ?_
  refine hx_then ?_
  refine ht_else rfl ?_
  refine ht_exit ?_
  refine hx_through trivial ?_
  refine hx_through trivial ?_
  refine hx_block_here ?_
  refine hx_then ?_
  refine ht_seq ?_
  refine ht_region ?_
  refine ho_ev rfl rfl rfl (ev_move rfl rfl) ?_
  refine ho_ev rfl rfl rfl (ev_move rfl rfl) ?_
  refine ho_ev rfl rfl rfl (ev_convI (r := (((Wire.byte z).toNat : Nat) : Int)) rfl ⟨_, Tryd.underlying41⟩ Tryd.underlying5 rfl (by exact byte_u8 _)) ?_
  refine ho_eff rfl rfl rfl (eff_buildAll (α := UInt8) [Wire.byte z] rfl Tryd.underlying86 Tryd.ty5 (.cons rfl .nil) (.cons rfl .nil) rfl (Nat.le_of_ble_eq_true rfl)) (fun b22 => ?_)
  refine ho_eff rfl rfl rfl (eff_append (α := UInt8) rfl Tryd.underlying86 Tryd.ty5 rfl (by decide) Tryd.underlying86 rfl rfl (by (with_reducible repeat constructor); done) (by first | exact reads_ro (by (with_reducible repeat constructor); done) | exact reads_own (by (with_reducible repeat constructor); done) | exact reads_nil _) (by first | omega | (simp only [List.length_append, List.length_cons, List.length_nil, List.length_drop, List.length_take]; omega) | (simp; omega))) (fun p23 => ?_)
  refine ho_ev rfl rfl rfl (ev_assign rfl rfl) ?_
  refine ho_nil ?_
  refine hx_then ?_
  refine ht_ret ?_
  have e0 : out ++ [Wire.byte z] = b ++ Wire.var v := by rw [← hq, Wire.var_lt (show z < 128 by omega)]
  rw [e0]
  exact hx_ret1 (.inl rfl) rfl rfl p23 rfl (Ent.cons (by (repeat constructor); done) (Ent.cons (by (repeat constructor); done) Ent.nil))
theorem num_GetVar (a : Option Addr) (c : Nat) (b : List UInt8) (hc : b.length ≤ c) (hb2 : b.length ≤ 1099511627776) : Ctr Tryd.prog 103 #[.slice a b.length c] [ro (roS a b.length b)] (fun q : Option Addr × Nat => (.tuple #[.int .u64 (((Wire.getVar 0 0 b).1 : Nat) : Int), .slice q.1 (Wire.getVar 0 0 b).2.1.length q.2, .int .i64 (Wire.getVar 0 0 b).2.2])) (fun q => [ro (roS q.1 (Wire.getVar 0 0 b).2.1.length (Wire.getVar 0 0 b).2.1), pu ((Wire.getVar 0 0 b).2.1.length ≤ q.2)]) := by
 refine fn_intro Tryd.func103 rfl rfl Tryd.ntmps103 (Nat.le_of_ble_eq_true rfl) (fun _ => by repeat (first | exact App.nil | apply App.cons)) (fun κ F => ?_)
 refine ht_seq ?_
 refine ht_region ?_
 refine ho_ev rfl rfl rfl (ev_assign rfl rfl) ?_
 refine ho_ev rfl rfl rfl (ev_assign rfl rfl) ?_
 refine ho_ev rfl rfl rfl (ev_assign rfl rfl) ?_
 refine ho_nil ?_
 refine hx_then ?_
 refine ht_seq ?_
 refine ht_region ?_
 refine ho_ev rfl rfl rfl (ev_assign rfl rfl) ?_
 refine ho_nil ?_
 refine hx_then ?_
 refine ht_seq ?_
 refine ht_seq ?_
 refine ht_region ?_
 refine ho_ev rfl rfl rfl (ev_move rfl rfl) ?_
 refine ho_ev rfl rfl rfl (ev_lenSl rfl Tryd.underlying86 rfl) ?_
 refine ho_ev rfl rfl rfl (ev_move rfl rfl) ?_
 refine ho_nil ?_
 refine hx_then ?_
 refine ht_block ?_
 refine ht_loop (fun q : Nat × Nat => ([ro (roS a b.length b), pu (Wire.getVar q.1 q.2 (b.drop q.1) = Wire.getVar 0 0 b ∧ q.2 < 2 ^ (7 * q.1) ∧ q.1 ≤ 9 ∧ q.1 ≤ b.length), F], [(10, .int .i64 q.1), (9, .int .i64 b.length), (0, .slice a b.length c), (5, .int .u64 ((q.2 : Nat) : Int))])) (fun q : Nat × Nat => b.length - q.1) (0, 0) ?_ (by repeat (first | exact EnvSub.nil _ | (refine EnvSub.cons rfl ?_))) (fun q => ?_)
 ·(first | dsimp only | skip)
  exact Ent.roD (by (with_reducible repeat constructor); done) (Ent.pu ⟨rfl, by simp, by omega, by omega⟩ (Ent.cons (by (repeat constructor); done) Ent.nil))
 obtain ⟨q, v⟩ := q
 dsimp only
 refine ht_pick (A := pu (Wire.getVar q v (b.drop q) = Wire.getVar 0 0 b ∧ v < 2 ^ (7 * q) ∧ q ≤ 9 ∧ q ≤ b.length)) (by (repeat constructor); done) (ht_pure fun hq => ?_)
 obtain ⟨hinv, hv, hq9, hql⟩ := hq
 have hv64 := Wire.pow_fit hq9 hv
 refine ht_seq ?_
 refine ht_region ?_
 refine ho_lt rfl rfl rfl rfl rfl rfl (fun g1 => ?_) (fun g1 => ?_)
 ·skip
  refine ho_nil ?_
  refine hx_then ?_
  refine ht_seq ?_
  refine ht_then rfl ?_
  refine ht_skip ?_
  refine hx_then ?_
  refine ht_seq ?_
  refine ht_block ?_
  refine ht_seq ?_
  refine ht_region ?_
  refine ho_ev rfl rfl rfl (ev_move rfl rfl) ?_
  refine ho_ev rfl rfl rfl (ev_assign rfl rfl) ?_
  refine ho_nil ?_
  refine hx_then ?_
  refine ht_seq ?_
  obtain ⟨x, hx⟩ : ∃ x, b[q]? = some x := ⟨_, List.getElem?_eq_getElem (by omega)⟩
  have hxb := Wire.byte_lt x
  refine ht_someS (α := UInt8) (reads_ro (by (with_reducible repeat constructor); done)) (by omega) (fun ab ao ha => ?_)
  rw [show b.drop q = x :: b.drop (q + 1) by obtain ⟨h1, h2⟩ := List.getElem?_eq_some_iff.1 hx; rw [← h2]; exact List.drop_eq_getElem_cons h1] at hinv
  rw [Wire.getVar_cons] at hinv
  refine ht_region ?_
  refine ho_ev rfl rfl rfl (ev_move rfl rfl) ?_
  refine ho_ev rfl rfl rfl (ev_move rfl rfl) ?_
  refine ho_ev rfl rfl rfl (ev_indexAddr rfl Tryd.underlying86 Tryd.ty5 (congrArg (fun z => some (Value.slice z b.length c)) ha) rfl (by omega) (by omega)) ?_
  refine ho_ev rfl rfl rfl (ev_load rfl Tryd.underlying5 rfl rfl (cell_Sa0 ha (reads_ro (by (with_reducible repeat constructor); done)) hx rfl)) ?_
  refine ho_ev rfl rfl rfl (ev_assign rfl rfl) ?_
  refine ho_nil ?_
  refine hx_then ?_
  refine ht_block ?_
  refine ht_seq ?_
  refine ht_seq ?_
  refine ht_region ?_
  refine ho_ev rfl rfl rfl (ev_move rfl rfl) ?_
  refine ho_eq rfl rfl rfl rfl rfl rfl (fun g2 => ?_) (fun g2 => ?_)
  ·skip
   refine ho_ev rfl rfl rfl (ev_move rfl rfl) ?_
   refine ho_evg rfl rfl rfl rfl (ev_move rfl rfl) ?_
   refine ho_gtg rfl rfl rfl rfl rfl rfl rfl (fun g3 => ?_) (fun g3 => ?_)
   ·skip
    refine ho_ev rfl rfl rfl (ev_pick_t rfl rfl rfl) ?_
    refine ho_ev rfl rfl rfl (ev_assign rfl rfl) ?_
    refine ho_nil ?_
    refine hx_then ?_
    refine ht_then rfl ?_
    refine ht_skip ?_
    refine hx_then ?_
    refine ht_then rfl ?_
    refine ht_seq ?_
    refine ht_region ?_
    refine ho_ev rfl rfl rfl (ev_assign rfl rfl) ?_
    refine ho_ev rfl rfl rfl (ev_assign rfl rfl) ?_
    refine ho_ev rfl rfl rfl (ev_assign rfl rfl) ?_
    refine ho_nil ?_
    refine hx_then ?_
    refine ht_ret ?_
    refine hx_block_ret ?_
    refine hx_block_ret ?_
    refine hx_through trivial ?_
    refine hx_through trivial ?_
    refine hx_block_ret ?_
    refine hx_through trivial ?_
    rw [if_pos (by omega)] at hinv
    rw [← hinv]
    exact hx_ret3 (.inl rfl) rfl rfl rfl rfl (none, 0) rfl (Ent.trans (Ent.roTrue (ψ := roS (α := UInt8) none 0 []) (fun r => SliceIn.empty _ _) (Ent.refl _)) (Ent.cons (by (repeat constructor); done) (Ent.pu (Nat.le_refl _) (Ent.cons (by (repeat constructor); done) Ent.nil))))
   ·skip
    refine ho_ev rfl rfl rfl (ev_pick_t rfl rfl rfl) ?_
    refine ho_ev rfl rfl rfl (ev_assign rfl rfl) ?_
    refine ho_nil ?_
    refine hx_then ?_
    refine ht_else rfl ?_
    refine ht_region ?_
    refine ho_ev rfl rfl rfl (ev_move rfl rfl) ?_
    refine ho_gt rfl rfl rfl rfl rfl rfl (fun g4 => ?_) (fun g4 => ?_)
    ·skip
     refine ho_ev rfl rfl rfl (ev_move rfl rfl) ?_
     refine ho_evg rfl rfl rfl rfl (ev_move rfl rfl) ?_
     refine ho_eqg rfl rfl rfl rfl rfl rfl rfl (fun g5 => ?_) (fun g5 => ?_)
     ·skip
      refine ho_ev rfl rfl rfl (ev_pick_t rfl rfl rfl) ?_
      refine ho_ev rfl rfl rfl (ev_assign rfl rfl) ?_
      refine ho_nil ?_
      refine hx_then ?_
      refine ht_then rfl ?_
      refine ht_seq ?_
      refine ht_region ?_
      refine ho_ev rfl rfl rfl (ev_assign rfl rfl) ?_
      refine ho_ev rfl rfl rfl (ev_assign rfl rfl) ?_
      refine ho_ev rfl rfl rfl (ev_assign rfl rfl) ?_
      refine ho_nil ?_
      refine hx_then ?_
      refine ht_ret ?_
      refine hx_block_ret ?_
      refine hx_block_ret ?_
      refine hx_through trivial ?_
      refine hx_through trivial ?_
      refine hx_block_ret ?_
      refine hx_through trivial ?_
      rw [if_pos (by omega)] at hinv
      rw [← hinv]
      exact hx_ret3 (.inl rfl) rfl rfl rfl rfl (none, 0) rfl (Ent.trans (Ent.roTrue (ψ := roS (α := UInt8) none 0 []) (fun r => SliceIn.empty _ _) (Ent.refl _)) (Ent.cons (by (repeat constructor); done) (Ent.pu (Nat.le_refl _) (Ent.cons (by (repeat constructor); done) Ent.nil))))
     ·skip
      refine ho_ev rfl rfl rfl (ev_pick_t rfl rfl rfl) ?_
      refine ho_ev rfl rfl rfl (ev_assign rfl rfl) ?_
      refine ho_nil ?_
      refine hx_then ?_
      refine ht_else rfl ?_
      refine ht_seq ?_
      refine ht_region ?_
      refine ho_ev rfl rfl rfl (ev_move rfl rfl) ?_
      refine ho_lt rfl rfl rfl rfl rfl rfl (fun g6 => ?_) (fun g6 => ?_)
      ·skip
       refine ho_ev rfl rfl rfl (ev_assign rfl rfl) ?_
       refine ho_nil ?_
       refine hx_then ?_
       refine ht_then rfl ?_
       refine ht_seq ?_
       refine ht_region ?_
       refine ho_ev rfl rfl rfl (ev_move rfl rfl) ?_
       refine ho_ev rfl rfl rfl (ev_move rfl rfl) ?_
       refine ho_ev rfl rfl rfl (ev_convI rfl ⟨_, Tryd.underlying5⟩ Tryd.underlying41 rfl (by first | exact IntWalk.u64_in _ (by omega) | rfl)) ?_
       refine ho_ev rfl rfl rfl (ev_move rfl rfl) ?_
       refine ho_ev rfl rfl rfl (ev_mul rfl rfl rfl (by first | exact in_i64 (by omega) | rfl)) ?_
       refine ho_ev rfl rfl rfl (ev_convI rfl ⟨_, Tryd.underlying3⟩ Tryd.underlying167 rfl (by first | exact IntWalk.u64_in _ (by omega) | rfl)) ?_
       refine ho_ev rfl rfl rfl (ev_shl (r := ((x.toNat * 2 ^ (7 * q) : Nat) : Int)) rfl rfl rfl (by omega) (by rw [show (7 : Int) * (q : Int) = ((7 * q : Nat) : Int) by omega]; exact shl_u64 _ (7 * q) (by omega) (Wire.shift_fit q _ (by omega) (by omega) (by omega)))) ?_
       refine ho_ev rfl rfl rfl (ev_or (r := ((v + x.toNat * 2 ^ (7 * q) : Nat) : Int)) rfl rfl rfl (by rw [u64_or_nat _ _ (by omega) (Wire.shift_fit q _ (by omega) (by omega) (by omega)), or_low _ _ _ hv])) ?_
       refine ho_eff rfl rfl rfl (eff_buildAll (α := UInt8) [] rfl Tryd.underlying86 Tryd.ty5 .nil .nil rfl (Nat.le_of_ble_eq_true rfl)) (fun b50 => ?_)
       refine ho_ev rfl rfl rfl (ev_move rfl rfl) ?_
       refine ho_ev rfl rfl rfl (ev_move rfl rfl) ?_
       refine ho_ev rfl rfl rfl (ev_add (r := ((q + 1 : Nat) : Int)) rfl rfl rfl (by rw [in_i64 (by omega)]; rfl)) ?_
       refine ho_eff rfl rfl rfl (eff_slice (α := UInt8) rfl Tryd.underlying86 Tryd.ty5 rfl (by (with_reducible repeat constructor); done) ⟨_, rfl⟩ rfl rfl (by decide) (by omega) (by omega) (by omega) (by omega)) (fun a54 => ?_)
       refine ho_eff rfl rfl rfl (eff_append (α := UInt8) rfl Tryd.underlying86 Tryd.ty5 rfl (by decide) Tryd.underlying86 rfl rfl (by (with_reducible repeat constructor); done) (by first | exact reads_ro (by (with_reducible repeat constructor); done) | exact reads_own (by (with_reducible repeat constructor); done) | exact reads_nil _) (by first | omega | (simp only [List.length_append, List.length_cons, List.length_nil, List.length_drop, List.length_take]; omega) | (simp; omega))) (fun p55 => ?_)
       refine ho_ev rfl rfl rfl (ev_assign rfl rfl) ?_
       refine ho_ev rfl rfl rfl (ev_assign rfl rfl) ?_
       refine ho_ev rfl rfl rfl (ev_assign rfl rfl) ?_
       refine ho_nil ?_
       refine hx_then ?_
       refine ht_ret ?_
       refine hx_block_ret ?_
       refine hx_block_ret ?_
       refine hx_through trivial ?_
       refine hx_through trivial ?_
       refine hx_block_ret ?_
       refine hx_through trivial ?_
       rw [if_neg (by omega), if_pos (by omega)] at hinv
       refine hx_cap (xs := [] ++ (b.take b.length).drop (q + 1)) (by (with_reducible repeat constructor); done) (fun hl hcap => ?_)
       refine hx_freezeS (xs := [] ++ (b.take b.length).drop (q + 1)) (by (with_reducible repeat constructor); done) ?_
       have e0 : [] ++ (b.take b.length).drop (q + 1) = b.drop (q + 1) := by simp
       rw [e0] at hl hcap ⊢
       rw [← hinv]
       exact hx_ret3 (.inl rfl) rfl rfl rfl rfl p55 rfl (Ent.roD (by (with_reducible repeat constructor); done) (Ent.pu hcap (Ent.cons (by (repeat constructor); done) Ent.nil)))
      ·omega
    ·omega
  ·skip
   refine ho_ev rfl rfl rfl (ev_move rfl rfl) ?_
   refine ho_pass rfl rfl rfl rfl ?_
   refine ho_pass rfl rfl rfl rfl ?_
   refine ho_ev rfl rfl rfl (ev_pick_f rfl rfl rfl) ?_
   refine ho_ev rfl rfl rfl (ev_assign rfl rfl) ?_
   refine ho_nil ?_
   refine hx_then ?_
   refine ht_else rfl ?_
   refine ht_region ?_
   refine ho_ev rfl rfl rfl (ev_move rfl rfl) ?_
   refine ho_gt rfl rfl rfl rfl rfl rfl (fun g7 => ?_) (fun g7 => ?_)
   ·skip
    refine ho_ev rfl rfl rfl (ev_move rfl rfl) ?_
    refine ho_evg rfl rfl rfl rfl (ev_move rfl rfl) ?_
    refine ho_eqg rfl rfl rfl rfl rfl rfl rfl (fun g8 => ?_) (fun g8 => ?_)
    ·skip
     refine ho_ev rfl rfl rfl (ev_pick_t rfl rfl rfl) ?_
     refine ho_ev rfl rfl rfl (ev_assign rfl rfl) ?_
     refine ho_nil ?_
     refine hx_then ?_
     refine ht_then rfl ?_
     refine ht_seq ?_
     refine ht_region ?_
     refine ho_ev rfl rfl rfl (ev_assign rfl rfl) ?_
     refine ho_ev rfl rfl rfl (ev_assign rfl rfl) ?_
     refine ho_ev rfl rfl rfl (ev_assign rfl rfl) ?_
     refine ho_nil ?_
     refine hx_then ?_
     refine ht_ret ?_
     refine hx_block_ret ?_
     refine hx_block_ret ?_
     refine hx_through trivial ?_
     refine hx_through trivial ?_
     refine hx_block_ret ?_
     refine hx_through trivial ?_
     rw [if_pos (by omega)] at hinv
     rw [← hinv]
     exact hx_ret3 (.inl rfl) rfl rfl rfl rfl (none, 0) rfl (Ent.trans (Ent.roTrue (ψ := roS (α := UInt8) none 0 []) (fun r => SliceIn.empty _ _) (Ent.refl _)) (Ent.cons (by (repeat constructor); done) (Ent.pu (Nat.le_refl _) (Ent.cons (by (repeat constructor); done) Ent.nil))))
    ·skip
     refine ho_ev rfl rfl rfl (ev_pick_t rfl rfl rfl) ?_
     refine ho_ev rfl rfl rfl (ev_assign rfl rfl) ?_
     refine ho_nil ?_
     refine hx_then ?_
     refine ht_else rfl ?_
     refine ht_seq ?_
     refine ht_region ?_
     refine ho_ev rfl rfl rfl (ev_move rfl rfl) ?_
     refine ho_lt rfl rfl rfl rfl rfl rfl (fun g9 => ?_) (fun g9 => ?_)
     ·skip
      refine ho_ev rfl rfl rfl (ev_assign rfl rfl) ?_
      refine ho_nil ?_
      refine hx_then ?_
      refine ht_then rfl ?_
      refine ht_seq ?_
      refine ht_region ?_
      refine ho_ev rfl rfl rfl (ev_move rfl rfl) ?_
      refine ho_ev rfl rfl rfl (ev_move rfl rfl) ?_
      refine ho_ev rfl rfl rfl (ev_convI rfl ⟨_, Tryd.underlying5⟩ Tryd.underlying41 rfl (by first | exact IntWalk.u64_in _ (by omega) | rfl)) ?_
      refine ho_ev rfl rfl rfl (ev_move rfl rfl) ?_
      refine ho_ev rfl rfl rfl (ev_mul rfl rfl rfl (by first | exact in_i64 (by omega) | rfl)) ?_
      refine ho_ev rfl rfl rfl (ev_convI rfl ⟨_, Tryd.underlying3⟩ Tryd.underlying167 rfl (by first | exact IntWalk.u64_in _ (by omega) | rfl)) ?_
      refine ho_ev rfl rfl rfl (ev_shl (r := ((x.toNat * 2 ^ (7 * q) : Nat) : Int)) rfl rfl rfl (by omega) (by rw [show (7 : Int) * (q : Int) = ((7 * q : Nat) : Int) by omega]; exact shl_u64 _ (7 * q) (by omega) (Wire.shift_fit q _ (by omega) (by omega) (by omega)))) ?_
      refine ho_ev rfl rfl rfl (ev_or (r := ((v + x.toNat * 2 ^ (7 * q) : Nat) : Int)) rfl rfl rfl (by rw [u64_or_nat _ _ (by omega) (Wire.shift_fit q _ (by omega) (by omega) (by omega)), or_low _ _ _ hv])) ?_
      refine ho_eff rfl rfl rfl (eff_buildAll (α := UInt8) [] rfl Tryd.underlying86 Tryd.ty5 .nil .nil rfl (Nat.le_of_ble_eq_true rfl)) (fun b50 => ?_)
      refine ho_ev rfl rfl rfl (ev_move rfl rfl) ?_
      refine ho_ev rfl rfl rfl (ev_move rfl rfl) ?_
      refine ho_ev rfl rfl rfl (ev_add (r := ((q + 1 : Nat) : Int)) rfl rfl rfl (by rw [in_i64 (by omega)]; rfl)) ?_
      refine ho_eff rfl rfl rfl (eff_slice (α := UInt8) rfl Tryd.underlying86 Tryd.ty5 rfl (by (with_reducible repeat constructor); done) ⟨_, rfl⟩ rfl rfl (by decide) (by omega) (by omega) (by omega) (by omega)) (fun a54 => ?_)
      refine ho_eff rfl rfl rfl (eff_append (α := UInt8) rfl Tryd.underlying86 Tryd.ty5 rfl (by decide) Tryd.underlying86 rfl rfl (by (with_reducible repeat constructor); done) (by first | exact reads_ro (by (with_reducible repeat constructor); done) | exact reads_own (by (with_reducible repeat constructor); done) | exact reads_nil _) (by first | omega | (simp only [List.length_append, List.length_cons, List.length_nil, List.length_drop, List.length_take]; omega) | (simp; omega))) (fun p55 => ?_)
      refine ho_ev rfl rfl rfl (ev_assign rfl rfl) ?_
      refine ho_ev rfl rfl rfl (ev_assign rfl rfl) ?_
      refine ho_ev rfl rfl rfl (ev_assign rfl rfl) ?_
      refine ho_nil ?_
      refine hx_then ?_
      refine ht_ret ?_
      refine hx_block_ret ?_
      refine hx_block_ret ?_
      refine hx_through trivial ?_
      refine hx_through trivial ?_
      refine hx_block_ret ?_
      refine hx_through trivial ?_
      rw [if_neg (by omega), if_pos (by omega)] at hinv
      refine hx_cap (xs := [] ++ (b.take b.length).drop (q + 1)) (by (with_reducible repeat constructor); done) (fun hl hcap => ?_)
      refine hx_freezeS (xs := [] ++ (b.take b.length).drop (q + 1)) (by (with_reducible repeat constructor); done) ?_
      have e0 : [] ++ (b.take b.length).drop (q + 1) = b.drop (q + 1) := by simp
      rw [e0] at hl hcap ⊢
      rw [← hinv]
      exact hx_ret3 (.inl rfl) rfl rfl rfl rfl p55 rfl (Ent.roD (by (with_reducible repeat constructor); done) (Ent.pu hcap (Ent.cons (by (repeat constructor); done) Ent.nil)))
     ·skip
      refine ho_ev rfl rfl rfl (ev_assign rfl rfl) ?_
      refine ho_nil ?_
      refine hx_then ?_
      refine ht_else rfl ?_
      refine ht_region ?_
      refine ho_ev rfl rfl rfl (ev_move rfl rfl) ?_
      refine ho_ev rfl rfl rfl (ev_move rfl rfl) ?_
      refine ho_ev rfl rfl rfl (ev_and (r := ((x.toNat % 128 : Nat) : Int)) rfl rfl rfl (by exact and_u8_127 _ hxb)) ?_
      refine ho_ev rfl rfl rfl (ev_convI rfl ⟨_, Tryd.underlying5⟩ Tryd.underlying41 rfl (by first | exact IntWalk.u64_in _ (by omega) | rfl)) ?_
      refine ho_ev rfl rfl rfl (ev_move rfl rfl) ?_
      refine ho_ev rfl rfl rfl (ev_mul rfl rfl rfl (by first | exact in_i64 (by omega) | rfl)) ?_
      refine ho_ev rfl rfl rfl (ev_convI rfl ⟨_, Tryd.underlying3⟩ Tryd.underlying167 rfl (by first | exact IntWalk.u64_in _ (by omega) | rfl)) ?_
      refine ho_ev rfl rfl rfl (ev_shl (r := (((x.toNat % 128) * 2 ^ (7 * q) : Nat) : Int)) rfl rfl rfl (by omega) (by rw [show (7 : Int) * (q : Int) = ((7 * q : Nat) : Int) by omega]; exact shl_u64 _ (7 * q) (by omega) (Wire.shift_fit q _ (by omega) (by omega) (by omega)))) ?_
      refine ho_ev rfl rfl rfl (ev_or (r := ((v + (x.toNat % 128) * 2 ^ (7 * q) : Nat) : Int)) rfl rfl rfl (by rw [u64_or_nat _ _ (by omega) (Wire.shift_fit q _ (by omega) (by omega) (by omega)), or_low _ _ _ hv])) ?_
      refine ho_ev rfl rfl rfl (ev_assign rfl rfl) ?_
      refine ho_nil ?_
      refine hx_block_normal ?_
      refine hx_block_normal ?_
      refine hx_then ?_
      refine ht_region ?_
      refine ho_ev rfl rfl rfl (ev_add rfl rfl rfl (by first | exact in_i64 (by omega) | rfl)) ?_
      refine ho_ev rfl rfl rfl (ev_move rfl rfl) ?_
      refine ho_nil ?_
      refine hx_again (I := (fun q : Nat × Nat => ([ro (roS a b.length b), pu (Wire.getVar q.1 q.2 (b.drop q.1) = Wire.getVar 0 0 b ∧ q.2 < 2 ^ (7 * q.1) ∧ q.1 ≤ 9 ∧ q.1 ≤ b.length), F], [(10, .int .i64 q.1), (9, .int .i64 b.length), (0, .slice a b.length c), (5, .int .u64 ((q.2 : Nat) : Int))]))) (μ := (fun q : Nat × Nat => b.length - q.1)) (i := (q, v)) (q + 1, v + x.toNat % 128 * 2 ^ (7 * q)) ?_ ?_ ?_
      ·(first | dsimp only | skip); omega
      ·repeat (first | exact EnvSub.nil _ | (refine EnvSub.cons rfl ?_))
      ·(first | dsimp only | skip)
       rw [if_neg (by omega), if_neg (by omega)] at hinv
       exact Ent.roD (by (with_reducible repeat constructor); done) (Ent.pu ⟨hinv, Wire.step_fit q v x.toNat (by omega) hv, by omega, by omega⟩ (Ent.cons (by (repeat constructor); done) Ent.nil))
   ·skip
    refine ho_ev rfl rfl rfl (ev_move rfl rfl) ?_
    refine ho_pass rfl rfl rfl rfl ?_
    refine ho_pass rfl rfl rfl rfl ?_
    refine ho_ev rfl rfl rfl (ev_pick_f rfl rfl rfl) ?_
    refine ho_ev rfl rfl rfl (ev_assign rfl rfl) ?_
    refine ho_nil ?_
    refine hx_then ?_
    refine ht_else rfl ?_
    refine ht_seq ?_
    refine ht_region ?_
    refine ho_ev rfl rfl rfl (ev_move rfl rfl) ?_
    refine ho_lt rfl rfl rfl rfl rfl rfl (fun g10 => ?_) (fun g10 => ?_)
    ·skip
     refine ho_ev rfl rfl rfl (ev_assign rfl rfl) ?_
     refine ho_nil ?_
     refine hx_then ?_
     refine ht_then rfl ?_
     refine ht_seq ?_
     refine ht_region ?_
     refine ho_ev rfl rfl rfl (ev_move rfl rfl) ?_
     refine ho_ev rfl rfl rfl (ev_move rfl rfl) ?_
     refine ho_ev rfl rfl rfl (ev_convI rfl ⟨_, Tryd.underlying5⟩ Tryd.underlying41 rfl (by first | exact IntWalk.u64_in _ (by omega) | rfl)) ?_
     refine ho_ev rfl rfl rfl (ev_move rfl rfl) ?_
     refine ho_ev rfl rfl rfl (ev_mul rfl rfl rfl (by first | exact in_i64 (by omega) | rfl)) ?_
     refine ho_ev rfl rfl rfl (ev_convI rfl ⟨_, Tryd.underlying3⟩ Tryd.underlying167 rfl (by first | exact IntWalk.u64_in _ (by omega) | rfl)) ?_
     refine ho_ev rfl rfl rfl (ev_shl (r := ((x.toNat * 2 ^ (7 * q) : Nat) : Int)) rfl rfl rfl (by omega) (by rw [show (7 : Int) * (q : Int) = ((7 * q : Nat) : Int) by omega]; exact shl_u64 _ (7 * q) (by omega) (Wire.shift_fit q _ (by omega) (by omega) (by omega)))) ?_
     refine ho_ev rfl rfl rfl (ev_or (r := ((v + x.toNat * 2 ^ (7 * q) : Nat) : Int)) rfl rfl rfl (by rw [u64_or_nat _ _ (by omega) (Wire.shift_fit q _ (by omega) (by omega) (by omega)), or_low _ _ _ hv])) ?_
     refine ho_eff rfl rfl rfl (eff_buildAll (α := UInt8) [] rfl Tryd.underlying86 Tryd.ty5 .nil .nil rfl (Nat.le_of_ble_eq_true rfl)) (fun b50 => ?_)
     refine ho_ev rfl rfl rfl (ev_move rfl rfl) ?_
     refine ho_ev rfl rfl rfl (ev_move rfl rfl) ?_
     refine ho_ev rfl rfl rfl (ev_add (r := ((q + 1 : Nat) : Int)) rfl rfl rfl (by rw [in_i64 (by omega)]; rfl)) ?_
     refine ho_eff rfl rfl rfl (eff_slice (α := UInt8) rfl Tryd.underlying86 Tryd.ty5 rfl (by (with_reducible repeat constructor); done) ⟨_, rfl⟩ rfl rfl (by decide) (by omega) (by omega) (by omega) (by omega)) (fun a54 => ?_)
     refine ho_eff rfl rfl rfl (eff_append (α := UInt8) rfl Tryd.underlying86 Tryd.ty5 rfl (by decide) Tryd.underlying86 rfl rfl (by (with_reducible repeat constructor); done) (by first | exact reads_ro (by (with_reducible repeat constructor); done) | exact reads_own (by (with_reducible repeat constructor); done) | exact reads_nil _) (by first | omega | (simp only [List.length_append, List.length_cons, List.length_nil, List.length_drop, List.length_take]; omega) | (simp; omega))) (fun p55 => ?_)
     refine ho_ev rfl rfl rfl (ev_assign rfl rfl) ?_
     refine ho_ev rfl rfl rfl (ev_assign rfl rfl) ?_
     refine ho_ev rfl rfl rfl (ev_assign rfl rfl) ?_
     refine ho_nil ?_
     refine hx_then ?_
     refine ht_ret ?_
     refine hx_block_ret ?_
     refine hx_block_ret ?_
     refine hx_through trivial ?_
     refine hx_through trivial ?_
     refine hx_block_ret ?_
     refine hx_through trivial ?_
     rw [if_neg (by omega), if_pos (by omega)] at hinv
     refine hx_cap (xs := [] ++ (b.take b.length).drop (q + 1)) (by (with_reducible repeat constructor); done) (fun hl hcap => ?_)
     refine hx_freezeS (xs := [] ++ (b.take b.length).drop (q + 1)) (by (with_reducible repeat constructor); done) ?_
     have e0 : [] ++ (b.take b.length).drop (q + 1) = b.drop (q + 1) := by simp
     rw [e0] at hl hcap ⊢
     rw [← hinv]
     exact hx_ret3 (.inl rfl) rfl rfl rfl rfl p55 rfl (Ent.roD (by (with_reducible repeat constructor); done) (Ent.pu hcap (Ent.cons (by (repeat constructor); done) Ent.nil)))
    ·skip
     refine ho_ev rfl rfl rfl (ev_assign rfl rfl) ?_
     refine ho_nil ?_
     refine hx_then ?_
     refine ht_else rfl ?_
     refine ht_region ?_
     refine ho_ev rfl rfl rfl (ev_move rfl rfl) ?_
     refine ho_ev rfl rfl rfl (ev_move rfl rfl) ?_
     refine ho_ev rfl rfl rfl (ev_and (r := ((x.toNat % 128 : Nat) : Int)) rfl rfl rfl (by exact and_u8_127 _ hxb)) ?_
     refine ho_ev rfl rfl rfl (ev_convI rfl ⟨_, Tryd.underlying5⟩ Tryd.underlying41 rfl (by first | exact IntWalk.u64_in _ (by omega) | rfl)) ?_
     refine ho_ev rfl rfl rfl (ev_move rfl rfl) ?_
     refine ho_ev rfl rfl rfl (ev_mul rfl rfl rfl (by first | exact in_i64 (by omega) | rfl)) ?_
     refine ho_ev rfl rfl rfl (ev_convI rfl ⟨_, Tryd.underlying3⟩ Tryd.underlying167 rfl (by first | exact IntWalk.u64_in _ (by omega) | rfl)) ?_
     refine ho_ev rfl rfl rfl (ev_shl (r := (((x.toNat % 128) * 2 ^ (7 * q) : Nat) : Int)) rfl rfl rfl (by omega) (by rw [show (7 : Int) * (q : Int) = ((7 * q : Nat) : Int) by omega]; exact shl_u64 _ (7 * q) (by omega) (Wire.shift_fit q _ (by omega) (by omega) (by omega)))) ?_
     refine ho_ev rfl rfl rfl (ev_or (r := ((v + (x.toNat % 128) * 2 ^ (7 * q) : Nat) : Int)) rfl rfl rfl (by rw [u64_or_nat _ _ (by omega) (Wire.shift_fit q _ (by omega) (by omega) (by omega)), or_low _ _ _ hv])) ?_
     refine ho_ev rfl rfl rfl (ev_assign rfl rfl) ?_
     refine ho_nil ?_
     refine hx_block_normal ?_
     refine hx_block_normal ?_
     refine hx_then ?_
     refine ht_region ?_
     refine ho_ev rfl rfl rfl (ev_add rfl rfl rfl (by first | exact in_i64 (by omega) | rfl)) ?_
     refine ho_ev rfl rfl rfl (ev_move rfl rfl) ?_
     refine ho_nil ?_
     refine hx_again (I := (fun q : Nat × Nat => ([ro (roS a b.length b), pu (Wire.getVar q.1 q.2 (b.drop q.1) = Wire.getVar 0 0 b ∧ q.2 < 2 ^ (7 * q.1) ∧ q.1 ≤ 9 ∧ q.1 ≤ b.length), F], [(10, .int .i64 q.1), (9, .int .i64 b.length), (0, .slice a b.length c), (5, .int .u64 ((q.2 : Nat) : Int))]))) (μ := (fun q : Nat × Nat => b.length - q.1)) (i := (q, v)) (q + 1, v + x.toNat % 128 * 2 ^ (7 * q)) ?_ ?_ ?_
     ·(first | dsimp only | skip); omega
     ·repeat (first | exact EnvSub.nil _ | (refine EnvSub.cons rfl ?_))
     ·(first | dsimp only | skip)
      rw [if_neg (by omega), if_neg (by omega)] at hinv
      exact Ent.roD (by (with_reducible repeat constructor); done) (Ent.pu ⟨hinv, Wire.step_fit q v x.toNat (by omega) hv, by omega, by omega⟩ (Ent.cons (by (repeat constructor); done) Ent.nil))
 ·skip
  refine ho_nil ?_
  refine hx_then ?_
  refine ht_seq ?_
  refine ht_else rfl ?_
  refine ht_exit ?_
  refine hx_through trivial ?_
  refine hx_through trivial ?_
  refine hx_block_here ?_
  refine hx_then ?_
  refine ht_seq ?_
  refine ht_region ?_
  refine ho_ev rfl rfl rfl (ev_assign rfl rfl) ?_
  refine ho_ev rfl rfl rfl (ev_assign rfl rfl) ?_
  refine ho_ev rfl rfl rfl (ev_assign rfl rfl) ?_
  refine ho_nil ?_
  refine hx_then ?_
  refine ht_ret ?_
  obtain rfl : q = b.length := by omega
  rw [List.drop_of_length_le (Nat.le_refl _)] at hinv
  rw [← hinv]
  exact hx_ret3 (.inl rfl) rfl rfl rfl rfl (none, 0) rfl (Ent.trans (Ent.roTrue (ψ := roS (α := UInt8) none 0 []) (fun r => SliceIn.empty _ _) (Ent.refl _)) (Ent.cons (by (repeat constructor); done) (Ent.pu (Nat.le_refl _) (Ent.cons (by (repeat constructor); done) Ent.nil))))
theorem sum_step (r : Nat) (bit : Bool) (hr : r < 4294967296) : Ctr Tryd.prog 107 #[.int .u32 (r : Int), .bool bit] [] (fun _ : Unit => .int .u32 ((Wire.sstep r bit : Nat) : Int)) (fun _ => []) := by
 refine fn_intro Tryd.func107 rfl rfl Tryd.ntmps107 (Nat.le_of_ble_eq_true rfl) (fun _ => by repeat (first | exact App.nil | apply App.cons)) (fun κ F => ?_)
 rcases bit with _ | _
 ·skip
  refine ht_seq ?_
  refine ht_region ?_
  refine ho_ev rfl rfl rfl (ev_assign rfl rfl) ?_
  refine ho_nil ?_
  refine hx_then ?_
  refine ht_seq ?_
  refine ht_region ?_
  refine ho_ev rfl rfl rfl (ev_move rfl rfl) ?_
  refine ho_ev rfl rfl rfl (ev_shr (r := ((r / 2 ^ 31 : Nat) : Int)) rfl rfl rfl (by omega) (by exact shr_u32 r 31 hr)) ?_
  refine ho_eq rfl rfl rfl rfl rfl rfl (fun g1 => ?_) (fun g1 => ?_)
  ·skip
   refine ho_ev rfl rfl rfl (ev_assign rfl rfl) ?_
   refine ho_nil ?_
   refine hx_then ?_
   refine ht_seq ?_
   refine ht_region ?_
   refine ho_ev rfl rfl rfl (ev_move rfl rfl) ?_
   refine ho_ev rfl rfl rfl (ev_shl (r := ((r * 2 % 4294967296 : Nat) : Int)) rfl rfl rfl (by omega) (by exact shl_u32 r 1 (by decide))) ?_
   refine ho_ev rfl rfl rfl (ev_assign rfl rfl) ?_
   refine ho_nil ?_
   refine hx_then ?_
   refine ht_seq ?_
   refine ht_seq ?_
   refine ht_region ?_
   refine ho_ev rfl rfl rfl (ev_move rfl rfl) ?_
   refine ho_ev rfl rfl rfl (ev_move rfl rfl) ?_
   refine ho_bool (t := 12) rfl (fun g2 => ?_) (fun g2 => ?_)
   ·simp at g2
   ·skip
    refine ho_ev rfl rfl rfl (ev_cmpB rfl Tryd.underlying4 rfl rfl rfl) ?_
    refine ho_nil ?_
    refine hx_then ?_
    refine ht_then rfl ?_
    refine ht_region ?_
    refine ho_ev rfl rfl rfl (ev_move rfl rfl) ?_
    refine ho_ev rfl rfl rfl (ev_xor (r := (((r * 2 % 4294967296) ^^^ 79764919 : Nat) : Int)) rfl rfl rfl (by exact u32_xor_nat _ _ (by omega) (by decide))) ?_
    refine ho_ev rfl rfl rfl (ev_assign rfl rfl) ?_
    refine ho_nil ?_
    refine hx_then ?_
    refine ht_seq ?_
    refine ht_region ?_
    refine ho_ev rfl rfl rfl (ev_move rfl rfl) ?_
    refine ho_ev rfl rfl rfl (ev_assign rfl rfl) ?_
    refine ho_nil ?_
    refine hx_then ?_
    refine ht_ret ?_
    refine hx_ret1 (.inl rfl) rfl rfl () ?_ (Ent.refl _)
    unfold Wire.sstep
    first | (rw [if_pos (by simp; omega)]) | (rw [if_neg (by simp; omega)])
  ·skip
   refine ho_ev rfl rfl rfl (ev_assign rfl rfl) ?_
   refine ho_nil ?_
   refine hx_then ?_
   refine ht_seq ?_
   refine ht_region ?_
   refine ho_ev rfl rfl rfl (ev_move rfl rfl) ?_
   refine ho_ev rfl rfl rfl (ev_shl (r := ((r * 2 % 4294967296 : Nat) : Int)) rfl rfl rfl (by omega) (by exact shl_u32 r 1 (by decide))) ?_
   refine ho_ev rfl rfl rfl (ev_assign rfl rfl) ?_
   refine ho_nil ?_
   refine hx_then ?_
   refine ht_seq ?_
   refine ht_seq ?_
   refine ht_region ?_
   refine ho_ev rfl rfl rfl (ev_move rfl rfl) ?_
   refine ho_ev rfl rfl rfl (ev_move rfl rfl) ?_
   refine ho_bool (t := 12) rfl (fun g3 => ?_) (fun g3 => ?_)
   ·simp at g3
   ·skip
    refine ho_ev rfl rfl rfl (ev_cmpB rfl Tryd.underlying4 rfl rfl rfl) ?_
    refine ho_nil ?_
    refine hx_then ?_
    refine ht_else rfl ?_
    refine ht_skip ?_
    refine hx_then ?_
    refine ht_seq ?_
    refine ht_region ?_
    refine ho_ev rfl rfl rfl (ev_move rfl rfl) ?_
    refine ho_ev rfl rfl rfl (ev_assign rfl rfl) ?_
    refine ho_nil ?_
    refine hx_then ?_
    refine ht_ret ?_
    refine hx_ret1 (.inl rfl) rfl rfl () ?_ (Ent.refl _)
    unfold Wire.sstep
    first | (rw [if_pos (by simp; omega)]) | (rw [if_neg (by simp; omega)])
 ·skip
  refine ht_seq ?_
  refine ht_region ?_
  refine ho_ev rfl rfl rfl (ev_assign rfl rfl) ?_
  refine ho_nil ?_
  refine hx_then ?_
  refine ht_seq ?_
  refine ht_region ?_
  refine ho_ev rfl rfl rfl (ev_move rfl rfl) ?_
  refine ho_ev rfl rfl rfl (ev_shr (r := ((r / 2 ^ 31 : Nat) : Int)) rfl rfl rfl (by omega) (by exact shr_u32 r 31 hr)) ?_
  refine ho_eq rfl rfl rfl rfl rfl rfl (fun g1 => ?_) (fun g1 => ?_)
  ·skip
   refine ho_ev rfl rfl rfl (ev_assign rfl rfl) ?_
   refine ho_nil ?_
   refine hx_then ?_
   refine ht_seq ?_
   refine ht_region ?_
   refine ho_ev rfl rfl rfl (ev_move rfl rfl) ?_
   refine ho_ev rfl rfl rfl (ev_shl (r := ((r * 2 % 4294967296 : Nat) : Int)) rfl rfl rfl (by omega) (by exact shl_u32 r 1 (by decide))) ?_
   refine ho_ev rfl rfl rfl (ev_assign rfl rfl) ?_
   refine ho_nil ?_
   refine hx_then ?_
   refine ht_seq ?_
   refine ht_seq ?_
   refine ht_region ?_
   refine ho_ev rfl rfl rfl (ev_move rfl rfl) ?_
   refine ho_ev rfl rfl rfl (ev_move rfl rfl) ?_
   refine ho_bool (t := 12) rfl (fun g2 => ?_) (fun g2 => ?_)
   ·skip
    refine ho_ev rfl rfl rfl (ev_cmpB rfl Tryd.underlying4 rfl rfl rfl) ?_
    refine ho_nil ?_
    refine hx_then ?_
    refine ht_else rfl ?_
    refine ht_skip ?_
    refine hx_then ?_
    refine ht_seq ?_
    refine ht_region ?_
    refine ho_ev rfl rfl rfl (ev_move rfl rfl) ?_
    refine ho_ev rfl rfl rfl (ev_assign rfl rfl) ?_
    refine ho_nil ?_
    refine hx_then ?_
    refine ht_ret ?_
    refine hx_ret1 (.inl rfl) rfl rfl () ?_ (Ent.refl _)
    unfold Wire.sstep
    first | (rw [if_pos (by simp; omega)]) | (rw [if_neg (by simp; omega)])
   ·simp at g2
  ·skip
   refine ho_ev rfl rfl rfl (ev_assign rfl rfl) ?_
   refine ho_nil ?_
   refine hx_then ?_
   refine ht_seq ?_
   refine ht_region ?_
   refine ho_ev rfl rfl rfl (ev_move rfl rfl) ?_
   refine ho_ev rfl rfl rfl (ev_shl (r := ((r * 2 % 4294967296 : Nat) : Int)) rfl rfl rfl (by omega) (by exact shl_u32 r 1 (by decide))) ?_
   refine ho_ev rfl rfl rfl (ev_assign rfl rfl) ?_
   refine ho_nil ?_
   refine hx_then ?_
   refine ht_seq ?_
   refine ht_seq ?_
   refine ht_region ?_
   refine ho_ev rfl rfl rfl (ev_move rfl rfl) ?_
   refine ho_ev rfl rfl rfl (ev_move rfl rfl) ?_
   refine ho_bool (t := 12) rfl (fun g3 => ?_) (fun g3 => ?_)
   ·skip
    refine ho_ev rfl rfl rfl (ev_cmpB rfl Tryd.underlying4 rfl rfl rfl) ?_
    refine ho_nil ?_
    refine hx_then ?_
    refine ht_then rfl ?_
    refine ht_region ?_
    refine ho_ev rfl rfl rfl (ev_move rfl rfl) ?_
    refine ho_ev rfl rfl rfl (ev_xor (r := (((r * 2 % 4294967296) ^^^ 79764919 : Nat) : Int)) rfl rfl rfl (by exact u32_xor_nat _ _ (by omega) (by decide))) ?_
    refine ho_ev rfl rfl rfl (ev_assign rfl rfl) ?_
    refine ho_nil ?_
    refine hx_then ?_
    refine ht_seq ?_
    refine ht_region ?_
    refine ho_ev rfl rfl rfl (ev_move rfl rfl) ?_
    refine ho_ev rfl rfl rfl (ev_assign rfl rfl) ?_
    refine ho_nil ?_
    refine hx_then ?_
    refine ht_ret ?_
    refine hx_ret1 (.inl rfl) rfl rfl () ?_ (Ent.refl _)
    unfold Wire.sstep
    first | (rw [if_pos (by simp; omega)]) | (rw [if_neg (by simp; omega)])
   ·simp at g3
theorem sum_table1 (i : Nat) (b1 : Nat) (c : Array Value) (hi : i < 16) (hc : c.size = 16) : Ctr Tryd.prog 106 #[.int .i64 (i : Int), .pointer (some ⟨b1, 0, none⟩)] [pt b1 (.cells c 188 (0, 0))] (fun _ : Unit => .tuple #[]) (fun _ => [pt b1 (.cells (c.setIfInBounds i (.int .u32 ((Wire.tab i : Nat) : Int))) 188 (0, 0))]) := by
 refine fn_intro Tryd.func106 rfl rfl Tryd.ntmps106 (Nat.le_of_ble_eq_true rfl) (fun _ => by repeat (first | exact App.nil | apply App.cons)) (fun κ F => ?_)
 refine ht_seq ?_
 refine ht_region ?_
 refine ho_ev rfl rfl rfl (ev_move rfl rfl) ?_
 refine ho_ev rfl rfl rfl (ev_convI rfl ⟨_, Tryd.underlying3⟩ Tryd.underlying160 rfl (by first | exact IntWalk.u32_in _ (by omega) | rfl)) ?_
 refine ho_ev rfl rfl rfl (ev_shl (r := ((i * 2 ^ 28 % 4294967296 : Nat) : Int)) rfl rfl rfl (by omega) (by exact shl_u32 i 28 (by decide))) ?_
 refine ho_ev rfl rfl rfl (ev_assign rfl rfl) ?_
 refine ho_nil ?_
 refine hx_then ?_
 refine ht_seq ?_
 refine ht_seq ?_
 refine ht_region ?_
 refine ho_ev rfl rfl rfl (ev_move rfl rfl) ?_
 refine ho_nil ?_
 refine hx_then ?_
 refine ht_block ?_
 refine ht_loop (fun q : Nat => ([pt b1 (.cells c 188 (0, 0)), pu (q ≤ 4), F], [(7, .int .i64 q), (3, .int .u32 ((Wire.sit (i * 2 ^ 28 % 4294967296) q : Nat) : Int)), (0, .int .i64 i), (1, .pointer (some ⟨b1, 0, none⟩))])) (fun q : Nat => 4 - q) 0 ?_ (by repeat (first | exact EnvSub.nil _ | (refine EnvSub.cons rfl ?_))) (fun q => ?_)
 ·(first | dsimp only | skip)
  exact Ent.cons (by (repeat constructor); done) (Ent.pu (by omega) (Ent.cons (by (repeat constructor); done) Ent.nil))
 obtain q := q
 dsimp only
 refine ht_pick (A := pu (q ≤ 4)) (by (repeat constructor); done) (ht_pure fun hq => ?_)
 refine ht_seq ?_
 refine ht_region ?_
 refine ho_lt rfl rfl rfl rfl rfl rfl (fun g1 => ?_) (fun g1 => ?_)
 ·skip
  refine ho_nil ?_
  refine hx_then ?_
  refine ht_seq ?_
  refine ht_then rfl ?_
  refine ht_skip ?_
  refine hx_then ?_
  refine ht_seq ?_
  refine ht_block ?_
  refine ht_region ?_
  refine ho_ev rfl rfl rfl (ev_move rfl rfl) ?_
  refine ho_eff rfl rfl rfl (eff_call rfl rfl (.cons rfl (.cons rfl .nil)) rfl (sum_step _ false (Wire.sit_lt (by omega) q)) (by repeat (first | exact Picks.nil | (apply Picks.ro; focus ((with_reducible repeat constructor); done)) | (apply Picks.cons; focus ((with_reducible repeat constructor); done)))) (fun _ => by repeat (first | exact App.nil | apply App.cons))) (fun _ => ?_)
  refine ho_ev rfl rfl rfl (ev_assign rfl rfl) ?_
  refine ho_nil ?_
  refine hx_block_normal ?_
  refine hx_then ?_
  refine ht_region ?_
  refine ho_ev rfl rfl rfl (ev_add rfl rfl rfl (by first | exact in_i64 (by omega) | rfl)) ?_
  refine ho_ev rfl rfl rfl (ev_move rfl rfl) ?_
  refine ho_nil ?_
  refine hx_again (I := (fun q : Nat => ([pt b1 (.cells c 188 (0, 0)), pu (q ≤ 4), F], [(7, .int .i64 q), (3, .int .u32 ((Wire.sit (i * 2 ^ 28 % 4294967296) q : Nat) : Int)), (0, .int .i64 i), (1, .pointer (some ⟨b1, 0, none⟩))]))) (μ := (fun q : Nat => 4 - q)) (i := q) (q + 1) ?_ ?_ ?_
  ·(first | dsimp only | skip); omega
  ·repeat (first | exact EnvSub.nil _ | (refine EnvSub.cons rfl ?_))
  ·(first | dsimp only | skip)
   exact Ent.cons (by (repeat constructor); done) (Ent.pu (by omega) (Ent.cons (by (repeat constructor); done) Ent.nil))
 ·skip
  refine ho_nil ?_
  refine hx_then ?_
  refine ht_seq ?_
  refine ht_else rfl ?_
  refine ht_exit ?_
  refine hx_through trivial ?_
  refine hx_through trivial ?_
  refine hx_block_here ?_
  refine hx_then ?_
  obtain rfl : q = 4 := by omega
  refine ht_region ?_
  refine ho_ev rfl rfl rfl (ev_move rfl rfl) ?_
  refine ho_ev rfl rfl rfl (ev_move rfl rfl) ?_
  refine ho_ev rfl rfl rfl (ev_indexAddrA rfl Tryd.underlying188 Tryd.ty160 rfl rfl (by omega) (by omega)) ?_
  refine ho_eff0 rfl rfl (eff_store1 (c' := c.setIfInBounds i (.int .u32 ((Wire.tab i : Nat) : Int))) rfl Tryd.ty160 rfl rfl (by (with_reducible repeat constructor); done) rfl rfl (by rw [hc]; omega) (by rw [show 0 + ((i : Int)).toNat * 1 = i by omega]; rfl)) (fun _ => ?_)
  refine ho_nil ?_
  exact hx_ret0 (.inr rfl) rfl () rfl (Ent.cons (by (repeat constructor); done) (Ent.cons (by (repeat constructor); done) Ent.nil))
theorem sum_table   : Ctr Tryd.prog 104 #[] [] (fun _ : Unit => .agg (tabC 16)) (fun _ => []) := by
 refine fn_intro Tryd.func104 rfl rfl Tryd.ntmps104 (Nat.le_of_ble_eq_true rfl) (fun _ => by repeat (first | exact App.nil | apply App.cons)) (fun κ F => ?_)
 refine ht_seq ?_
 refine ht_region ?_
 refine ho_eff rfl rfl rfl (eff_alloc rfl Tryd.ty188 (by first | exact cells_agg _ | exact rfl)) (fun b0 => ?_)
 refine ho_nil ?_
 refine hx_then ?_
 refine ht_seq ?_
 refine ht_region ?_
 refine ho_eff rfl rfl rfl (eff_alloc rfl Tryd.ty188 (by first | exact cells_agg _ | exact rfl)) (fun b1 => ?_)
 refine ho_nil ?_
 refine hx_then ?_
 refine ht_seq ?_
 refine ht_region ?_
 refine ho_ev rfl rfl rfl (ev_makeFunc rfl .nil (.cons rfl .nil)) ?_
 refine ho_ev rfl rfl rfl (ev_assign rfl rfl) ?_
 refine ho_nil ?_
 refine hx_then ?_
 refine ht_seq ?_
 refine ht_seq ?_
 refine ht_region ?_
 refine ho_ev rfl rfl rfl (ev_move rfl rfl) ?_
 refine ho_nil ?_
 refine hx_then ?_
 refine ht_block ?_
 refine ht_loop (fun q : Nat => ([pt b0 (.cells (tabC 0) 188 (0, 0)), pt b1 (.cells (tabC q) 188 (0, 0)), pu (q ≤ 16), F], [(5, .int .i64 q), (0, .pointer (some ⟨b0, 0, none⟩)), (1, .pointer (some ⟨b1, 0, none⟩)), (2, .func (.func 106) #[] #[.pointer (some ⟨b1, 0, none⟩)])])) (fun q : Nat => 16 - q) 0 ?_ (by repeat (first | exact EnvSub.nil _ | (refine EnvSub.cons rfl ?_))) (fun q => ?_)
 ·(first | dsimp only | skip)
  exact Ent.cons (by (repeat constructor); done) (Ent.cons (by (repeat constructor); done) (Ent.pu (by omega) (Ent.cons (by (repeat constructor); done) Ent.nil)))
 obtain q := q
 dsimp only
 refine ht_pick (A := pu (q ≤ 16)) (by (repeat constructor); done) (ht_pure fun hq => ?_)
 refine ht_seq ?_
 refine ht_region ?_
 refine ho_lt rfl rfl rfl rfl rfl rfl (fun g1 => ?_) (fun g1 => ?_)
 ·skip
  refine ho_nil ?_
  refine hx_then ?_
  refine ht_seq ?_
  refine ht_then rfl ?_
  refine ht_skip ?_
  refine hx_then ?_
  refine ht_seq ?_
  refine ht_block ?_
  refine ht_seq ?_
  refine ht_region ?_
  refine ho_ev rfl rfl rfl (ev_move rfl rfl) ?_
  refine ho_ev rfl rfl rfl (ev_assign rfl rfl) ?_
  refine ho_nil ?_
  refine hx_then ?_
  refine ht_region ?_
  refine ho_ev rfl rfl rfl (ev_move rfl rfl) ?_
  refine ho_ev rfl rfl rfl (ev_move rfl rfl) ?_
  refine ho_eff rfl rfl rfl (eff_call rfl rfl (.cons rfl .nil) rfl (sum_table1 q b1 (tabC q) (by omega) (tabC_size q)) (by repeat (first | exact Picks.nil | (apply Picks.ro; focus ((with_reducible repeat constructor); done)) | (apply Picks.cons; focus ((with_reducible repeat constructor); done)))) (fun _ => by repeat (first | exact App.nil | apply App.cons))) (fun _ => ?_)
  refine ho_nil ?_
  refine hx_block_normal ?_
  refine hx_then ?_
  refine ht_region ?_
  refine ho_ev rfl rfl rfl (ev_add rfl rfl rfl (by first | exact in_i64 (by omega) | rfl)) ?_
  refine ho_ev rfl rfl rfl (ev_move rfl rfl) ?_
  refine ho_nil ?_
  refine hx_again (I := (fun q : Nat => ([pt b0 (.cells (tabC 0) 188 (0, 0)), pt b1 (.cells (tabC q) 188 (0, 0)), pu (q ≤ 16), F], [(5, .int .i64 q), (0, .pointer (some ⟨b0, 0, none⟩)), (1, .pointer (some ⟨b1, 0, none⟩)), (2, .func (.func 106) #[] #[.pointer (some ⟨b1, 0, none⟩)])]))) (μ := (fun q : Nat => 16 - q)) (i := q) (q + 1) ?_ ?_ ?_
  ·(first | dsimp only | skip); omega
  ·repeat (first | exact EnvSub.nil _ | (refine EnvSub.cons rfl ?_))
  ·(first | dsimp only | skip)
   rw [← tabC_set (by omega)]
   exact Ent.cons (by (repeat constructor); done) (Ent.cons (by (repeat constructor); done) (Ent.pu (by omega) (Ent.cons (by (repeat constructor); done) Ent.nil)))
 ·skip
  refine ho_nil ?_
  refine hx_then ?_
  refine ht_seq ?_
  refine ht_else rfl ?_
  refine ht_exit ?_
  refine hx_through trivial ?_
  refine hx_through trivial ?_
  refine hx_block_here ?_
  refine hx_then ?_
  refine ht_seq ?_
  obtain rfl : q = 16 := by omega
  refine ht_region ?_
  refine ho_ev rfl rfl rfl (ev_loadA rfl Tryd.underlying188 Tryd.ty188 rfl rfl (cells_pt (cs := tabC 16) (by (with_reducible repeat constructor); done) (m := 16) (by rw [tabC_size]; omega) (by rw [show (0 : Nat) + 16 = (tabC 16).size from rfl]; exact Array.extract_size))) ?_
  refine ho_eff0 rfl rfl (eff_storeA (csl := tabL 16) (c' := tabC 16) rfl Tryd.ty188 rfl rfl (by (with_reducible repeat constructor); done) rfl rfl rfl (setRange_all _ _ (by rw [tabC_size]; rfl))) (fun _ => ?_)
  refine ho_nil ?_
  refine hx_then ?_
  refine ht_ret ?_
  exact hx_ret1A (.inl rfl) rfl rfl Tryd.underlying188 Tryd.ty188 rfl (cells_pt (cs := tabC 16) (by (with_reducible repeat constructor); done) (by rw [tabC_size]; omega) (by rw [show (0 : Nat) + 16 = (tabC 16).size from rfl]; exact Array.extract_size)) () rfl (Ent.cons (by (repeat constructor); done) Ent.nil)
theorem sum_More (s : Nat) (a : Option Addr) (c : Nat) (b : List UInt8) (hs : s < 4294967296) (hb : b.length ≤ 1099511627776) : Ctr Tryd.prog 100 #[.int .u32 (s : Int), .slice a b.length c] [ro (roS a b.length b)] (fun _ : Unit => .int .u32 ((Wire.more s b : Nat) : Int)) (fun _ => []) := by
 refine fn_intro Tryd.func100 rfl rfl Tryd.ntmps100 (Nat.le_of_ble_eq_true rfl) (fun _ => by repeat (first | exact App.nil | apply App.cons)) (fun κ F => ?_)
 refine ht_seq ?_
 refine ht_region ?_
 refine ho_ev rfl rfl rfl (ev_assign rfl rfl) ?_
 refine ho_nil ?_
 refine hx_then ?_
 refine ht_seq ?_
 refine ht_region ?_
 refine ho_eff rfl rfl rfl (eff_call rfl rfl .nil rfl (sum_table) (by repeat (first | exact Picks.nil | (apply Picks.ro; focus ((with_reducible repeat constructor); done)) | (apply Picks.cons; focus ((with_reducible repeat constructor); done)))) (fun _ => by repeat (first | exact App.nil | apply App.cons))) (fun _ => ?_)
 refine ho_eff rfl rfl rfl (eff_alloc rfl Tryd.ty188 (by first | exact cells_agg _ | exact rfl)) (fun b5 => ?_)
 refine ho_eff0 rfl rfl (eff_storeA (csl := tabL 16) (c' := tabC 16) rfl Tryd.ty188 rfl rfl (by (with_reducible repeat constructor); done) rfl rfl rfl (setRange_all _ _ (by exact rfl))) (fun _ => ?_)
 refine ho_nil ?_
 refine hx_then ?_
 refine ht_seq ?_
 refine ht_region ?_
 refine ho_ev rfl rfl rfl (ev_move rfl rfl) ?_
 refine ho_ev rfl rfl rfl (ev_notB (r := ((4294967295 ^^^ s : Nat) : Int)) rfl rfl (by exact not_u32 s hs)) ?_
 refine ho_ev rfl rfl rfl (ev_assign rfl rfl) ?_
 refine ho_nil ?_
 refine hx_then ?_
 refine ht_seq ?_
 refine ht_seq ?_
 refine ht_region ?_
 refine ho_ev rfl rfl rfl (ev_move rfl rfl) ?_
 refine ho_ev rfl rfl rfl (ev_lenSl rfl Tryd.underlying86 rfl) ?_
 refine ho_ev rfl rfl rfl (ev_move rfl rfl) ?_
 refine ho_nil ?_
 refine hx_then ?_
 refine ht_block ?_
 refine ht_loop (fun q : Nat => ([pt b5 (.cells (tabC 16) 188 (0, 0)), ro (roS a b.length b), pu (q ≤ b.length), F], [(5, .pointer (some ⟨b5, 0, none⟩)), (6, .int .u32 (((Wire.smore (4294967295 ^^^ s) (b.take q)) : Nat) : Int)), (12, .slice a b.length c), (13, .int .i64 b.length), (14, .int .i64 q)])) (fun q : Nat => b.length - q) 0 ?_ (by repeat (first | exact EnvSub.nil _ | (refine EnvSub.cons rfl ?_))) (fun q => ?_)
 ·(first | dsimp only | skip)
  exact Ent.cons (by (repeat constructor); done) (Ent.roD (by (with_reducible repeat constructor); done) (Ent.pu (by omega) (Ent.cons (by (repeat constructor); done) Ent.nil)))
 obtain q := q
 dsimp only
 refine ht_pick (A := pu (q ≤ b.length)) (by (repeat constructor); done) (ht_pure fun hq => ?_)
 refine ht_seq ?_
 refine ht_region ?_
 refine ho_lt rfl rfl rfl rfl rfl rfl (fun g1 => ?_) (fun g1 => ?_)
 ·skip
  refine ho_nil ?_
  refine hx_then ?_
  refine ht_seq ?_
  refine ht_then rfl ?_
  refine ht_skip ?_
  refine hx_then ?_
  refine ht_seq ?_
  refine ht_block ?_
  refine ht_seq ?_
  obtain ⟨x, hx⟩ : ∃ x, b[q]? = some x := ⟨_, List.getElem?_eq_getElem (by omega)⟩
  have hxb := Wire.byte_lt x
  refine ht_someS (α := UInt8) (reads_ro (by (with_reducible repeat constructor); done)) (by omega) (fun ab ao ha => ?_)
  have hRl : Wire.smore (4294967295 ^^^ s) (b.take q) < 4294967296 := Wire.smore_lt _ _ (Nat.xor_lt_two_pow (n := 32) (by omega) (by omega))
  generalize hR : Wire.smore (4294967295 ^^^ s) (b.take q) = R at *
  have hR1l := Wire.sfour_lt R (x.toNat / 2 ^ 4)
  have hR1 : (R * 2 ^ 4 % 4294967296) ^^^ Wire.tab (R / 2 ^ 28 ^^^ x.toNat / 2 ^ 4) = Wire.sfour R (x.toNat / 2 ^ 4) := rfl
  have hS : Wire.sfour (Wire.sfour R (x.toNat / 2 ^ 4)) (x.toNat % 16) = Wire.sbyte R x := rfl
  generalize Wire.sfour R (x.toNat / 2 ^ 4) = R1 at *
  have hI1 : R / 2 ^ 28 ^^^ x.toNat / 2 ^ 4 < 16 := Nat.xor_lt_two_pow (n := 4) (by omega) (by omega)
  have hI2 : R1 / 2 ^ 28 ^^^ x.toNat % 16 < 16 := Nat.xor_lt_two_pow (n := 4) (by omega) (by omega)
  refine ht_region ?_
  refine ho_ev rfl rfl rfl (ev_indexAddr rfl Tryd.underlying86 Tryd.ty5 (congrArg (fun z => some (Value.slice z b.length c)) ha) rfl (by omega) (by omega)) ?_
  refine ho_ev rfl rfl rfl (ev_load rfl Tryd.underlying5 rfl rfl (cell_Sa0 ha (reads_ro (by (with_reducible repeat constructor); done)) hx rfl)) ?_
  refine ho_ev rfl rfl rfl (ev_assign rfl rfl) ?_
  refine ho_nil ?_
  refine hx_then ?_
  refine ht_seq ?_
  refine ht_region ?_
  refine ho_ev rfl rfl rfl (ev_move rfl rfl) ?_
  refine ho_ev rfl rfl rfl (ev_shl (r := ((R * 2 ^ 4 % 4294967296 : Nat) : Int)) rfl rfl rfl (by omega) (by exact shl_u32 R 4 (by decide))) ?_
  refine ho_ev rfl rfl rfl (ev_move rfl rfl) ?_
  refine ho_ev rfl rfl rfl (ev_shr (r := ((R / 2 ^ 28 : Nat) : Int)) rfl rfl rfl (by omega) (by exact shr_u32 R 28 hRl)) ?_
  refine ho_ev rfl rfl rfl (ev_move rfl rfl) ?_
  refine ho_ev rfl rfl rfl (ev_shr (r := ((x.toNat / 2 ^ 4 : Nat) : Int)) rfl rfl rfl (by omega) (by exact shr_u8 _ 4 hxb)) ?_
  refine ho_ev rfl rfl rfl (ev_convI rfl ⟨_, Tryd.underlying5⟩ Tryd.underlying160 rfl (by first | exact IntWalk.u32_in _ (by omega) | rfl)) ?_
  refine ho_ev rfl rfl rfl (ev_xor (r := ((R / 2 ^ 28 ^^^ x.toNat / 2 ^ 4 : Nat) : Int)) rfl rfl rfl (by exact u32_xor_nat _ _ (by omega) (by omega))) ?_
  refine ho_ev rfl rfl rfl (ev_indexAddrA rfl Tryd.underlying188 Tryd.ty160 rfl rfl (by omega) (by omega)) ?_
  refine ho_ev rfl rfl rfl (ev_load rfl Tryd.underlying160 rfl rfl (cell_pt (by (with_reducible repeat constructor); done) (v := .int .u32 ((Wire.tab (R / 2 ^ 28 ^^^ x.toNat / 2 ^ 4) : Nat) : Int)) (by rw [show 0 + (((R / 2 ^ 28 ^^^ x.toNat / 2 ^ 4 : Nat) : Int)).toNat * 1 = R / 2 ^ 28 ^^^ x.toNat / 2 ^ 4 by rw [Int.toNat_natCast, Nat.mul_one, Nat.zero_add]]; exact tabC_get (by omega)))) ?_
  refine ho_ev rfl rfl rfl (ev_xor (r := ((R1 : Nat) : Int)) rfl rfl rfl (by rw [u32_xor_nat _ _ (by omega) (Wire.tab_lt _), hR1])) ?_
  refine ho_ev rfl rfl rfl (ev_assign rfl rfl) ?_
  refine ho_nil ?_
  refine hx_then ?_
  refine ht_region ?_
  refine ho_ev rfl rfl rfl (ev_move rfl rfl) ?_
  refine ho_ev rfl rfl rfl (ev_shl (r := ((R1 * 2 ^ 4 % 4294967296 : Nat) : Int)) rfl rfl rfl (by omega) (by exact shl_u32 R1 4 (by decide))) ?_
  refine ho_ev rfl rfl rfl (ev_move rfl rfl) ?_
  refine ho_ev rfl rfl rfl (ev_shr (r := ((R1 / 2 ^ 28 : Nat) : Int)) rfl rfl rfl (by omega) (by exact shr_u32 R1 28 hR1l)) ?_
  refine ho_ev rfl rfl rfl (ev_move rfl rfl) ?_
  refine ho_ev rfl rfl rfl (ev_and (r := ((x.toNat % 16 : Nat) : Int)) rfl rfl rfl (by exact and_u8_15 _ hxb)) ?_
  refine ho_ev rfl rfl rfl (ev_convI rfl ⟨_, Tryd.underlying5⟩ Tryd.underlying160 rfl (by first | exact IntWalk.u32_in _ (by omega) | rfl)) ?_
  refine ho_ev rfl rfl rfl (ev_xor (r := ((R1 / 2 ^ 28 ^^^ x.toNat % 16 : Nat) : Int)) rfl rfl rfl (by exact u32_xor_nat _ _ (by omega) (by omega))) ?_
  refine ho_ev rfl rfl rfl (ev_indexAddrA rfl Tryd.underlying188 Tryd.ty160 rfl rfl (by omega) (by omega)) ?_
  refine ho_ev rfl rfl rfl (ev_load rfl Tryd.underlying160 rfl rfl (cell_pt (by (with_reducible repeat constructor); done) (v := .int .u32 ((Wire.tab (R1 / 2 ^ 28 ^^^ x.toNat % 16) : Nat) : Int)) (by rw [show 0 + (((R1 / 2 ^ 28 ^^^ x.toNat % 16 : Nat) : Int)).toNat * 1 = R1 / 2 ^ 28 ^^^ x.toNat % 16 by rw [Int.toNat_natCast, Nat.mul_one, Nat.zero_add]]; exact tabC_get (by omega)))) ?_
  refine ho_ev rfl rfl rfl (ev_xor (r := ((Wire.sbyte R x : Nat) : Int)) rfl rfl rfl (by rw [u32_xor_nat _ _ (by omega) (Wire.tab_lt _), ← hS]; rfl)) ?_
  refine ho_ev rfl rfl rfl (ev_assign rfl rfl) ?_
  refine ho_nil ?_
  refine hx_block_normal ?_
  refine hx_then ?_
  refine ht_region ?_
  refine ho_ev rfl rfl rfl (ev_add rfl rfl rfl (by first | exact in_i64 (by omega) | rfl)) ?_
  refine ho_ev rfl rfl rfl (ev_move rfl rfl) ?_
  refine ho_nil ?_
  rw [show Wire.sbyte R x = Wire.smore (4294967295 ^^^ s) (b.take (q + 1)) by rw [Wire.smore_step _ b q x hx, hR]]
  refine hx_again (I := (fun q : Nat => ([pt b5 (.cells (tabC 16) 188 (0, 0)), ro (roS a b.length b), pu (q ≤ b.length), F], [(5, .pointer (some ⟨b5, 0, none⟩)), (6, .int .u32 (((Wire.smore (4294967295 ^^^ s) (b.take q)) : Nat) : Int)), (12, .slice a b.length c), (13, .int .i64 b.length), (14, .int .i64 q)]))) (μ := (fun q : Nat => b.length - q)) (i := q) (q + 1) ?_ ?_ ?_
  ·(first | dsimp only | skip); omega
  ·repeat (first | exact EnvSub.nil _ | (refine EnvSub.cons rfl ?_))
  ·(first | dsimp only | skip)
   exact Ent.cons (by (repeat constructor); done) (Ent.roD (by (with_reducible repeat constructor); done) (Ent.pu (by omega) (Ent.cons (by (repeat constructor); done) Ent.nil)))
 ·skip
  refine ho_nil ?_
  refine hx_then ?_
  refine ht_seq ?_
  refine ht_else rfl ?_
  refine ht_exit ?_
  refine hx_through trivial ?_
  refine hx_through trivial ?_
  refine hx_block_here ?_
  refine hx_then ?_
  refine ht_seq ?_
  obtain rfl : q = b.length := by omega
  rw [List.take_length]
  refine ht_region ?_
  refine ho_ev rfl rfl rfl (ev_move rfl rfl) ?_
  refine ho_ev rfl rfl rfl (ev_notB (r := ((Wire.more s b : Nat) : Int)) rfl rfl (by exact not_u32 _ (Wire.smore_lt _ _ (Nat.xor_lt_two_pow (n := 32) (by omega) (by omega))))) ?_
  refine ho_ev rfl rfl rfl (ev_assign rfl rfl) ?_
  refine ho_nil ?_
  refine hx_then ?_
  refine ht_ret ?_
  exact hx_ret1 (.inl rfl) rfl rfl () rfl (Ent.cons (by (repeat constructor); done) Ent.nil)
theorem sum_Of (a : Option Addr) (c : Nat) (b : List UInt8) (hb : b.length ≤ 1099511627776) : Ctr Tryd.prog 85 #[.slice a b.length c] [ro (roS a b.length b)] (fun _ : Unit => .int .u32 ((Wire.sum b : Nat) : Int)) (fun _ => []) := by
 refine fn_intro Tryd.func85 rfl rfl Tryd.ntmps85 (Nat.le_of_ble_eq_true rfl) (fun _ => by repeat (first | exact App.nil | apply App.cons)) (fun κ F => ?_)
 refine ht_seq ?_
 refine ht_region ?_
 refine ho_ev rfl rfl rfl (ev_assign rfl rfl) ?_
 refine ho_nil ?_
 refine hx_then ?_
 refine ht_seq ?_
 refine ht_region ?_
 refine ho_ev rfl rfl rfl (ev_move rfl rfl) ?_
 refine ho_eff rfl rfl rfl (eff_call rfl rfl (.cons rfl (.cons rfl .nil)) rfl (sum_More 0 a c b (by decide) hb) (by repeat (first | exact Picks.nil | (apply Picks.ro; focus ((with_reducible repeat constructor); done)) | (apply Picks.cons; focus ((with_reducible repeat constructor); done)))) (fun _ => by repeat (first | exact App.nil | apply App.cons))) (fun _ => ?_)
 refine ho_ev rfl rfl rfl (ev_assign rfl rfl) ?_
 refine ho_nil ?_
 refine hx_then ?_
 refine ht_ret ?_
 exact hx_ret1 (.inl rfl) rfl rfl () rfl (Ent.cons (by (repeat constructor); done) Ent.nil)
theorem sum_Seal (a : Option Addr) (c : Nat) (b : List UInt8) (hb : b.length ≤ 1099511627776) : Ctr Tryd.prog 60 #[.slice a b.length c] [ro (roS a b.length b), ro bitsR] (fun q : Option Addr × Nat => .slice q.1 (Wire.seal_ b).length q.2) (fun q => [ownS 5 q.1 (Wire.seal_ b).length q.2 (Wire.seal_ b)]) := by
 refine fn_intro Tryd.func60 rfl rfl Tryd.ntmps60 (Nat.le_of_ble_eq_true rfl) (fun _ => by repeat (first | exact App.nil | apply App.cons)) (fun κ F => ?_)
 have hsl := Wire.sum_lt b
 refine ht_seq ?_
 refine ht_region ?_
 refine ho_ev rfl rfl rfl (ev_assign rfl rfl) ?_
 refine ho_nil ?_
 refine hx_then ?_
 refine ht_seq ?_
 refine ht_region ?_
 refine ho_ev rfl rfl rfl (ev_move rfl rfl) ?_
 refine ho_ev rfl rfl rfl (ev_move rfl rfl) ?_
 refine ho_eff rfl rfl rfl (eff_call rfl rfl (.cons rfl .nil) rfl (sum_Of a c b hb) (by repeat (first | exact Picks.nil | (apply Picks.ro; focus ((with_reducible repeat constructor); done)) | (apply Picks.cons; focus ((with_reducible repeat constructor); done)))) (fun _ => by repeat (first | exact App.nil | apply App.cons))) (fun _ => ?_)
 refine ho_ev rfl rfl rfl (ev_convI rfl ⟨_, Tryd.underlying160⟩ Tryd.underlying41 rfl (by first | exact IntWalk.u64_in _ (by omega) | rfl)) ?_
 refine ho_eff rfl rfl rfl (eff_call rfl rfl (.cons rfl (.cons rfl (.cons rfl .nil))) rfl (num_Put a c b (Wire.sum b) 4 (by decide) (by decide) (Nat.div_eq_of_lt hsl) (by omega) hb) (by repeat (first | exact Picks.nil | (apply Picks.ro; focus ((with_reducible repeat constructor); done)) | (apply Picks.cons; focus ((with_reducible repeat constructor); done)))) (fun _ => by repeat (first | exact App.nil | apply App.cons))) (fun y => ?_)
 refine ho_ev rfl rfl rfl (ev_move rfl rfl) ?_
 refine ho_ev rfl rfl rfl (ev_extract rfl rfl rfl) ?_
 refine ho_ev rfl rfl rfl (ev_extract rfl rfl rfl) ?_
 refine ho_ev rfl rfl rfl (ev_assign rfl rfl) ?_
 refine ho_ev rfl rfl rfl (ev_assign rfl rfl) ?_
 refine ho_nil ?_
 refine hx_then ?_
 refine ht_seq ?_
 refine ht_region ?_
 refine ho_ev rfl rfl rfl (ev_move rfl rfl) ?_
 refine ho_ev rfl rfl rfl (ev_assign rfl rfl) ?_
 refine ho_nil ?_
 refine hx_then ?_
 refine ht_ret ?_
 exact hx_ret1 (.inl rfl) rfl rfl y rfl (Ent.cons (by (repeat constructor); done) (Ent.cons (by (repeat constructor); done) Ent.nil))
theorem sum_Open (a : Option Addr) (c : Nat) (s : List UInt8) (hc : s.length ≤ c) (hs : s.length ≤ 1099511627776) : Ctr Tryd.prog 80 #[.slice a s.length c] [ro (roS a s.length s)] (fun q : Option Addr × Nat => .tuple #[.slice q.1 (Wire.openS s).1.length q.2, .int .i64 (Wire.openS s).2]) (fun q => [ro (roS q.1 (Wire.openS s).1.length (Wire.openS s).1), pu ((Wire.openS s).1.length ≤ q.2)]) := by
 refine fn_intro Tryd.func80 rfl rfl Tryd.ntmps80 (Nat.le_of_ble_eq_true rfl) (fun _ => by repeat (first | exact App.nil | apply App.cons)) (fun κ F => ?_)
 refine ht_seq ?_
 refine ht_region ?_
 refine ho_ev rfl rfl rfl (ev_assign rfl rfl) ?_
 refine ho_ev rfl rfl rfl (ev_assign rfl rfl) ?_
 refine ho_nil ?_
 refine hx_then ?_
 refine ht_seq ?_
 refine ht_seq ?_
 refine ht_region ?_
 refine ho_ev rfl rfl rfl (ev_move rfl rfl) ?_
 refine ho_ev rfl rfl rfl (ev_lenSl rfl Tryd.underlying86 rfl) ?_
 refine ho_lt rfl rfl rfl rfl rfl rfl (fun g1 => ?_) (fun g1 => ?_)
 ·skip
  refine ho_nil ?_
  refine hx_then ?_
  refine ht_then rfl ?_
  refine ht_seq ?_
  refine ht_region ?_
  refine ho_ev rfl rfl rfl (ev_assign rfl rfl) ?_
  refine ho_ev rfl rfl rfl (ev_assign rfl rfl) ?_
  refine ho_nil ?_
  refine hx_then ?_
  refine ht_ret ?_
  refine hx_through trivial ?_
  have ho : Wire.openS s = ([], 20) := by unfold Wire.openS; rw [if_pos (by omega)]
  exact hx_ret2 (.inl rfl) rfl rfl rfl (none, 0) (by rw [ho]; rfl) (by rw [ho]; exact Ent.roTrue (ψ := roS (α := UInt8) none 0 []) (fun r => SliceIn.empty _ _) (Ent.pu (Nat.le_refl _) (Ent.cons (by (repeat constructor); done) Ent.nil)))
 ·skip
  refine ho_nil ?_
  refine hx_then ?_
  refine ht_else rfl ?_
  refine ht_skip ?_
  refine hx_then ?_
  refine ht_seq ?_
  refine ht_region ?_
  refine ho_eff rfl rfl rfl (eff_buildAll (α := UInt8) [] rfl Tryd.underlying86 Tryd.ty5 .nil .nil rfl (Nat.le_of_ble_eq_true rfl)) (fun b11 => ?_)
  refine ho_ev rfl rfl rfl (ev_move rfl rfl) ?_
  refine ho_ev rfl rfl rfl (ev_move rfl rfl) ?_
  refine ho_ev rfl rfl rfl (ev_lenSl rfl Tryd.underlying86 rfl) ?_
  refine ho_ev rfl rfl rfl (ev_sub (r := ((s.length - 4 : Nat) : Int)) rfl rfl rfl (by rw [in_i64 (by omega)]; omega)) ?_
  refine ho_eff rfl rfl rfl (eff_slice (α := UInt8) rfl Tryd.underlying86 Tryd.ty5 rfl (by (with_reducible repeat constructor); done) rfl ⟨_, rfl⟩ rfl (by decide) (by omega) (by omega) (by omega) (by omega)) (fun a16 => ?_)
  refine ho_eff rfl rfl rfl (eff_append (α := UInt8) rfl Tryd.underlying86 Tryd.ty5 rfl (by decide) Tryd.underlying86 rfl rfl (by (with_reducible repeat constructor); done) (by first | exact reads_ro (by (with_reducible repeat constructor); done) | exact reads_own (by (with_reducible repeat constructor); done) | exact reads_nil _) (by first | omega | (simp only [List.length_append, List.length_cons, List.length_nil, List.length_drop, List.length_take]; omega) | (simp; omega))) (fun p17 => ?_)
  refine ho_ev rfl rfl rfl (ev_assign rfl rfl) ?_
  refine ho_nil ?_
  refine hx_then ?_
  refine ht_seq ?_
  refine ht_region ?_
  refine ho_ev rfl rfl rfl (ev_move rfl rfl) ?_
  refine ho_ev rfl rfl rfl (ev_move rfl rfl) ?_
  refine ho_ev rfl rfl rfl (ev_lenSl rfl Tryd.underlying86 rfl) ?_
  refine ho_ev rfl rfl rfl (ev_sub (r := ((s.length - 4 : Nat) : Int)) rfl rfl rfl (by rw [in_i64 (by omega)]; omega)) ?_
  refine ho_eff rfl rfl rfl (eff_slice (α := UInt8) rfl Tryd.underlying86 Tryd.ty5 rfl (by (with_reducible repeat constructor); done) ⟨_, rfl⟩ rfl rfl (by decide) (by omega) (by omega) (by omega) (by omega)) (fun a23 => ?_)
  have hc4 : ((s.take s.length).drop (s.length - 4)).length ≤ c - (s.length - 4) := by simp; omega
  refine ho_eff rfl rfl rfl (eff_call rfl rfl (.cons rfl (.cons rfl .nil)) rfl (num_Get _ _ ((s.take s.length).drop (s.length - 4)) 4 (by decide) (by decide) (by simp; omega) hc4 (by simp; omega)) (by repeat (first | exact Picks.nil | (apply Picks.ro; focus ((with_reducible repeat constructor); done)) | (apply Picks.cons; focus ((with_reducible repeat constructor); done)))) (fun _ => by repeat (first | exact App.nil | apply App.cons))) (fun g => ?_)
  have hsum := Wire.sum_lt ([] ++ (s.take (s.length - 4)).drop 0)
  have e4 : ((s.take s.length).drop (s.length - 4)).take 4 = s.drop (s.length - 4) := by rw [List.take_length, List.take_of_length_le (by simp; omega)]
  rw [e4]
  refine ho_ev rfl rfl rfl (ev_move rfl rfl) ?_
  refine ho_ev rfl rfl rfl (ev_extract rfl rfl rfl) ?_
  refine ho_ev rfl rfl rfl (ev_extract rfl rfl rfl) ?_
  refine ho_ev rfl rfl rfl (ev_extract rfl rfl rfl) ?_
  refine ho_ev rfl rfl rfl (ev_assign rfl rfl) ?_
  refine ho_ev rfl rfl rfl (ev_assign rfl rfl) ?_
  refine ho_ev rfl rfl rfl (ev_assign rfl rfl) ?_
  refine ho_nil ?_
  refine hx_then ?_
  refine ht_seq ?_
  refine ht_seq ?_
  refine ht_cap (xs := [] ++ (s.take (s.length - 4)).drop 0) (by (with_reducible repeat constructor); done) (fun hl hcap => ?_)
  refine ht_freezeS (xs := [] ++ (s.take (s.length - 4)).drop 0) (by (with_reducible repeat constructor); done) ?_
  have e0 : [] ++ (s.take (s.length - 4)).drop 0 = s.take (s.length - 4) := by simp
  rw [e0] at hl hcap hsum ⊢
  refine ht_region ?_
  refine ho_ev rfl rfl rfl (ev_move rfl rfl) ?_
  refine ho_ev rfl rfl rfl (ev_move rfl rfl) ?_
  refine ho_eff rfl rfl rfl (eff_call rfl rfl (.cons rfl .nil) rfl (sum_Of _ _ _ (by simp; omega)) (by repeat (first | exact Picks.nil | (apply Picks.ro; focus ((with_reducible repeat constructor); done)) | (apply Picks.cons; focus ((with_reducible repeat constructor); done)))) (fun _ => by repeat (first | exact App.nil | apply App.cons))) (fun _ => ?_)
  refine ho_ev rfl rfl rfl (ev_convI rfl ⟨_, Tryd.underlying160⟩ Tryd.underlying41 rfl (by first | exact IntWalk.u64_in _ (by omega) | rfl)) ?_
  refine ho_ne rfl rfl rfl rfl rfl rfl (fun g2 => ?_) (fun g2 => ?_)
  ·skip
   refine ho_nil ?_
   refine hx_then ?_
   refine ht_then rfl ?_
   refine ht_seq ?_
   refine ht_region ?_
   refine ho_ev rfl rfl rfl (ev_assign rfl rfl) ?_
   refine ho_ev rfl rfl rfl (ev_assign rfl rfl) ?_
   refine ho_nil ?_
   refine hx_then ?_
   refine ht_ret ?_
   refine hx_through trivial ?_
   have ho : Wire.openS s = ([], 21) := by unfold Wire.openS; rw [if_neg (by omega), if_neg (by omega)]
   exact hx_ret2 (.inl rfl) rfl rfl rfl (none, 0) (by rw [ho]; rfl) (by rw [ho]; exact Ent.roTrue (ψ := roS (α := UInt8) none 0 []) (fun r => SliceIn.empty _ _) (Ent.pu (Nat.le_refl _) (Ent.cons (by (repeat constructor); done) Ent.nil)))
  ·skip
   refine ho_nil ?_
   refine hx_then ?_
   refine ht_else rfl ?_
   refine ht_skip ?_
   refine hx_then ?_
   refine ht_seq ?_
   refine ht_region ?_
   refine ho_ev rfl rfl rfl (ev_move rfl rfl) ?_
   refine ho_ev rfl rfl rfl (ev_assign rfl rfl) ?_
   refine ho_ev rfl rfl rfl (ev_assign rfl rfl) ?_
   refine ho_nil ?_
   refine hx_then ?_
   refine ht_ret ?_
   have ho : Wire.openS s = (s.take (s.length - 4), 0) := by unfold Wire.openS; rw [if_neg (by omega), if_pos (by omega)]
   exact hx_ret2 (.inl rfl) rfl rfl rfl p17 (by rw [ho]) (by rw [ho]; exact Ent.roD (by (with_reducible repeat constructor); done) (Ent.pu hcap (Ent.cons (by (repeat constructor); done) Ent.nil)))
end Go.Proofs.YtlejcepbcfijiaaDoor
