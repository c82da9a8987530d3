/-
  PACKAGES num, sum, code, record: the walks. Conditions: as each contract says.
-/
import Derived.Test.YtlejcepbcfijiaaGreatDoorFacts
import Derived.Test.YtlejcepbcfijiaaGreatDoorWireM
import Derived.Test.YtlejcepbcfijiaaGreatDoorSlClose
set_option maxRecDepth 100000
set_option linter.unusedVariables false
set_option linter.unusedSimpArgs false
namespace Go.Proofs.YtlejcepbcfijiaaGreatDoor
open Go Go.SL


theorem Ent.roD {φ : RoP} {L R M : List Assn} (k : Pick (ro φ) L R) (h : Ent L M) : Ent L (ro φ :: M) := Ent.roWeak k (fun _ h => h) h
/-- the table of package num -/
def bitsR : RoP := ⟨fun r => ∃ cs E fr, r 0 = some (.cells cs E fr) ∧ ∀ i : Nat, i < 9 → cs[i]? = some (.int .u64 ((8 * i : Nat) : Int)), fun ⟨cs, E, fr, h1, h2⟩ k => ⟨cs, E, fr, k.out _ _ h1, h2⟩⟩
section
variable {P : Program} {κ : World} {n : Nat} {L M R R' : List Assn} {ρ : Env} {ops : Array Oper} {l : List Oper} {Q : Exit → Act → World → Prop}
theorem cell_bits {i off : Nat} (k : Pick (ro bitsR) L R) (hi : i < 9) (e : off = i) : Cell L 0 off (.int .u64 ((8 * i : Nat) : Int)) := fun κ w hw => by
  obtain ⟨cs, E, fr, h1, h2⟩ : bitsR.p (hp w) := hw.ro k
  subst e
  exact ⟨cs, E, fr, h1, h2 _ hi⟩
end
/-- the table of package sum, as far as it is told -/
def tabL (j : Nat) : List Value := (List.range 16).map fun i => .int .u32 (((if i < j then Wire.tab i else 0) : Nat) : Int)
def tabC (j : Nat) : Array Value := (tabL j).toArray
theorem tabC_size (j : Nat) : (tabC j).size = 16 := by simp [tabC, tabL]
theorem tabC_get {i : Nat} (hi : i < 16) : (tabC 16)[i]? = some (.int .u32 ((Wire.tab i : Nat) : Int)) := by simp [tabC, tabL, hi]
theorem tabC_set {j : Nat} (hj : j < 16) : (tabC j).setIfInBounds j (.int .u32 ((Wire.tab j : Nat) : Int)) = tabC (j + 1) := by
  apply Array.ext
  · simp [tabC, tabL]
  · intro i h1 h2
    have hi : i < 16 := by simpa [tabC, tabL] using h2
    by_cases e : i = j
    · subst e; simp [tabC, tabL]
    · rw [Array.getElem_setIfInBounds_ne (by simpa [tabC, tabL] using hi) (Ne.symm e)]
      simp only [tabC, tabL, List.getElem_toArray, List.getElem_map, List.getElem_range]
      by_cases h : i < j
      · rw [if_pos h, if_pos (by omega)]
      · rw [if_neg h, if_neg (by omega)]

theorem num_Put1 (b1 b2 v s : Nat) (a : Option Addr) (c : Nat) (xs : List UInt8) (hv : v < 18446744073709551616) (hx : xs.length ≤ 2199023255552) : Ctr Tryz.prog 86 #[.int .u64 (s : Int), .pointer (some ⟨b1, 0, none⟩), .pointer (some ⟨b2, 0, none⟩)] [pt b1 (.cells #[.slice a xs.length c] 73 (0, 0)), pt b2 (.cells #[.int .u64 (v : Int)] 24 (0, 0)), ownS 5 a xs.length c xs] (fun _ : Option Addr × Nat => .tuple #[]) (fun q => [pt b1 (.cells #[.slice q.1 (xs ++ [Wire.byte (v / 2 ^ s)]).length q.2] 73 (0, 0)), pt b2 (.cells #[.int .u64 (v : Int)] 24 (0, 0)), ownS 5 q.1 (xs ++ [Wire.byte (v / 2 ^ s)]).length q.2 (xs ++ [Wire.byte (v / 2 ^ s)])]) := by
 refine Z.fn Tryz.func86 Tryz.ntmps86 (fun κ F => ?_)
 refine Z.go 1 ?_
 refine Z.ld 0 ?_
 refine Z.ld 1 ?_
 refine Z.ev (ev_shr (r := ((v / 2 ^ s : Nat) : Int)) rfl rfl rfl (by omega) (by exact shr_u64 v s hv)) 0 ?_
 refine Z.ev (ev_convI (r := (((Wire.byte (v / 2 ^ s)).toNat : Nat) : Int)) rfl ⟨_, Tryz.underlying24⟩ Tryz.underlying5 rfl (by exact byte_u8 _)) 0 ?_
 refine Z.ef (eff_buildAll (α := UInt8) [Wire.byte (v / 2 ^ s)] rfl Tryz.underlying73 Tryz.ty5 (.cons rfl .nil) (.cons rfl .nil) rfl (Nat.le_of_ble_eq_true rfl)) 0 (fun b9 => ?_)
 refine Z.ef (eff_append (α := UInt8) rfl Tryz.underlying73 Tryz.ty5 rfl (by decide) Tryz.underlying73 rfl rfl Z.p (by first | exact reads_ro Z.p | exact reads_own Z.p | exact reads_nil _) (by first | omega | (simp only [List.length_append, List.length_cons, List.length_nil, List.length_drop, List.length_take]; omega) | (simp; omega))) 0 (fun p10 => ?_)
 refine Z.s1 1 ?_
 exact hx_ret0 (.inr rfl) rfl p10 rfl (Ent.cons Z.k (Ent.cons Z.k (Ent.cons Z.k Z.f)))
theorem num_Put (a : Option Addr) (c : Nat) (b : List UInt8) (v n : Nat) (h1 : 1 ≤ n) (h8 : n ≤ 8) (hz : v / 2 ^ (8 * n) = 0) (hv : v < 18446744073709551616) (hb : b.length ≤ 1099511627776) : Ctr Tryz.prog 63 #[.slice a b.length c, .int .u64 (v : Int), .int .i64 (n : Int)] [ro (roS a b.length b), ro bitsR] (fun q : Option Addr × Nat => .tuple #[.slice q.1 (b ++ Wire.be v n).length q.2, .int .i64 0]) (fun q => [ownS 5 q.1 (b ++ Wire.be v n).length q.2 (b ++ Wire.be v n)]) := by
 refine Z.fn Tryz.func63 Tryz.ntmps63 (fun κ F => ?_)
 refine Z.go 2 ?_
 refine Z.b1 6 (fun b4 => ?_)
 refine ht_draw (.op 0 (.op 1 (.op 2 (.op 3 (.op 4 (.op 5 (.op 6 (.op 7 (.op 8 (.op 9 (.op 10 (.op 11 (.op 12 (.op 13 (.op 14 (.op 15 (.op 16 (.op 17 .done)))))))))))))))))) [] Tryz.mixed rfl ?_
 refine Z.dr 1 ?_
 refine hd_lt rfl rfl rfl rfl rfl rfl rfl rfl (fun g1 => ?_) (fun g1 => ?_)
 ·omega
 ·skip
  refine Z.dr 2 ?_
  refine hd_gtg rfl rfl rfl rfl rfl rfl rfl rfl rfl (fun g2 => ?_) (fun g2 => ?_)
  ·omega
  ·skip
   refine Z.dr 3 ?_
   refine hd_ltg rfl rfl rfl rfl rfl rfl rfl rfl rfl (fun g3 => ?_) (fun g3 => ?_)
   ·skip
    refine Z.dr 1 ?_
    refine Z.dl ?_
    refine Z.dr 1 ?_
    refine hd_ev rfl rfl rfl rfl (EvG.go rfl (ev_indexAddrA rfl Tryz.underlying165 Tryz.ty164 rfl rfl (by omega) (by omega))) ?_
    refine Z.dl (hc := by exact cell_bits (i := n) Z.p (by omega) (by omega)) ?_
    refine hd_ev rfl rfl rfl rfl (EvG.go rfl (ev_shr (r := 0) rfl rfl rfl (by omega) (by rw [shr_u64 v (8 * n) hv, hz]; rfl))) ?_
    refine hd_neg rfl rfl rfl rfl rfl rfl rfl rfl rfl (fun g4 => ?_) (fun g4 => ?_)
    ·omega
    ·skip
     refine Z.dr 2 ?_
     refine hd_nil ?_
     refine Z.xg 6 ?_
     refine Z.ef (eff_buildAll (α := UInt8) [] rfl Tryz.underlying73 Tryz.ty5 .nil .nil rfl (Nat.le_of_ble_eq_true rfl)) 1 (fun b29 => ?_)
     refine Z.ef (eff_append (α := UInt8) rfl Tryz.underlying73 Tryz.ty5 rfl (by decide) Tryz.underlying73 rfl rfl Z.p (by first | exact reads_ro Z.p | exact reads_own Z.p | exact reads_nil _) (by first | omega | (simp only [List.length_append, List.length_cons, List.length_nil, List.length_drop, List.length_take]; omega) | (simp; omega))) 0 (fun p31 => ?_)
     refine Z.al 0 (fun b8 => ?_)
     refine Z.s1 16 ?_
     refine Z.lo (fun q : Nat × Option Addr × Nat => ([pt b4 (.cells #[.int .u64 (v : Int)] 24 (0, 0)), pt b8 (.cells #[.slice q.2.1 (b ++ (Wire.be v n).take q.1).length q.2.2] 73 (0, 0)), ownS 5 q.2.1 (b ++ (Wire.be v n).take q.1).length q.2.2 (b ++ (Wire.be v n).take q.1), ro bitsR, pu (q.1 ≤ n), F], [(34, .int .i64 q.1), (33, .int .i64 n), (2, .int .i64 n), (9, .func (.func 86) #[] #[.pointer (some ⟨b8, 0, none⟩), .pointer (some ⟨b4, 0, none⟩)]), (8, .pointer (some ⟨b8, 0, none⟩))])) (fun q : Nat × Option Addr × Nat => n - q.1) (0, p31.1, p31.2) ?_ (fun q => ?_)
     ·(first | dsimp only | skip)
      rw [List.take_zero, List.append_nil]
      exact Ent.cons Z.k (Ent.cons Z.k (Ent.cons Z.k (Ent.roD Z.p (Ent.pu (by omega) Z.f))))
     obtain ⟨q, ad, cp⟩ := q
     dsimp only
     refine ht_pick (A := pu (q ≤ n)) Z.k (ht_pure fun hq => ?_)
     have hlen : (b ++ (Wire.be v n).take q).length = b.length + q := by rw [List.length_append, List.length_take, Wire.be_len]; omega
     refine Z.go 2 ?_
     refine Z.lt 17 10 (fun g5 => ?_) (fun g5 => ?_)
     ·skip
      refine Z.sb 1 ?_
      refine Z.sb 0 ?_
      refine Z.ev (ev_indexAddrA rfl Tryz.underlying165 Tryz.ty164 rfl rfl (by omega) (by omega)) 0 ?_
      refine Z.ld (hc := by exact cell_bits (i := n - 1 - q) Z.p (by omega) (by omega)) 0 ?_
      refine Z.ca (c := num_Put1 b8 b4 v (8 * (n - 1 - q)) ad cp (b ++ (Wire.be v n).take q) hv (by omega)) 4 (fun x44 => ?_)
      refine Z.ad 2 ?_
      refine Z.ag (q + 1, x44.1, x44.2) (by (first | dsimp only | skip); omega) ?_
      (first | dsimp only | skip)
      rw [Wire.be_step v n q (by omega), ← List.append_assoc]
      exact Ent.cons Z.k (Ent.cons Z.k (Ent.cons Z.k (Ent.roD Z.p (Ent.pu (by omega) Z.f))))
     ·skip
      obtain rfl : q = n := by omega
      rw [List.take_of_length_le (Nat.le_of_eq (Wire.be_len v q))]
      refine Z.go 1 ?_
      refine Z.ld 5 ?_
      exact hx_ret2 (.inl rfl) rfl rfl rfl (ad, cp) rfl (Ent.cons Z.k Z.f)
   ·skip
    refine Z.dr 9 ?_
    refine hd_nil ?_
    refine Z.xg 6 ?_
    refine Z.ef (eff_buildAll (α := UInt8) [] rfl Tryz.underlying73 Tryz.ty5 .nil .nil rfl (Nat.le_of_ble_eq_true rfl)) 1 (fun b29 => ?_)
    refine Z.ef (eff_append (α := UInt8) rfl Tryz.underlying73 Tryz.ty5 rfl (by decide) Tryz.underlying73 rfl rfl Z.p (by first | exact reads_ro Z.p | exact reads_own Z.p | exact reads_nil _) (by first | omega | (simp only [List.length_append, List.length_cons, List.length_nil, List.length_drop, List.length_take]; omega) | (simp; omega))) 0 (fun p31 => ?_)
    refine Z.al 0 (fun b8 => ?_)
    refine Z.s1 16 ?_
    refine Z.lo (fun q : Nat × Option Addr × Nat => ([pt b4 (.cells #[.int .u64 (v : Int)] 24 (0, 0)), pt b8 (.cells #[.slice q.2.1 (b ++ (Wire.be v n).take q.1).length q.2.2] 73 (0, 0)), ownS 5 q.2.1 (b ++ (Wire.be v n).take q.1).length q.2.2 (b ++ (Wire.be v n).take q.1), ro bitsR, pu (q.1 ≤ n), F], [(34, .int .i64 q.1), (33, .int .i64 n), (2, .int .i64 n), (9, .func (.func 86) #[] #[.pointer (some ⟨b8, 0, none⟩), .pointer (some ⟨b4, 0, none⟩)]), (8, .pointer (some ⟨b8, 0, none⟩))])) (fun q : Nat × Option Addr × Nat => n - q.1) (0, p31.1, p31.2) ?_ (fun q => ?_)
    ·(first | dsimp only | skip)
     rw [List.take_zero, List.append_nil]
     exact Ent.cons Z.k (Ent.cons Z.k (Ent.cons Z.k (Ent.roD Z.p (Ent.pu (by omega) Z.f))))
    obtain ⟨q, ad, cp⟩ := q
    dsimp only
    refine ht_pick (A := pu (q ≤ n)) Z.k (ht_pure fun hq => ?_)
    have hlen : (b ++ (Wire.be v n).take q).length = b.length + q := by rw [List.length_append, List.length_take, Wire.be_len]; omega
    refine Z.go 2 ?_
    refine Z.lt 17 10 (fun g6 => ?_) (fun g6 => ?_)
    ·skip
     refine Z.sb 1 ?_
     refine Z.sb 0 ?_
     refine Z.ev (ev_indexAddrA rfl Tryz.underlying165 Tryz.ty164 rfl rfl (by omega) (by omega)) 0 ?_
     refine Z.ld (hc := by exact cell_bits (i := n - 1 - q) Z.p (by omega) (by omega)) 0 ?_
     refine Z.ca (c := num_Put1 b8 b4 v (8 * (n - 1 - q)) ad cp (b ++ (Wire.be v n).take q) hv (by omega)) 4 (fun x44 => ?_)
     refine Z.ad 2 ?_
     refine Z.ag (q + 1, x44.1, x44.2) (by (first | dsimp only | skip); omega) ?_
     (first | dsimp only | skip)
     rw [Wire.be_step v n q (by omega), ← List.append_assoc]
     exact Ent.cons Z.k (Ent.cons Z.k (Ent.cons Z.k (Ent.roD Z.p (Ent.pu (by omega) Z.f))))
    ·skip
     obtain rfl : q = n := by omega
     rw [List.take_of_length_le (Nat.le_of_eq (Wire.be_len v q))]
     refine Z.go 1 ?_
     refine Z.ld 5 ?_
     exact hx_ret2 (.inl rfl) rfl rfl rfl (ad, cp) rfl (Ent.cons Z.k Z.f)
theorem num_Get_no (a : Option Addr) (c : Nat) (b : List UInt8) (n : Nat) (h1 : 1 ≤ n) (h8 : n ≤ 8) (hb : b.length < n) : Ctr Tryz.prog 66 #[.slice a b.length c, .int .i64 (n : Int)] [ro (roS a b.length b)] (fun _ : Unit => .tuple #[.int .u64 0, .slice none 0 0, .int .i64 10]) (fun _ => []) := by
 refine Z.fn Tryz.func66 Tryz.ntmps66 (fun κ F => ?_)
 refine Z.go 12 ?_
 refine Z.lt 0 2 (fun g1 => ?_) (fun g1 => ?_)
 ·omega
 ·skip
  refine Z.gt 0 10 (fun g2 => ?_) (fun g2 => ?_)
  ·omega
  ·skip
   refine Z.lt 14 0 (fun g3 => ?_) (fun g3 => ?_)
   ·skip
    exact hx_ret3 (.inl rfl) rfl rfl rfl rfl () rfl Z.f
   ·omega
theorem num_Get (a : Option Addr) (c : Nat) (b : List UInt8) (n : Nat) (h1 : 1 ≤ n) (h8 : n ≤ 8) (hb : n ≤ b.length) (hc : b.length ≤ c) (hb2 : b.length ≤ 1099511627776) : Ctr Tryz.prog 66 #[.slice a b.length c, .int .i64 (n : Int)] [ro (roS a b.length b)] (fun q : Option Addr × Nat => .tuple #[.int .u64 ((Wire.ofBe (b.take n) : Nat) : Int), .slice q.1 (b.drop n).length q.2, .int .i64 0]) (fun q => [ro (roS q.1 (b.drop n).length (b.drop n)), pu ((b.drop n).length ≤ q.2)]) := by
 refine Z.fn Tryz.func66 Tryz.ntmps66 (fun κ F => ?_)
 refine Z.go 12 ?_
 refine Z.lt 0 2 (fun g1 => ?_) (fun g1 => ?_)
 ·omega
 ·skip
  refine Z.gt 0 10 (fun g2 => ?_) (fun g2 => ?_)
  ·omega
  ·skip
   refine Z.lt 0 20 (fun g3 => ?_) (fun g3 => ?_)
   ·omega
   ·skip
    refine Z.lo (fun q : Nat => ([ro (roS a b.length b), pu (q ≤ n), F], [(22, .int .i64 q), (21, .int .i64 n), (0, .slice a b.length c), (1, .int .i64 n), (7, .int .u64 ((Wire.ofBe (b.take q) : Nat) : Int))])) (fun q : Nat => n - q) 0 ?_ (fun q => ?_)
    ·(first | dsimp only | skip)
     exact Ent.roD Z.p (Ent.pu (by omega) Z.f)
    dsimp only
    refine ht_pick (A := pu (q ≤ n)) Z.k (ht_pure fun hq => ?_)
    refine Z.go 2 ?_
    refine Z.lt 14 10 (fun g4 => ?_) (fun g4 => ?_)
    ·skip
     obtain ⟨x, hx⟩ : ∃ x, b[q]? = some x := ⟨_, List.getElem?_eq_getElem (by omega)⟩
     have hxb := Wire.byte_lt x
     have hfit := Wire.ofBe_fit b q (by omega)
     refine ht_someS (α := UInt8) (reads_ro Z.p) (by omega) (fun ab ao ha => ?_)
     refine Z.go 2 ?_
     refine Z.ev (ev_shl (r := ((Wire.ofBe (b.take q) * 2 ^ 8 : Nat) : Int)) rfl rfl rfl (by omega) (by exact shl_u64 _ 8 (by decide) (by omega))) 2 ?_
     refine Z.ev (ev_indexAddr rfl Tryz.underlying73 Tryz.ty5 (congrArg (fun z => some (Value.slice z b.length c)) ha) rfl (by omega) (by omega)) 0 ?_
     refine Z.ld (hc := by exact cell_Sa0 ha (reads_ro Z.p) hx rfl) 0 ?_
     refine Z.ev (ev_convI rfl ⟨_, Tryz.underlying5⟩ Tryz.underlying24 rfl (by first | exact IntWalk.u64_in _ (by omega) | rfl)) 0 ?_
     refine Z.ev (ev_or (r := ((Wire.ofBe (b.take (q + 1)) : Nat) : Int)) rfl rfl rfl (by rw [u64_or_nat _ _ (by omega) (by omega), or_high _ _ 8 (by omega), Wire.ofBe_step b q x hx])) 5 ?_
     refine Z.ad 2 ?_
     refine Z.ag (q + 1) (by (first | dsimp only | skip); omega) ?_
     (first | dsimp only | skip)
     exact Ent.roD Z.p (Ent.pu (by omega) Z.f)
    ·skip
     obtain rfl : q = n := by omega
     refine Z.go 2 ?_
     refine Z.ef (eff_buildAll (α := UInt8) [] rfl Tryz.underlying73 Tryz.ty5 .nil .nil rfl (Nat.le_of_ble_eq_true rfl)) 2 (fun b35 => ?_)
     refine Z.ef (eff_slice (α := UInt8) rfl Tryz.underlying73 Tryz.ty5 rfl Z.p ⟨_, rfl⟩ rfl rfl (by decide) (by omega) (by omega) (by omega) (by omega)) 0 (fun a38 => ?_)
     refine Z.ef (eff_append (α := UInt8) rfl Tryz.underlying73 Tryz.ty5 rfl (by decide) Tryz.underlying73 rfl rfl Z.p (by first | exact reads_ro Z.p | exact reads_own Z.p | exact reads_nil _) (by first | omega | (simp only [List.length_append, List.length_cons, List.length_nil, List.length_drop, List.length_take]; omega) | (simp; omega))) 6 (fun p39 => ?_)
     refine hx_cap (xs := [] ++ (b.take b.length).drop q) Z.p (fun hl hcap => ?_)
     refine hx_freezeS (xs := [] ++ (b.take b.length).drop q) Z.p ?_
     have e0 : [] ++ (b.take b.length).drop q = b.drop q := by simp
     rw [e0] at hl hcap ⊢
     exact hx_ret3 (.inl rfl) rfl rfl rfl rfl p39 rfl (Ent.roD Z.p (Ent.pu hcap Z.f))
theorem num_PutVar (a : Option Addr) (c : Nat) (b : List UInt8) (v : Nat) (hv : v < 18446744073709551616) (hb : b.length ≤ 1099511627776) : Ctr Tryz.prog 95 #[.slice a b.length c, .int .u64 (v : Int)] [ro (roS a b.length b)] (fun q : Option Addr × Nat => .slice q.1 (b ++ Wire.var v).length q.2) (fun q => [ownS 5 q.1 (b ++ Wire.var v).length q.2 (b ++ Wire.var v)]) := by
 refine Z.fn Tryz.func95 Tryz.ntmps95 (fun κ F => ?_)
 refine Z.go 7 ?_
 refine Z.ef (eff_buildAll (α := UInt8) [] rfl Tryz.underlying73 Tryz.ty5 .nil .nil rfl (Nat.le_of_ble_eq_true rfl)) 1 (fun b6 => ?_)
 refine Z.ef (eff_append (α := UInt8) rfl Tryz.underlying73 Tryz.ty5 rfl (by decide) Tryz.underlying73 rfl rfl Z.p (by first | exact reads_ro Z.p | exact reads_own Z.p | exact reads_nil _) (by first | omega | (simp only [List.length_append, List.length_cons, List.length_nil, List.length_drop, List.length_take]; omega) | (simp; omega))) 5 (fun p8 => ?_)
 refine Z.lo (fun q : Nat × List UInt8 × Option Addr × Nat => ([ownS 5 q.2.2.1 q.2.1.length q.2.2.2 q.2.1, pu (q.2.1 ++ Wire.var q.1 = b ++ Wire.var v ∧ q.1 ≤ v), F], [(1, .int .u64 ((q.1 : Nat) : Int)), (5, .slice q.2.2.1 q.2.1.length q.2.2.2)])) (fun q : Nat × List UInt8 × Option Addr × Nat => q.1) (v, [] ++ b, _, _) ?_ (fun q => ?_)
 ·(first | dsimp only | skip)
  exact Ent.cons Z.k (Ent.pu ⟨by simp, Nat.le_refl _⟩ Z.f)
 obtain ⟨z, out, ad, cp⟩ := q
 dsimp only
 refine ht_pick (A := pu (out ++ Wire.var z = b ++ Wire.var v ∧ z ≤ v)) Z.k (ht_pure fun hq => ?_)
 obtain ⟨hq, hzv⟩ := hq
 have hvl := Wire.var_len v 10 (Nat.lt_of_lt_of_le hv (by decide)) (by decide)
 have hol : out.length ≤ b.length + 10 := by have := congrArg List.length hq; simp only [List.length_append] at this; omega
 refine Z.go 4 ?_
 refine Z.ge 10 12 (fun g1 => ?_) (fun g1 => ?_)
 ·skip
  refine Z.ev (ev_convI (r := ((z % 256 : Nat) : Int)) rfl ⟨_, Tryz.underlying24⟩ Tryz.underlying5 rfl (by rw [IntKind.wrap_u8']; exact (Int.natCast_emod _ 256).symm)) 0 ?_
  refine Z.ev (ev_or (r := (((Wire.byte (z % 128 + 128)).toNat : Nat) : Int)) rfl rfl rfl (by rw [or_u8_128 _ (by omega), Wire.byte_nat]; congr 1; omega)) 0 ?_
  refine Z.ef (eff_buildAll (α := UInt8) [Wire.byte (z % 128 + 128)] rfl Tryz.underlying73 Tryz.ty5 (.cons rfl .nil) (.cons rfl .nil) rfl (Nat.le_of_ble_eq_true rfl)) 0 (fun b17 => ?_)
  refine Z.ef (eff_append (α := UInt8) rfl Tryz.underlying73 Tryz.ty5 rfl (by decide) Tryz.underlying73 rfl rfl Z.p (by first | exact reads_ro Z.p | exact reads_own Z.p | exact reads_nil _) (by first | omega | (simp only [List.length_append, List.length_cons, List.length_nil, List.length_drop, List.length_take]; omega) | (simp; omega))) 6 (fun p18 => ?_)
  refine Z.ev (ev_shr (r := ((z / 2 ^ 7 : Nat) : Int)) rfl rfl rfl (by omega) (by exact shr_u64 z 7 (by omega))) 2 ?_
  refine Z.ag (z / 2 ^ 7, out ++ [Wire.byte (z % 128 + 128)], p18.1, p18.2) (by (first | dsimp only | skip); omega) ?_
  (first | dsimp only | skip)
  exact Ent.cons Z.k (Ent.pu ⟨by rw [← hq, Wire.var_ge (show 128 ≤ z by omega), List.append_assoc]; rfl, by omega⟩ Z.f)
 ·skip
  refine Z.ev (ev_convI (r := (((Wire.byte z).toNat : Nat) : Int)) rfl ⟨_, Tryz.underlying24⟩ Tryz.underlying5 rfl (by exact byte_u8 _)) 0 ?_
  refine Z.ef (eff_buildAll (α := UInt8) [Wire.byte z] rfl Tryz.underlying73 Tryz.ty5 (.cons rfl .nil) (.cons rfl .nil) rfl (Nat.le_of_ble_eq_true rfl)) 0 (fun b22 => ?_)
  refine Z.ef (eff_append (α := UInt8) rfl Tryz.underlying73 Tryz.ty5 rfl (by decide) Tryz.underlying73 rfl rfl Z.p (by first | exact reads_ro Z.p | exact reads_own Z.p | exact reads_nil _) (by first | omega | (simp only [List.length_append, List.length_cons, List.length_nil, List.length_drop, List.length_take]; omega) | (simp; omega))) 4 (fun p23 => ?_)
  have e0 : out ++ [Wire.byte z] = b ++ Wire.var v := by rw [← hq, Wire.var_lt (show z < 128 by omega)]
  rw [e0]
  exact hx_ret1 (.inl rfl) rfl rfl p23 rfl (Ent.cons Z.k Z.f)
theorem num_GetVar (a : Option Addr) (c : Nat) (b : List UInt8) (hc : b.length ≤ c) (hb2 : b.length ≤ 1099511627776) : Ctr Tryz.prog 97 #[.slice a b.length c] [ro (roS a b.length b)] (fun q : Option Addr × Nat => (.tuple #[.int .u64 (((Wire.getVar 0 0 b).1 : Nat) : Int), .slice q.1 (Wire.getVar 0 0 b).2.1.length q.2, .int .i64 (Wire.getVar 0 0 b).2.2])) (fun q => [ro (roS q.1 (Wire.getVar 0 0 b).2.1.length (Wire.getVar 0 0 b).2.1), pu ((Wire.getVar 0 0 b).2.1.length ≤ q.2)]) := by
 refine Z.fn Tryz.func97 Tryz.ntmps97 (fun κ F => ?_)
 refine Z.go 21 ?_
 refine Z.lo (fun q : Nat × Nat => ([ro (roS a b.length b), pu (Wire.getVar q.1 q.2 (b.drop q.1) = Wire.getVar 0 0 b ∧ q.2 < 2 ^ (7 * q.1) ∧ q.1 ≤ 9 ∧ q.1 ≤ b.length), F], [(10, .int .i64 q.1), (9, .int .i64 b.length), (0, .slice a b.length c), (5, .int .u64 ((q.2 : Nat) : Int))])) (fun q : Nat × Nat => b.length - q.1) (0, 0) ?_ (fun q => ?_)
 ·(first | dsimp only | skip)
  exact Ent.roD Z.p (Ent.pu ⟨rfl, by simp, by omega, by omega⟩ Z.f)
 obtain ⟨q, v⟩ := q
 dsimp only
 refine ht_pick (A := pu (Wire.getVar q v (b.drop q) = Wire.getVar 0 0 b ∧ v < 2 ^ (7 * q) ∧ q ≤ 9 ∧ q ≤ b.length)) Z.k (ht_pure fun hq => ?_)
 obtain ⟨hinv, hv, hq9, hql⟩ := hq
 have hv64 := Wire.pow_fit hq9 hv
 refine Z.go 2 ?_
 refine Z.lt 15 17 (fun g1 => ?_) (fun g1 => ?_)
 ·skip
  obtain ⟨x, hx⟩ : ∃ x, b[q]? = some x := ⟨_, List.getElem?_eq_getElem (by omega)⟩
  have hxb := Wire.byte_lt x
  refine ht_someS (α := UInt8) (reads_ro Z.p) (by omega) (fun ab ao ha => ?_)
  rw [show b.drop q = x :: b.drop (q + 1) by obtain ⟨h1, h2⟩ := List.getElem?_eq_some_iff.1 hx; rw [← h2]; exact List.drop_eq_getElem_cons h1] at hinv
  rw [Wire.getVar_cons] at hinv
  refine Z.go 3 ?_
  refine Z.ev (ev_indexAddr rfl Tryz.underlying73 Tryz.ty5 (congrArg (fun z => some (Value.slice z b.length c)) ha) rfl (by omega) (by omega)) 0 ?_
  refine Z.ld (hc := by exact cell_Sa0 ha (reads_ro Z.p) hx rfl) 8 ?_
  refine Z.eq 2 10 (fun g2 => ?_) (fun g2 => ?_)
  ·skip
   refine Z.gt 22 7 (fun g3 => ?_) (fun g3 => ?_)
   ·skip
    rw [if_pos (by omega)] at hinv
    rw [← hinv]
    exact hx_ret3 (.inl rfl) rfl rfl rfl rfl (none, 0) rfl (Ent.trans (Ent.roTrue (ψ := roS (α := UInt8) none 0 []) (fun r => SliceIn.empty _ _) (Ent.refl _)) (Ent.cons Z.k (Ent.pu (Nat.le_refl _) Z.f)))
   ·skip
    refine Z.gt 2 0 (fun g4 => ?_) (fun g4 => ?_)
    ·skip
     refine Z.eq 19 8 (fun g5 => ?_) (fun g5 => ?_)
     ·skip
      rw [if_pos (by omega)] at hinv
      rw [← hinv]
      exact hx_ret3 (.inl rfl) rfl rfl rfl rfl (none, 0) rfl (Ent.trans (Ent.roTrue (ψ := roS (α := UInt8) none 0 []) (fun r => SliceIn.empty _ _) (Ent.refl _)) (Ent.cons Z.k (Ent.pu (Nat.le_refl _) Z.f)))
     ·skip
      refine Z.lt 8 0 (fun g6 => ?_) (fun g6 => ?_)
      ·skip
       refine Z.ev (ev_convI rfl ⟨_, Tryz.underlying5⟩ Tryz.underlying24 rfl (by first | exact IntWalk.u64_in _ (by omega) | rfl)) 1 ?_
       refine Z.ml 0 ?_
       refine Z.ev (ev_convI rfl ⟨_, Tryz.underlying3⟩ Tryz.underlying164 rfl (by first | exact IntWalk.u64_in _ (by omega) | rfl)) 0 ?_
       refine Z.ev (ev_shl (r := ((x.toNat * 2 ^ (7 * q) : Nat) : Int)) rfl rfl rfl (by omega) (by rw [show (7 : Int) * (q : Int) = ((7 * q : Nat) : Int) by omega]; exact shl_u64 _ (7 * q) (by omega) (Wire.shift_fit q _ (by omega) (by omega) (by omega)))) 0 ?_
       refine Z.ev (ev_or (r := ((v + x.toNat * 2 ^ (7 * q) : Nat) : Int)) rfl rfl rfl (by rw [u64_or_nat _ _ (by omega) (Wire.shift_fit q _ (by omega) (by omega) (by omega)), or_low _ _ _ hv])) 0 ?_
       refine Z.ef (eff_buildAll (α := UInt8) [] rfl Tryz.underlying73 Tryz.ty5 .nil .nil rfl (Nat.le_of_ble_eq_true rfl)) 2 (fun b50 => ?_)
       refine Z.ad (r := ((q + 1 : Nat) : Int)) (hw := by rw [in_i64 (by omega)]; rfl) 0 ?_
       refine Z.ef (eff_slice (α := UInt8) rfl Tryz.underlying73 Tryz.ty5 rfl Z.p ⟨_, rfl⟩ rfl rfl (by decide) (by omega) (by omega) (by omega) (by omega)) 0 (fun a54 => ?_)
       refine Z.ef (eff_append (α := UInt8) rfl Tryz.underlying73 Tryz.ty5 rfl (by decide) Tryz.underlying73 rfl rfl Z.p (by first | exact reads_ro Z.p | exact reads_own Z.p | exact reads_nil _) (by first | omega | (simp only [List.length_append, List.length_cons, List.length_nil, List.length_drop, List.length_take]; omega) | (simp; omega))) 12 (fun p55 => ?_)
       rw [if_neg (by omega), if_pos (by omega)] at hinv
       refine hx_cap (xs := [] ++ (b.take b.length).drop (q + 1)) Z.p (fun hl hcap => ?_)
       refine hx_freezeS (xs := [] ++ (b.take b.length).drop (q + 1)) Z.p ?_
       have e0 : [] ++ (b.take b.length).drop (q + 1) = b.drop (q + 1) := by simp
       rw [e0] at hl hcap ⊢
       rw [← hinv]
       exact hx_ret3 (.inl rfl) rfl rfl rfl rfl p55 rfl (Ent.roD Z.p (Ent.pu hcap Z.f))
      ·omega
    ·omega
  ·skip
   refine Z.gt 2 11 (fun g7 => ?_) (fun g7 => ?_)
   ·skip
    refine Z.eq 19 8 (fun g8 => ?_) (fun g8 => ?_)
    ·skip
     rw [if_pos (by omega)] at hinv
     rw [← hinv]
     exact hx_ret3 (.inl rfl) rfl rfl rfl rfl (none, 0) rfl (Ent.trans (Ent.roTrue (ψ := roS (α := UInt8) none 0 []) (fun r => SliceIn.empty _ _) (Ent.refl _)) (Ent.cons Z.k (Ent.pu (Nat.le_refl _) Z.f)))
    ·skip
     refine Z.lt 8 7 (fun g9 => ?_) (fun g9 => ?_)
     ·skip
      refine Z.ev (ev_convI rfl ⟨_, Tryz.underlying5⟩ Tryz.underlying24 rfl (by first | exact IntWalk.u64_in _ (by omega) | rfl)) 1 ?_
      refine Z.ml 0 ?_
      refine Z.ev (ev_convI rfl ⟨_, Tryz.underlying3⟩ Tryz.underlying164 rfl (by first | exact IntWalk.u64_in _ (by omega) | rfl)) 0 ?_
      refine Z.ev (ev_shl (r := ((x.toNat * 2 ^ (7 * q) : Nat) : Int)) rfl rfl rfl (by omega) (by rw [show (7 : Int) * (q : Int) = ((7 * q : Nat) : Int) by omega]; exact shl_u64 _ (7 * q) (by omega) (Wire.shift_fit q _ (by omega) (by omega) (by omega)))) 0 ?_
      refine Z.ev (ev_or (r := ((v + x.toNat * 2 ^ (7 * q) : Nat) : Int)) rfl rfl rfl (by rw [u64_or_nat _ _ (by omega) (Wire.shift_fit q _ (by omega) (by omega) (by omega)), or_low _ _ _ hv])) 0 ?_
      refine Z.ef (eff_buildAll (α := UInt8) [] rfl Tryz.underlying73 Tryz.ty5 .nil .nil rfl (Nat.le_of_ble_eq_true rfl)) 2 (fun b50 => ?_)
      refine Z.ad (r := ((q + 1 : Nat) : Int)) (hw := by rw [in_i64 (by omega)]; rfl) 0 ?_
      refine Z.ef (eff_slice (α := UInt8) rfl Tryz.underlying73 Tryz.ty5 rfl Z.p ⟨_, rfl⟩ rfl rfl (by decide) (by omega) (by omega) (by omega) (by omega)) 0 (fun a54 => ?_)
      refine Z.ef (eff_append (α := UInt8) rfl Tryz.underlying73 Tryz.ty5 rfl (by decide) Tryz.underlying73 rfl rfl Z.p (by first | exact reads_ro Z.p | exact reads_own Z.p | exact reads_nil _) (by first | omega | (simp only [List.length_append, List.length_cons, List.length_nil, List.length_drop, List.length_take]; omega) | (simp; omega))) 12 (fun p55 => ?_)
      rw [if_neg (by omega), if_pos (by omega)] at hinv
      refine hx_cap (xs := [] ++ (b.take b.length).drop (q + 1)) Z.p (fun hl hcap => ?_)
      refine hx_freezeS (xs := [] ++ (b.take b.length).drop (q + 1)) Z.p ?_
      have e0 : [] ++ (b.take b.length).drop (q + 1) = b.drop (q + 1) := by simp
      rw [e0] at hl hcap ⊢
      rw [← hinv]
      exact hx_ret3 (.inl rfl) rfl rfl rfl rfl p55 rfl (Ent.roD Z.p (Ent.pu hcap Z.f))
     ·skip
      refine Z.ev (ev_and (r := ((x.toNat % 128 : Nat) : Int)) rfl rfl rfl (by exact and_u8_127 _ hxb)) 0 ?_
      refine Z.ev (ev_convI rfl ⟨_, Tryz.underlying5⟩ Tryz.underlying24 rfl (by first | exact IntWalk.u64_in _ (by omega) | rfl)) 1 ?_
      refine Z.ml 0 ?_
      refine Z.ev (ev_convI rfl ⟨_, Tryz.underlying3⟩ Tryz.underlying164 rfl (by first | exact IntWalk.u64_in _ (by omega) | rfl)) 0 ?_
      refine Z.ev (ev_shl (r := (((x.toNat % 128) * 2 ^ (7 * q) : Nat) : Int)) rfl rfl rfl (by omega) (by rw [show (7 : Int) * (q : Int) = ((7 * q : Nat) : Int) by omega]; exact shl_u64 _ (7 * q) (by omega) (Wire.shift_fit q _ (by omega) (by omega) (by omega)))) 0 ?_
      refine Z.ev (ev_or (r := ((v + (x.toNat % 128) * 2 ^ (7 * q) : Nat) : Int)) rfl rfl rfl (by rw [u64_or_nat _ _ (by omega) (Wire.shift_fit q _ (by omega) (by omega) (by omega)), or_low _ _ _ hv])) 6 ?_
      refine Z.ad 2 ?_
      refine Z.ag (q + 1, v + x.toNat % 128 * 2 ^ (7 * q)) (by (first | dsimp only | skip); omega) ?_
      (first | dsimp only | skip)
      rw [if_neg (by omega), if_neg (by omega)] at hinv
      exact Ent.roD Z.p (Ent.pu ⟨hinv, Wire.step_fit q v x.toNat (by omega) hv, by omega, by omega⟩ Z.f)
   ·skip
    refine Z.lt 8 7 (fun g10 => ?_) (fun g10 => ?_)
    ·skip
     refine Z.ev (ev_convI rfl ⟨_, Tryz.underlying5⟩ Tryz.underlying24 rfl (by first | exact IntWalk.u64_in _ (by omega) | rfl)) 1 ?_
     refine Z.ml 0 ?_
     refine Z.ev (ev_convI rfl ⟨_, Tryz.underlying3⟩ Tryz.underlying164 rfl (by first | exact IntWalk.u64_in _ (by omega) | rfl)) 0 ?_
     refine Z.ev (ev_shl (r := ((x.toNat * 2 ^ (7 * q) : Nat) : Int)) rfl rfl rfl (by omega) (by rw [show (7 : Int) * (q : Int) = ((7 * q : Nat) : Int) by omega]; exact shl_u64 _ (7 * q) (by omega) (Wire.shift_fit q _ (by omega) (by omega) (by omega)))) 0 ?_
     refine Z.ev (ev_or (r := ((v + x.toNat * 2 ^ (7 * q) : Nat) : Int)) rfl rfl rfl (by rw [u64_or_nat _ _ (by omega) (Wire.shift_fit q _ (by omega) (by omega) (by omega)), or_low _ _ _ hv])) 0 ?_
     refine Z.ef (eff_buildAll (α := UInt8) [] rfl Tryz.underlying73 Tryz.ty5 .nil .nil rfl (Nat.le_of_ble_eq_true rfl)) 2 (fun b50 => ?_)
     refine Z.ad (r := ((q + 1 : Nat) : Int)) (hw := by rw [in_i64 (by omega)]; rfl) 0 ?_
     refine Z.ef (eff_slice (α := UInt8) rfl Tryz.underlying73 Tryz.ty5 rfl Z.p ⟨_, rfl⟩ rfl rfl (by decide) (by omega) (by omega) (by omega) (by omega)) 0 (fun a54 => ?_)
     refine Z.ef (eff_append (α := UInt8) rfl Tryz.underlying73 Tryz.ty5 rfl (by decide) Tryz.underlying73 rfl rfl Z.p (by first | exact reads_ro Z.p | exact reads_own Z.p | exact reads_nil _) (by first | omega | (simp only [List.length_append, List.length_cons, List.length_nil, List.length_drop, List.length_take]; omega) | (simp; omega))) 12 (fun p55 => ?_)
     rw [if_neg (by omega), if_pos (by omega)] at hinv
     refine hx_cap (xs := [] ++ (b.take b.length).drop (q + 1)) Z.p (fun hl hcap => ?_)
     refine hx_freezeS (xs := [] ++ (b.take b.length).drop (q + 1)) Z.p ?_
     have e0 : [] ++ (b.take b.length).drop (q + 1) = b.drop (q + 1) := by simp
     rw [e0] at hl hcap ⊢
     rw [← hinv]
     exact hx_ret3 (.inl rfl) rfl rfl rfl rfl p55 rfl (Ent.roD Z.p (Ent.pu hcap Z.f))
    ·skip
     refine Z.ev (ev_and (r := ((x.toNat % 128 : Nat) : Int)) rfl rfl rfl (by exact and_u8_127 _ hxb)) 0 ?_
     refine Z.ev (ev_convI rfl ⟨_, Tryz.underlying5⟩ Tryz.underlying24 rfl (by first | exact IntWalk.u64_in _ (by omega) | rfl)) 1 ?_
     refine Z.ml 0 ?_
     refine Z.ev (ev_convI rfl ⟨_, Tryz.underlying3⟩ Tryz.underlying164 rfl (by first | exact IntWalk.u64_in _ (by omega) | rfl)) 0 ?_
     refine Z.ev (ev_shl (r := (((x.toNat % 128) * 2 ^ (7 * q) : Nat) : Int)) rfl rfl rfl (by omega) (by rw [show (7 : Int) * (q : Int) = ((7 * q : Nat) : Int) by omega]; exact shl_u64 _ (7 * q) (by omega) (Wire.shift_fit q _ (by omega) (by omega) (by omega)))) 0 ?_
     refine Z.ev (ev_or (r := ((v + (x.toNat % 128) * 2 ^ (7 * q) : Nat) : Int)) rfl rfl rfl (by rw [u64_or_nat _ _ (by omega) (Wire.shift_fit q _ (by omega) (by omega) (by omega)), or_low _ _ _ hv])) 6 ?_
     refine Z.ad 2 ?_
     refine Z.ag (q + 1, v + x.toNat % 128 * 2 ^ (7 * q)) (by (first | dsimp only | skip); omega) ?_
     (first | dsimp only | skip)
     rw [if_neg (by omega), if_neg (by omega)] at hinv
     exact Ent.roD Z.p (Ent.pu ⟨hinv, Wire.step_fit q v x.toNat (by omega) hv, by omega, by omega⟩ Z.f)
 ·skip
  obtain rfl : q = b.length := by omega
  rw [List.drop_of_length_le (Nat.le_refl _)] at hinv
  rw [← hinv]
  exact hx_ret3 (.inl rfl) rfl rfl rfl rfl (none, 0) rfl (Ent.trans (Ent.roTrue (ψ := roS (α := UInt8) none 0 []) (fun r => SliceIn.empty _ _) (Ent.refl _)) (Ent.cons Z.k (Ent.pu (Nat.le_refl _) Z.f)))
theorem sum_step (r : Nat) (bit : Bool) (hr : r < 4294967296) : Ctr Tryz.prog 102 #[.int .u32 (r : Int), .bool bit] [] (fun _ : Unit => .int .u32 ((Wire.sstep r bit : Nat) : Int)) (fun _ => []) := by
 refine Z.fn Tryz.func102 Tryz.ntmps102 (fun κ F => ?_)
 rcases bit with _ | _
 ·skip
  refine Z.go 8 ?_
  refine Z.ev (ev_shr (r := ((r / 2 ^ 31 : Nat) : Int)) rfl rfl rfl (by omega) (by exact shr_u32 r 31 hr)) 0 ?_
  refine Z.eq 6 6 (fun g1 => ?_) (fun g1 => ?_)
  ·skip
   refine Z.ev (ev_shl (r := ((r * 2 % 4294967296 : Nat) : Int)) rfl rfl rfl (by omega) (by exact shl_u32 r 1 (by decide))) 8 ?_
   refine Z.bo 12 0 6 (fun g2 => ?_) (fun g2 => ?_)
   ·simp at g2
   ·skip
    refine Z.ev (ev_xor (r := (((r * 2 % 4294967296) ^^^ 79764919 : Nat) : Int)) rfl rfl rfl (by exact u32_xor_nat _ _ (by omega) (by decide))) 10 ?_
    refine hx_ret1 (.inl rfl) rfl rfl () ?_ (Ent.refl _)
    unfold Wire.sstep
    first | (rw [if_pos (by simp; omega)]) | (rw [if_neg (by simp; omega)])
  ·skip
   refine Z.ev (ev_shl (r := ((r * 2 % 4294967296 : Nat) : Int)) rfl rfl rfl (by omega) (by exact shl_u32 r 1 (by decide))) 8 ?_
   refine Z.bo 12 0 13 (fun g3 => ?_) (fun g3 => ?_)
   ·simp at g3
   ·skip
    refine hx_ret1 (.inl rfl) rfl rfl () ?_ (Ent.refl _)
    unfold Wire.sstep
    first | (rw [if_pos (by simp; omega)]) | (rw [if_neg (by simp; omega)])
 ·skip
  refine Z.go 8 ?_
  refine Z.ev (ev_shr (r := ((r / 2 ^ 31 : Nat) : Int)) rfl rfl rfl (by omega) (by exact shr_u32 r 31 hr)) 0 ?_
  refine Z.eq 6 6 (fun g1 => ?_) (fun g1 => ?_)
  ·skip
   refine Z.ev (ev_shl (r := ((r * 2 % 4294967296 : Nat) : Int)) rfl rfl rfl (by omega) (by exact shl_u32 r 1 (by decide))) 8 ?_
   refine Z.bo 12 13 0 (fun g2 => ?_) (fun g2 => ?_)
   ·skip
    refine hx_ret1 (.inl rfl) rfl rfl () ?_ (Ent.refl _)
    unfold Wire.sstep
    first | (rw [if_pos (by simp; omega)]) | (rw [if_neg (by simp; omega)])
   ·simp at g2
  ·skip
   refine Z.ev (ev_shl (r := ((r * 2 % 4294967296 : Nat) : Int)) rfl rfl rfl (by omega) (by exact shl_u32 r 1 (by decide))) 8 ?_
   refine Z.bo 12 6 0 (fun g3 => ?_) (fun g3 => ?_)
   ·skip
    refine Z.ev (ev_xor (r := (((r * 2 % 4294967296) ^^^ 79764919 : Nat) : Int)) rfl rfl rfl (by exact u32_xor_nat _ _ (by omega) (by decide))) 10 ?_
    refine hx_ret1 (.inl rfl) rfl rfl () ?_ (Ent.refl _)
    unfold Wire.sstep
    first | (rw [if_pos (by simp; omega)]) | (rw [if_neg (by simp; omega)])
   ·simp at g3
theorem sum_table1 (i : Nat) (b1 : Nat) (c : Array Value) (hi : i < 16) (hc : c.size = 16) : Ctr Tryz.prog 101 #[.int .i64 (i : Int), .pointer (some ⟨b1, 0, none⟩)] [pt b1 (.cells c 185 (0, 0))] (fun _ : Unit => .tuple #[]) (fun _ => [pt b1 (.cells (c.setIfInBounds i (.int .u32 ((Wire.tab i : Nat) : Int))) 185 (0, 0))]) := by
 refine Z.fn Tryz.func101 Tryz.ntmps101 (fun κ F => ?_)
 refine Z.go 3 ?_
 refine Z.ev (ev_convI rfl ⟨_, Tryz.underlying3⟩ Tryz.underlying156 rfl (by first | exact IntWalk.u32_in _ (by omega) | rfl)) 0 ?_
 refine Z.ev (ev_shl (r := ((i * 2 ^ 28 % 4294967296 : Nat) : Int)) rfl rfl rfl (by omega) (by exact shl_u32 i 28 (by decide))) 10 ?_
 refine Z.lo (fun q : Nat => ([pt b1 (.cells c 185 (0, 0)), pu (q ≤ 4), F], [(7, .int .i64 q), (3, .int .u32 ((Wire.sit (i * 2 ^ 28 % 4294967296) q : Nat) : Int)), (0, .int .i64 i), (1, .pointer (some ⟨b1, 0, none⟩))])) (fun q : Nat => 4 - q) 0 ?_ (fun q => ?_)
 ·(first | dsimp only | skip)
  exact Ent.cons Z.k (Ent.pu (by omega) Z.f)
 dsimp only
 refine ht_pick (A := pu (q ≤ 4)) Z.k (ht_pure fun hq => ?_)
 refine Z.go 2 ?_
 refine Z.lt 10 9 (fun g1 => ?_) (fun g1 => ?_)
 ·skip
  refine Z.ca (c := sum_step _ false (Wire.sit_lt (by omega) q)) 5 (fun _ => ?_)
  refine Z.ad 2 ?_
  refine Z.ag (q + 1) (by (first | dsimp only | skip); omega) ?_
  (first | dsimp only | skip)
  exact Ent.cons Z.k (Ent.pu (by omega) Z.f)
 ·skip
  obtain rfl : q = 4 := by omega
  refine Z.go 3 ?_
  refine Z.ev (ev_indexAddrA rfl Tryz.underlying185 Tryz.ty156 rfl rfl (by omega) (by omega)) 0 ?_
  refine Z.ef0 (eff_store1 (c' := c.setIfInBounds i (.int .u32 ((Wire.tab i : Nat) : Int))) rfl Tryz.ty156 rfl rfl Z.p rfl rfl (by rw [hc]; omega) (by rw [show 0 + ((i : Int)).toNat * 1 = i by omega]; rfl)) 1 (fun _ => ?_)
  exact hx_ret0 (.inr rfl) rfl () rfl (Ent.cons Z.k Z.f)
theorem sum_table   : Ctr Tryz.prog 99 #[] [] (fun _ : Unit => .agg (tabC 16)) (fun _ => []) := by
 refine Z.fn Tryz.func99 Tryz.ntmps99 (fun κ F => ?_)
 refine Z.go 2 ?_
 refine Z.al 4 (fun b0 => ?_)
 refine Z.al 15 (fun b1 => ?_)
 refine Z.lo (fun q : Nat => ([pt b0 (.cells (tabC 0) 185 (0, 0)), pt b1 (.cells (tabC q) 185 (0, 0)), pu (q ≤ 16), F], [(5, .int .i64 q), (0, .pointer (some ⟨b0, 0, none⟩)), (1, .pointer (some ⟨b1, 0, none⟩)), (2, .func (.func 101) #[] #[.pointer (some ⟨b1, 0, none⟩)])])) (fun q : Nat => 16 - q) 0 ?_ (fun q => ?_)
 ·(first | dsimp only | skip)
  exact Ent.cons Z.k (Ent.cons Z.k (Ent.pu (by omega) Z.f))
 dsimp only
 refine ht_pick (A := pu (q ≤ 16)) Z.k (ht_pure fun hq => ?_)
 refine Z.go 2 ?_
 refine Z.lt 17 10 (fun g1 => ?_) (fun g1 => ?_)
 ·skip
  refine Z.ca (c := sum_table1 q b1 (tabC q) (by omega) (tabC_size q)) 4 (fun _ => ?_)
  refine Z.ad 2 ?_
  refine Z.ag (q + 1) (by (first | dsimp only | skip); omega) ?_
  (first | dsimp only | skip)
  rw [← tabC_set (by omega)]
  exact Ent.cons Z.k (Ent.cons Z.k (Ent.pu (by omega) Z.f))
 ·skip
  obtain rfl : q = 16 := by omega
  refine Z.go 1 ?_
  refine Z.la (hc := by exact cells_pt (cs := tabC 16) Z.p (m := 16) (by rw [tabC_size]; omega) (by rw [show (0 : Nat) + 16 = (tabC 16).size from rfl]; exact Array.extract_size)) 0 ?_
  refine Z.ef0 (eff_storeA (csl := tabL 16) (c' := tabC 16) rfl Tryz.ty185 rfl rfl Z.p rfl rfl rfl (setRange_all _ _ (by rw [tabC_size]; rfl))) 3 (fun _ => ?_)
  exact hx_ret1A (.inl rfl) rfl rfl Tryz.underlying185 Tryz.ty185 rfl (cells_pt (cs := tabC 16) Z.p (by rw [tabC_size]; omega) (by rw [show (0 : Nat) + 16 = (tabC 16).size from rfl]; exact Array.extract_size)) () rfl Z.f
theorem sum_More (s : Nat) (a : Option Addr) (c : Nat) (b : List UInt8) (hs : s < 4294967296) (hb : b.length ≤ 1099511627776) : Ctr Tryz.prog 94 #[.int .u32 (s : Int), .slice a b.length c] [ro (roS a b.length b)] (fun _ : Unit => .int .u32 ((Wire.more s b : Nat) : Int)) (fun _ => []) := by
 refine Z.fn Tryz.func94 Tryz.ntmps94 (fun κ F => ?_)
 refine Z.go 7 ?_
 refine Z.ca (c := sum_table) 0 (fun _ => ?_)
 refine Z.al 0 (fun b5 => ?_)
 refine Z.ef0 (eff_storeA (csl := tabL 16) (c' := tabC 16) rfl Tryz.ty185 rfl rfl Z.p rfl rfl rfl (setRange_all _ _ (by exact rfl))) 5 (fun _ => ?_)
 refine Z.ev (ev_notB (r := ((4294967295 ^^^ s : Nat) : Int)) rfl rfl (by exact not_u32 s hs)) 12 ?_
 refine Z.lo (fun q : Nat => ([pt b5 (.cells (tabC 16) 185 (0, 0)), ro (roS a b.length b), pu (q ≤ b.length), F], [(5, .pointer (some ⟨b5, 0, none⟩)), (6, .int .u32 (((Wire.smore (4294967295 ^^^ s) (b.take q)) : Nat) : Int)), (12, .slice a b.length c), (13, .int .i64 b.length), (14, .int .i64 q)])) (fun q : Nat => b.length - q) 0 ?_ (fun q => ?_)
 ·(first | dsimp only | skip)
  exact Ent.cons Z.k (Ent.roD Z.p (Ent.pu (by omega) Z.f))
 dsimp only
 refine ht_pick (A := pu (q ≤ b.length)) Z.k (ht_pure fun hq => ?_)
 refine Z.go 2 ?_
 refine Z.lt 9 10 (fun g1 => ?_) (fun g1 => ?_)
 ·skip
  obtain ⟨x, hx⟩ : ∃ x, b[q]? = some x := ⟨_, List.getElem?_eq_getElem (by omega)⟩
  have hxb := Wire.byte_lt x
  refine ht_someS (α := UInt8) (reads_ro Z.p) (by omega) (fun ab ao ha => ?_)
  have hRl : Wire.smore (4294967295 ^^^ s) (b.take q) < 4294967296 := Wire.smore_lt _ _ (Nat.xor_lt_two_pow (n := 32) (by omega) (by omega))
  generalize hR : Wire.smore (4294967295 ^^^ s) (b.take q) = R at *
  have hR1l := Wire.sfour_lt R (x.toNat / 2 ^ 4)
  have hR1 : (R * 2 ^ 4 % 4294967296) ^^^ Wire.tab (R / 2 ^ 28 ^^^ x.toNat / 2 ^ 4) = Wire.sfour R (x.toNat / 2 ^ 4) := rfl
  have hS : Wire.sfour (Wire.sfour R (x.toNat / 2 ^ 4)) (x.toNat % 16) = Wire.sbyte R x := rfl
  generalize Wire.sfour R (x.toNat / 2 ^ 4) = R1 at *
  have hI1 : R / 2 ^ 28 ^^^ x.toNat / 2 ^ 4 < 16 := Nat.xor_lt_two_pow (n := 4) (by omega) (by omega)
  have hI2 : R1 / 2 ^ 28 ^^^ x.toNat % 16 < 16 := Nat.xor_lt_two_pow (n := 4) (by omega) (by omega)
  refine Z.go 1 ?_
  refine Z.ev (ev_indexAddr rfl Tryz.underlying73 Tryz.ty5 (congrArg (fun z => some (Value.slice z b.length c)) ha) rfl (by omega) (by omega)) 0 ?_
  refine Z.ld (hc := by exact cell_Sa0 ha (reads_ro Z.p) hx rfl) 6 ?_
  refine Z.ev (ev_shl (r := ((R * 2 ^ 4 % 4294967296 : Nat) : Int)) rfl rfl rfl (by omega) (by exact shl_u32 R 4 (by decide))) 1 ?_
  refine Z.ev (ev_shr (r := ((R / 2 ^ 28 : Nat) : Int)) rfl rfl rfl (by omega) (by exact shr_u32 R 28 hRl)) 1 ?_
  refine Z.ev (ev_shr (r := ((x.toNat / 2 ^ 4 : Nat) : Int)) rfl rfl rfl (by omega) (by exact shr_u8 _ 4 hxb)) 0 ?_
  refine Z.ev (ev_convI rfl ⟨_, Tryz.underlying5⟩ Tryz.underlying156 rfl (by first | exact IntWalk.u32_in _ (by omega) | rfl)) 0 ?_
  refine Z.ev (ev_xor (r := ((R / 2 ^ 28 ^^^ x.toNat / 2 ^ 4 : Nat) : Int)) rfl rfl rfl (by exact u32_xor_nat _ _ (by omega) (by omega))) 0 ?_
  refine Z.ev (ev_indexAddrA rfl Tryz.underlying185 Tryz.ty156 rfl rfl (by omega) (by omega)) 0 ?_
  refine Z.ld (hc := by exact cell_pt Z.p (v := .int .u32 ((Wire.tab (R / 2 ^ 28 ^^^ x.toNat / 2 ^ 4) : Nat) : Int)) (by rw [show 0 + (((R / 2 ^ 28 ^^^ x.toNat / 2 ^ 4 : Nat) : Int)).toNat * 1 = R / 2 ^ 28 ^^^ x.toNat / 2 ^ 4 by rw [Int.toNat_natCast, Nat.mul_one, Nat.zero_add]]; exact tabC_get (by omega))) 0 ?_
  refine Z.ev (ev_xor (r := ((R1 : Nat) : Int)) rfl rfl rfl (by rw [u32_xor_nat _ _ (by omega) (Wire.tab_lt _), hR1])) 5 ?_
  refine Z.ev (ev_shl (r := ((R1 * 2 ^ 4 % 4294967296 : Nat) : Int)) rfl rfl rfl (by omega) (by exact shl_u32 R1 4 (by decide))) 1 ?_
  refine Z.ev (ev_shr (r := ((R1 / 2 ^ 28 : Nat) : Int)) rfl rfl rfl (by omega) (by exact shr_u32 R1 28 hR1l)) 1 ?_
  refine Z.ev (ev_and (r := ((x.toNat % 16 : Nat) : Int)) rfl rfl rfl (by exact and_u8_15 _ hxb)) 0 ?_
  refine Z.ev (ev_convI rfl ⟨_, Tryz.underlying5⟩ Tryz.underlying156 rfl (by first | exact IntWalk.u32_in _ (by omega) | rfl)) 0 ?_
  refine Z.ev (ev_xor (r := ((R1 / 2 ^ 28 ^^^ x.toNat % 16 : Nat) : Int)) rfl rfl rfl (by exact u32_xor_nat _ _ (by omega) (by omega))) 0 ?_
  refine Z.ev (ev_indexAddrA rfl Tryz.underlying185 Tryz.ty156 rfl rfl (by omega) (by omega)) 0 ?_
  refine Z.ld (hc := by exact cell_pt Z.p (v := .int .u32 ((Wire.tab (R1 / 2 ^ 28 ^^^ x.toNat % 16) : Nat) : Int)) (by rw [show 0 + (((R1 / 2 ^ 28 ^^^ x.toNat % 16 : Nat) : Int)).toNat * 1 = R1 / 2 ^ 28 ^^^ x.toNat % 16 by rw [Int.toNat_natCast, Nat.mul_one, Nat.zero_add]]; exact tabC_get (by omega))) 0 ?_
  refine Z.ev (ev_xor (r := ((Wire.sbyte R x : Nat) : Int)) rfl rfl rfl (by rw [u32_xor_nat _ _ (by omega) (Wire.tab_lt _), ← hS]; rfl)) 5 ?_
  refine Z.ad 2 ?_
  rw [show Wire.sbyte R x = Wire.smore (4294967295 ^^^ s) (b.take (q + 1)) by rw [Wire.smore_step _ b q x hx, hR]]
  refine Z.ag (q + 1) (by (first | dsimp only | skip); omega) ?_
  (first | dsimp only | skip)
  exact Ent.cons Z.k (Ent.roD Z.p (Ent.pu (by omega) Z.f))
 ·skip
  obtain rfl : q = b.length := by omega
  rw [List.take_length]
  refine Z.go 2 ?_
  refine Z.ev (ev_notB (r := ((Wire.more s b : Nat) : Int)) rfl rfl (by exact not_u32 _ (Wire.smore_lt _ _ (Nat.xor_lt_two_pow (n := 32) (by omega) (by omega))))) 4 ?_
  exact hx_ret1 (.inl rfl) rfl rfl () rfl Z.f
theorem sum_Of (a : Option Addr) (c : Nat) (b : List UInt8) (hb : b.length ≤ 1099511627776) : Ctr Tryz.prog 81 #[.slice a b.length c] [ro (roS a b.length b)] (fun _ : Unit => .int .u32 ((Wire.sum b : Nat) : Int)) (fun _ => []) := by
 refine Z.fn Tryz.func81 Tryz.ntmps81 (fun κ F => ?_)
 refine Z.go 8 ?_
 refine Z.ca (c := sum_More 0 a c b (by decide) hb) 4 (fun _ => ?_)
 exact hx_ret1 (.inl rfl) rfl rfl () rfl Z.f
theorem sum_Seal (a : Option Addr) (c : Nat) (b : List UInt8) (hb : b.length ≤ 1099511627776) : Ctr Tryz.prog 61 #[.slice a b.length c] [ro (roS a b.length b), ro bitsR] (fun q : Option Addr × Nat => .slice q.1 (Wire.seal_ b).length q.2) (fun q => [ownS 5 q.1 (Wire.seal_ b).length q.2 (Wire.seal_ b)]) := by
 refine Z.fn Tryz.func61 Tryz.ntmps61 (fun κ F => ?_)
 have hsl := Wire.sum_lt b
 refine Z.go 9 ?_
 refine Z.ca (c := sum_Of a c b hb) 0 (fun _ => ?_)
 refine Z.ev (ev_convI rfl ⟨_, Tryz.underlying156⟩ Tryz.underlying24 rfl (by first | exact IntWalk.u64_in _ (by omega) | rfl)) 0 ?_
 refine Z.ca (c := num_Put a c b (Wire.sum b) 4 (by decide) (by decide) (Nat.div_eq_of_lt hsl) (by omega) hb) 14 (fun y => ?_)
 exact hx_ret1 (.inl rfl) rfl rfl y rfl (Ent.cons Z.k Z.f)
theorem sum_Open (a : Option Addr) (c : Nat) (s : List UInt8) (hc : s.length ≤ c) (hs : s.length ≤ 1099511627776) : Ctr Tryz.prog 67 #[.slice a s.length c] [ro (roS a s.length s)] (fun q : Option Addr × Nat => .tuple #[.slice q.1 (Wire.openS s).1.length q.2, .int .i64 (Wire.openS s).2]) (fun q => [ro (roS q.1 (Wire.openS s).1.length (Wire.openS s).1), pu ((Wire.openS s).1.length ≤ q.2)]) := by
 refine Z.fn Tryz.func67 Tryz.ntmps67 (fun κ F => ?_)
 refine Z.go 11 ?_
 refine Z.lt 11 7 (fun g1 => ?_) (fun g1 => ?_)
 ·skip
  have ho : Wire.openS s = ([], 20) := by unfold Wire.openS; rw [if_pos (by omega)]
  exact hx_ret2 (.inl rfl) rfl rfl rfl (none, 0) (by rw [ho]; rfl) (by rw [ho]; exact Ent.roTrue (ψ := roS (α := UInt8) none 0 []) (fun r => SliceIn.empty _ _) (Ent.pu (Nat.le_refl _) Z.f))
 ·skip
  refine Z.ef (eff_buildAll (α := UInt8) [] rfl Tryz.underlying73 Tryz.ty5 .nil .nil rfl (Nat.le_of_ble_eq_true rfl)) 3 (fun b11 => ?_)
  refine Z.sb (r := ((s.length - 4 : Nat) : Int)) (hw := by rw [in_i64 (by omega)]; omega) 0 ?_
  refine Z.ef (eff_slice (α := UInt8) rfl Tryz.underlying73 Tryz.ty5 rfl Z.p rfl ⟨_, rfl⟩ rfl (by decide) (by omega) (by omega) (by omega) (by omega)) 0 (fun a16 => ?_)
  refine Z.ef (eff_append (α := UInt8) rfl Tryz.underlying73 Tryz.ty5 rfl (by decide) Tryz.underlying73 rfl rfl Z.p (by first | exact reads_ro Z.p | exact reads_own Z.p | exact reads_nil _) (by first | omega | (simp only [List.length_append, List.length_cons, List.length_nil, List.length_drop, List.length_take]; omega) | (simp; omega))) 8 (fun p17 => ?_)
  refine Z.sb (r := ((s.length - 4 : Nat) : Int)) (hw := by rw [in_i64 (by omega)]; omega) 0 ?_
  refine Z.ef (eff_slice (α := UInt8) rfl Tryz.underlying73 Tryz.ty5 rfl Z.p ⟨_, rfl⟩ rfl rfl (by decide) (by omega) (by omega) (by omega) (by omega)) 0 (fun a23 => ?_)
  have hc4 : ((s.take s.length).drop (s.length - 4)).length ≤ c - (s.length - 4) := by simp; omega
  refine Z.ca (c := num_Get _ _ ((s.take s.length).drop (s.length - 4)) 4 (by decide) (by decide) (by simp; omega) hc4 (by simp; omega)) 0 (fun g => ?_)
  have hsum := Wire.sum_lt ([] ++ (s.take (s.length - 4)).drop 0)
  have e4 : ((s.take s.length).drop (s.length - 4)).take 4 = s.drop (s.length - 4) := by rw [List.take_length, List.take_of_length_le (by simp; omega)]
  rw [e4]
  refine Z.og 11 ?_
  refine ht_cap (xs := [] ++ (s.take (s.length - 4)).drop 0) Z.p (fun hl hcap => ?_)
  refine ht_freezeS (xs := [] ++ (s.take (s.length - 4)).drop 0) Z.p ?_
  have e0 : [] ++ (s.take (s.length - 4)).drop 0 = s.take (s.length - 4) := by simp
  rw [e0] at hl hcap hsum ⊢
  refine Z.go 3 ?_
  refine Z.ca (c := sum_Of _ _ _ (by simp; omega)) 0 (fun _ => ?_)
  refine Z.ev (ev_convI rfl ⟨_, Tryz.underlying156⟩ Tryz.underlying24 rfl (by first | exact IntWalk.u64_in _ (by omega) | rfl)) 0 ?_
  refine Z.ne 11 13 (fun g2 => ?_) (fun g2 => ?_)
  ·skip
   have ho : Wire.openS s = ([], 21) := by unfold Wire.openS; rw [if_neg (by omega), if_neg (by omega)]
   exact hx_ret2 (.inl rfl) rfl rfl rfl (none, 0) (by rw [ho]; rfl) (by rw [ho]; exact Ent.roTrue (ψ := roS (α := UInt8) none 0 []) (fun r => SliceIn.empty _ _) (Ent.pu (Nat.le_refl _) Z.f))
  ·skip
   have ho : Wire.openS s = (s.take (s.length - 4), 0) := by unfold Wire.openS; rw [if_neg (by omega), if_pos (by omega)]
   exact hx_ret2 (.inl rfl) rfl rfl rfl p17 (by rw [ho]) (by rw [ho]; exact Ent.roD Z.p (Ent.pu hcap Z.f))
end Go.Proofs.YtlejcepbcfijiaaGreatDoor
