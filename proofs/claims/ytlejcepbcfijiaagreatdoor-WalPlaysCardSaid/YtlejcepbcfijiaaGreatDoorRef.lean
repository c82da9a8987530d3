/-
  THE DOCUMENT'S PACKAGES 01, 02: the walks. Conditions: as each contract says.
-/
import Derived.Test.YtlejcepbcfijiaaGreatDoorFacts
import Derived.Test.YtlejcepbcfijiaaGreatDoorRefM
import Derived.Test.YtlejcepbcfijiaaGreatDoorSlClose
set_option maxRecDepth 100000
set_option linter.unusedVariables false
set_option linter.unusedSimpArgs false
namespace Go.Proofs.YtlejcepbcfijiaaGreatDoor
open Go Go.SL

theorem ref_Get (s : List UInt8) (hs : s.length ≤ 8) : Ctr Tryz.prog 76 #[vS s] [] (fun _ : Unit => .int .u64 ((Wire.ofBe s : Nat) : Int)) (fun _ => []) := by
 refine Z.fn Tryz.func76 Tryz.ntmps76 (fun κ F => ?_)
 refine Z.go 17 ?_
 refine Z.lo (fun q : Nat => ([pu (q ≤ s.length), F], [(0, vS s), (3, .int .u64 ((Wire.ofBe (s.take q) : Nat) : Int)), (4, .int .i64 q)])) (fun q : Nat => s.length - q) 0 ?_ (fun q => ?_)
 ·(first | dsimp only | skip)
  exact Ent.pu (by omega) Z.f
 dsimp only
 refine ht_pick (A := pu (q ≤ s.length)) Z.k (ht_pure fun hq => ?_)
 refine Z.go 6 ?_
 refine Z.lt 7 9 (fun g1 => ?_) (fun g1 => ?_)
 ·skip
  obtain ⟨x, hx⟩ : ∃ x, s[q]? = some x := ⟨_, List.getElem?_eq_getElem (by omega)⟩
  have hxb := Wire.byte_lt x
  have hfit := Wire.ofBe_fit s q (by omega)
  refine Z.go 2 ?_
  refine Z.ml (r := ((256 * Wire.ofBe (s.take q) : Nat) : Int)) (hw := by exact (IntWalk.u64_in _ (by omega)).trans (by omega)) 2 ?_
  refine Z.ev (ev_indexS rfl Tryz.underlying9 rfl rfl (by omega) (by rw [Int.toNat_natCast]; exact hx)) 0 ?_
  refine Z.ev (ev_convI rfl ⟨_, Tryz.underlying5⟩ Tryz.underlying24 rfl (by first | exact IntWalk.u64_in _ (by omega) | rfl)) 0 ?_
  refine Z.ad (r := ((Wire.ofBe (s.take (q + 1)) : Nat) : Int)) (hw := by rw [Wire.ofBe_step s q x hx]; exact (IntWalk.u64_in _ (by omega)).trans (by omega)) 6 ?_
  refine Z.ad 2 ?_
  refine Z.ag (q + 1) (by (first | dsimp only | skip); omega) ?_
  (first | dsimp only | skip)
  exact Ent.pu (by omega) Z.f
 ·skip
  obtain rfl : q = s.length := by omega
  rw [List.take_length]
  refine Z.go 6 ?_
  exact hx_ret1 (.inl rfl) rfl rfl () rfl Z.f
theorem ref_Var (v : Nat) (hv : v < 18446744073709551616) : Ctr Tryz.prog 56 #[.int .u64 (v : Int)] [] (fun _ : Unit => vS (Wire.var v)) (fun _ => []) := by
 refine Z.fn Tryz.func56 Tryz.ntmps56 (fun κ F => ?_)
 refine Z.go 12 ?_
 refine Z.lo (fun q : Nat × List UInt8 => ([pu (q.2 ++ Wire.var q.1 = Wire.var v ∧ q.1 ≤ v), F], [(0, .int .u64 ((q.1 : Nat) : Int)), (3, vS q.2)])) (fun q : Nat × List UInt8 => q.1) (v, []) ?_ (fun q => ?_)
 ·(first | dsimp only | skip)
  exact Ent.pu ⟨rfl, Nat.le_refl _⟩ Z.f
 obtain ⟨z, out⟩ := q
 dsimp only
 refine ht_pick (A := pu (out ++ Wire.var z = Wire.var v ∧ z ≤ v)) Z.k (ht_pure fun hq => ?_)
 obtain ⟨hq, hzv⟩ := hq
 have hvl := Wire.var_len v 10 (Nat.lt_of_lt_of_le hv (by decide)) (by decide)
 have hol : out.length ≤ 10 := by have := congrArg List.length hq; simp only [List.length_append] at this; omega
 refine Z.go 4 ?_
 refine Z.ev (ev_quo (r := ((z / 128 : Nat) : Int)) rfl rfl rfl (by omega) (by exact quo_u64 z 128 (by omega))) 0 ?_
 refine Z.gt 10 12 (fun g1 => ?_) (fun g1 => ?_)
 ·skip
  refine Z.ev (ev_rem (r := ((z % 128 : Nat) : Int)) rfl rfl rfl (by omega) (by exact rem_nat z 128)) 0 ?_
  refine Z.ad (r := ((z % 128 + 128 : Nat) : Int)) (hw := by exact (IntWalk.u64_in _ (by omega)).trans (by omega)) 0 ?_
  refine Z.ev (ev_convI (r := (((Wire.byte (z % 128 + 128)).toNat : Nat) : Int)) rfl ⟨_, Tryz.underlying24⟩ Tryz.underlying5 rfl (by exact byte_u8 _)) 0 ?_
  refine Z.ef (eff_buildAll (α := UInt8) [Wire.byte (z % 128 + 128)] rfl Tryz.underlying73 Tryz.ty5 (.cons rfl .nil) (.cons rfl .nil) rfl (Nat.le_of_ble_eq_true rfl)) 0 (fun b12 => ?_)
  refine Z.ev (ev_str rfl Tryz.underlying73 Tryz.underlying5 Tryz.underlying9 rfl (by first | exact reads_ro Z.p | exact reads_own Z.p | exact reads_nil _)) 0 ?_
  refine Z.ev (ev_addS rfl rfl rfl (by simp; omega)) 5 ?_
  refine Z.ev (ev_quo (r := ((z / 128 : Nat) : Int)) rfl rfl rfl (by omega) (by exact quo_u64 z 128 (by omega))) 3 ?_
  refine Z.ag (z / 128, out ++ [Wire.byte (z % 128 + 128)]) (by (first | dsimp only | skip); omega) ?_
  (first | dsimp only | skip)
  exact Ent.pu ⟨by rw [← hq, Wire.var_ge (show 128 ≤ z by omega), List.append_assoc]; rfl, by omega⟩ Z.f
 ·skip
  refine Z.ev (ev_convI (r := (((Wire.byte z).toNat : Nat) : Int)) rfl ⟨_, Tryz.underlying24⟩ Tryz.underlying5 rfl (by exact byte_u8 _)) 0 ?_
  refine Z.ef (eff_buildAll (α := UInt8) [Wire.byte z] rfl Tryz.underlying73 Tryz.ty5 (.cons rfl .nil) (.cons rfl .nil) rfl (Nat.le_of_ble_eq_true rfl)) 0 (fun b20 => ?_)
  refine Z.ev (ev_str rfl Tryz.underlying73 Tryz.underlying5 Tryz.underlying9 rfl (by first | exact reads_ro Z.p | exact reads_own Z.p | exact reads_nil _)) 0 ?_
  refine Z.ev (ev_addS rfl rfl rfl (by simp; omega)) 4 ?_
  have e0 : out ++ [Wire.byte z] = Wire.var v := by rw [← hq, Wire.var_lt (show z < 128 by omega)]
  rw [e0]
  exact hx_ret1 (.inl rfl) rfl rfl () rfl Z.f
theorem ref_Put (v n : Nat) (h1 : 1 ≤ n) (h8 : n ≤ 8) (hv : v < 18446744073709551616) (hz : v / 2 ^ (8 * n) = 0) : Ctr Tryz.prog 58 #[.int .u64 (v : Int), .int .i64 (n : Int)] [] (fun _ : Unit => .tuple #[vS (Wire.be v n), .bool true]) (fun _ => []) := by
 refine Z.fn Tryz.func58 Tryz.ntmps58 (fun κ F => ?_)
 refine Z.go 10 ?_
 refine Z.lt 0 2 (fun g1 => ?_) (fun g1 => ?_)
 ·omega
 ·skip
  refine Z.gt 0 18 (fun g2 => ?_) (fun g2 => ?_)
  ·omega
  ·skip
   rw [show ((v : Nat) : Int) = ((v / 2 ^ (8 * 0) : Nat) : Int) by simp]
   refine Z.lo (fun q : Nat => ([pu (q ≤ n), F], [(0, .int .u64 ((v / 2 ^ (8 * q) : Nat) : Int)), (1, .int .i64 n), (6, vS (Wire.be v q)), (7, .int .i64 q)])) (fun q : Nat => n - q) 0 ?_ (fun q => ?_)
   ·(first | dsimp only | skip)
    skip
    exact Ent.pu (by omega) Z.f
   dsimp only
   refine ht_pick (A := pu (q ≤ n)) Z.k (ht_pure fun hq => ?_)
   have hbl := Wire.be_len v q
   have hdv := Nat.div_le_self v (2 ^ (8 * q))
   have hdd : v / 2 ^ (8 * q) / 256 = v / 2 ^ (8 * (q + 1)) := by rw [Nat.div_div_eq_div_mul, show (256 : Nat) = 2 ^ 8 from rfl, ← Nat.pow_add, show 8 * q + 8 = 8 * (q + 1) by omega]
   refine Z.go 5 ?_
   refine Z.lt 10 9 (fun g3 => ?_) (fun g3 => ?_)
   ·skip
    refine Z.ev (ev_rem (r := ((v / 2 ^ (8 * q) % 256 : Nat) : Int)) rfl rfl rfl (by omega) (by exact rem_nat _ 256)) 0 ?_
    refine Z.ev (ev_convI (r := (((Wire.byte (v / 2 ^ (8 * q))).toNat : Nat) : Int)) rfl ⟨_, Tryz.underlying24⟩ Tryz.underlying5 rfl (by rw [Wire.byte_nat]; exact IntWalk.u8_in _ (by omega))) 0 ?_
    refine Z.ef (eff_buildAll (α := UInt8) [Wire.byte (v / 2 ^ (8 * q))] rfl Tryz.underlying73 Tryz.ty5 (.cons rfl .nil) (.cons rfl .nil) rfl (Nat.le_of_ble_eq_true rfl)) 0 (fun b22 => ?_)
    refine Z.ev (ev_str rfl Tryz.underlying73 Tryz.underlying5 Tryz.underlying9 rfl (by first | exact reads_ro Z.p | exact reads_own Z.p | exact reads_nil _)) 1 ?_
    refine Z.ev (ev_addS rfl rfl rfl (by simp; omega)) 5 ?_
    refine Z.ev (ev_quo (r := ((v / 2 ^ (8 * (q + 1)) : Nat) : Int)) rfl rfl rfl (by omega) (by rw [← hdd]; exact quo_u64 _ 256 (by omega))) 6 ?_
    refine Z.ad 2 ?_
    refine Z.ag (q + 1) (by (first | dsimp only | skip); omega) ?_
    (first | dsimp only | skip)
    exact Ent.pu (by omega) Z.f
   ·skip
    obtain rfl : q = n := by omega
    rw [hz]
    refine Z.go 3 ?_
    refine Z.eq 5 0 (fun g4 => ?_) (fun g4 => ?_)
    ·skip
     exact hx_ret2 (.inl rfl) rfl rfl rfl () rfl Z.f
    ·omega
theorem ref_GetVar (s : List UInt8) (hs : s.length ≤ 1099511627776) : Ctr Tryz.prog 92 #[vS s] [] (fun _ : Unit => .tuple #[.int .u64 (((Wire.getVar 0 0 s).1 : Nat) : Int), .int .i64 (((if (Wire.getVar 0 0 s).2.2 = 0 then s.length - (Wire.getVar 0 0 s).2.1.length else 0) : Nat) : Int), .int .i64 (Wire.getVar 0 0 s).2.2]) (fun _ => []) := by
 refine Z.fn Tryz.func92 Tryz.ntmps92 (fun κ F => ?_)
 refine Z.go 20 ?_
 refine Z.lo (fun q : Nat × Nat => ([pu (Wire.getVar q.1 q.2 (s.drop q.1) = Wire.getVar 0 0 s ∧ q.2 < 2 ^ (7 * q.1) ∧ q.1 ≤ 9 ∧ q.1 ≤ s.length), F], [(0, vS s), (5, .int .u64 ((q.2 : Nat) : Int)), (6, .int .u64 ((2 ^ (7 * q.1) % 18446744073709551616 : Nat) : Int)), (7, .int .i64 q.1)])) (fun q : Nat × Nat => s.length - q.1) (0, 0) ?_ (fun q => ?_)
 ·(first | dsimp only | skip)
  exact Ent.pu ⟨rfl, by simp, by omega, by omega⟩ Z.f
 obtain ⟨q, v⟩ := q
 dsimp only
 refine ht_pick (A := pu (Wire.getVar q v (s.drop q) = Wire.getVar 0 0 s ∧ v < 2 ^ (7 * q) ∧ q ≤ 9 ∧ q ≤ s.length)) Z.k (ht_pure fun hq => ?_)
 obtain ⟨hinv, hv, hq9, hql⟩ := hq
 have hv64 := Wire.pow_fit hq9 hv
 refine Z.go 6 ?_
 refine Z.lt 8 16 (fun g1 => ?_) (fun g1 => ?_)
 ·skip
  obtain ⟨x, hx⟩ : ∃ x, s[q]? = some x := ⟨_, List.getElem?_eq_getElem (by omega)⟩
  have hxb := Wire.byte_lt x
  rw [show s.drop q = x :: s.drop (q + 1) by obtain ⟨h1, h2⟩ := List.getElem?_eq_some_iff.1 hx; rw [← h2]; exact List.drop_eq_getElem_cons h1] at hinv
  rw [Wire.getVar_cons] at hinv
  have hpw : (2 : Nat) ^ (7 * q) % 18446744073709551616 = 2 ^ (7 * q) := Nat.mod_eq_of_lt (Nat.lt_of_le_of_lt (Nat.pow_le_pow_right (by decide) (show 7 * q ≤ 63 by omega)) (by decide))
  refine Z.go 3 ?_
  refine Z.ev (ev_indexS rfl Tryz.underlying9 rfl rfl (by omega) (by rw [Int.toNat_natCast]; exact hx)) 7 ?_
  refine Z.eq 2 6 (fun g2 => ?_) (fun g2 => ?_)
  ·skip
   refine Z.gt 26 3 (fun g3 => ?_) (fun g3 => ?_)
   ·skip
    rw [if_pos (by omega)] at hinv
    rw [← hinv]
    exact hx_ret3 (.inl rfl) rfl rfl rfl rfl () rfl Z.f
   ·skip
    refine Z.gt 2 0 (fun g4 => ?_) (fun g4 => ?_)
    ·skip
     refine Z.eq 19 8 (fun g5 => ?_) (fun g5 => ?_)
     ·skip
      rw [if_pos (by omega)] at hinv
      rw [← hinv]
      exact hx_ret3 (.inl rfl) rfl rfl rfl rfl () rfl Z.f
     ·skip
      have hsf := Wire.shift_fit q (x.toNat % 128) hq9 (by omega) (by omega)
      refine Z.go 3 ?_
      refine Z.ev (ev_rem (r := ((x.toNat % 128 : Nat) : Int)) rfl rfl rfl (by omega) (by exact rem_nat _ 128)) 0 ?_
      refine Z.ev (ev_convI rfl ⟨_, Tryz.underlying5⟩ Tryz.underlying24 rfl (by first | exact IntWalk.u64_in _ (by omega) | rfl)) 1 ?_
      refine Z.ml (r := ((x.toNat % 128 * 2 ^ (7 * q) : Nat) : Int)) (hw := by rw [hpw]; exact mul_u64 _ _ hsf) 0 ?_
      refine Z.ad (r := ((v + x.toNat % 128 * 2 ^ (7 * q) : Nat) : Int)) (hw := by exact add_u64 _ _ (Wire.var_fit q v x.toNat hq9 hv (by omega))) 6 ?_
      refine Z.ml (r := ((2 ^ (7 * (q + 1)) % 18446744073709551616 : Nat) : Int)) (hw := by exact Wire.pow_next q) 6 ?_
      refine Z.lt 7 0 (fun g6 => ?_) (fun g6 => ?_)
      ·skip
       refine Z.ad (r := ((q + 1 : Nat) : Int)) (hw := by rw [in_i64 (by omega)]; rfl) 11 ?_
       rw [if_neg (by omega), if_pos (by omega)] at hinv
       rw [← hinv]
       dsimp only
       rw [if_pos rfl, List.length_drop, show (((s.length - (s.length - (q + 1)) : Nat)) : Int) = ((q + 1 : Nat) : Int) by omega, show v + x.toNat * 2 ^ (7 * q) = v + x.toNat % 128 * 2 ^ (7 * q) by rw [Nat.mod_eq_of_lt (by omega)]]
       exact hx_ret3 (val := fun _ : Unit => _) (post := fun _ => []) (.inl rfl) rfl rfl rfl rfl () rfl Z.f
      ·omega
    ·omega
  ·skip
   refine Z.gt 2 11 (fun g7 => ?_) (fun g7 => ?_)
   ·skip
    refine Z.eq 19 8 (fun g8 => ?_) (fun g8 => ?_)
    ·skip
     rw [if_pos (by omega)] at hinv
     rw [← hinv]
     exact hx_ret3 (.inl rfl) rfl rfl rfl rfl () rfl Z.f
    ·skip
     have hsf := Wire.shift_fit q (x.toNat % 128) hq9 (by omega) (by omega)
     refine Z.go 3 ?_
     refine Z.ev (ev_rem (r := ((x.toNat % 128 : Nat) : Int)) rfl rfl rfl (by omega) (by exact rem_nat _ 128)) 0 ?_
     refine Z.ev (ev_convI rfl ⟨_, Tryz.underlying5⟩ Tryz.underlying24 rfl (by first | exact IntWalk.u64_in _ (by omega) | rfl)) 1 ?_
     refine Z.ml (r := ((x.toNat % 128 * 2 ^ (7 * q) : Nat) : Int)) (hw := by rw [hpw]; exact mul_u64 _ _ hsf) 0 ?_
     refine Z.ad (r := ((v + x.toNat % 128 * 2 ^ (7 * q) : Nat) : Int)) (hw := by exact add_u64 _ _ (Wire.var_fit q v x.toNat hq9 hv (by omega))) 6 ?_
     refine Z.ml (r := ((2 ^ (7 * (q + 1)) % 18446744073709551616 : Nat) : Int)) (hw := by exact Wire.pow_next q) 6 ?_
     refine Z.lt 7 8 (fun g9 => ?_) (fun g9 => ?_)
     ·skip
      refine Z.ad (r := ((q + 1 : Nat) : Int)) (hw := by rw [in_i64 (by omega)]; rfl) 11 ?_
      rw [if_neg (by omega), if_pos (by omega)] at hinv
      rw [← hinv]
      dsimp only
      rw [if_pos rfl, List.length_drop, show (((s.length - (s.length - (q + 1)) : Nat)) : Int) = ((q + 1 : Nat) : Int) by omega, show v + x.toNat * 2 ^ (7 * q) = v + x.toNat % 128 * 2 ^ (7 * q) by rw [Nat.mod_eq_of_lt (by omega)]]
      exact hx_ret3 (val := fun _ : Unit => _) (post := fun _ => []) (.inl rfl) rfl rfl rfl rfl () rfl Z.f
     ·skip
      refine Z.ad 2 ?_
      rw [if_neg (by omega), if_neg (by omega)] at hinv
      refine Z.ag (q + 1, v + x.toNat % 128 * 2 ^ (7 * q)) (by (first | dsimp only | skip); omega) ?_
      (first | dsimp only | skip)
      exact Ent.pu ⟨hinv, Wire.step_fit q v x.toNat (by omega) hv, by omega, by omega⟩ Z.f
   ·skip
    have hsf := Wire.shift_fit q (x.toNat % 128) hq9 (by omega) (by omega)
    refine Z.go 3 ?_
    refine Z.ev (ev_rem (r := ((x.toNat % 128 : Nat) : Int)) rfl rfl rfl (by omega) (by exact rem_nat _ 128)) 0 ?_
    refine Z.ev (ev_convI rfl ⟨_, Tryz.underlying5⟩ Tryz.underlying24 rfl (by first | exact IntWalk.u64_in _ (by omega) | rfl)) 1 ?_
    refine Z.ml (r := ((x.toNat % 128 * 2 ^ (7 * q) : Nat) : Int)) (hw := by rw [hpw]; exact mul_u64 _ _ hsf) 0 ?_
    refine Z.ad (r := ((v + x.toNat % 128 * 2 ^ (7 * q) : Nat) : Int)) (hw := by exact add_u64 _ _ (Wire.var_fit q v x.toNat hq9 hv (by omega))) 6 ?_
    refine Z.ml (r := ((2 ^ (7 * (q + 1)) % 18446744073709551616 : Nat) : Int)) (hw := by exact Wire.pow_next q) 6 ?_
    refine Z.lt 7 8 (fun g10 => ?_) (fun g10 => ?_)
    ·skip
     refine Z.ad (r := ((q + 1 : Nat) : Int)) (hw := by rw [in_i64 (by omega)]; rfl) 11 ?_
     rw [if_neg (by omega), if_pos (by omega)] at hinv
     rw [← hinv]
     dsimp only
     rw [if_pos rfl, List.length_drop, show (((s.length - (s.length - (q + 1)) : Nat)) : Int) = ((q + 1 : Nat) : Int) by omega, show v + x.toNat * 2 ^ (7 * q) = v + x.toNat % 128 * 2 ^ (7 * q) by rw [Nat.mod_eq_of_lt (by omega)]]
     exact hx_ret3 (val := fun _ : Unit => _) (post := fun _ => []) (.inl rfl) rfl rfl rfl rfl () rfl Z.f
    ·skip
     refine Z.ad 2 ?_
     rw [if_neg (by omega), if_neg (by omega)] at hinv
     refine Z.ag (q + 1, v + x.toNat % 128 * 2 ^ (7 * q)) (by (first | dsimp only | skip); omega) ?_
     (first | dsimp only | skip)
     exact Ent.pu ⟨hinv, Wire.step_fit q v x.toNat (by omega) hv, by omega, by omega⟩ Z.f
 ·skip
  obtain rfl : q = s.length := by omega
  rw [List.drop_of_length_le (Nat.le_refl _)] at hinv
  rw [← hinv]
  exact hx_ret3 (.inl rfl) rfl rfl rfl rfl () rfl Z.f
theorem ref_turned (a b : Nat) (ha : a < 4294967296) (hb : b < 4294967296) : Ctr Tryz.prog 100 #[.int .u64 (a : Int), .int .u64 (b : Int)] [] (fun _ : Unit => .int .u64 ((a ^^^ b : Nat) : Int)) (fun _ => []) := by
 refine Z.fn Tryz.func100 Tryz.ntmps100 (fun κ F => ?_)
 refine Z.go 18 ?_
 rw [show ((a : Nat) : Int) = ((a / 2 ^ 0 : Nat) : Int) by simp, show ((b : Nat) : Int) = ((b / 2 ^ 0 : Nat) : Int) by simp]
 refine Z.lo (fun q : Nat × Nat => ([pu (q.2 = (a ^^^ b) % 2 ^ q.1 ∧ q.1 ≤ 32), F], [(0, .int .u64 ((a / 2 ^ q.1 : Nat) : Int)), (1, .int .u64 ((b / 2 ^ q.1 : Nat) : Int)), (5, .int .u64 ((q.2 : Nat) : Int)), (6, .int .u64 ((2 ^ q.1 : Nat) : Int)), (7, .int .i64 q.1)])) (fun q : Nat × Nat => 32 - q.1) (0, 0) ?_ (fun q => ?_)
 ·(first | dsimp only | skip)
  exact Ent.pu ⟨by simp [Nat.mod_one], by omega⟩ Z.f
 obtain ⟨q, out⟩ := q
 dsimp only
 refine ht_pick (A := pu (out = (a ^^^ b) % 2 ^ q ∧ q ≤ 32)) Z.k (ht_pure fun hq => ?_)
 obtain ⟨hout, hq⟩ := hq
 have ha1 := Nat.div_le_self a (2 ^ q)
 have hb1 := Nat.div_le_self b (2 ^ q)
 have hp : 2 ^ q ≤ 4294967296 := Nat.pow_le_pow_right (n := 2) (by decide) hq
 have hm := Nat.mod_lt (a ^^^ b) (show 0 < 2 ^ q from Nat.pow_pos (by decide))
 have hts := Wire.turn_step a b q
 rw [← hout] at hm hts
 have hda : a / 2 ^ q / 2 = a / 2 ^ (q + 1) := by rw [Nat.div_div_eq_div_mul, Nat.pow_succ]
 have hdb : b / 2 ^ q / 2 = b / 2 ^ (q + 1) := by rw [Nat.div_div_eq_div_mul, Nat.pow_succ]
 refine Z.go 4 ?_
 refine Z.lt 11 9 (fun g1 => ?_) (fun g1 => ?_)
 ·skip
  refine Z.ev (ev_rem (r := ((a / 2 ^ q % 2 : Nat) : Int)) rfl rfl rfl (by omega) (by exact rem_nat _ 2)) 1 ?_
  refine Z.ev (ev_rem (r := ((b / 2 ^ q % 2 : Nat) : Int)) rfl rfl rfl (by omega) (by exact rem_nat _ 2)) 0 ?_
  refine Z.ne 6 7 (fun g2 => ?_) (fun g2 => ?_)
  ·skip
   refine Z.ad (r := ((out + 2 ^ q : Nat) : Int)) (hw := by exact add_u64 _ _ (by omega)) 5 ?_
   refine Z.ev (ev_quo (r := ((a / 2 ^ (q + 1) : Nat) : Int)) rfl rfl rfl (by omega) (by rw [← hda]; exact quo_u64 _ 2 (by omega))) 1 ?_
   refine Z.ev (ev_quo (r := ((b / 2 ^ (q + 1) : Nat) : Int)) rfl rfl rfl (by omega) (by rw [← hdb]; exact quo_u64 _ 2 (by omega))) 1 ?_
   refine Z.ml (r := ((2 ^ (q + 1) : Nat) : Int)) (hw := by rw [Nat.pow_succ]; exact (IntWalk.u64_in _ (by omega)).trans (by omega)) 8 ?_
   refine Z.ad 2 ?_
   refine Z.ag (q + 1, out + 2 ^ q) (by (first | dsimp only | skip); omega) ?_
   (first | dsimp only | skip)
   exact Ent.pu ⟨by rw [hts, if_neg (by omega)], by omega⟩ Z.f
  ·skip
   refine Z.ev (ev_quo (r := ((a / 2 ^ (q + 1) : Nat) : Int)) rfl rfl rfl (by omega) (by rw [← hda]; exact quo_u64 _ 2 (by omega))) 1 ?_
   refine Z.ev (ev_quo (r := ((b / 2 ^ (q + 1) : Nat) : Int)) rfl rfl rfl (by omega) (by rw [← hdb]; exact quo_u64 _ 2 (by omega))) 1 ?_
   refine Z.ml (r := ((2 ^ (q + 1) : Nat) : Int)) (hw := by rw [Nat.pow_succ]; exact (IntWalk.u64_in _ (by omega)).trans (by omega)) 8 ?_
   refine Z.ad 2 ?_
   refine Z.ag (q + 1, out) (by (first | dsimp only | skip); omega) ?_
   (first | dsimp only | skip)
   exact Ent.pu ⟨by rw [hts, if_pos (by omega)]; rfl, by omega⟩ Z.f
 ·skip
  obtain rfl : q = 32 := by omega
  rw [Nat.mod_eq_of_lt (show a ^^^ b < 2 ^ 32 from Nat.xor_lt_two_pow ha hb)] at hout
  subst hout
  refine Z.go 6 ?_
  exact hx_ret1 (.inl rfl) rfl rfl () rfl Z.f
theorem ref_Step (r : Nat) (bit : Nat) (hr : r < 4294967296) (hb : bit < 2) : Ctr Tryz.prog 98 #[.int .u64 (r : Int), .int .u64 (bit : Int)] [] (fun _ : Unit => .int .u64 ((Wire.sstep r (decide (bit = 1)) : Nat) : Int)) (fun _ => []) := by
 refine Z.fn Tryz.func98 Tryz.ntmps98 (fun κ F => ?_)
 refine Z.go 8 ?_
 refine Z.ev (ev_quo (r := ((r / 2147483648 : Nat) : Int)) rfl rfl rfl (by omega) (by exact quo_u64 r 2147483648 (by omega))) 6 ?_
 refine Z.ml (r := ((2 * r : Nat) : Int)) (hw := by exact (IntWalk.u64_in _ (by omega)).trans (by omega)) 0 ?_
 refine Z.ev (ev_rem (r := ((r * 2 % 4294967296 : Nat) : Int)) rfl rfl rfl (by omega) (by rw [Nat.mul_comm r 2]; exact rem_nat _ 4294967296)) 8 ?_
 refine Z.ne 5 12 (fun g1 => ?_) (fun g1 => ?_)
 ·skip
  refine Z.ca (c := ref_turned (r * 2 % 4294967296) 79764919 (by omega) (by decide)) 10 (fun _ => ?_)
  refine hx_ret1 (.inl rfl) rfl rfl () ?_ (Ent.refl _)
  unfold Wire.sstep
  have e31 : (2 : Nat) ^ 31 = 2147483648 := rfl
  rw [e31]
  rw [if_neg (by simp only [decide_eq_decide]; omega)]
 ·skip
  refine hx_ret1 (.inl rfl) rfl rfl () ?_ (Ent.refl _)
  unfold Wire.sstep
  have e31 : (2 : Nat) ^ 31 = 2147483648 := rfl
  rw [e31]
  rw [if_pos (by simp only [decide_eq_decide]; omega)]
theorem ref_More (s0 : Nat) (s : List UInt8) (hs0 : s0 < 4294967296) (hs : s.length ≤ 1099511627776) : Ctr Tryz.prog 93 #[.int .u32 (s0 : Int), vS s] [] (fun _ : Unit => .int .u32 ((Wire.more s0 s : Nat) : Int)) (fun _ => []) := by
 refine Z.fn Tryz.func93 Tryz.ntmps93 (fun κ F => ?_)
 refine Z.go 8 ?_
 refine Z.ev (ev_convI rfl ⟨_, Tryz.underlying156⟩ Tryz.underlying24 rfl (by first | exact IntWalk.u64_in _ (by omega) | rfl)) 0 ?_
 refine Z.sb (r := ((4294967295 ^^^ s0 : Nat) : Int)) (hw := by rw [← Wire.not_sub s0 hs0]; exact (IntWalk.u64_in _ (by omega)).trans (by omega)) 10 ?_
 refine Z.lo (fun q : Nat => ([pu (q ≤ s.length), F], [(1, vS s), (5, .int .u64 (((Wire.smore (4294967295 ^^^ s0) (s.take q)) : Nat) : Int)), (6, .int .i64 q)])) (fun q : Nat => s.length - q) 0 ?_ (fun q => ?_)
 ·(first | dsimp only | skip)
  exact Ent.pu (by omega) Z.f
 dsimp only
 revert q; intro i0
 refine ht_pick (A := pu (i0 ≤ s.length)) Z.k (ht_pure fun hq => ?_)
 have hRl : (Wire.smore (4294967295 ^^^ s0) (s.take i0)) < 4294967296 := Wire.smore_lt _ _ (Nat.xor_lt_two_pow (n := 32) (by decide) hs0)
 refine Z.go 6 ?_
 refine Z.lt 8 9 (fun g1 => ?_) (fun g1 => ?_)
 ·skip
  obtain ⟨x, hx⟩ : ∃ x, s[i0]? = some x := ⟨_, List.getElem?_eq_getElem (by omega)⟩
  have hxb := Wire.byte_lt x
  generalize hR : (Wire.smore (4294967295 ^^^ s0) (s.take i0)) = R at *
  refine Z.go 10 ?_
  refine Z.lo (fun q : Nat => ([pu (q ≤ 8), F], [(1, vS s), (6, .int .i64 i0), (5, .int .u64 ((Wire.sbits R x.toNat q : Nat) : Int)), (7, .int .u64 ((128 / 2 ^ q : Nat) : Int)), (8, .int .i64 q)])) (fun q : Nat => 8 - q) 0 ?_ (fun q => ?_)
  ·(first | dsimp only | skip)
   exact Ent.pu (by omega) Z.f
  dsimp only
  refine ht_pick (A := pu (q ≤ 8)) Z.k (ht_pure fun hq8 => ?_)
  have hd : 128 / 2 ^ q / 2 = 128 / 2 ^ (q + 1) := by rw [Nat.div_div_eq_div_mul, Nat.pow_succ]
  have hd0 := Nat.div_le_self 128 (2 ^ q)
  have hqp : 0 < q ∨ q = 0 := by omega
  refine Z.go 4 ?_
  refine Z.lt 8 9 (fun g2 => ?_) (fun g2 => ?_)
  ·skip
   have hsl := Wire.sbits_lt hRl x.toNat q
   have hb2 : x.toNat / (128 / 2 ^ q) % 2 < 2 := Nat.mod_lt _ (by decide)
   have hp0 : 0 < 128 / 2 ^ q := Nat.div_pos (Nat.pow_le_pow_right (n := 2) (by decide) (show q ≤ 7 by omega)) (Nat.pow_pos (by decide))
   refine Z.go 4 ?_
   refine Z.ev (ev_indexS rfl Tryz.underlying9 rfl rfl (by omega) (by rw [Int.toNat_natCast]; exact hx)) 0 ?_
   refine Z.ev (ev_convI rfl ⟨_, Tryz.underlying5⟩ Tryz.underlying24 rfl (by first | exact IntWalk.u64_in _ (by omega) | rfl)) 1 ?_
   refine Z.ev (ev_quo (r := ((x.toNat / (128 / 2 ^ q) : Nat) : Int)) rfl rfl rfl (by omega) (by exact quo_u64 _ _ (by omega))) 0 ?_
   refine Z.ev (ev_rem (r := ((x.toNat / (128 / 2 ^ q) % 2 : Nat) : Int)) rfl rfl rfl (by omega) (by exact rem_nat _ 2)) 0 ?_
   refine Z.ca (c := ref_Step _ _ hsl hb2) 5 (fun _ => ?_)
   refine Z.ev (ev_quo (r := ((128 / 2 ^ (q + 1) : Nat) : Int)) rfl rfl rfl (by omega) (by rw [← hd]; exact quo_u64 _ 2 (by omega))) 6 ?_
   refine Z.ad 2 ?_
   refine Z.ag (q + 1) (by (first | dsimp only | skip); omega) ?_
   (first | dsimp only | skip)
   exact Ent.pu (by omega) Z.f
  ·skip
   obtain rfl : q = 8 := by omega
   refine Z.go 2 ?_
   refine Z.ad 2 ?_
   rw [Wire.sbits_byte R hRl x, show Wire.sbyte R x = Wire.smore (4294967295 ^^^ s0) (s.take (i0 + 1)) by rw [Wire.smore_step _ s i0 x hx, hR]]
   refine Z.ag (i0 + 1) (by (first | dsimp only | skip); omega) ?_
   (first | dsimp only | skip)
   exact Ent.pu (by omega) Z.f
 ·skip
  obtain rfl : i0 = s.length := by omega
  rw [List.take_length] at *
  refine Z.go 2 ?_
  refine Z.sb (r := ((Wire.more s0 s : Nat) : Int)) (hw := by show IntKind.u64.wrap _ = ((4294967295 ^^^ _ : Nat) : Int); rw [← Wire.not_sub _ hRl]; exact (IntWalk.u64_in _ (by omega)).trans (by omega)) 0 ?_
  refine Z.ev (ev_convI (r := ((Wire.more s0 s : Nat) : Int)) rfl ⟨_, Tryz.underlying24⟩ Tryz.underlying156 rfl (by have : Wire.more s0 s < 4294967296 := Nat.xor_lt_two_pow (n := 32) (by decide) hRl; exact IntWalk.u32_in _ (by omega))) 4 ?_
  exact hx_ret1 (.inl rfl) rfl rfl () rfl Z.f
theorem ref_Of (s : List UInt8) (hs : s.length ≤ 1099511627776) : Ctr Tryz.prog 80 #[vS s] [] (fun _ : Unit => .int .u32 ((Wire.sum s : Nat) : Int)) (fun _ => []) := by
 refine Z.fn Tryz.func80 Tryz.ntmps80 (fun κ F => ?_)
 refine Z.go 8 ?_
 refine Z.ca (c := ref_More 0 s (by decide) hs) 4 (fun _ => ?_)
 exact hx_ret1 (.inl rfl) rfl rfl () rfl Z.f
theorem ref_Seal (s : List UInt8) (hs : s.length ≤ 1099511627776) : Ctr Tryz.prog 55 #[vS s] [] (fun _ : Unit => vS (Wire.seal_ s)) (fun _ => []) := by
 refine Z.fn Tryz.func55 Tryz.ntmps55 (fun κ F => ?_)
 have hsl := Wire.sum_lt s
 refine Z.go 8 ?_
 refine Z.ca (c := ref_Of s hs) 7 (fun _ => ?_)
 refine Z.ev (ev_quo (r := ((Wire.sum s / 16777216 : Nat) : Int)) rfl rfl rfl (by omega) (by exact quo_u32 _ 16777216 hsl)) 0 ?_
 refine Z.ev (ev_convI (r := (((Wire.byte (Wire.sum s / 16777216)).toNat : Nat) : Int)) rfl ⟨_, Tryz.underlying156⟩ Tryz.underlying5 rfl (by exact byte_u8 _)) 1 ?_
 refine Z.ev (ev_quo (r := ((Wire.sum s / 65536 : Nat) : Int)) rfl rfl rfl (by omega) (by exact quo_u32 _ 65536 hsl)) 0 ?_
 refine Z.ev (ev_rem (r := ((Wire.sum s / 65536 % 256 : Nat) : Int)) rfl rfl rfl (by omega) (by exact rem_nat _ 256)) 0 ?_
 refine Z.ev (ev_convI (r := (((Wire.byte (Wire.sum s / 65536 % 256)).toNat : Nat) : Int)) rfl ⟨_, Tryz.underlying156⟩ Tryz.underlying5 rfl (by exact byte_u8 _)) 1 ?_
 refine Z.ev (ev_quo (r := ((Wire.sum s / 256 : Nat) : Int)) rfl rfl rfl (by omega) (by exact quo_u32 _ 256 hsl)) 0 ?_
 refine Z.ev (ev_rem (r := ((Wire.sum s / 256 % 256 : Nat) : Int)) rfl rfl rfl (by omega) (by exact rem_nat _ 256)) 0 ?_
 refine Z.ev (ev_convI (r := (((Wire.byte (Wire.sum s / 256 % 256)).toNat : Nat) : Int)) rfl ⟨_, Tryz.underlying156⟩ Tryz.underlying5 rfl (by exact byte_u8 _)) 1 ?_
 refine Z.ev (ev_rem (r := ((Wire.sum s % 256 : Nat) : Int)) rfl rfl rfl (by omega) (by exact rem_nat _ 256)) 0 ?_
 refine Z.ev (ev_convI (r := (((Wire.byte (Wire.sum s % 256)).toNat : Nat) : Int)) rfl ⟨_, Tryz.underlying156⟩ Tryz.underlying5 rfl (by exact byte_u8 _)) 0 ?_
 refine Z.ef (eff_buildAll (α := UInt8) [Wire.byte (Wire.sum s / 16777216), Wire.byte (Wire.sum s / 65536 % 256), Wire.byte (Wire.sum s / 256 % 256), Wire.byte (Wire.sum s % 256)] rfl Tryz.underlying73 Tryz.ty5 (.cons rfl (.cons rfl (.cons rfl (.cons rfl .nil)))) (.cons rfl (.cons rfl (.cons rfl (.cons rfl .nil)))) rfl (Nat.le_of_ble_eq_true rfl)) 0 (fun b21 => ?_)
 refine Z.ev (ev_str rfl Tryz.underlying73 Tryz.underlying5 Tryz.underlying9 rfl (by first | exact reads_ro Z.p | exact reads_own Z.p | exact reads_nil _)) 0 ?_
 refine Z.ev (ev_addS rfl rfl rfl (by simp; omega)) 4 ?_
 rw [show s ++ [Wire.byte (Wire.sum s / 16777216), Wire.byte (Wire.sum s / 65536 % 256), Wire.byte (Wire.sum s / 256 % 256), Wire.byte (Wire.sum s % 256)] = Wire.seal_ s by unfold Wire.seal_; rw [Wire.be4, Wire.byte_mod, Wire.byte_mod, Wire.byte_mod]]
 exact hx_ret1 (.inl rfl) rfl rfl () rfl Z.f
theorem ref_Open (s : List UInt8) (hs : s.length ≤ 1099511627776) : Ctr Tryz.prog 77 #[vS s] [] (fun _ : Unit => .tuple #[vS (Wire.openS s).1, .int .i64 (Wire.openS s).2]) (fun _ => []) := by
 refine Z.fn Tryz.func77 Tryz.ntmps77 (fun κ F => ?_)
 refine Z.go 11 ?_
 refine Z.lt 11 11 (fun g1 => ?_) (fun g1 => ?_)
 ·skip
  have ho : Wire.openS s = ([], 20) := by unfold Wire.openS; rw [if_pos (by omega)]
  rw [ho]
  exact hx_ret2 (.inl rfl) rfl rfl rfl () rfl Z.f
 ·skip
  refine Z.sb (r := ((s.length - 4 : Nat) : Int)) (hw := by rw [in_i64 (by omega)]; omega) 0 ?_
  refine Z.ev (ev_sliceS rfl Tryz.underlying9 rfl rfl ⟨_, rfl⟩ (by omega) (by omega)) 0 ?_
  refine Z.ca (c := ref_Seal ((s.take (s.length - 4)).drop 0) (by simp; omega)) 1 (fun _ => ?_)
  refine Z.neS 11 10 (fun g14 => ?_) (fun g14 => ?_)
  ·skip
   have e0 : (s.take (s.length - 4)).drop 0 = s.take (s.length - 4) := rfl
   have ho : Wire.openS s = ([], 21) := by unfold Wire.openS; rw [if_neg (by omega), if_neg (fun h => g14 ((Wire.seal_open s (by omega)).2 h))]
   rw [ho]
   exact hx_ret2 (.inl rfl) rfl rfl rfl () rfl Z.f
  ·skip
   refine Z.sb (r := ((s.length - 4 : Nat) : Int)) (hw := by rw [in_i64 (by omega)]; omega) 0 ?_
   refine Z.ev (ev_sliceS rfl Tryz.underlying9 rfl rfl ⟨_, rfl⟩ (by omega) (by omega)) 5 ?_
   have e0 : (s.take (s.length - 4)).drop 0 = s.take (s.length - 4) := rfl
   have ho : Wire.openS s = (s.take (s.length - 4), 0) := by unfold Wire.openS; rw [if_neg (by omega), if_pos ((Wire.seal_open s (by omega)).1 g14)]
   rw [ho]
   exact hx_ret2 (.inl rfl) rfl rfl rfl () rfl Z.f
theorem ref_Num (s : List UInt8) (hs : s.length ≤ 1099511627776) : Ctr Tryz.prog 78 #[vS s] [] (fun _ : Unit => .tuple #[.int .u64 (((Wire.rnum s).1 : Nat) : Int), vS (Wire.rnum s).2.1, .int .i64 (Wire.rnum s).2.2]) (fun _ => []) := by
 refine Z.fn Tryz.func78 Tryz.ntmps78 (fun κ F => ?_)
 have hle : (if (Wire.getVar 0 0 s).2.2 = 0 then s.length - (Wire.getVar 0 0 s).2.1.length else 0) ≤ s.length := by split <;> omega
 refine Z.go 10 ?_
 refine Z.ca (c := ref_GetVar s hs) 13 (fun _ => ?_)
 refine Z.eq 11 9 (fun g1 => ?_) (fun g1 => ?_)
 ·skip
  refine Z.ne 14 0 (fun g2 => ?_) (fun g2 => ?_)
  ·skip
   have hc : Wire.code (Wire.getVar 0 0 s).2.2 = 30 := by unfold Wire.code; rw [if_pos (by omega)]
   have hn : Wire.rnum s = (0, s, Wire.code (Wire.getVar 0 0 s).2.2) := by unfold Wire.rnum; rw [if_neg (by omega)]
   rw [hn, hc]
   exact hx_ret3 (.inl rfl) rfl rfl rfl rfl () rfl Z.f
  ·omega
 ·skip
  refine Z.ne 14 6 (fun g3 => ?_) (fun g3 => ?_)
  ·skip
   have hc : Wire.code (Wire.getVar 0 0 s).2.2 = (Wire.getVar 0 0 s).2.2 := by unfold Wire.code; rw [if_neg (by omega)]
   have hn : Wire.rnum s = (0, s, Wire.code (Wire.getVar 0 0 s).2.2) := by unfold Wire.rnum; rw [if_neg (by omega)]
   rw [hn, hc]
   exact hx_ret3 (.inl rfl) rfl rfl rfl rfl () rfl Z.f
  ·skip
   refine ht_draw (.op 0 (.op 1 (.op 2 (.op 3 (.op 4 (.op 5 (.op 6 .done))))))) [] Tryz.mixed rfl ?_
   refine Z.dr 3 ?_
   refine hd_ev rfl rfl rfl rfl (EvG.go rfl (ev_sliceS rfl Tryz.underlying9 rfl ⟨_, rfl⟩ rfl (by omega) (by omega))) ?_
   refine Z.dr 3 ?_
   refine hd_nil ?_
   refine Z.xg 2 ?_
   have hg0 : (Wire.getVar 0 0 s).2.2 = 0 := by omega
   have hn : Wire.rnum s = ((Wire.getVar 0 0 s).1, (Wire.getVar 0 0 s).2.1, 0) := by unfold Wire.rnum; rw [if_pos hg0]
   have hd : (s.take s.length).drop (if (Wire.getVar 0 0 s).2.2 = 0 then s.length - (Wire.getVar 0 0 s).2.1.length else 0) = (Wire.getVar 0 0 s).2.1 := by rw [if_pos hg0, List.take_length]; exact Wire.getVar_rest s 0 0 hg0
   rw [hn, hd]
   exact hx_ret3 (.inl rfl) rfl rfl rfl rfl () rfl Z.f
theorem ref_Text (s : List UInt8) (hs : s.length ≤ 1099511627776) : Ctr Tryz.prog 57 #[vS s] [] (fun _ : Unit => vS (Wire.var s.length ++ s)) (fun _ => []) := by
 refine Z.fn Tryz.func57 Tryz.ntmps57 (fun κ F => ?_)
 have hvl := Wire.var_len s.length 10 (Nat.lt_of_le_of_lt hs (by decide)) (by decide)
 refine Z.go 9 ?_
 refine Z.ev (ev_convI rfl ⟨_, Tryz.underlying3⟩ Tryz.underlying24 rfl (by first | exact IntWalk.u64_in _ (by omega) | rfl)) 0 ?_
 refine Z.ca (c := ref_Var s.length (by omega)) 1 (fun _ => ?_)
 refine Z.ev (ev_addS rfl rfl rfl (by omega)) 4 ?_
 exact hx_ret1 (.inl rfl) rfl rfl () rfl Z.f
theorem ref_Take (s : List UInt8) (hs : s.length ≤ 1099511627776) : Ctr Tryz.prog 79 #[.int .i64 1, .int .i64 0, vS s] [] (fun _ : Unit => .tuple #[.agg #[.int .i64 1, .int .u64 0, vS (Wire.rtext s).1, .bool false, .int .i64 0], vS (Wire.rtext s).2.1, .int .i64 (Wire.rtext s).2.2]) (fun _ => []) := by
 refine Z.fn Tryz.func79 Tryz.ntmps79 (fun κ F => ?_)
 have hrl := Wire.rnum_len s
 have hrt := Wire.rnum_lt s
 refine Z.go 2 ?_
 refine Z.al 7 (fun b6 => ?_)
 refine Z.ev (ev_build1 (csl := [_, .int .u64 0, .string (mkS []), .bool false, .int .i64 0]) rfl Tryz.st153 (.cons rfl .nil) (.cons rfl .nil) rfl rfl) 0 ?_
 refine Z.al 0 (fun b9 => ?_)
 refine Z.sA 6 ?_
 refine Z.eq 0 8 (fun g1 => ?_) (fun g1 => ?_)
 ·omega
 ·skip
  refine Z.ca (c := ref_Num s hs) 13 (fun _ => ?_)
  refine Z.ne 5 9 (fun g2 => ?_) (fun g2 => ?_)
  ·skip
   refine Z.la 2 ?_
   refine Z.sA 6 ?_
   have hx : Wire.rtext s = ([], s, (Wire.rnum s).2.2) := by unfold Wire.rtext; rw [if_pos (by omega)]
   rw [hx]
   exact hx_ret3A (.inl rfl) rfl rfl rfl rfl Tryz.underlying153 Tryz.ty153 rfl (cells_pt Z.p (Nat.le_of_ble_eq_true rfl) rfl) () rfl Z.f
  ·skip
   refine Z.eq 0 9 (fun g3 => ?_) (fun g3 => ?_)
   ·omega
   ·skip
    refine Z.eq 11 0 (fun g4 => ?_) (fun g4 => ?_)
    ·skip
     refine Z.lt 0 3 (fun g5 => ?_) (fun g5 => ?_)
     ·omega
     ·skip
      refine Z.ev (ev_convI rfl ⟨_, Tryz.underlying3⟩ Tryz.underlying24 rfl (by first | exact IntWalk.u64_in _ (by omega) | rfl)) 0 ?_
      refine Z.gt 6 10 (fun g6 => ?_) (fun g6 => ?_)
      ·skip
       refine Z.la 1 ?_
       refine Z.sA 6 ?_
       have hx : Wire.rtext s = ([], s, 32) := by unfold Wire.rtext; rw [if_neg (by omega), if_pos (by omega)]
       rw [hx]
       exact hx_ret3A (.inl rfl) rfl rfl rfl rfl Tryz.underlying153 Tryz.ty153 rfl (cells_pt Z.p (Nat.le_of_ble_eq_true rfl) rfl) () rfl Z.f
      ·skip
       refine Z.eq 0 11 (fun g7 => ?_) (fun g7 => ?_)
       ·omega
       ·skip
        refine Z.ev (ev_convI rfl ⟨_, Tryz.underlying3⟩ Tryz.underlying24 rfl (by first | exact IntWalk.u64_in _ (by omega) | rfl)) 0 ?_
        refine Z.gt 5 9 (fun g8 => ?_) (fun g8 => ?_)
        ·skip
         refine Z.la 1 ?_
         refine Z.sA 6 ?_
         have hx : Wire.rtext s = ([], s, 30) := by unfold Wire.rtext; rw [if_neg (by omega), if_neg (by omega), if_pos (by omega)]
         rw [hx]
         exact hx_ret3A (.inl rfl) rfl rfl rfl rfl Tryz.underlying153 Tryz.ty153 rfl (cells_pt Z.p (Nat.le_of_ble_eq_true rfl) rfl) () rfl Z.f
        ·skip
         refine Z.ev (ev_sliceS rfl Tryz.underlying9 rfl rfl ⟨_, rfl⟩ (by omega) (by omega)) 1 ?_
         refine Z.s1 3 ?_
         refine ht_draw (.op 0 (.op 1 (.op 2 (.op 3 (.op 4 (.op 5 (.op 6 .done))))))) [4] Tryz.mixed rfl ?_
         refine Z.dA ?_
         refine Z.dr 2 ?_
         refine hd_ev rfl rfl rfl rfl (EvG.go rfl (ev_sliceS rfl Tryz.underlying9 rfl ⟨_, rfl⟩ rfl (by omega) (by omega))) ?_
         refine Z.dS (hf := fun _ => by (refine FL.ev rfl (EvG.go rfl (ev_sliceS rfl Tryz.underlying9 rfl ⟨_, rfl⟩ rfl (by omega) (by omega))) ?_); (refine FL.pu rfl rfl ?_); (refine FL.pu rfl rfl ?_); (refine FL.skip rfl ?_); exact FL.nil) ?_
         refine Z.dr 2 ?_
         refine hd_nil ?_
         refine Z.xg 2 ?_
         have hx : Wire.rtext s = ((Wire.rnum s).2.1.take (Wire.rnum s).1, (Wire.rnum s).2.1.drop (Wire.rnum s).1, 0) := by unfold Wire.rtext; rw [if_neg (by omega), if_neg (by omega), if_neg (by omega)]
         rw [hx]
         rw [show ((Wire.rnum s).2.1.take (Wire.rnum s).2.1.length).drop (Wire.rnum s).1 = (Wire.rnum s).2.1.drop (Wire.rnum s).1 by rw [List.take_length]]
         exact hx_ret3A (.inl rfl) rfl rfl rfl rfl Tryz.underlying153 Tryz.ty153 rfl (cells_pt Z.p (Nat.le_of_ble_eq_true rfl) rfl) () rfl Z.f
    ·omega
theorem ref_RPut (seq : Nat) (body : List UInt8) (hs : seq < 18446744073709551616) (hb : body.length ≤ 32768) : Ctr Tryz.prog 34 #[.agg #[.int .u64 (seq : Int), vS body]] [] (fun _ : Unit => .tuple #[vS (Wire.put seq body), .int .i64 0]) (fun _ => []) := by
 refine Z.fn Tryz.func34 Tryz.ntmps34 (fun κ F => ?_)
 have hfl := Wire.fields_len seq body hs hb
 have hsl : (Wire.seal_ (Wire.fields seq body)).length = (Wire.fields seq body).length + 4 := by simp [Wire.seal_, Wire.be_len]
 have hbl := Wire.be_len (Wire.seal_ (Wire.fields seq body)).length 4
 have hvl := Wire.var_len seq 10 (Nat.lt_of_lt_of_le hs (by decide)) (by decide)
 have hv2 := Wire.var_len body.length 10 (Nat.lt_of_le_of_lt hb (by decide)) (by decide)
 have ef : Wire.var seq ++ (Wire.var body.length ++ body) = Wire.fields seq body := by simp [Wire.fields]
 refine Z.go 2 ?_
 refine Z.bA 8 (fun b1 => ?_)
 refine Z.ld 1 ?_
 refine Z.gt 0 6 (fun g1 => ?_) (fun g1 => ?_)
 ·omega
 ·skip
  refine ht_draw (.op 0 (.op 1 (.op 3 (.op 4 (.op 2 (.op 5 (.op 6 (.op 7 (.op 8 .done))))))))) [2, 5, 7] Tryz.mixed rfl ?_
  refine Z.dr 1 ?_
  refine Z.dl ?_
  refine Z.dr 1 ?_
  refine Z.dl ?_
  refine Z.dc (c := ref_Var seq hs) (fun _ => ?_)
  refine Z.dc (c := ref_Text body (by omega)) (fun _ => ?_)
  refine hd_ev rfl rfl rfl rfl (EvG.go rfl (ev_addS rfl rfl rfl (by first | omega | (simp only [List.length_append]; omega)))) ?_
  rw [ef]
  refine Z.dc (c := ref_Seal (Wire.fields seq body) (by omega)) (fun _ => ?_)
  refine Z.dr 1 ?_
  refine hd_nil ?_
  refine Z.xg 5 ?_
  refine Z.ev (ev_convI rfl ⟨_, Tryz.underlying3⟩ Tryz.underlying24 rfl (by first | exact IntWalk.u64_in _ (by omega) | rfl)) 0 ?_
  refine Z.ca (c := ref_Put (Wire.seal_ (Wire.fields seq body)).length 4 (by decide) (by decide) (by omega) (Nat.div_eq_of_lt (by omega))) 11 (fun _ => ?_)
  refine Z.ev (ev_addS rfl rfl rfl (by first | omega | (simp only [List.length_append]; omega))) 5 ?_
  exact hx_ret2 (.inl rfl) rfl rfl rfl () rfl Z.f
theorem ref_RGet (b : List UInt8) (hb : b.length ≤ 1099511627776) : Ctr Tryz.prog 52 #[vS b] [] (fun _ : Unit => .tuple #[.agg #[.int .u64 (((Wire.getV b).1 : Nat) : Int), vS (Wire.getV b).2.1], .int .i64 (((Wire.getV b).2.2.1 : Nat) : Int), .bool (Wire.getV b).2.2.2]) (fun _ => []) := by
 refine Z.fn Tryz.func52 Tryz.ntmps52 (fun κ F => ?_)
 have hdl : (b.drop 4).length = b.length - 4 := List.length_drop
 have hof : (Wire.ofBe (b.take 4)) < 4294967296 := Nat.lt_of_lt_of_le (Wire.ofBe_lt _) (by have h : (256 : Nat) ^ (b.take 4).length ≤ 256 ^ 4 := Nat.pow_le_pow_right (by decide) (by rw [List.length_take]; omega); exact h)
 refine Z.go 2 ?_
 refine Z.al 6 (fun b2 => ?_)
 refine Z.ev (ev_build1 (csl := [.int .u64 0, .string (mkS [])]) rfl Tryz.st71 .nil .nil rfl rfl) 0 ?_
 refine Z.al 0 (fun b5 => ?_)
 refine Z.sA 7 ?_
 refine Z.lt 5 8 (fun g1 => ?_) (fun g1 => ?_)
 ·skip
  refine Z.la 0 ?_
  refine Z.sA 6 ?_
  rw [Wire.getV_none (b := b) (Wire.get_short (by omega))]
  exact hx_ret3A (.inl rfl) rfl rfl rfl rfl Tryz.underlying71 Tryz.ty71 rfl (cells_pt Z.p (Nat.le_of_ble_eq_true rfl) rfl) () rfl Z.f
 ·skip
  refine Z.ev (ev_sliceS (j := 4) rfl Tryz.underlying9 rfl rfl ⟨_, rfl⟩ (by omega) (by omega)) 0 ?_
  rw [List.drop_zero]
  refine Z.ca (c := ref_Get (b.take 4) (by rw [List.length_take]; omega)) 9 (fun _ => ?_)
  refine Z.sb (r := ((b.length - 4 : Nat) : Int)) (hw := by rw [in_i64 (by omega)]; omega) 0 ?_
  refine Z.ev (ev_convI rfl ⟨_, Tryz.underlying3⟩ Tryz.underlying24 rfl (by first | exact IntWalk.u64_in _ (by omega) | rfl)) 0 ?_
  refine Z.gt 5 9 (fun g2 => ?_) (fun g2 => ?_)
  ·skip
   refine Z.la 0 ?_
   refine Z.sA 6 ?_
   rw [Wire.getV_none (b := b) (Wire.get_cutoff (by omega))]
   exact hx_ret3A (.inl rfl) rfl rfl rfl rfl Tryz.underlying71 Tryz.ty71 rfl (cells_pt Z.p (Nat.le_of_ble_eq_true rfl) rfl) () rfl Z.f
  ·skip
   refine Z.ad (r := ((4 + (Wire.ofBe (b.take 4)) : Nat) : Int)) (hw := by exact (IntWalk.u64_in _ (by omega)).trans (by omega)) 0 ?_
   refine Z.ev (ev_sliceS (i := 4) rfl Tryz.underlying9 rfl ⟨_, rfl⟩ ⟨_, rfl⟩ (by omega) (by omega)) 0 ?_
   rw [show (b.take (4 + (Wire.ofBe (b.take 4)))).drop 4 = ((b.drop 4).take (Wire.ofBe (b.take 4))) by rw [List.drop_take]; congr 1; omega]
   have hsl : ((b.drop 4).take (Wire.ofBe (b.take 4))).length = (Wire.ofBe (b.take 4)) := by rw [List.length_take]; omega
   have hol := Wire.openS_len ((b.drop 4).take (Wire.ofBe (b.take 4)))
   refine Z.ca (c := ref_Open ((b.drop 4).take (Wire.ofBe (b.take 4))) (by omega)) 11 (fun _ => ?_)
   refine Z.ne 5 8 (fun g3 => ?_) (fun g3 => ?_)
   ·skip
    refine Z.la 0 ?_
    refine Z.sA 6 ?_
    rw [Wire.getV_none (b := b) (Wire.get_wrong (by omega))]
    exact hx_ret3A (.inl rfl) rfl rfl rfl rfl Tryz.underlying71 Tryz.ty71 rfl (cells_pt Z.p (Nat.le_of_ble_eq_true rfl) rfl) () rfl Z.f
   ·skip
    refine Z.ca (c := ref_Num (Wire.openS ((b.drop 4).take (Wire.ofBe (b.take 4)))).1 (by omega)) 0 (fun _ => ?_)
    have hrl := Wire.rnum_len (Wire.openS ((b.drop 4).take (Wire.ofBe (b.take 4)))).1
    refine Z.og 12 ?_
    refine Z.ca (c := ref_Take (Wire.rnum (Wire.openS ((b.drop 4).take (Wire.ofBe (b.take 4)))).1).2.1 (by omega)) 4 (fun _ => ?_)
    refine Z.al 0 (fun b12 => ?_)
    refine Z.sA 8 ?_
    refine Z.ne 19 2 (fun g4 => ?_) (fun g4 => ?_)
    ·skip
     refine Z.la 0 ?_
     refine Z.sA 6 ?_
     have hno : Wire.openRec (Wire.openS ((b.drop 4).take (Wire.ofBe (b.take 4)))).1 = none := by rw [Wire.openRec_ref, if_neg (by rintro ⟨h1, h2, h3, h4⟩; first | omega | exact g61 h3)]
     rw [Wire.getV_none (b := b) (by rw [Wire.get_open (by omega) (by omega) (by omega), hno]; rfl)]
     exact hx_ret3A (.inl rfl) rfl rfl rfl rfl Tryz.underlying71 Tryz.ty71 rfl (cells_pt Z.p (Nat.le_of_ble_eq_true rfl) rfl) () rfl Z.f
    ·skip
     refine Z.ne 16 3 (fun g5 => ?_) (fun g5 => ?_)
     ·skip
      refine Z.la 0 ?_
      refine Z.sA 6 ?_
      have hno : Wire.openRec (Wire.openS ((b.drop 4).take (Wire.ofBe (b.take 4)))).1 = none := by rw [Wire.openRec_ref, if_neg (by rintro ⟨h1, h2, h3, h4⟩; first | omega | exact g61 h3)]
      rw [Wire.getV_none (b := b) (by rw [Wire.get_open (by omega) (by omega) (by omega), hno]; rfl)]
      exact hx_ret3A (.inl rfl) rfl rfl rfl rfl Tryz.underlying71 Tryz.ty71 rfl (cells_pt Z.p (Nat.le_of_ble_eq_true rfl) rfl) () rfl Z.f
     ·skip
      refine Z.neS 12 3 (fun g61 => ?_) (fun g61 => ?_)
      ·skip
       refine Z.la 0 ?_
       refine Z.sA 6 ?_
       have hno : Wire.openRec (Wire.openS ((b.drop 4).take (Wire.ofBe (b.take 4)))).1 = none := by rw [Wire.openRec_ref, if_neg (by rintro ⟨h1, h2, h3, h4⟩; first | omega | exact g61 h3)]
       rw [Wire.getV_none (b := b) (by rw [Wire.get_open (by omega) (by omega) (by omega), hno]; rfl)]
       exact hx_ret3A (.inl rfl) rfl rfl rfl rfl Tryz.underlying71 Tryz.ty71 rfl (cells_pt Z.p (Nat.le_of_ble_eq_true rfl) rfl) () rfl Z.f
      ·skip
       refine Z.ld 1 ?_
       refine Z.gt 6 10 (fun g6 => ?_) (fun g6 => ?_)
       ·skip
        refine Z.la 0 ?_
        refine Z.sA 6 ?_
        have hno : Wire.openRec (Wire.openS ((b.drop 4).take (Wire.ofBe (b.take 4)))).1 = none := by rw [Wire.openRec_ref, if_neg (by rintro ⟨h1, h2, h3, h4⟩; first | omega | exact g61 h3)]
        rw [Wire.getV_none (b := b) (by rw [Wire.get_open (by omega) (by omega) (by omega), hno]; rfl)]
        exact hx_ret3A (.inl rfl) rfl rfl rfl rfl Tryz.underlying71 Tryz.ty71 rfl (cells_pt Z.p (Nat.le_of_ble_eq_true rfl) rfl) () rfl Z.f
       ·skip
        refine Z.ld 0 ?_
        refine Z.ev (ev_build1 (csl := [_, _]) rfl Tryz.st71 (.cons rfl (.cons rfl .nil)) (.cons rfl (.cons rfl .nil)) rfl rfl) 1 ?_
        refine Z.ev (ev_convI (r := (((Wire.ofBe (b.take 4)) : Nat) : Int)) rfl ⟨_, Tryz.underlying24⟩ Tryz.underlying3 rfl (by exact in_i64 (by omega))) 0 ?_
        refine Z.ad (r := ((4 + (Wire.ofBe (b.take 4)) : Nat) : Int)) (hw := by rw [in_i64 (by omega)]; rfl) 0 ?_
        refine Z.sA 5 ?_
        have hyes : Wire.openRec (Wire.openS ((b.drop 4).take (Wire.ofBe (b.take 4)))).1 = some ((Wire.rnum (Wire.openS ((b.drop 4).take (Wire.ofBe (b.take 4)))).1).1, (Wire.rtext (Wire.rnum (Wire.openS ((b.drop 4).take (Wire.ofBe (b.take 4)))).1).2.1).1) := by rw [Wire.openRec_ref, if_pos ⟨by omega, by omega, g61, by omega⟩]
        rw [Wire.getV_some (b := b) (by rw [Wire.get_open (by omega) (by omega) (by omega), hyes]; rfl)]
        exact hx_ret3A (.inl rfl) rfl rfl rfl rfl Tryz.underlying71 Tryz.ty71 rfl (cells_pt Z.p (Nat.le_of_ble_eq_true rfl) rfl) () rfl Z.f
end Go.Proofs.YtlejcepbcfijiaaGreatDoor
