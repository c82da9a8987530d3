/-
  PACKAGES code AND record: the walks. Conditions: as each contract says.
-/
import Derived.Test.YtlejcepbcfijiaaGreatDoorWire
set_option maxRecDepth 100000
set_option linter.unusedVariables false
set_option linter.unusedSimpArgs false
namespace Go.Proofs.YtlejcepbcfijiaaGreatDoor
open Go Go.SL


/-- block p is a reader -/
def rdC (p : Nat) (r : Wire.Rd) (x : Option Addr × Nat) : List Assn := [pt p (.cells #[.slice x.1 r.b.length x.2, .int .i64 r.err] 169 (0, 0)), ro (roS x.1 r.b.length r.b), pu (r.b.length ≤ x.2)]
def RdAt (p : Nat) (r : Wire.Rd) : Assn := ex fun x : Option Addr × Nat => star (rdC p r x)
/-- block p is a writer of these bytes -/
def wrC (p : Nat) (b : List UInt8) (x : Option Addr × Nat) : List Assn := [pt p (.cells #[.slice x.1 b.length x.2, .int .i64 0] 179 (0, 0)), ownS 5 x.1 b.length x.2 b]
def WrAt (p : Nat) (b : List UInt8) : Assn := ex fun x : Option Addr × Nat => star (wrC p b x)
section
variable {P : Program} {κ : World} {n : Nat} {L M R R' : List Assn} {ρ : Env} {ops : Array Oper} {l : List Oper} {Q : Exit → Act → World → Prop}
theorem ht_rd {p : Nat} {r : Wire.Rd} {c : Code} (k : Pick (RdAt p r) L R) (h : ∀ (a : Option Addr) (c' : Nat), r.b.length ≤ c' → HT P κ n (pt p (.cells #[.slice a r.b.length c', .int .i64 r.err] 169 (0, 0)) :: ro (roS a r.b.length r.b) :: R) ρ c Q) : HT P κ n L ρ c Q :=
  ht_pick k (ht_ex fun x => ht_star (.cons (.cons (.cons .nil))) (ht_pick (.there (.there .here)) (ht_pure fun hx => h x.1 x.2 hx)))
theorem ho_rd {p : Nat} {r : Wire.Rd} (k : Pick (RdAt p r) L R) (h : ∀ (a : Option Addr) (c' : Nat), r.b.length ≤ c' → HOps P κ n ops (pt p (.cells #[.slice a r.b.length c', .int .i64 r.err] 169 (0, 0)) :: ro (roS a r.b.length r.b) :: R) ρ l Q) : HOps P κ n ops L ρ l Q := fun a w ha hw => by
  obtain ⟨x, hx⟩ := (hw.ent (Ent.pick k)).exists
  have h2 := hx.unstar
  have h3 : Sat κ (pu (r.b.length ≤ x.2) :: pt p (.cells #[.slice x.1 r.b.length x.2, .int .i64 r.err] 169 (0, 0)) :: ro (roS x.1 r.b.length r.b) :: R) w := h2.ent (Ent.pick (.there (.there .here)))
  exact h x.1 x.2 h3.pure a w ha h3.tail
theorem Ent.rd {p m : Nat} {r : Wire.Rd} {a : Option Addr} {c : Nat} {e : Int} {b : List UInt8} (k1 : Pick (pt p (.cells #[.slice a m c, .int .i64 e] 169 (0, 0))) L R) (k2 : Pick (ro (roS a m b)) L R') (hm : m = r.b.length) (hb : b = r.b) (he : e = r.err) (hc : m ≤ c) (h : Ent R M) : Ent L (RdAt p r :: M) := by
  subst hm hb he
  exact (Ent.roD k2 (Ent.refl _)).trans ((Ent.pick (.there k1)).trans (Ent.ex (a, c) (Ent.star (Ent.cons .here (Ent.cons .here (Ent.pu hc h))))))
theorem ht_wr {p : Nat} {b : List UInt8} {c : Code} (k : Pick (WrAt p b) L R) (h : ∀ (a : Option Addr) (c' : Nat), HT P κ n (pt p (.cells #[.slice a b.length c', .int .i64 0] 179 (0, 0)) :: ownS 5 a b.length c' b :: R) ρ c Q) : HT P κ n L ρ c Q :=
  ht_pick k (ht_ex fun x => ht_star (.cons (.cons .nil)) (h x.1 x.2))
theorem Ent.wr {p m : Nat} {b b' : List UInt8} {a : Option Addr} {c : Nat} (k : Picks [pt p (.cells #[.slice a m c, .int .i64 0] 179 (0, 0)), ownS 5 a m c b'] L R) (hm : m = b.length) (hb : b' = b) (h : Ent R M) : Ent L (WrAt p b :: M) := by
  subst hm hb
  exact Ent.ex (a, c) (Ent.star (k.ent.trans (Ent.cons .here (Ent.cons .here h))))
end


/-- numbers, texts behind bytes -/
def nums (b : List UInt8) (xs : List UNum) : List UInt8 := xs.foldl (fun b x => b ++ Wire.var x.v) b
def texts (b : List UInt8) (xs : List Str) : List UInt8 := xs.foldl (fun b x => b ++ Wire.var x.s.length ++ x.s) b
theorem nums_step (b : List UInt8) (xs : List UNum) (i : Nat) (x : UNum) (h : xs[i]? = some x) : nums b (xs.take (i + 1)) = nums b (xs.take i) ++ Wire.var x.v := by rw [List.take_add_one, h]; simp [nums, List.foldl_append]
theorem texts_step (b : List UInt8) (xs : List Str) (i : Nat) (x : Str) (h : xs[i]? = some x) : texts b (xs.take (i + 1)) = texts b (xs.take i) ++ Wire.var x.s.length ++ x.s := by rw [List.take_add_one, h]; simp [texts, List.foldl_append]
theorem nums_len : ∀ (xs : List UNum) (b : List UInt8), (∀ x ∈ xs, x.v < 18446744073709551616) → (nums b xs).length ≤ b.length + 10 * xs.length
  | [], b, _ => by simp [nums]
  | x :: xs, b, h => by
    have h1 := nums_len xs (b ++ Wire.var x.v) (fun y hy => h y (by simp [hy]))
    have h2 := Wire.var_len x.v 10 (Nat.lt_of_lt_of_le (h x (by simp)) (by decide)) (by decide)
    simp only [nums, List.foldl_cons, List.length_append, List.length_cons] at h1 ⊢
    omega
theorem texts_len : ∀ (xs : List Str) (b : List UInt8), (∀ x ∈ xs, x.s.length ≤ 65536) → (texts b xs).length ≤ b.length + 65546 * xs.length
  | [], b, _ => by simp [texts]
  | x :: xs, b, h => by
    have h1 := texts_len xs (b ++ Wire.var x.s.length ++ x.s) (fun y hy => h y (by simp [hy]))
    have h0 := h x (by simp)
    have h2 := Wire.var_len x.s.length 10 (Nat.lt_of_le_of_lt h0 (by decide)) (by decide)
    simp only [texts, List.foldl_cons, List.length_append, List.length_cons] at h1 ⊢
    omega
theorem take_ok {r : Wire.Rd} (h : r.take.2.2.1 = true) : r.take.2.2.2 = r ∧ r.err = 0 := by
  unfold Wire.Rd.take at h ⊢
  split
  · rename_i c
    rw [if_pos c] at h
    split
    · exact ⟨rfl, c⟩
    · rename_i c2; rw [if_neg c2] at h; cases h
  · rename_i c; rw [if_neg c] at h; cases h
theorem take_no {r : Wire.Rd} (h : r.take.2.2.1 = false) : r.take.1 = 0 ∧ r.take.2.1 = [] := by
  unfold Wire.Rd.take at h ⊢
  split
  · rename_i c
    rw [if_pos c] at h
    split
    · rename_i c2; rw [if_pos c2] at h; cases h
    · exact ⟨rfl, rfl⟩
  · exact ⟨rfl, rfl⟩
theorem fail_b (r : Wire.Rd) (e : Int) : (r.fail e).b = r.b := by unfold Wire.Rd.fail; split <;> rfl
theorem take_b (r : Wire.Rd) : r.take.2.2.2.b = r.b := by
  unfold Wire.Rd.take
  split
  · split
    · rfl
    · exact fail_b _ _
  · rfl
theorem below_ok {r : Wire.Rd} {m : Nat} (h : (r.below m).2.2.1 = true) : (r.below m).2.2.2 = r ∧ (r.below m).1 ≤ m := by
  unfold Wire.Rd.below at h ⊢
  split
  · rename_i c
    rw [if_pos c] at h
    split
    · rename_i c2; rw [if_pos c2] at h; cases h
    · rename_i c2; exact ⟨rfl, by show r.take.1 ≤ m; omega⟩
  · rename_i c; rw [if_neg c] at h; cases h
theorem take_len (r : Wire.Rd) : r.take.2.1.length ≤ r.b.length := by
  unfold Wire.Rd.take
  split
  · split
    · exact Wire.getVar_len _ _ _
    · simp
  · simp
theorem below_len (r : Wire.Rd) (m : Nat) : (r.below m).2.1.length ≤ r.b.length := by
  have := take_len r
  unfold Wire.Rd.below
  split
  · split
    · simp
    · exact this
  · simp

theorem code_Write : Ctr Tryz.prog 82 #[] [] (fun p : Nat => .pointer (some ⟨p, 0, none⟩)) (fun p => [WrAt p []]) := by
 refine Z.fn Tryz.func82 Tryz.ntmps82 (fun κ F => ?_)
 refine Z.go 7 ?_
 refine Z.ev (ev_build1 (csl := [.slice none 0 0, .int .i64 0]) rfl Tryz.st179 .nil .nil rfl rfl) 0 ?_
 refine Z.bA 4 (fun b2 => ?_)
 exact hx_ret1 (.inl rfl) rfl rfl b2 rfl ((ownS_nil (α := UInt8) 5).trans (Ent.wr (a := none) (c := 0) Z.d rfl rfl Z.f))
theorem code_Num (p : Nat) (b : List UInt8) (a : Option Addr) (c : Nat) (xs : List UNum) (hxs : ∀ x ∈ xs, x.v < 18446744073709551616) (hb : b.length + 10 * xs.length ≤ 1099511627776) : Ctr Tryz.prog 83 #[.pointer (some ⟨p, 0, none⟩), .slice a xs.length c] [WrAt p b, ro (roS a xs.length xs)] (fun _ : Unit => .tuple #[]) (fun _ => [WrAt p (nums b xs)]) := by
 refine Z.fn Tryz.func83 Tryz.ntmps83 (fun κ F => ?_)
 refine Z.go 8 ?_
 refine Z.lo (fun q : Nat => ([WrAt p (nums b (xs.take q)), ro (roS a xs.length xs), pu (q ≤ xs.length), F], [(0, .pointer (some ⟨p, 0, none⟩)), (6, .slice a xs.length c), (7, .int .i64 xs.length), (8, .int .i64 q)])) (fun q : Nat => xs.length - q) 0 ?_ (fun q => ?_)
 ·(first | dsimp only | skip)
  exact Ent.cons Z.k (Ent.roD Z.p (Ent.pu (by omega) Z.f))
 dsimp only
 refine ht_pick (A := pu (q ≤ xs.length)) Z.k (ht_pure fun hq => ?_)
 refine Z.go 2 ?_
 refine Z.lt 9 8 (fun g1 => ?_) (fun g1 => ?_)
 ·skip
  obtain ⟨x, hx⟩ : ∃ x, xs[q]? = some x := ⟨_, List.getElem?_eq_getElem (by omega)⟩
  have hx64 := hxs x (List.mem_of_getElem? hx)
  refine ht_someS (α := UNum) (reads_ro Z.p) (by omega) (fun ab ao ha => ?_)
  have hnl := nums_len (xs.take q) b (fun y hy => hxs y (List.mem_of_mem_take hy))
  have htl : (xs.take q).length = q := by rw [List.length_take]; omega
  refine Z.go 1 ?_
  refine Z.ev (ev_indexAddr rfl Tryz.underlying180 Tryz.ty24 (congrArg (fun z => some (Value.slice z xs.length c)) ha) rfl (by omega) (by omega)) 0 ?_
  refine Z.ld (hc := by exact cell_Sa0 ha (reads_ro Z.p) hx rfl) 4 ?_
  refine ht_wr Z.p (fun wa wc => ?_)
  refine Z.go 4 ?_
  refine Z.ld 0 ?_
  refine Z.eq 8 0 (fun g2 => ?_) (fun g2 => ?_)
  ·skip
   refine Z.ld 1 ?_
   refine ho_freezeS (α := UInt8) Z.p ?_
   refine Z.ca (c := num_PutVar _ _ _ x.v hx64 (by omega)) 2 (fun y => ?_)
   refine Z.s1 4 ?_
   refine Z.ad 2 ?_
   refine Z.ag (q + 1) (by (first | dsimp only | skip); omega) ?_
   (first | dsimp only | skip)
   refine Ent.trans (Ent.wr (b := nums b (xs.take (q + 1))) Z.d (by rw [nums_step b xs q x hx]) (by rw [nums_step b xs q x hx]) (Ent.refl _)) ?_
   exact Ent.cons Z.k (Ent.roD Z.p (Ent.pu (by omega) Z.f))
  ·omega
 ·skip
  obtain rfl : q = xs.length := by omega
  rw [List.take_length]
  exact hx_ret0 (.inr rfl) rfl () rfl (Ent.cons Z.k Z.f)
theorem code_Text (p : Nat) (b : List UInt8) (a : Option Addr) (c : Nat) (xs : List Str) (hxs : ∀ x ∈ xs, x.s.length ≤ 65536) (hb : b.length + 65546 * xs.length ≤ 1099511627776) : Ctr Tryz.prog 84 #[.pointer (some ⟨p, 0, none⟩), .slice a xs.length c] [WrAt p b, ro (roS a xs.length xs)] (fun _ : Unit => .tuple #[]) (fun _ => [WrAt p (texts b xs)]) := by
 refine Z.fn Tryz.func84 Tryz.ntmps84 (fun κ F => ?_)
 refine Z.go 8 ?_
 refine Z.lo (fun q : Nat => ([WrAt p (texts b (xs.take q)), ro (roS a xs.length xs), pu (q ≤ xs.length), F], [(0, .pointer (some ⟨p, 0, none⟩)), (6, .slice a xs.length c), (7, .int .i64 xs.length), (8, .int .i64 q)])) (fun q : Nat => xs.length - q) 0 ?_ (fun q => ?_)
 ·(first | dsimp only | skip)
  exact Ent.cons Z.k (Ent.roD Z.p (Ent.pu (by omega) Z.f))
 dsimp only
 refine ht_pick (A := pu (q ≤ xs.length)) Z.k (ht_pure fun hq => ?_)
 refine Z.go 2 ?_
 refine Z.lt 9 8 (fun g1 => ?_) (fun g1 => ?_)
 ·skip
  obtain ⟨x, hx⟩ : ∃ x, xs[q]? = some x := ⟨_, List.getElem?_eq_getElem (by omega)⟩
  have hx16 := hxs x (List.mem_of_getElem? hx)
  refine ht_someS (α := Str) (reads_ro Z.p) (by omega) (fun ab ao ha => ?_)
  have hnl := texts_len (xs.take q) b (fun y hy => hxs y (List.mem_of_mem_take hy))
  have htl : (xs.take q).length = q := by rw [List.length_take]; omega
  have hvl := Wire.var_len x.s.length 10 (Nat.lt_of_le_of_lt hx16 (by decide)) (by decide)
  refine Z.go 1 ?_
  refine Z.ev (ev_indexAddr rfl Tryz.underlying182 Tryz.ty9 (congrArg (fun z => some (Value.slice z xs.length c)) ha) rfl (by omega) (by omega)) 0 ?_
  refine Z.ld (hc := by exact cell_Sa0 ha (reads_ro Z.p) hx rfl) 8 ?_
  refine Z.gt 0 17 (fun g2 => ?_) (fun g2 => ?_)
  ·omega
  ·skip
   refine Z.ev (ev_convI rfl ⟨_, Tryz.underlying3⟩ Tryz.underlying24 rfl (by first | exact IntWalk.u64_in _ (by omega) | rfl)) 0 ?_
   refine Z.ef (eff_buildAll (α := UNum) [UNum.mk x.s.length] rfl Tryz.underlying180 Tryz.ty24 (.cons rfl .nil) (.cons rfl .nil) rfl (Nat.le_of_ble_eq_true rfl)) 0 (fun b29 => ?_)
   refine ho_freezeS (α := UNum) Z.p ?_
   refine Z.cd (c := code_Num p (texts b (xs.take q)) _ _ [UNum.mk x.s.length] (by intro y hy; simp at hy; subst hy; show x.s.length < _; omega) (by simp only [List.length_cons, List.length_nil]; omega)) 3 (fun _ => ?_)
   refine ht_wr Z.p (fun wa wc => ?_)
   have hwl : (nums (texts b (xs.take q)) [UNum.mk x.s.length]).length = (texts b (xs.take q)).length + (Wire.var x.s.length).length := by simp [nums]
   refine Z.go 4 ?_
   refine Z.ld 0 ?_
   refine Z.eq 8 0 (fun g3 => ?_) (fun g3 => ?_)
   ·skip
    refine Z.ld 1 ?_
    refine Z.ef (eff_appendS rfl Tryz.underlying73 Tryz.ty5 rfl (by decide) Tryz.underlying9 rfl rfl Z.p (by omega)) 2 (fun p42 => ?_)
    refine Z.s1 4 ?_
    refine Z.ad 2 ?_
    refine Z.ag (q + 1) (by (first | dsimp only | skip); omega) ?_
    (first | dsimp only | skip)
    refine Ent.trans (Ent.wr (b := texts b (xs.take (q + 1))) Z.d (by rw [texts_step b xs q x hx]; rfl) (by rw [texts_step b xs q x hx]; rfl) (Ent.refl _)) ?_
    exact Ent.cons Z.k (Ent.roD Z.p (Ent.pu (by omega) Z.f))
   ·omega
 ·skip
  obtain rfl : q = xs.length := by omega
  rw [List.take_length]
  exact hx_ret0 (.inr rfl) rfl () rfl (Ent.cons Z.k Z.f)
theorem code_Bytes (p : Nat) (b : List UInt8) (hb : b.length ≤ 1099511627776) : Ctr Tryz.prog 85 #[.pointer (some ⟨p, 0, none⟩)] [WrAt p b] (fun q : Option Addr × Nat => .tuple #[.slice q.1 b.length q.2, .int .i64 0]) (fun q => [ownS 5 q.1 b.length q.2 b]) := by
 refine Z.fn Tryz.func85 Tryz.ntmps85 (fun κ F => ?_)
 refine ht_wr Z.p (fun wa wc => ?_)
 refine Z.go 12 ?_
 refine Z.ld 0 ?_
 refine Z.ne 0 7 (fun g1 => ?_) (fun g1 => ?_)
 ·omega
 ·skip
  refine Z.ef (eff_buildAll (α := UInt8) [] rfl Tryz.underlying73 Tryz.ty5 .nil .nil rfl (Nat.le_of_ble_eq_true rfl)) 3 (fun b13 => ?_)
  refine Z.ld 0 ?_
  refine Z.ef (eff_append (α := UInt8) rfl Tryz.underlying73 Tryz.ty5 rfl (by decide) Tryz.underlying73 rfl rfl Z.p (by first | exact reads_ro Z.p | exact reads_own Z.p | exact reads_nil _) (by first | omega | (simp only [List.length_append, List.length_cons, List.length_nil, List.length_drop, List.length_take]; omega) | (simp; omega))) 5 (fun p18 => ?_)
  rw [List.nil_append]
  exact hx_ret2 (.inl rfl) rfl rfl rfl p18 rfl (Ent.cons Z.k Z.f)
theorem code_Read (a : Option Addr) (c : Nat) (b : List UInt8) (hb : b.length ≤ 1099511627776) : Ctr Tryz.prog 68 #[.slice a b.length c] [ro (roS a b.length b)] (fun p : Nat => .pointer (some ⟨p, 0, none⟩)) (fun p => [RdAt p ⟨b, 0⟩]) := by
 refine Z.fn Tryz.func68 Tryz.ntmps68 (fun κ F => ?_)
 refine Z.go 7 ?_
 refine Z.ef (eff_buildAll (α := UInt8) [] rfl Tryz.underlying73 Tryz.ty5 .nil .nil rfl (Nat.le_of_ble_eq_true rfl)) 1 (fun b3 => ?_)
 refine Z.ef (eff_append (α := UInt8) rfl Tryz.underlying73 Tryz.ty5 rfl (by decide) Tryz.underlying73 rfl rfl Z.p (by first | exact reads_ro Z.p | exact reads_own Z.p | exact reads_nil _) (by first | omega | (simp only [List.length_append, List.length_cons, List.length_nil, List.length_drop, List.length_take]; omega) | (simp; omega))) 0 (fun p5 => ?_)
 refine Z.ev (ev_build1 (csl := [_, .int .i64 0]) rfl Tryz.st169 (.cons rfl .nil) (.cons rfl .nil) rfl rfl) 0 ?_
 refine Z.bA 4 (fun b7 => ?_)
 refine hx_cap (xs := [] ++ b) Z.p (fun hl hcap => ?_)
 refine hx_freezeS (xs := [] ++ b) Z.p ?_
 exact hx_ret1 (.inl rfl) rfl rfl b7 rfl (Ent.rd (r := ⟨b, 0⟩) (b := [] ++ b) Z.k Z.k rfl rfl rfl hcap Z.f)
theorem code_fail (p : Nat) (r : Wire.Rd) (e : Int) : Ctr Tryz.prog 90 #[.pointer (some ⟨p, 0, none⟩), .int .i64 e] [RdAt p r] (fun _ : Unit => .bool false) (fun _ => [RdAt p (r.fail e)]) := by
 refine Z.fn Tryz.func90 Tryz.ntmps90 (fun κ F => ?_)
 refine ht_rd Z.p (fun ra rc hrc => ?_)
 refine Z.go 11 ?_
 refine Z.ld 0 ?_
 refine Z.eq 8 11 (fun g1 => ?_) (fun g1 => ?_)
 ·skip
  refine Z.s1 8 ?_
  by_cases h0 : r.err = 0
  ·have hf : r.fail e = ⟨r.b, e⟩ := by unfold Wire.Rd.fail; rw [if_pos h0]
   first | (exfalso; omega) | (rw [hf]; exact hx_ret1 (.inl rfl) rfl rfl () rfl (Ent.rd (b := r.b) Z.k Z.k rfl rfl rfl hrc Z.f))
  ·have hf : r.fail e = r := by unfold Wire.Rd.fail; rw [if_neg h0]
   first | (exfalso; omega) | (rw [hf]; exact hx_ret1 (.inl rfl) rfl rfl () rfl (Ent.rd (b := r.b) Z.k Z.k rfl rfl rfl hrc Z.f))
 ·skip
  by_cases h0 : r.err = 0
  ·have hf : r.fail e = ⟨r.b, e⟩ := by unfold Wire.Rd.fail; rw [if_pos h0]
   first | (exfalso; omega) | (rw [hf]; exact hx_ret1 (.inl rfl) rfl rfl () rfl (Ent.rd (b := r.b) Z.k Z.k rfl rfl rfl hrc Z.f))
  ·have hf : r.fail e = r := by unfold Wire.Rd.fail; rw [if_neg h0]
   first | (exfalso; omega) | (rw [hf]; exact hx_ret1 (.inl rfl) rfl rfl () rfl (Ent.rd (b := r.b) Z.k Z.k rfl rfl rfl hrc Z.f))
theorem code_take (p : Nat) (r : Wire.Rd) (hb : r.b.length ≤ 1099511627776) : Ctr Tryz.prog 88 #[.pointer (some ⟨p, 0, none⟩)] [RdAt p r] (fun q : Option Addr × Nat => .tuple #[.int .u64 ((r.take.1 : Nat) : Int), .slice q.1 r.take.2.1.length q.2, .bool r.take.2.2.1]) (fun q => [RdAt p r.take.2.2.2, ro (roS q.1 r.take.2.1.length r.take.2.1), pu (r.take.2.1.length ≤ q.2)]) := by
 refine Z.fn Tryz.func88 Tryz.ntmps88 (fun κ F => ?_)
 refine ht_rd Z.p (fun ra rc hrc => ?_)
 refine Z.go 13 ?_
 refine Z.ld 0 ?_
 refine Z.ne 12 10 (fun g1 => ?_) (fun g1 => ?_)
 ·skip
  have ht : r.take = (0, [], false, r) := by unfold Wire.Rd.take; rw [if_neg (by omega)]
  rw [ht]
  exact hx_ret3 (.inl rfl) rfl rfl rfl rfl (none, 0) rfl (Ent.rd (b := r.b) Z.k Z.k rfl rfl rfl hrc (Ent.roTrue (ψ := roS (α := UInt8) none 0 []) (fun r => SliceIn.empty _ _) (Ent.pu (Nat.le_refl _) Z.f)))
 ·skip
  refine Z.ld 0 ?_
  refine Z.ca (c := num_GetVar ra rc r.b hrc hb) 18 (fun y => ?_)
  refine Z.eq 16 6 (fun g2 => ?_) (fun g2 => ?_)
  ·skip
   have ht : r.take = ((Wire.getVar 0 0 r.b).1, (Wire.getVar 0 0 r.b).2.1, true, r) := by unfold Wire.Rd.take; rw [if_pos (by omega), if_pos (by omega)]
   rw [ht]
   refine hx_pick (A := pu ((Wire.getVar 0 0 r.b).2.1.length ≤ y.2)) Z.k (hx_pure fun hyc => ?_)
   exact hx_ret3 (.inl rfl) rfl rfl rfl rfl y rfl (Ent.rd (b := r.b) Z.k Z.k rfl rfl rfl hrc (Ent.roD Z.p (Ent.pu hyc Z.f)))
  ·skip
   refine Z.eq 13 11 (fun g3 => ?_) (fun g3 => ?_)
   ·skip
    refine ho_ent (Ent.rd (r := r) (b := r.b) Z.k Z.k rfl rfl rfl hrc (Ent.refl _)) ?_
    refine Z.ca (c := code_fail p r _) 6 (fun _ => ?_)
    have ht : r.take = (0, [], false, r.fail (Wire.code (Wire.getVar 0 0 r.b).2.2)) := by unfold Wire.Rd.take; rw [if_pos (by omega), if_neg (by omega)]
    have hcd : Wire.code (Wire.getVar 0 0 r.b).2.2 = 30 := by unfold Wire.code; rw [if_pos (by omega)]
    rw [ht, hcd]
    exact hx_ret3 (.inl rfl) rfl rfl rfl rfl (none, 0) rfl (Ent.cons Z.k (Ent.roTrue (ψ := roS (α := UInt8) none 0 []) (fun r => SliceIn.empty _ _) (Ent.pu (Nat.le_refl _) Z.f)))
   ·skip
    refine ho_ent (Ent.rd (r := r) (b := r.b) Z.k Z.k rfl rfl rfl hrc (Ent.refl _)) ?_
    refine Z.ca (c := code_fail p r _) 6 (fun _ => ?_)
    have ht : r.take = (0, [], false, r.fail (Wire.code (Wire.getVar 0 0 r.b).2.2)) := by unfold Wire.Rd.take; rw [if_pos (by omega), if_neg (by omega)]
    have hcd : Wire.code (Wire.getVar 0 0 r.b).2.2 = (Wire.getVar 0 0 r.b).2.2 := by unfold Wire.code; rw [if_neg (by omega)]
    rw [ht, hcd]
    exact hx_ret3 (.inl rfl) rfl rfl rfl rfl (none, 0) rfl (Ent.cons Z.k (Ent.roTrue (ψ := roS (α := UInt8) none 0 []) (fun r => SliceIn.empty _ _) (Ent.pu (Nat.le_refl _) Z.f)))
theorem code_below (p : Nat) (r : Wire.Rd) (most : Nat) (hm : most ≤ 1099511627776) (hb : r.b.length ≤ 1099511627776) : Ctr Tryz.prog 89 #[.pointer (some ⟨p, 0, none⟩), .func (.func 88) #[.pointer (some ⟨p, 0, none⟩)] #[], .int .i64 (most : Int)] [RdAt p r] (fun q : Option Addr × Nat => .tuple #[.int .i64 (((r.below most).1 : Nat) : Int), .slice q.1 (r.below most).2.1.length q.2, .bool (r.below most).2.2.1]) (fun q => [RdAt p (r.below most).2.2.2, ro (roS q.1 (r.below most).2.1.length (r.below most).2.1), pu ((r.below most).2.1.length ≤ q.2)]) := by
 refine Z.fn Tryz.func89 Tryz.ntmps89 (fun κ F => ?_)
 refine Z.go 10 ?_
 refine Z.ca (c := code_take p r hb) 0 (fun y => ?_)
 have htl := r.take_lt
 refine Z.og 11 ?_
 rcases hok : r.take.2.2.1 with _ | _
 ·skip
  refine Z.go 3 ?_
  refine Z.bo 19 0 18 (fun g1 => ?_) (fun g1 => ?_)
  ·simp at g1
  ·skip
   refine Z.bo 31 0 13 (fun g2 => ?_) (fun g2 => ?_)
   ·simp at g2
   ·skip
    have hbl : r.below most = (0, [], false, r.take.2.2.2) := by unfold Wire.Rd.below; rw [if_neg (by rw [hok]; decide)]
    rw [hbl]
    exact hx_ret3 (.inl rfl) rfl rfl rfl rfl (none, 0) rfl (Ent.cons Z.k (Ent.roTrue (ψ := roS (α := UInt8) none 0 []) (fun r => SliceIn.empty _ _) (Ent.pu (Nat.le_refl _) Z.f)))
 ·skip
  have htk := (take_ok hok).1
  rw [htk]
  refine Z.go 3 ?_
  refine Z.bo 19 1 0 (fun g3 => ?_) (fun g3 => ?_)
  ·skip
   refine Z.lt 0 3 (fun g4 => ?_) (fun g4 => ?_)
   ·omega
   ·skip
    refine Z.ev (ev_convI rfl ⟨_, Tryz.underlying3⟩ Tryz.underlying24 rfl (by first | exact IntWalk.u64_in _ (by omega) | rfl)) 0 ?_
    refine Z.gt 7 11 (fun g5 => ?_) (fun g5 => ?_)
    ·skip
     refine Z.ca (c := code_fail p r 32) 7 (fun _ => ?_)
     refine Z.bo 31 0 13 (fun g6 => ?_) (fun g6 => ?_)
     ·simp at g6
     ·skip
      have hbl : r.below most = (0, [], false, r.fail 32) := by unfold Wire.Rd.below; rw [if_pos hok, if_pos (by omega)]
      rw [hbl]
      exact hx_ret3 (.inl rfl) rfl rfl rfl rfl (none, 0) rfl (Ent.cons Z.k (Ent.roTrue (ψ := roS (α := UInt8) none 0 []) (fun r => SliceIn.empty _ _) (Ent.pu (Nat.le_refl _) Z.f)))
    ·skip
     refine Z.bo 31 9 0 (fun g7 => ?_) (fun g7 => ?_)
     ·skip
      refine Z.ev (ev_convI rfl ⟨_, Tryz.underlying24⟩ Tryz.underlying3 rfl (by first | exact in_i64 (by omega) | rfl)) 7 ?_
      have hbl : r.below most = (r.take.1, r.take.2.1, true, r) := by unfold Wire.Rd.below; rw [if_pos hok, if_neg (by omega)]
      rw [hbl]
      exact hx_ret3 (.inl rfl) rfl rfl rfl rfl y rfl (Ent.cons Z.k (Ent.cons Z.k (Ent.cons Z.k Z.f)))
     ·simp at g7
  ·simp at g3
theorem code_RNum (p : Nat) (r : Wire.Rd) (hb : r.b.length ≤ 1099511627776) : Ctr Tryz.prog 69 #[.pointer (some ⟨p, 0, none⟩)] [RdAt p r] (fun _ : Unit => .int .u64 ((r.num.1 : Nat) : Int)) (fun _ => [RdAt p r.num.2]) := by
 refine Z.fn Tryz.func69 Tryz.ntmps69 (fun κ F => ?_)
 refine Z.go 8 ?_
 refine Z.ca (c := code_take p r hb) 11 (fun y => ?_)
 rcases hok : r.take.2.2.1 with _ | _
 ·skip
  refine Z.go 4 ?_
  refine Z.bc 12 0 10 (fun g1 => ?_) (fun g1 => ?_)
  ·simp at g1
  ·skip
   have hn : r.num = (r.take.1, r.take.2.2.2) := by unfold Wire.Rd.num; rw [if_neg (by rw [hok]; decide)]
   rw [hn]
   exact hx_ret1 (.inl rfl) rfl rfl () rfl (Ent.cons Z.k Z.f)
 ·skip
  refine Z.go 4 ?_
  refine Z.bc 12 1 0 (fun g2 => ?_) (fun g2 => ?_)
  ·skip
   have htk := (take_ok hok).1
   rw [htk]
   refine ht_rd (r := r) Z.p (fun ra rc hrc => ?_)
   refine ht_pick (A := pu (r.take.2.1.length ≤ y.2)) Z.k (ht_pure fun hyc => ?_)
   refine Z.go 5 ?_
   refine Z.s1 9 ?_
   have hn : r.num = (r.take.1, ⟨r.take.2.1, r.err⟩) := by unfold Wire.Rd.num; rw [if_pos hok]
   rw [hn]
   exact hx_ret1 (.inl rfl) rfl rfl () rfl (Ent.rd (b := r.take.2.1) Z.k Z.k rfl rfl rfl hyc Z.f)
  ·simp at g2
theorem code_RText (p : Nat) (r : Wire.Rd) (hb : r.b.length ≤ 1099511627776) : Ctr Tryz.prog 70 #[.pointer (some ⟨p, 0, none⟩)] [RdAt p r] (fun _ : Unit => vS r.text.1) (fun _ => [RdAt p r.text.2]) := by
 refine Z.fn Tryz.func70 Tryz.ntmps70 (fun κ F => ?_)
 refine Z.go 10 ?_
 refine Z.ca (c := code_below p r 65536 (by decide) hb) 11 (fun y => ?_)
 refine ht_pick (A := pu ((r.below 65536).2.1.length ≤ y.2)) Z.k (ht_pure fun hyc => ?_)
 have hbll := below_len r 65536
 rcases hok : (r.below 65536).2.2.1 with _ | _
 ·skip
  refine Z.go 3 ?_
  refine Z.bo 15 0 14 (fun g1 => ?_) (fun g1 => ?_)
  ·simp at g1
  ·skip
   refine Z.bo 23 0 11 (fun g2 => ?_) (fun g2 => ?_)
   ·simp at g2
   ·skip
    have htx : r.text = ([], (r.below 65536).2.2.2) := by unfold Wire.Rd.text; simp [hok]
    rw [htx]
    exact hx_ret1 (.inl rfl) rfl rfl () rfl (Ent.cons Z.k Z.f)
 ·skip
  have htk := (below_ok hok).1
  rw [htk]
  refine Z.go 3 ?_
  refine Z.bo 15 3 0 (fun g3 => ?_) (fun g3 => ?_)
  ·skip
   refine Z.gt 6 10 (fun g4 => ?_) (fun g4 => ?_)
   ·skip
    refine Z.ca (c := code_fail p r 30) 7 (fun _ => ?_)
    refine Z.bo 23 0 11 (fun g5 => ?_) (fun g5 => ?_)
    ·simp at g5
    ·skip
     have htx : r.text = ([], r.fail 30) := by unfold Wire.Rd.text; simp only [hok, if_true]; rw [if_pos (by omega)]
     rw [htx]
     exact hx_ret1 (.inl rfl) rfl rfl () rfl (Ent.cons Z.k Z.f)
   ·skip
    refine Z.bo 23 7 0 (fun g6 => ?_) (fun g6 => ?_)
    ·skip
     refine ht_rd (r := r) Z.p (fun ra rc hrc => ?_)
     refine Z.go 4 ?_
     refine Z.ef (eff_slice (α := UInt8) rfl Tryz.underlying73 Tryz.ty5 rfl Z.p ⟨_, rfl⟩ rfl rfl (by decide) (by omega) (by omega) (by omega) (by omega)) 2 (fun a28 => ?_)
     refine Z.s1 6 ?_
     refine Z.ef (eff_slice (α := UInt8) rfl Tryz.underlying73 Tryz.ty5 rfl Z.p rfl ⟨_, rfl⟩ rfl (by decide) (by omega) (by omega) (by omega) (by omega)) 0 (fun a33 => ?_)
     refine Z.ev (ev_str rfl Tryz.underlying73 Tryz.underlying5 Tryz.underlying9 rfl (by first | exact reads_ro Z.p | exact reads_own Z.p | exact reads_nil _)) 4 ?_
     have et : ((r.below 65536).2.1.take (r.below 65536).1).drop 0 = (r.below 65536).2.1.take (r.below 65536).1 := rfl
     have ed : ((r.below 65536).2.1.take (r.below 65536).2.1.length).drop (r.below 65536).1 = (r.below 65536).2.1.drop (r.below 65536).1 := by rw [List.take_length]
     have htx : r.text = ((r.below 65536).2.1.take (r.below 65536).1, ⟨(r.below 65536).2.1.drop (r.below 65536).1, r.err⟩) := by unfold Wire.Rd.text; simp only [hok, if_true]; rw [if_neg (by omega)]
     rw [htx]
     exact hx_ret1 (.inl rfl) rfl rfl () rfl (Ent.rd (b := ((r.below 65536).2.1.take (r.below 65536).2.1.length).drop (r.below 65536).1) Z.k Z.k (by rw [ed, List.length_drop]) ed rfl (by rw [ed, List.length_drop]; omega) Z.f)
    ·simp at g6
  ·simp at g3
theorem code_End (p : Nat) (r : Wire.Rd) : Ctr Tryz.prog 71 #[.pointer (some ⟨p, 0, none⟩)] [RdAt p r] (fun _ : Unit => .int .i64 r.fin) (fun _ => [RdAt p r]) := by
 refine Z.fn Tryz.func71 Tryz.ntmps71 (fun κ F => ?_)
 refine ht_rd Z.p (fun ra rc hrc => ?_)
 refine Z.go 11 ?_
 refine Z.ld 0 ?_
 refine Z.eq 4 18 (fun g1 => ?_) (fun g1 => ?_)
 ·skip
  refine Z.ld 1 ?_
  refine Z.gt 11 11 (fun g2 => ?_) (fun g2 => ?_)
  ·skip
   have hne : r.b ≠ [] := List.ne_nil_of_length_pos (by omega)
   have hf : r.fin = 31 := by unfold Wire.Rd.fin; rw [if_pos ⟨by omega, hne⟩]
   rw [hf]
   exact hx_ret1 (.inl rfl) rfl rfl () rfl (Ent.rd (b := r.b) Z.k Z.k rfl rfl rfl hrc Z.f)
  ·skip
   refine Z.ld 4 ?_
   have hf : r.fin = r.err := by
    unfold Wire.Rd.fin; rw [if_neg]; rintro ⟨h1, h2⟩
    have := List.length_pos_iff.2 h2
    omega
   rw [hf]
   exact hx_ret1 (.inl rfl) rfl rfl () rfl (Ent.rd (b := r.b) Z.k Z.k rfl rfl rfl hrc Z.f)
 ·skip
  refine Z.ld 4 ?_
  have hf : r.fin = r.err := by
   unfold Wire.Rd.fin; rw [if_neg]; rintro ⟨h1, h2⟩
   have := List.length_pos_iff.2 h2
   omega
  rw [hf]
  exact hx_ret1 (.inl rfl) rfl rfl () rfl (Ent.rd (b := r.b) Z.k Z.k rfl rfl rfl hrc Z.f)
theorem rec_fields (seq : Nat) (body : List UInt8) (hs : seq < 18446744073709551616) (hb : body.length ≤ 32768) : Ctr Tryz.prog 62 #[.agg #[.int .u64 (seq : Int), vS body]] [] (fun q : Option Addr × Nat => .slice q.1 (Wire.fields seq body).length q.2) (fun q => [ownS 5 q.1 (Wire.fields seq body).length q.2 (Wire.fields seq body)]) := by
 refine Z.fn Tryz.func62 Tryz.ntmps62 (fun κ F => ?_)
 have e0 : texts (nums [] [UNum.mk seq]) [Str.mk body] = Wire.fields seq body := by simp [texts, nums, Wire.fields]
 have hfl := Wire.fields_len seq body hs hb
 have hnl : (nums [] [UNum.mk seq]).length ≤ 10 := nums_len [UNum.mk seq] [] (by intro x hx; simp at hx; subst hx; exact hs)
 refine Z.go 2 ?_
 refine Z.bA 5 (fun b1 => ?_)
 refine Z.ca (c := code_Write) 7 (fun p => ?_)
 refine Z.ld 0 ?_
 refine Z.ef (eff_buildAll (α := UNum) [UNum.mk seq] rfl Tryz.underlying180 Tryz.ty24 (.cons rfl .nil) (.cons rfl .nil) rfl (Nat.le_of_ble_eq_true rfl)) 0 (fun b10 => ?_)
 refine ho_freezeS (α := UNum) Z.p ?_
 refine Z.cd (c := code_Num p [] _ _ [UNum.mk seq] (by intro x hx; simp at hx; subst hx; exact hs) (by simp)) 6 (fun _ => ?_)
 refine Z.ld 0 ?_
 refine Z.ef (eff_buildAll (α := Str) [Str.mk body] rfl Tryz.underlying182 Tryz.ty9 (.cons rfl .nil) (.cons rfl .nil) rfl (Nat.le_of_ble_eq_true rfl)) 0 (fun b15 => ?_)
 refine ho_freezeS (α := Str) Z.p ?_
 refine Z.cd (c := code_Text p (nums [] [UNum.mk seq]) _ _ [Str.mk body] (by intro x hx; simp at hx; subst hx; show body.length ≤ _; omega) (by simp only [List.length_cons, List.length_nil]; omega)) 0 (fun _ => ?_)
 rw [e0]
 refine Z.og 5 ?_
 refine Z.ca (c := code_Bytes p (Wire.fields seq body) (by omega)) 14 (fun y => ?_)
 exact hx_ret1 (.inl rfl) rfl rfl y rfl (Ent.cons Z.k Z.f)
theorem rec_Put (seq : Nat) (body : List UInt8) (hs : seq < 18446744073709551616) (hb : body.length ≤ 32768) : Ctr Tryz.prog 36 #[.agg #[.int .u64 (seq : Int), vS body]] [ro bitsR] (fun q : Option Addr × Nat => .tuple #[.slice q.1 (Wire.put seq body).length q.2, .int .i64 0]) (fun q => [ownS 5 q.1 (Wire.put seq body).length q.2 (Wire.put seq body)]) := by
 refine Z.fn Tryz.func36 Tryz.ntmps36 (fun κ F => ?_)
 have hfl := Wire.fields_len seq body hs hb
 have hsl : (Wire.seal_ (Wire.fields seq body)).length = (Wire.fields seq body).length + 4 := by simp [Wire.seal_, Wire.be_len]
 have hbl := Wire.be_len (Wire.seal_ (Wire.fields seq body)).length 4
 refine Z.go 2 ?_
 refine Z.bA 8 (fun b1 => ?_)
 refine Z.ld 1 ?_
 refine Z.gt 0 7 (fun g1 => ?_) (fun g1 => ?_)
 ·omega
 ·skip
  refine Z.la 0 ?_
  refine Z.ca (c := rec_fields seq body hs hb) 0 (fun y => ?_)
  refine ho_freezeS (α := UInt8) Z.p ?_
  refine Z.ca (c := sum_Seal _ _ (Wire.fields seq body) (by omega)) 7 (fun z => ?_)
  refine Z.ev (ev_convI rfl ⟨_, Tryz.underlying3⟩ Tryz.underlying24 rfl (by first | exact IntWalk.u64_in _ (by omega) | rfl)) 0 ?_
  refine ho_ent (Ent.roTrue (ψ := roS (α := UInt8) none 0 []) (fun r => SliceIn.empty _ _) (Ent.refl _)) ?_
  refine Z.cd (c := num_Put none 0 [] (Wire.seal_ (Wire.fields seq body)).length 4 (by decide) (by decide) (Nat.div_eq_of_lt (by omega)) (by omega) (by decide)) 11 (fun u => ?_)
  refine Z.ef (eff_append (α := UInt8) rfl Tryz.underlying73 Tryz.ty5 rfl (by decide) Tryz.underlying73 rfl rfl Z.p (reads_own (xs := Wire.seal_ (Wire.fields seq body)) Z.p) (by first | omega | (simp only [List.length_append, List.length_cons, List.length_nil, List.length_drop, List.length_take]; omega) | (simp; omega))) 5 (fun p23 => ?_)
  have e0 : [] ++ Wire.be (Wire.seal_ (Wire.fields seq body)).length 4 ++ Wire.seal_ (Wire.fields seq body) = Wire.put seq body := rfl
  rw [e0]
  exact hx_ret2 (.inl rfl) rfl rfl rfl p23 rfl (Ent.cons Z.k Z.f)
theorem rec_Get (a : Option Addr) (c : Nat) (b : List UInt8) (hc : b.length ≤ c) (hb : b.length ≤ 1099511627776) : Ctr Tryz.prog 46 #[.slice a b.length c] [ro (roS a b.length b)] (fun _ : Unit => .tuple #[.agg #[.int .u64 (((Wire.getV b).1 : Nat) : Int), vS (Wire.getV b).2.1], .int .i64 (((Wire.getV b).2.2.1 : Nat) : Int), .bool (Wire.getV b).2.2.2]) (fun _ => []) := by
 refine Z.fn Tryz.func46 Tryz.ntmps46 (fun κ F => ?_)
 refine Z.go 2 ?_
 refine Z.al 7 (fun b2 => ?_)
 by_cases h4 : b.length < 4
 ·skip
  refine Z.cd (c := num_Get_no a c b 4 (by decide) (by decide) h4) 13 (fun _ => ?_)
  refine Z.ne 12 0 (fun g1 => ?_) (fun g1 => ?_)
  ·skip
   refine Z.ev (ev_build1 (csl := [.int .u64 0, .string (mkS [])]) rfl Tryz.st71 .nil .nil rfl rfl) 0 ?_
   refine Z.sA 6 ?_
   rw [Wire.getV_none (b := b) (by first | exact Wire.get_short h4 | exact Wire.get_cutoff (by omega))]
   exact hx_ret3A (.inl rfl) rfl rfl rfl rfl Tryz.underlying71 Tryz.ty71 rfl (cells_pt Z.p (Nat.le_of_ble_eq_true rfl) rfl) () rfl Z.f
  ·omega
 ·skip
  refine Z.ca (c := num_Get a c b 4 (by decide) (by decide) (by omega) hc hb) 0 (fun y => ?_)
  refine ho_pick (A := pu ((b.drop 4).length ≤ y.2)) Z.k (ho_pure fun hyc => ?_)
  have hdl : (b.drop 4).length = b.length - 4 := List.length_drop
  have hof : Wire.ofBe (b.take 4) < 4294967296 := Nat.lt_of_lt_of_le (Wire.ofBe_lt _) (by rw [List.length_take, Nat.min_eq_left (by omega)]; exact Nat.le_refl _)
  refine Z.og 13 ?_
  refine Z.ne 0 4 (fun g2 => ?_) (fun g2 => ?_)
  ·omega
  ·skip
   refine Z.ev (ev_convI rfl ⟨_, Tryz.underlying3⟩ Tryz.underlying24 rfl (by first | exact IntWalk.u64_in _ (by omega) | rfl)) 0 ?_
   refine Z.gt 6 10 (fun g3 => ?_) (fun g3 => ?_)
   ·skip
    refine Z.ev (ev_build1 (csl := [.int .u64 0, .string (mkS [])]) rfl Tryz.st71 .nil .nil rfl rfl) 0 ?_
    refine Z.sA 6 ?_
    rw [Wire.getV_none (b := b) (by first | exact Wire.get_short h4 | exact Wire.get_cutoff (by omega))]
    exact hx_ret3A (.inl rfl) rfl rfl rfl rfl Tryz.underlying71 Tryz.ty71 rfl (cells_pt Z.p (Nat.le_of_ble_eq_true rfl) rfl) () rfl Z.f
   ·skip
    refine Z.ef (eff_slice (α := UInt8) rfl Tryz.underlying73 Tryz.ty5 rfl Z.p rfl ⟨_, rfl⟩ rfl (by decide) (by omega) (by omega) (by omega) (by omega)) 0 (fun a32 => ?_)
    rw [List.drop_zero]
    have hsl : ((b.drop 4).take (Wire.ofBe (b.take 4))).length = (Wire.ofBe (b.take 4)) := by rw [List.length_take]; omega
    have hol := Wire.openS_len ((b.drop 4).take (Wire.ofBe (b.take 4)))
    refine Z.cd (c := sum_Open _ _ ((b.drop 4).take (Wire.ofBe (b.take 4))) (by omega) (by omega)) 0 (fun z => ?_)
    refine ho_pick (A := pu ((Wire.openS ((b.drop 4).take (Wire.ofBe (b.take 4)))).1.length ≤ z.2)) Z.k (ho_pure fun hzc => ?_)
    refine Z.og 11 ?_
    refine Z.ne 5 8 (fun g4 => ?_) (fun g4 => ?_)
    ·skip
     refine Z.ev (ev_build1 (csl := [.int .u64 0, .string (mkS [])]) rfl Tryz.st71 .nil .nil rfl rfl) 0 ?_
     refine Z.sA 6 ?_
     rw [Wire.getV_none (b := b) (Wire.get_wrong (by omega))]
     exact hx_ret3A (.inl rfl) rfl rfl rfl rfl Tryz.underlying71 Tryz.ty71 rfl (cells_pt Z.p (Nat.le_of_ble_eq_true rfl) rfl) () rfl Z.f
    ·skip
     refine Z.ca (c := code_Read _ _ (Wire.openS ((b.drop 4).take (Wire.ofBe (b.take 4)))).1 (by omega)) 16 (fun p => ?_)
     refine Z.ca (c := code_RNum p (⟨(Wire.openS ((b.drop 4).take (Wire.ofBe (b.take 4)))).1, 0⟩ : Wire.Rd) (by show (Wire.openS ((b.drop 4).take (Wire.ofBe (b.take 4)))).1.length ≤ _; omega)) 0 (fun _ => ?_)
     have hnl := Wire.num_len (⟨(Wire.openS ((b.drop 4).take (Wire.ofBe (b.take 4)))).1, 0⟩ : Wire.Rd)
     have hnl : (⟨(Wire.openS ((b.drop 4).take (Wire.ofBe (b.take 4)))).1, 0⟩ : Wire.Rd).num.2.b.length ≤ (Wire.openS ((b.drop 4).take (Wire.ofBe (b.take 4)))).1.length := hnl
     refine Z.og 1 ?_
     refine Z.ca (c := code_RText p (⟨(Wire.openS ((b.drop 4).take (Wire.ofBe (b.take 4)))).1, 0⟩ : Wire.Rd).num.2 (by omega)) 0 (fun _ => ?_)
     refine Z.ev (ev_build1 (csl := [_, _]) rfl Tryz.st71 (.cons rfl (.cons rfl .nil)) (.cons rfl (.cons rfl .nil)) rfl rfl) 0 ?_
     refine Z.al 0 (fun b12 => ?_)
     refine Z.sA 6 ?_
     refine Z.ca (c := code_End p (⟨(Wire.openS ((b.drop 4).take (Wire.ofBe (b.take 4)))).1, 0⟩ : Wire.Rd).num.2.text.2) 0 (fun _ => ?_)
     refine Z.ne 11 2 (fun g5 => ?_) (fun g5 => ?_)
     ·skip
      refine Z.ev (ev_build1 (csl := [.int .u64 0, .string (mkS [])]) rfl Tryz.st71 .nil .nil rfl rfl) 0 ?_
      refine Z.sA 6 ?_
      have hno := Wire.openRec_no (c := (Wire.openS ((b.drop 4).take (Wire.ofBe (b.take 4)))).1) (by omega)
      rw [Wire.getV_none (b := b) (by rw [Wire.get_open (by omega) (by omega) (by omega), hno]; rfl)]
      exact hx_ret3A (.inl rfl) rfl rfl rfl rfl Tryz.underlying71 Tryz.ty71 rfl (cells_pt Z.p (Nat.le_of_ble_eq_true rfl) rfl) () rfl Z.f
     ·skip
      refine Z.ld 1 ?_
      refine Z.gt 6 8 (fun g6 => ?_) (fun g6 => ?_)
      ·skip
       refine Z.ev (ev_build1 (csl := [.int .u64 0, .string (mkS [])]) rfl Tryz.st71 .nil .nil rfl rfl) 0 ?_
       refine Z.sA 6 ?_
       have hno := Wire.openRec_no (c := (Wire.openS ((b.drop 4).take (Wire.ofBe (b.take 4)))).1) (by omega)
       rw [Wire.getV_none (b := b) (by rw [Wire.get_open (by omega) (by omega) (by omega), hno]; rfl)]
       exact hx_ret3A (.inl rfl) rfl rfl rfl rfl Tryz.underlying71 Tryz.ty71 rfl (cells_pt Z.p (Nat.le_of_ble_eq_true rfl) rfl) () rfl Z.f
      ·skip
       refine Z.la 1 ?_
       refine Z.ev (ev_convI (r := (((Wire.ofBe (b.take 4)) : Nat) : Int)) rfl ⟨_, Tryz.underlying24⟩ Tryz.underlying3 rfl (by exact in_i64 (by omega))) 0 ?_
       refine Z.ad (r := ((4 + (Wire.ofBe (b.take 4)) : Nat) : Int)) (hw := by rw [in_i64 (by omega)]; rfl) 0 ?_
       refine Z.sA 5 ?_
       have hyes := Wire.openRec_yes (c := (Wire.openS ((b.drop 4).take (Wire.ofBe (b.take 4)))).1) (by omega) (by omega)
       rw [Wire.getV_some (b := b) (by rw [Wire.get_open (by omega) (by omega) (by omega), hyes]; rfl)]
       exact hx_ret3A (.inl rfl) rfl rfl rfl rfl Tryz.underlying71 Tryz.ty71 rfl (cells_pt Z.p (Nat.le_of_ble_eq_true rfl) rfl) () rfl Z.f
end Go.Proofs.YtlejcepbcfijiaaGreatDoor
