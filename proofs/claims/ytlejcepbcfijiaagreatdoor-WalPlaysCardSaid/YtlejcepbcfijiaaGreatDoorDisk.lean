/-
  THE WALKS OF PACKAGE disk (layer 6): the disk in memory ('DiskAt'), the contract of each function. Conditions: as each contract says.
-/
import Derived.Test.YtlejcepbcfijiaaGreatDoorFacts
import Derived.Test.YtlejcepbcfijiaaGreatDoorDiskM
set_option maxRecDepth 100000
set_option linter.unusedVariables false
set_option linter.unusedSimpArgs false
namespace Go.Proofs.YtlejcepbcfijiaaGreatDoor
open Go Go.SL


/-! ### 1. The disk in memory -/
/-- a value of one cell -/
structure VCell where
  v : Value
  one : v.oneCell' = true
instance : Enc VCell := ⟨1, fun x => [x.v], fun _ => rfl, fun x v h => by simp at h; subst h; exact x.one, by decide⟩
/-- a map's entries tell these sectors -/
structure SecsOk (r : Part) (es : List (Int × Value)) (f : Dk.Secs) : Prop where mk ::
  nodup : (es.map fun x => x.1).Nodup
  no : ∀ k, getI es k = none → f k = none
  yes : ∀ k v, getI es k = some v → ∃ a c s, v = .slice a s.length c ∧ s.length ≤ c ∧ SliceIn r a s.length s ∧ f k = some s
def secsR (es : List (Int × Value)) (f : Dk.Secs) : RoP := ⟨fun r => SecsOk r es f, fun h k => ⟨h.nodup, h.no, fun i v hv => let ⟨a, c, s, h1, hc, h2, h3⟩ := h.yes i v hv; ⟨a, c, s, h1, hc, h2.mono k, h3⟩⟩⟩
/-- a closure of package disk is this pending operation -/
inductive CloOk (r : Part) : Value → Dk.POp → Prop
  | wr {k : Int} {b : List UInt8} {b1 b2 : Nat} {a : Option Addr} {c : Nat} : b.length ≤ 512 → b.length ≤ c → r b1 = some (.cells #[.slice a b.length c] 73 (0, 0)) → r b2 = some (.cells #[.int .i64 k] 3 (0, 0)) → SliceIn r a b.length b →
      CloOk r (.func (.func 96) #[] #[.pointer (some ⟨b1, 0, none⟩), .pointer (some ⟨b2, 0, none⟩)]) (.wr k b)
  | fr {k : Int} {b2 : Nat} : r b2 = some (.cells #[.int .i64 k] 3 (0, 0)) → CloOk r (.func (.func 91) #[] #[.pointer (some ⟨b2, 0, none⟩)]) (.fr k)
theorem CloOk.mono {r r' : Part} {v : Value} {o : Dk.POp} (h : CloOk r v o) (k : r.le r') : CloOk r' v o := by
  cases h with
  | wr h1 hc h2 h3 h4 => exact .wr h1 hc (k.out _ _ h2) (k.out _ _ h3) (h4.mono k)
  | fr h1 => exact .fr (k.out _ _ h1)
theorem CloOk.one {r : Part} {v : Value} {o : Dk.POp} (h : CloOk r v o) : v.oneCell' = true := by cases h <;> rfl
def cloR (v : Value) (o : Dk.POp) : RoP := ⟨fun r => CloOk r v o, fun h k => h.mono k⟩
structure PendOk (r : Part) (cl : List VCell) (ps : List Dk.POp) : Prop where mk ::
  len : cl.length = ps.length
  at_ : ∀ (i : Nat) (v : VCell) (o : Dk.POp), cl[i]? = some v → ps[i]? = some o → CloOk r v.v o
def pendR (cl : List VCell) (ps : List Dk.POp) : RoP := ⟨fun r => PendOk r cl ps, fun h k => ⟨h.len, fun i v o h1 h2 => (h.at_ i v o h1 h2).mono k⟩⟩
/-- sectors' bytes are few -/
def Few (f : Dk.Secs) : Prop := ∀ k s, f k = some s → s.length ≤ 512
/-- what every disk keeps -/
structure DkOk (d : Dk.Disk) : Prop where mk ::
  view : Few d.view
  ground : Few d.ground
structure DiskX where
  mv : Nat
  mg : Nat
  a : Option Addr
  c : Nat
  vs : List (Int × Value)
  gs : List (Int × Value)
  cl : List VCell
def diskC (p : Nat) (d : Dk.Disk) (x : DiskX) : List Assn :=
  [pt p (.cells #[.int .i64 d.size, .int .i64 d.limit, .map (some x.mv), .map (some x.mg), .slice x.a d.pend.length x.c] 69 (0, 0)), mapI x.mv x.vs, mapI x.mg x.gs, ownS 106 x.a d.pend.length x.c x.cl,
   ro (secsR x.vs d.view), ro (secsR x.gs d.ground), ro (pendR x.cl d.pend), pu (DkOk d)]
/-- block p is this disk -/
def DiskAt (p : Nat) (d : Dk.Disk) : Assn := ex fun x : DiskX => star (diskC p d x)

theorem SecsOk.card {r : Part} {es : List (Int × Value)} {f : Dk.Secs} (h : SecsOk r es f) : Dk.card f = es.length := by
  have hr : Dk.Rep (es.map fun x => (x.1, (f x.1).getD [])) f := ⟨by rw [List.map_map]; exact h.nodup, fun k => by
    rw [List.find?_map]
    cases hg : getI es k with
    | none =>
      have hf := h.no k hg
      unfold getI at hg
      have : es.find? ((fun x => x.1 == k) ∘ fun x => (x.1, (f x.1).getD [])) = es.find? (fun x => x.1 == k) := rfl
      rw [this]
      cases he : es.find? (fun x => x.1 == k) with
      | none => simp [hf]
      | some y => rw [he] at hg; simp at hg
    | some v =>
      obtain ⟨a, c, s, _, _, _, hf⟩ := h.yes k v hg
      unfold getI at hg
      have : es.find? ((fun x => x.1 == k) ∘ fun x => (x.1, (f x.1).getD [])) = es.find? (fun x => x.1 == k) := rfl
      rw [this]
      cases he : es.find? (fun x => x.1 == k) with
      | none => rw [he] at hg; simp at hg
      | some y =>
        have h2 := List.find?_some he
        have : y.1 = k := by simpa using h2
        subst this
        simp [hf]⟩
  rw [hr.card]; simp
theorem SecsOk.put {r : Part} {es : List (Int × Value)} {f : Dk.Secs} (h : SecsOk r es f) {k : Int} {a : Option Addr} {m c : Nat} {s : List UInt8} (hs : SliceIn r a m s) (hc : m ≤ c) : SecsOk r (putI es k (.slice a m c)) (Dk.upd f k (some s)) := by
  obtain rfl := hs.len
  refine ⟨putI_nodup h.nodup k _, fun i hi => ?_, fun i v hv => ?_⟩
  · rw [getI_put] at hi
    split at hi
    · cases hi
    · rename_i hne; rw [Dk.upd_other hne]; exact h.no i hi
  · rw [getI_put] at hv
    split at hv
    · rename_i he; subst he; cases hv
      exact ⟨a, c, s, rfl, hc, hs, Dk.upd_same _ _ _⟩
    · rename_i hne
      rw [Dk.upd_other hne]; exact h.yes i v hv
theorem SecsOk.del {r : Part} {es : List (Int × Value)} {f : Dk.Secs} (h : SecsOk r es f) (k : Int) : SecsOk r (delI es k) (Dk.upd f k none) := by
  refine ⟨delI_nodup h.nodup k, fun i hi => ?_, fun i v hv => ?_⟩
  · rw [getI_del h.nodup] at hi
    split at hi
    · rename_i he; subst he; exact Dk.upd_same _ _ _
    · rename_i hne; rw [Dk.upd_other hne]; exact h.no i hi
  · rw [getI_del h.nodup] at hv
    split at hv
    · cases hv
    · rename_i hne
      rw [Dk.upd_other hne]; exact h.yes i v hv
theorem SecsOk.nil (r : Part) : SecsOk r [] Dk.none_ := ⟨by simp, fun _ _ => rfl, fun k v h => by simp [getI] at h⟩
theorem PendOk.snoc {r : Part} {cl : List VCell} {ps : List Dk.POp} (h : PendOk r cl ps) {v : VCell} {o : Dk.POp} (hv : CloOk r v.v o) : PendOk r (cl ++ [v]) (ps ++ [o]) := by
  refine ⟨by simp [h.len], fun i u q h1 h2 => ?_⟩
  rcases Nat.lt_or_ge i cl.length with hi | hi
  · rw [List.getElem?_append_left hi] at h1
    rw [List.getElem?_append_left (by rw [← h.len]; exact hi)] at h2
    exact h.at_ i u q h1 h2
  · rw [List.getElem?_append_right hi] at h1
    rw [List.getElem?_append_right (by rw [← h.len]; exact hi), ← h.len] at h2
    cases hj : i - cl.length with
    | zero => rw [hj] at h1 h2; simp at h1 h2; subst h1; subst h2; exact hv
    | succ j => rw [hj] at h1; simp at h1
theorem werr_sector {d : Dk.Disk} {k : Int} {b : Dk.Bytes} (h : k < 0 ∨ d.size ≤ k) : d.werr k b = 61 := by unfold Dk.Disk.werr; rw [if_pos h]
theorem werr_long {d : Dk.Disk} {k : Int} {b : Dk.Bytes} (h : ¬ (k < 0 ∨ d.size ≤ k)) (h2 : 512 < b.length) : d.werr k b = 62 := by unfold Dk.Disk.werr; rw [if_neg h, if_pos h2]
theorem werr_full {d : Dk.Disk} {k : Int} {b : Dk.Bytes} (h : ¬ (k < 0 ∨ d.size ≤ k)) (h2 : ¬ 512 < b.length) (h3 : d.view k = none) (h4 : d.limit ≤ Dk.card d.view) : d.werr k b = 63 := by unfold Dk.Disk.werr; rw [if_neg h, if_neg h2, if_pos ⟨h3, h4⟩]
theorem werr_ok1 {d : Dk.Disk} {k : Int} {b : Dk.Bytes} (h : ¬ (k < 0 ∨ d.size ≤ k)) (h2 : ¬ 512 < b.length) (h4 : ¬ d.limit ≤ Dk.card d.view) : d.werr k b = 0 := by unfold Dk.Disk.werr; rw [if_neg h, if_neg h2, if_neg (fun x => h4 x.2)]
theorem werr_ok2 {d : Dk.Disk} {k : Int} {b s : Dk.Bytes} (h : ¬ (k < 0 ∨ d.size ≤ k)) (h2 : ¬ 512 < b.length) (h3 : d.view k = some s) : d.werr k b = 0 := by unfold Dk.Disk.werr; rw [if_neg h, if_neg h2, if_neg (fun x => by rw [h3] at x; cases x.1)]
theorem write_no {d : Dk.Disk} {k : Int} {b : Dk.Bytes} {n : Int} (h : d.werr k b = n) (hn : n ≠ 0) : d.write k b = d := by unfold Dk.Disk.write; rw [if_neg (by rw [h]; exact hn)]
theorem write_yes {d : Dk.Disk} {k : Int} {b : Dk.Bytes} (h : d.werr k b = 0) : d.write k b = d.push (.wr k b) b.length := by unfold Dk.Disk.write; rw [if_pos h]
theorem torn_len {old b : Dk.Bytes} {n : Int} (h1 : old.length ≤ 512) (h2 : b.length ≤ 512) : (Dk.torn old b n).length ≤ 512 := by
  unfold Dk.torn
  split
  · split <;> simp <;> omega
  · exact h2
theorem Few.run {f : Dk.Secs} (h : Few f) {o : Dk.POp} (ho : ∀ k b, o = .wr k b → b.length ≤ 512) (n : Int) : Few (o.run n f) := by
  intro k s hs
  cases o with
  | wr i b =>
    simp only [Dk.POp.run, Dk.upd] at hs
    split at hs
    · cases hs
      refine torn_len ?_ (ho i b rfl)
      cases hf : f i with
      | none => simp
      | some t => simpa using h i t hf
    · exact h k s hs
  | fr i =>
    simp only [Dk.POp.run, Dk.upd] at hs
    split at hs
    · cases hs
    · exact h k s hs

section
variable {P : Program} {κ : World} {n : Nat} {L M R R' : List Assn} {ρ : Env} {ops : Array Oper} {o : Oper} {l : List Oper} {Q : Exit → Act → World → Prop}
theorem ht_disk {p : Nat} {d : Dk.Disk} {c : Code} (h : ∀ x : DiskX, DkOk d → HT P κ n (pt p (.cells #[.int .i64 d.size, .int .i64 d.limit, .map (some x.mv), .map (some x.mg), .slice x.a d.pend.length x.c] 69 (0, 0)) :: mapI x.mv x.vs :: mapI x.mg x.gs :: ownS 106 x.a d.pend.length x.c x.cl ::
   ro (secsR x.vs d.view) :: ro (secsR x.gs d.ground) :: ro (pendR x.cl d.pend) :: L) ρ c Q) : HT P κ n (DiskAt p d :: L) ρ c Q :=
  ht_ex fun x => ht_star (by repeat (first | exact App.nil | apply App.cons)) (ht_pick (.there (.there (.there (.there (.there (.there (.there .here))))))) (ht_pure fun hok => h x hok))
theorem Ent.disk {p : Nat} {d : Dk.Disk} (x : DiskX) (hok : DkOk d) {m : Nat} (k : Picks [pt p (.cells #[.int .i64 d.size, .int .i64 d.limit, .map (some x.mv), .map (some x.mg), .slice x.a m x.c] 69 (0, 0)), mapI x.mv x.vs, mapI x.mg x.gs, ownS 106 x.a m x.c x.cl,
   ro (secsR x.vs d.view), ro (secsR x.gs d.ground), ro (pendR x.cl d.pend)] L R) (hm : d.pend.length = m) (h : Ent R M) : Ent L (DiskAt p d :: M) := by
  subst hm
  exact   Ent.ex x (Ent.star (k.ent.trans (Ent.cons .here (Ent.cons .here (Ent.cons .here (Ent.cons .here (Ent.cons .here (Ent.cons .here (Ent.cons .here (Ent.pu hok h)))))))))) 
/-- what a key's sector has -/
theorem ho_secs {es : List (Int × Value)} {f : Dk.Secs} (k : Int) (hp : Pick (ro (secsR es f)) L R) (hno : f k = none → getI es k = none → HOps P κ n ops L ρ l Q) (hyes : ∀ a c s, f k = some s → getI es k = some (.slice a s.length c) → s.length ≤ c → HOps P κ n ops (ro (roS a s.length s) :: L) ρ l Q) : HOps P κ n ops L ρ l Q := fun a w ha hw => by
  have h : SecsOk _ es f := hw.ro hp
  cases hg : getI es k with
  | none => exact hno (h.no k hg) hg a w ha hw
  | some v =>
    obtain ⟨p, r, h1, h2, h3, h4⟩ := hw.sep
    obtain ⟨p1, p2, k1, k2, k3, hA, hL⟩ := hp.sep h4
    have hA : SecsOk r es f := hA
    obtain ⟨a', c, s, rfl, hc, hs, hf⟩ := hA.yes k v hg
    exact hyes a' c s hf hg hc a w ha ⟨hw.os, hw.tape, hw.output, p, r, h1, h2, h3, Part.no, p, Part.no_le _, Part.le.refl _, Part.no_disj _, hs, h4⟩
theorem ht_secs {c : Code} {es : List (Int × Value)} {f : Dk.Secs} (k : Int) (hp : Pick (ro (secsR es f)) L R) (hno : f k = none → getI es k = none → HT P κ n L ρ c Q) (hyes : ∀ a c' s, f k = some s → getI es k = some (.slice a s.length c') → s.length ≤ c' → HT P κ n (ro (roS a s.length s) :: L) ρ c Q) : HT P κ n L ρ c Q := fun a w ha hw => by
  have h : SecsOk _ es f := hw.ro hp
  cases hg : getI es k with
  | none => exact hno (h.no k hg) hg a w ha hw
  | some v =>
    obtain ⟨p, r, h1, h2, h3, h4⟩ := hw.sep
    obtain ⟨p1, p2, k1, k2, k3, hA, hL⟩ := hp.sep h4
    have hA : SecsOk r es f := hA
    obtain ⟨a', c', s, rfl, hc, hs, hf⟩ := hA.yes k v hg
    exact hyes a' c' s hf hg hc a w ha ⟨hw.os, hw.tape, hw.output, p, r, h1, h2, h3, Part.no, p, Part.no_le _, Part.le.refl _, Part.no_disj _, hs, h4⟩
theorem ho_card {es : List (Int × Value)} {f : Dk.Secs} (hp : Pick (ro (secsR es f)) L R) (h : es.length = Dk.card f → HOps P κ n ops L ρ l Q) : HOps P κ n ops L ρ l Q := fun a w ha hw => by
  have hs : SecsOk _ es f := hw.ro hp
  exact h hs.card.symm a w ha hw
theorem ht_card {es : List (Int × Value)} {f : Dk.Secs} {c : Code} (hp : Pick (ro (secsR es f)) L R) (h : es.length = Dk.card f → HT P κ n L ρ c Q) : HT P κ n L ρ c Q := fun a w ha hw => by
  have hs : SecsOk _ es f := hw.ro hp
  exact h hs.card.symm a w ha hw
end

theorem disk_New_no (n : Int) (h : n < 1 ∨ 65536 < n) : Ctr Tryz.prog 4 #[.int .i64 n] [] (fun _ : Unit => .tuple #[.pointer none, .int .i64 60]) (fun _ => []) := by
 refine Z.fn Tryz.func4 Tryz.ntmps4 (fun κ F => ?_)
 refine Z.go 10 ?_
 refine Z.lt 15 2 (fun g1 => ?_) (fun g1 => ?_)
 ·skip
  exact hx_ret2 (.inl rfl) rfl rfl rfl () rfl (Ent.refl _)
 ·skip
  refine Z.gt 12 0 (fun g2 => ?_) (fun g2 => ?_)
  ·skip
   exact hx_ret2 (.inl rfl) rfl rfl rfl () rfl (Ent.refl _)
  ·omega
theorem disk_New (n : Int) (h : 1 ≤ n ∧ n ≤ 65536) : Ctr Tryz.prog 4 #[.int .i64 n] [] (fun p : Nat => .tuple #[.pointer (some ⟨p, 0, none⟩), .int .i64 0]) (fun p => [DiskAt p (Dk.Disk.new n)]) := by
 refine Z.fn Tryz.func4 Tryz.ntmps4 (fun κ F => ?_)
 refine Z.go 10 ?_
 refine Z.lt 0 2 (fun g1 => ?_) (fun g1 => ?_)
 ·omega
 ·skip
  refine Z.gt 0 10 (fun g2 => ?_) (fun g2 => ?_)
  ·omega
  ·skip
   refine Z.ef (eff_makeMap rfl) 0 (fun m12 => ?_)
   refine Z.ef (eff_makeMap rfl) 0 (fun m13 => ?_)
   refine Z.ev (ev_build1 (csl := [_, _, _, _, .slice none 0 0]) rfl Tryz.st69 (.cons rfl (.cons rfl (.cons rfl (.cons rfl .nil)))) (.cons rfl (.cons rfl (.cons rfl (.cons rfl .nil)))) rfl rfl) 0 ?_
   refine Z.bA 5 (fun b15 => ?_)
   refine hx_ret2 (.inl rfl) rfl rfl rfl b15 rfl ?_
   refine Ent.trans (Ent.roTrue (ψ := pendR [] []) (fun r => ⟨rfl, fun i v o h => by simp at h⟩) (Ent.roTrue (ψ := secsR [] Dk.none_) SecsOk.nil (ownS_nil (α := VCell) 106))) ?_
   exact Ent.disk ⟨m12, m13, none, 0, [], [], []⟩ ⟨fun k s h => (by cases h), fun k s h => (by cases h)⟩ Z.d rfl Z.f
theorem disk_Used (p : Nat) (d : Dk.Disk) : Ctr Tryz.prog 23 #[.pointer (some ⟨p, 0, none⟩)] [DiskAt p d] (fun _ : Unit => .int .i64 (Dk.card d.view)) (fun _ => [DiskAt p d]) := by
 refine Z.fn Tryz.func23 Tryz.ntmps23 (fun κ F => ?_)
 refine ht_disk (fun x hok => ?_)
 refine ht_card (f := d.view) Z.p (fun hcard => ?_)
 refine Z.go 10 ?_
 refine Z.ld 0 ?_
 refine Z.ev (ev_lenI rfl Tryz.underlying66 rfl Z.p) 4 ?_
 refine hx_ret1 (.inl rfl) rfl rfl () (by rw [hcard]) ?_
 exact Ent.disk x hok Z.d rfl Z.f
theorem disk_Pending (p : Nat) (d : Dk.Disk) : Ctr Tryz.prog 24 #[.pointer (some ⟨p, 0, none⟩)] [DiskAt p d] (fun _ : Unit => .int .i64 d.pend.length) (fun _ => [DiskAt p d]) := by
 refine Z.fn Tryz.func24 Tryz.ntmps24 (fun κ F => ?_)
 refine ht_disk (fun x hok => ?_)
 refine Z.go 10 ?_
 refine Z.ld 5 ?_
 refine hx_ret1 (.inl rfl) rfl rfl () rfl ?_
 exact Ent.disk x hok Z.d rfl Z.f
theorem disk_Limit (p : Nat) (d : Dk.Disk) (m : Int) : Ctr Tryz.prog 19 #[.pointer (some ⟨p, 0, none⟩), .int .i64 m] [DiskAt p d] (fun _ : Unit => .tuple #[]) (fun _ => [DiskAt p (d.setLimit m)]) := by
 refine Z.fn Tryz.func19 Tryz.ntmps19 (fun κ F => ?_)
 refine ht_disk (fun x hok => ?_)
 refine Z.go 5 ?_
 refine Z.s1 1 ?_
 refine hx_ret0 (.inr rfl) rfl () rfl ?_
 exact Ent.disk (d := d.setLimit m) x ⟨hok.view, hok.ground⟩ Z.d rfl Z.f
theorem disk_Read_no (p : Nat) (d : Dk.Disk) (k : Int) (hk : d.view k = none) : Ctr Tryz.prog 65 #[.pointer (some ⟨p, 0, none⟩), .int .i64 k] [DiskAt p d] (fun _ : Unit => .tuple #[.slice none 0 0, .int .i64 61]) (fun _ => [DiskAt p d]) := by
 refine Z.fn Tryz.func65 Tryz.ntmps65 (fun κ F => ?_)
 refine ht_disk (fun x hok => ?_)
 refine ht_secs (f := d.view) k Z.p (fun h1 h2 => ?_) (fun a0 c0 s0 h1 h2 h3 => absurd (hk.symm.trans h1) (by simp))
 refine Z.go 11 ?_
 refine Z.ld 1 ?_
 refine Z.ev (ev_lookupOkI (v := .slice none 0 0) (ok := false) rfl Tryz.underlying66 Tryz.underlying3 Tryz.ty73 rfl rfl Z.p (by rw [h2] <;> rfl) (by rw [h2] <;> rfl)) 11 ?_
 refine Z.bo 17 0 12 (fun g1 => ?_) (fun g1 => ?_)
 ·simp at g1
 ·skip
  refine hx_ret2 (.inl rfl) rfl rfl rfl () rfl ?_
  exact Ent.disk x hok Z.d rfl Z.f
theorem disk_Read (p : Nat) (d : Dk.Disk) (k : Int) (s : List UInt8) (hk : d.view k = some s) : Ctr Tryz.prog 65 #[.pointer (some ⟨p, 0, none⟩), .int .i64 k] [DiskAt p d] (fun q : Option Addr × Nat => .tuple #[.slice q.1 s.length q.2, .int .i64 0]) (fun q => [DiskAt p d, ro (roS q.1 s.length s), pu (s.length ≤ q.2)]) := by
 refine Z.fn Tryz.func65 Tryz.ntmps65 (fun κ F => ?_)
 refine ht_disk (fun x hok => ?_)
 refine ht_secs (f := d.view) k Z.p (fun h1 h2 => absurd (hk.symm.trans h1) (by simp)) (fun a0 c0 s0 h1 h2 h3 => ?_)
 obtain rfl : s0 = s := Option.some.inj (h1.symm.trans hk)
 have hs := hok.view k s0 hk
 refine Z.go 11 ?_
 refine Z.ld 1 ?_
 refine Z.ev (ev_lookupOkI (v := .slice a0 s0.length c0) (ok := true) rfl Tryz.underlying66 Tryz.underlying3 Tryz.ty73 rfl rfl Z.p (by rw [h2] <;> rfl) (by rw [h2] <;> rfl)) 11 ?_
 refine Z.bo 17 8 0 (fun g1 => ?_) (fun g1 => ?_)
 ·skip
  refine Z.ef (eff_buildAll (α := UInt8) [] rfl Tryz.underlying73 Tryz.ty5 .nil .nil rfl (Nat.le_of_ble_eq_true rfl)) 1 (fun b19 => ?_)
  refine Z.ef (eff_append (α := UInt8) rfl Tryz.underlying73 Tryz.ty5 rfl (by decide) Tryz.underlying73 rfl rfl Z.p (by first | exact reads_ro Z.p | exact reads_own Z.p | exact reads_nil _) (by first | omega | (simp only [List.length_append, List.length_cons, List.length_nil, List.length_drop, List.length_take]; omega) | (simp; omega))) 5 (fun p21 => ?_)
  refine hx_cap (xs := [] ++ s0) Z.p (fun hl hcap => ?_)
  refine hx_freezeS (xs := [] ++ s0) Z.p ?_
  refine hx_ret2 (.inl rfl) rfl rfl rfl p21 (by simp) ?_
  exact Ent.disk x hok Z.d rfl (Ent.roWeak Z.k (fun r h => by simpa using h) (Ent.pu (by simpa using hcap) Z.f))
 ·simp at g1
theorem disk_writing (k : Int) (a : Option Addr) (c : Nat) (b : List UInt8) (hb : b.length ≤ 512) (hc : b.length ≤ c) : Ctr Tryz.prog 87 #[.int .i64 k, .slice a b.length c] [ro (roS a b.length b)] (fun q : Nat × Nat => .func (.func 96) #[] #[.pointer (some ⟨q.1, 0, none⟩), .pointer (some ⟨q.2, 0, none⟩)]) (fun q => [ro (cloR (.func (.func 96) #[] #[.pointer (some ⟨q.1, 0, none⟩), .pointer (some ⟨q.2, 0, none⟩)]) (.wr k b))]) := by
 refine Z.fn Tryz.func87 Tryz.ntmps87 (fun κ F => ?_)
 refine Z.go 2 ?_
 refine Z.b1 0 (fun b2 => ?_)
 refine Z.b1 10 (fun b3 => ?_)
 refine hx_freeze (b := b3) Z.p ?_
 refine hx_freeze (b := b2) Z.p ?_
 refine hx_ret1 (.inl rfl) rfl rfl (b3, b2) rfl ?_
 refine Ent.roAnd (φ := roB b2 _) (φ' := roS a b.length b) Z.p Z.p ?_
 exact Ent.roWeak2 (φ := roB b3 _) (φ' := RoP.and (roB b2 _) (roS a b.length b)) Z.p Z.p (fun r h1 h2 => .wr hb hc h1 h2.1 h2.2) Z.f
theorem disk_freeing (k : Int) : Ctr Tryz.prog 75 #[.int .i64 k] [] (fun q : Nat => .func (.func 91) #[] #[.pointer (some ⟨q, 0, none⟩)]) (fun q => [ro (cloR (.func (.func 91) #[] #[.pointer (some ⟨q, 0, none⟩)]) (.fr k))]) := by
 refine Z.fn Tryz.func75 Tryz.ntmps75 (fun κ F => ?_)
 refine Z.go 2 ?_
 refine Z.b1 10 (fun b1 => ?_)
 refine hx_freeze (b := b1) Z.p ?_
 refine hx_ret1 (.inl rfl) rfl rfl b1 rfl ?_
 exact Ent.roWeak (φ := roB b1 _) Z.p (fun r h => .fr h) Z.f
theorem disk_writing1 (mv : Nat) (n : Int) (b1 b2 : Nat) (k : Int) (a : Option Addr) (c : Nat) (b : List UInt8) (vs : List (Int × Value)) (f : Dk.Secs) (hb : b.length ≤ 512) (hc : b.length ≤ c) (hf : Few f) : Ctr Tryz.prog 96 #[.map (some mv), .int .i64 n, .pointer (some ⟨b1, 0, none⟩), .pointer (some ⟨b2, 0, none⟩)] [mapI mv vs, ro (secsR vs f), ro (roB b1 (.cells #[.slice a b.length c] 73 (0, 0))), ro (roB b2 (.cells #[.int .i64 k] 3 (0, 0))), ro (roS a b.length b)] (fun _ : List (Int × Value) => .tuple #[]) (fun vs' => [mapI mv vs', ro (secsR vs' ((Dk.POp.wr k b).run n f))]) := by
 refine Z.fn Tryz.func96 Tryz.ntmps96 (fun κ F => ?_)
 refine ht_secs (f := f) k Z.p (fun h1 h2 => ?_) (fun a0 c0 s0 h1 h2 h3 => ?_)
 ·skip
  refine Z.go 3 ?_
  refine Z.ld 1 ?_
  refine Z.lt 6 6 (fun g1 => ?_) (fun g1 => ?_)
  ·skip
   refine Z.ev (ev_maxI rfl rfl rfl rfl) 0 ?_
   refine Z.ld 1 ?_
   refine Z.ev (ev_minI (r := ((min n.toNat b.length : Nat) : Int)) rfl rfl rfl (by omega)) 5 ?_
   refine Z.ef (eff_buildAll (α := UInt8) [] rfl Tryz.underlying73 Tryz.ty5 .nil .nil rfl (Nat.le_of_ble_eq_true rfl)) 0 (fun b18 => ?_)
   refine Z.ld 1 ?_
   refine Z.ef (eff_slice (α := UInt8) rfl Tryz.underlying73 Tryz.ty5 rfl Z.p rfl ⟨_, rfl⟩ rfl (by decide) (by omega) (by omega) (by omega) (by omega)) 0 (fun a21 => ?_)
   refine Z.ef (eff_append (α := UInt8) rfl Tryz.underlying73 Tryz.ty5 rfl (by decide) Tryz.underlying73 rfl rfl Z.p (by first | exact reads_ro Z.p | exact reads_own Z.p | exact reads_nil _) (by first | omega | (simp only [List.length_append, List.length_cons, List.length_nil, List.length_drop, List.length_take]; omega) | (simp; omega))) 7 (fun p22 => ?_)
   refine Z.ld 0 ?_
   refine Z.ev (ev_lookupI (v := .slice none 0 0) rfl Tryz.underlying66 Tryz.underlying3 Tryz.ty73 rfl rfl Z.p (by rw [h2] <;> rfl)) 10 ?_
   refine Z.lt 0 8 (fun g2 => ?_) (fun g2 => ?_)
   ·omega
   ·skip
    refine Z.ld 1 ?_
    refine Z.ef0 (eff_putI rfl Tryz.underlying66 Tryz.underlying3 rfl rfl rfl Z.p) 1 (fun _ => ?_)
    refine hx_cap (α := UInt8) Z.p (fun hl hcap => ?_)
    refine hx_freezeS (α := UInt8) Z.p ?_
    refine hx_ret0 (.inr rfl) rfl (putI vs k _) rfl (Ent.cons Z.k (Ent.roWeak2 (φ := secsR vs f) (φ' := roS (α := UInt8) _ _ _) Z.p Z.p (fun r hs hl => ?_) Z.f))
    have hs' := SecsOk.put (k := k) hs hl hcap
    show SecsOk r _ (Dk.upd f k (some (Dk.torn ((f k).getD []) b n)))
    first | rw [Dk.torn_eq, if_pos (by simp only [h1, Option.getD_some, Option.getD_none, List.length_nil]; omega)] | rw [Dk.torn_eq, if_neg (by simp only [h1, Option.getD_some, Option.getD_none, List.length_nil]; omega)]
    simpa [h1] using hs'
  ·skip
   refine Z.ev (ev_maxI rfl rfl rfl rfl) 0 ?_
   refine Z.ld 1 ?_
   refine Z.ev (ev_minI (r := ((min n.toNat b.length : Nat) : Int)) rfl rfl rfl (by omega)) 5 ?_
   refine Z.ef (eff_buildAll (α := UInt8) [] rfl Tryz.underlying73 Tryz.ty5 .nil .nil rfl (Nat.le_of_ble_eq_true rfl)) 0 (fun b18 => ?_)
   refine Z.ld 1 ?_
   refine Z.ef (eff_slice (α := UInt8) rfl Tryz.underlying73 Tryz.ty5 rfl Z.p rfl ⟨_, rfl⟩ rfl (by decide) (by omega) (by omega) (by omega) (by omega)) 0 (fun a21 => ?_)
   refine Z.ef (eff_append (α := UInt8) rfl Tryz.underlying73 Tryz.ty5 rfl (by decide) Tryz.underlying73 rfl rfl Z.p (by first | exact reads_ro Z.p | exact reads_own Z.p | exact reads_nil _) (by first | omega | (simp only [List.length_append, List.length_cons, List.length_nil, List.length_drop, List.length_take]; omega) | (simp; omega))) 7 (fun p22 => ?_)
   refine Z.ld 0 ?_
   refine Z.ev (ev_lookupI (v := .slice none 0 0) rfl Tryz.underlying66 Tryz.underlying3 Tryz.ty73 rfl rfl Z.p (by rw [h2] <;> rfl)) 19 ?_
   refine Z.ld 1 ?_
   refine Z.ef0 (eff_putI rfl Tryz.underlying66 Tryz.underlying3 rfl rfl rfl Z.p) 1 (fun _ => ?_)
   refine hx_cap (α := UInt8) Z.p (fun hl hcap => ?_)
   refine hx_freezeS (α := UInt8) Z.p ?_
   refine hx_ret0 (.inr rfl) rfl (putI vs k _) rfl (Ent.cons Z.k (Ent.roWeak2 (φ := secsR vs f) (φ' := roS (α := UInt8) _ _ _) Z.p Z.p (fun r hs hl => ?_) Z.f))
   have hs' := SecsOk.put (k := k) hs hl hcap
   show SecsOk r _ (Dk.upd f k (some (Dk.torn ((f k).getD []) b n)))
   first | rw [Dk.torn_eq, if_pos (by simp only [h1, Option.getD_some, Option.getD_none, List.length_nil]; omega)] | rw [Dk.torn_eq, if_neg (by simp only [h1, Option.getD_some, Option.getD_none, List.length_nil]; omega)]
   simpa [h1] using hs'
 ·skip
  have hs0 := hf k s0 h1
  refine Z.go 3 ?_
  refine Z.ld 1 ?_
  refine Z.lt 6 6 (fun g1 => ?_) (fun g1 => ?_)
  ·skip
   refine Z.ev (ev_maxI rfl rfl rfl rfl) 0 ?_
   refine Z.ld 1 ?_
   refine Z.ev (ev_minI (r := ((min n.toNat b.length : Nat) : Int)) rfl rfl rfl (by omega)) 5 ?_
   refine Z.ef (eff_buildAll (α := UInt8) [] rfl Tryz.underlying73 Tryz.ty5 .nil .nil rfl (Nat.le_of_ble_eq_true rfl)) 0 (fun b18 => ?_)
   refine Z.ld 1 ?_
   refine Z.ef (eff_slice (α := UInt8) rfl Tryz.underlying73 Tryz.ty5 rfl Z.p rfl ⟨_, rfl⟩ rfl (by decide) (by omega) (by omega) (by omega) (by omega)) 0 (fun a21 => ?_)
   refine Z.ef (eff_append (α := UInt8) rfl Tryz.underlying73 Tryz.ty5 rfl (by decide) Tryz.underlying73 rfl rfl Z.p (by first | exact reads_ro Z.p | exact reads_own Z.p | exact reads_nil _) (by first | omega | (simp only [List.length_append, List.length_cons, List.length_nil, List.length_drop, List.length_take]; omega) | (simp; omega))) 7 (fun p22 => ?_)
   refine Z.ld 0 ?_
   refine Z.ev (ev_lookupI (v := .slice a0 s0.length c0) rfl Tryz.underlying66 Tryz.underlying3 Tryz.ty73 rfl rfl Z.p (by rw [h2] <;> rfl)) 10 ?_
   refine Z.lt 8 8 (fun g2 => ?_) (fun g2 => ?_)
   ·skip
    refine Z.ef (eff_slice (α := UInt8) rfl Tryz.underlying73 Tryz.ty5 rfl Z.p ⟨_, rfl⟩ rfl rfl (by decide) (by omega) (by omega) (by omega) (by omega)) 0 (fun a36 => ?_)
    refine Z.ef (eff_append (α := UInt8) rfl Tryz.underlying73 Tryz.ty5 rfl (by decide) Tryz.underlying73 rfl rfl Z.p (by first | exact reads_ro Z.p | exact reads_own Z.p | exact reads_nil _) (by first | omega | (simp only [List.length_append, List.length_cons, List.length_nil, List.length_drop, List.length_take]; omega) | (simp; omega))) 5 (fun p37 => ?_)
    refine Z.ld 1 ?_
    refine Z.ef0 (eff_putI rfl Tryz.underlying66 Tryz.underlying3 rfl rfl rfl Z.p) 1 (fun _ => ?_)
    refine hx_cap (α := UInt8) Z.p (fun hl hcap => ?_)
    refine hx_freezeS (α := UInt8) Z.p ?_
    refine hx_ret0 (.inr rfl) rfl (putI vs k _) rfl (Ent.cons Z.k (Ent.roWeak2 (φ := secsR vs f) (φ' := roS (α := UInt8) _ _ _) Z.p Z.p (fun r hs hl => ?_) Z.f))
    have hs' := SecsOk.put (k := k) hs hl hcap
    show SecsOk r _ (Dk.upd f k (some (Dk.torn ((f k).getD []) b n)))
    first | rw [Dk.torn_eq, if_pos (by simp only [h1, Option.getD_some, Option.getD_none, List.length_nil]; omega)] | rw [Dk.torn_eq, if_neg (by simp only [h1, Option.getD_some, Option.getD_none, List.length_nil]; omega)]
    simpa [h1] using hs'
   ·skip
    refine Z.ld 1 ?_
    refine Z.ef0 (eff_putI rfl Tryz.underlying66 Tryz.underlying3 rfl rfl rfl Z.p) 1 (fun _ => ?_)
    refine hx_cap (α := UInt8) Z.p (fun hl hcap => ?_)
    refine hx_freezeS (α := UInt8) Z.p ?_
    refine hx_ret0 (.inr rfl) rfl (putI vs k _) rfl (Ent.cons Z.k (Ent.roWeak2 (φ := secsR vs f) (φ' := roS (α := UInt8) _ _ _) Z.p Z.p (fun r hs hl => ?_) Z.f))
    have hs' := SecsOk.put (k := k) hs hl hcap
    show SecsOk r _ (Dk.upd f k (some (Dk.torn ((f k).getD []) b n)))
    first | rw [Dk.torn_eq, if_pos (by simp only [h1, Option.getD_some, Option.getD_none, List.length_nil]; omega)] | rw [Dk.torn_eq, if_neg (by simp only [h1, Option.getD_some, Option.getD_none, List.length_nil]; omega)]
    simpa [h1] using hs'
  ·skip
   refine Z.ev (ev_maxI rfl rfl rfl rfl) 0 ?_
   refine Z.ld 1 ?_
   refine Z.ev (ev_minI (r := ((min n.toNat b.length : Nat) : Int)) rfl rfl rfl (by omega)) 5 ?_
   refine Z.ef (eff_buildAll (α := UInt8) [] rfl Tryz.underlying73 Tryz.ty5 .nil .nil rfl (Nat.le_of_ble_eq_true rfl)) 0 (fun b18 => ?_)
   refine Z.ld 1 ?_
   refine Z.ef (eff_slice (α := UInt8) rfl Tryz.underlying73 Tryz.ty5 rfl Z.p rfl ⟨_, rfl⟩ rfl (by decide) (by omega) (by omega) (by omega) (by omega)) 0 (fun a21 => ?_)
   refine Z.ef (eff_append (α := UInt8) rfl Tryz.underlying73 Tryz.ty5 rfl (by decide) Tryz.underlying73 rfl rfl Z.p (by first | exact reads_ro Z.p | exact reads_own Z.p | exact reads_nil _) (by first | omega | (simp only [List.length_append, List.length_cons, List.length_nil, List.length_drop, List.length_take]; omega) | (simp; omega))) 7 (fun p22 => ?_)
   refine Z.ld 0 ?_
   refine Z.ev (ev_lookupI (v := .slice a0 s0.length c0) rfl Tryz.underlying66 Tryz.underlying3 Tryz.ty73 rfl rfl Z.p (by rw [h2] <;> rfl)) 19 ?_
   refine Z.ld 1 ?_
   refine Z.ef0 (eff_putI rfl Tryz.underlying66 Tryz.underlying3 rfl rfl rfl Z.p) 1 (fun _ => ?_)
   refine hx_cap (α := UInt8) Z.p (fun hl hcap => ?_)
   refine hx_freezeS (α := UInt8) Z.p ?_
   refine hx_ret0 (.inr rfl) rfl (putI vs k _) rfl (Ent.cons Z.k (Ent.roWeak2 (φ := secsR vs f) (φ' := roS (α := UInt8) _ _ _) Z.p Z.p (fun r hs hl => ?_) Z.f))
   have hs' := SecsOk.put (k := k) hs hl hcap
   show SecsOk r _ (Dk.upd f k (some (Dk.torn ((f k).getD []) b n)))
   first | rw [Dk.torn_eq, if_pos (by simp only [h1, Option.getD_some, Option.getD_none, List.length_nil]; omega)] | rw [Dk.torn_eq, if_neg (by simp only [h1, Option.getD_some, Option.getD_none, List.length_nil]; omega)]
   simpa [h1] using hs'
theorem disk_freeing1 (mv : Nat) (n : Int) (b2 : Nat) (k : Int) (vs : List (Int × Value)) (f : Dk.Secs) : Ctr Tryz.prog 91 #[.map (some mv), .int .i64 n, .pointer (some ⟨b2, 0, none⟩)] [mapI mv vs, ro (secsR vs f), ro (roB b2 (.cells #[.int .i64 k] 3 (0, 0)))] (fun _ : List (Int × Value) => .tuple #[]) (fun vs' => [mapI mv vs', ro (secsR vs' ((Dk.POp.fr k).run n f))]) := by
 refine Z.fn Tryz.func91 Tryz.ntmps91 (fun κ F => ?_)
 refine Z.go 2 ?_
 refine Z.ld 0 ?_
 refine Z.ef0 (eff_delI rfl Tryz.underlying66 Tryz.underlying3 rfl rfl Z.p) 1 (fun _ => ?_)
 exact hx_ret0 (.inr rfl) rfl (delI vs k) rfl (Ent.cons Z.p (Ent.roWeak (φ := secsR vs f) Z.p (fun r hs => hs.del k) Z.f))

section
variable {κ : World} {n : Nat} {L M R R' R'' : List Assn} {ρ : Env} {ops : Array Oper} {o : Oper} {l : List Oper} {Q : Exit → Act → World → Prop}
/-- a pending closure that is called: what it does to sectors -/
theorem eff_clo {fx x y : Operand} {ts : Array TypeId} {v : Value} {mv : Nat} {m : Int} {vs : List (Int × Value)} {f : Dk.Secs} {po : Dk.POp} (ho : o.op = .call { callee := .value fx, args := #[x, y], argTypes := ts }) (hf : oev ρ fx = some v) (hx : oev ρ x = some (.map (some mv))) (hy : oev ρ y = some (.int .i64 m))
    (hclo : Pick (ro (cloR v po)) L R') (hm : Pick (mapI mv vs) L R) (hs : Pick (ro (secsR vs f)) L R'') (hfew : Few f) :
    Eff Tryz.prog κ n L ρ o (fun vs' : List (Int × Value) => mapI mv vs' :: ro (secsR vs' (po.run m f)) :: R) (fun _ => .tuple #[]) := fun a w K Q ha hw hk => by
  obtain ⟨p, r, h1, h2, h3, h4⟩ := hw.sep
  have hc : CloOk r v po := let ⟨_, _, _, _, _, hA, _⟩ := hclo.sep h4; hA
  have hs' : SecsOk r vs f := let ⟨_, _, _, _, _, hA, _⟩ := hs.sep h4; hA
  have h5 : Sep (ro (secsR vs f) :: L) p r := Sep.addRo hs' h4
  cases hc with
  | @wr k b b1 b2 a' c hb hbc e1 e2 e3 =>
    have h6 := Sep.addRo (φ := roB b1 _) e1 (Sep.addRo (φ := roB b2 _) e2 (Sep.addRo (φ := roS a' b.length b) e3 h5))
    have hw' : Sat κ _ w := ⟨hw.os, hw.tape, hw.output, p, r, h1, h2, h3, h6⟩
    exact eff_call (P := Tryz.prog) (κ := κ) (n := n) (first := #[]) (cap := #[.pointer (some ⟨b1, 0, none⟩), .pointer (some ⟨b2, 0, none⟩)]) ho hf (.cons hx (.cons hy .nil)) rfl (disk_writing1 mv m b1 b2 k a' c b vs f hb hbc hfew)
      (Picks.cons (.there (.there (.there (.there hm)))) (Picks.cons (.there (.there (.there .here))) (Picks.cons .here (Picks.cons .here (Picks.cons .here .nil))))) (fun vs' => .cons (.cons .nil)) a w K Q ha hw' (fun vs' w' h => hk vs' w' h)
  | @fr k b2 e2 =>
    have h6 := Sep.addRo (φ := roB b2 _) e2 h5
    have hw' : Sat κ _ w := ⟨hw.os, hw.tape, hw.output, p, r, h1, h2, h3, h6⟩
    exact eff_call (P := Tryz.prog) (κ := κ) (n := n) (first := #[]) (cap := #[.pointer (some ⟨b2, 0, none⟩)]) ho hf (.cons hx (.cons hy .nil)) rfl (disk_freeing1 mv m b2 k vs f)
      (Picks.cons (.there (.there hm)) (Picks.cons (.there .here) (Picks.cons .here .nil))) (fun vs' => .cons (.cons .nil)) a w K Q ha hw' (fun vs' w' h => hk vs' w' h)
theorem ht_clo {v : Value} {po : Dk.POp} {c : Code} (k : Pick (ro (cloR v po)) L R) (h1 : ∀ k b q1 q2, po = .wr k b → v = .func (.func 96) #[] #[.pointer (some ⟨q1, 0, none⟩), .pointer (some ⟨q2, 0, none⟩)] → HT Tryz.prog κ n L ρ c Q)
    (h2 : ∀ k q2, po = .fr k → v = .func (.func 91) #[] #[.pointer (some ⟨q2, 0, none⟩)] → HT Tryz.prog κ n L ρ c Q) : HT Tryz.prog κ n L ρ c Q := fun a w ha hw => by
  have hc : CloOk (hp w) v po := hw.ro k
  cases hc with
  | wr _ _ _ _ _ => exact h1 _ _ _ _ rfl rfl a w ha hw
  | fr _ => exact h2 _ _ rfl rfl a w ha hw
end

theorem disk_do (p : Nat) (d : Dk.Disk) (v : Value) (po : Dk.POp) (m : Int) (hpl : d.pend.length < 4294967296) (hpo : ∀ k b, po = .wr k b → b.length ≤ 512) : Ctr Tryz.prog 74 #[.pointer (some ⟨p, 0, none⟩), v, .int .i64 m] [DiskAt p d, ro (cloR v po)] (fun _ : Unit => .tuple #[]) (fun _ => [DiskAt p (d.push po m)]) := by
 refine Z.fn Tryz.func74 Tryz.ntmps74 (fun κ F => ?_)
 refine ht_disk (fun x hok => ?_)
 refine ht_cap (xs := x.cl) Z.p (fun hcl hcap => ?_)
 refine ht_clo (v := v) Z.p (fun k b q1 q2 hp hv => ?_) (fun k q2 hp hv => ?_)
 ·skip
  subst hv
  refine Z.go 6 ?_
  refine Z.ld 1 ?_
  refine Z.ef (eff_buildAll (α := VCell) [⟨.func (.func 96) #[] #[.pointer (some ⟨q1, 0, none⟩), .pointer (some ⟨q2, 0, none⟩)], rfl⟩] rfl Tryz.underlying67 Tryz.ty106 (.cons rfl .nil) (.cons rfl .nil) rfl (Nat.le_of_ble_eq_true rfl)) 0 (fun b12 => ?_)
  refine Z.ef (eff_append (α := VCell) rfl Tryz.underlying67 Tryz.ty106 rfl (by decide) Tryz.underlying67 rfl rfl Z.p (by first | exact reads_ro Z.p | exact reads_own Z.p | exact reads_nil _) (by first | omega | (simp only [List.length_append, List.length_cons, List.length_nil, List.length_drop, List.length_take]; omega) | (simp; omega))) 2 (fun p13 => ?_)
  refine Z.s1 7 ?_
  refine Z.ld 1 ?_
  refine Z.ef (eff_clo (po := po) (f := d.view) rfl rfl rfl rfl Z.p Z.p Z.p hok.view) 1 (fun vs2 => ?_)
  refine hx_ret0 (.inr rfl) rfl () rfl ?_
  refine Ent.trans (Ent.roWeak2 (φ := pendR x.cl d.pend) (φ' := cloR (.func (.func 96) #[] #[.pointer (some ⟨q1, 0, none⟩), .pointer (some ⟨q2, 0, none⟩)]) po) (ψ := pendR (x.cl ++ [VCell.mk (.func (.func 96) #[] #[.pointer (some ⟨q1, 0, none⟩), .pointer (some ⟨q2, 0, none⟩)]) rfl]) (d.pend ++ [po])) Z.p Z.p (fun r h1 h2 => PendOk.snoc (v := VCell.mk (.func (.func 96) #[] #[.pointer (some ⟨q1, 0, none⟩), .pointer (some ⟨q2, 0, none⟩)]) rfl) h1 h2) (Ent.refl _)) ?_
  exact Ent.disk (d := d.push po m) ⟨x.mv, x.mg, p13.1, p13.2, vs2, x.gs, x.cl ++ [⟨.func (.func 96) #[] #[.pointer (some ⟨q1, 0, none⟩), .pointer (some ⟨q2, 0, none⟩)], rfl⟩]⟩ ⟨hok.view.run hpo m, hok.ground⟩ Z.d (by simp [Dk.Disk.push, hcl]) Z.f
 ·skip
  subst hv
  refine Z.go 6 ?_
  refine Z.ld 1 ?_
  refine Z.ef (eff_buildAll (α := VCell) [⟨.func (.func 91) #[] #[.pointer (some ⟨q2, 0, none⟩)], rfl⟩] rfl Tryz.underlying67 Tryz.ty106 (.cons rfl .nil) (.cons rfl .nil) rfl (Nat.le_of_ble_eq_true rfl)) 0 (fun b12 => ?_)
  refine Z.ef (eff_append (α := VCell) rfl Tryz.underlying67 Tryz.ty106 rfl (by decide) Tryz.underlying67 rfl rfl Z.p (by first | exact reads_ro Z.p | exact reads_own Z.p | exact reads_nil _) (by first | omega | (simp only [List.length_append, List.length_cons, List.length_nil, List.length_drop, List.length_take]; omega) | (simp; omega))) 2 (fun p13 => ?_)
  refine Z.s1 7 ?_
  refine Z.ld 1 ?_
  refine Z.ef (eff_clo (po := po) (f := d.view) rfl rfl rfl rfl Z.p Z.p Z.p hok.view) 1 (fun vs2 => ?_)
  refine hx_ret0 (.inr rfl) rfl () rfl ?_
  refine Ent.trans (Ent.roWeak2 (φ := pendR x.cl d.pend) (φ' := cloR (.func (.func 91) #[] #[.pointer (some ⟨q2, 0, none⟩)]) po) (ψ := pendR (x.cl ++ [VCell.mk (.func (.func 91) #[] #[.pointer (some ⟨q2, 0, none⟩)]) rfl]) (d.pend ++ [po])) Z.p Z.p (fun r h1 h2 => PendOk.snoc (v := VCell.mk (.func (.func 91) #[] #[.pointer (some ⟨q2, 0, none⟩)]) rfl) h1 h2) (Ent.refl _)) ?_
  exact Ent.disk (d := d.push po m) ⟨x.mv, x.mg, p13.1, p13.2, vs2, x.gs, x.cl ++ [⟨.func (.func 91) #[] #[.pointer (some ⟨q2, 0, none⟩)], rfl⟩]⟩ ⟨hok.view.run hpo m, hok.ground⟩ Z.d (by simp [Dk.Disk.push, hcl]) Z.f
theorem disk_Write (p : Nat) (d : Dk.Disk) (k : Int) (a : Option Addr) (c : Nat) (b : List UInt8) (hpl : d.pend.length < 4294967296) (hbl : b.length < 4294967296) : Ctr Tryz.prog 64 #[.pointer (some ⟨p, 0, none⟩), .int .i64 k, .slice a b.length c] [DiskAt p d, ro (roS a b.length b)] (fun _ : Unit => .int .i64 (d.werr k b)) (fun _ => [DiskAt p (d.write k b)]) := by
 refine Z.fn Tryz.func64 Tryz.ntmps64 (fun κ F => ?_)
 refine ht_disk (fun x hok => ?_)
 refine ht_card (f := d.view) Z.p (fun hcard => ?_)
 refine ht_secs (f := d.view) k Z.p (fun h1 h2 => ?_) (fun a0 c0 s0 h1 h2 h3 => ?_)
 ·skip
  refine Z.go 10 ?_
  refine Z.ld 1 ?_
  refine Z.ev (ev_lookupOkI (v := .slice none 0 0) (ok := false) rfl Tryz.underlying66 Tryz.underlying3 Tryz.ty73 rfl rfl Z.p (by rw [h2] <;> rfl) (by rw [h2] <;> rfl)) 12 ?_
  refine Z.lt 20 5 (fun g1 => ?_) (fun g1 => ?_)
  ·skip
   first
    | (have hw := werr_sector (d := d) (k := k) (b := b) (by omega); refine hx_ret1 (.inl rfl) rfl rfl () (by rw [hw]) ?_; rw [write_no hw (by decide)]; exact Ent.disk x hok Z.d rfl Z.f)
    | (have hw := werr_long (d := d) (k := k) (b := b) (by omega) (by omega); refine hx_ret1 (.inl rfl) rfl rfl () (by rw [hw]) ?_; rw [write_no hw (by decide)]; exact Ent.disk x hok Z.d rfl Z.f)
    | (have hw := werr_full (d := d) (k := k) (b := b) (by omega) (by omega) h1 (by omega); refine hx_ret1 (.inl rfl) rfl rfl () (by rw [hw]) ?_; rw [write_no hw (by decide)]; exact Ent.disk x hok Z.d rfl Z.f)
    | (have hw := werr_ok1 (d := d) (k := k) (b := b) (by omega) (by omega) (by omega); refine hx_ret1 (.inl rfl) rfl rfl () (by rw [hw]) ?_; rw [write_yes hw]; exact Ent.cons .here Z.f)
    | (have hw := werr_ok2 (d := d) (k := k) (b := b) (by omega) (by omega) h1; refine hx_ret1 (.inl rfl) rfl rfl () (by rw [hw]) ?_; rw [write_yes hw]; exact Ent.cons .here Z.f)
  ·skip
   refine Z.ld 0 ?_
   refine Z.ge 13 9 (fun g2 => ?_) (fun g2 => ?_)
   ·skip
    first
     | (have hw := werr_sector (d := d) (k := k) (b := b) (by omega); refine hx_ret1 (.inl rfl) rfl rfl () (by rw [hw]) ?_; rw [write_no hw (by decide)]; exact Ent.disk x hok Z.d rfl Z.f)
     | (have hw := werr_long (d := d) (k := k) (b := b) (by omega) (by omega); refine hx_ret1 (.inl rfl) rfl rfl () (by rw [hw]) ?_; rw [write_no hw (by decide)]; exact Ent.disk x hok Z.d rfl Z.f)
     | (have hw := werr_full (d := d) (k := k) (b := b) (by omega) (by omega) h1 (by omega); refine hx_ret1 (.inl rfl) rfl rfl () (by rw [hw]) ?_; rw [write_no hw (by decide)]; exact Ent.disk x hok Z.d rfl Z.f)
     | (have hw := werr_ok1 (d := d) (k := k) (b := b) (by omega) (by omega) (by omega); refine hx_ret1 (.inl rfl) rfl rfl () (by rw [hw]) ?_; rw [write_yes hw]; exact Ent.cons .here Z.f)
     | (have hw := werr_ok2 (d := d) (k := k) (b := b) (by omega) (by omega) h1; refine hx_ret1 (.inl rfl) rfl rfl () (by rw [hw]) ?_; rw [write_yes hw]; exact Ent.cons .here Z.f)
   ·skip
    refine Z.gt 12 5 (fun g3 => ?_) (fun g3 => ?_)
    ·skip
     first
      | (have hw := werr_sector (d := d) (k := k) (b := b) (by omega); refine hx_ret1 (.inl rfl) rfl rfl () (by rw [hw]) ?_; rw [write_no hw (by decide)]; exact Ent.disk x hok Z.d rfl Z.f)
      | (have hw := werr_long (d := d) (k := k) (b := b) (by omega) (by omega); refine hx_ret1 (.inl rfl) rfl rfl () (by rw [hw]) ?_; rw [write_no hw (by decide)]; exact Ent.disk x hok Z.d rfl Z.f)
      | (have hw := werr_full (d := d) (k := k) (b := b) (by omega) (by omega) h1 (by omega); refine hx_ret1 (.inl rfl) rfl rfl () (by rw [hw]) ?_; rw [write_no hw (by decide)]; exact Ent.disk x hok Z.d rfl Z.f)
      | (have hw := werr_ok1 (d := d) (k := k) (b := b) (by omega) (by omega) (by omega); refine hx_ret1 (.inl rfl) rfl rfl () (by rw [hw]) ?_; rw [write_yes hw]; exact Ent.cons .here Z.f)
      | (have hw := werr_ok2 (d := d) (k := k) (b := b) (by omega) (by omega) h1; refine hx_ret1 (.inl rfl) rfl rfl () (by rw [hw]) ?_; rw [write_yes hw]; exact Ent.cons .here Z.f)
    ·skip
     refine ht_draw (.op 0 (.op 1 (.op 2 (.op 3 (.op 4 (.op 5 (.op 6 (.op 7 (.op 8 (.op 9 (.op 10 (.op 11 (.op 12 (.op 13 (.op 14 .done))))))))))))))) [] Tryz.mixed rfl ?_
     refine hd_evb rfl rfl rfl rfl (EvG.go rfl (ev_move rfl rfl)) (fun g4 => ?_) (fun g4 => ?_)
     ·simp at g4
     ·skip
      refine Z.dr 5 ?_
      refine Z.dl ?_
      refine hd_ev rfl rfl rfl rfl (EvG.go rfl (ev_lenI rfl Tryz.underlying66 rfl Z.p)) ?_
      refine Z.dr 3 ?_
      refine Z.dl ?_
      refine hd_geg rfl rfl rfl rfl rfl rfl rfl rfl rfl (fun g5 => ?_) (fun g5 => ?_)
      ·skip
       refine Z.dr 2 ?_
       refine hd_nil ?_
       refine Z.xg 10 ?_
       first
        | (have hw := werr_sector (d := d) (k := k) (b := b) (by omega); refine hx_ret1 (.inl rfl) rfl rfl () (by rw [hw]) ?_; rw [write_no hw (by decide)]; exact Ent.disk x hok Z.d rfl Z.f)
        | (have hw := werr_long (d := d) (k := k) (b := b) (by omega) (by omega); refine hx_ret1 (.inl rfl) rfl rfl () (by rw [hw]) ?_; rw [write_no hw (by decide)]; exact Ent.disk x hok Z.d rfl Z.f)
        | (have hw := werr_full (d := d) (k := k) (b := b) (by omega) (by omega) h1 (by omega); refine hx_ret1 (.inl rfl) rfl rfl () (by rw [hw]) ?_; rw [write_no hw (by decide)]; exact Ent.disk x hok Z.d rfl Z.f)
        | (have hw := werr_ok1 (d := d) (k := k) (b := b) (by omega) (by omega) (by omega); refine hx_ret1 (.inl rfl) rfl rfl () (by rw [hw]) ?_; rw [write_yes hw]; exact Ent.cons .here Z.f)
        | (have hw := werr_ok2 (d := d) (k := k) (b := b) (by omega) (by omega) h1; refine hx_ret1 (.inl rfl) rfl rfl () (by rw [hw]) ?_; rw [write_yes hw]; exact Ent.cons .here Z.f)
      ·skip
       refine Z.dr 2 ?_
       refine hd_nil ?_
       refine Z.xg 7 ?_
       refine Z.ef (eff_buildAll (α := UInt8) [] rfl Tryz.underlying73 Tryz.ty5 .nil .nil rfl (Nat.le_of_ble_eq_true rfl)) 1 (fun b48 => ?_)
       refine Z.ef (eff_append (α := UInt8) rfl Tryz.underlying73 Tryz.ty5 rfl (by decide) Tryz.underlying73 rfl rfl Z.p (by first | exact reads_ro Z.p | exact reads_own Z.p | exact reads_nil _) (by first | omega | (simp only [List.length_append, List.length_cons, List.length_nil, List.length_drop, List.length_take]; omega) | (simp; omega))) 8 (fun p50 => ?_)
       refine ho_cap (α := UInt8) Z.p (fun hl hcap => ?_)
       refine ho_freezeS (α := UInt8) Z.p ?_
       simp only [List.nil_append] at hl hcap ⊢
       refine Z.ca (c := disk_writing k _ _ b (by omega) hcap) 2 (fun q => ?_)
       refine ho_ent (L := _) (M := _) (Ent.disk (d := d) x hok Z.d rfl (Ent.refl _)) ?_
       refine Z.ca (c := disk_do p d (.func (.func 96) #[] #[.pointer (some ⟨q.1, 0, none⟩), .pointer (some ⟨q.2, 0, none⟩)]) (.wr k b) _ hpl (by intro k1 b1 h; cases h; omega)) 8 (fun _ => ?_)
       first
        | (have hw := werr_sector (d := d) (k := k) (b := b) (by omega); refine hx_ret1 (.inl rfl) rfl rfl () (by rw [hw]) ?_; rw [write_no hw (by decide)]; exact Ent.disk x hok Z.d rfl Z.f)
        | (have hw := werr_long (d := d) (k := k) (b := b) (by omega) (by omega); refine hx_ret1 (.inl rfl) rfl rfl () (by rw [hw]) ?_; rw [write_no hw (by decide)]; exact Ent.disk x hok Z.d rfl Z.f)
        | (have hw := werr_full (d := d) (k := k) (b := b) (by omega) (by omega) h1 (by omega); refine hx_ret1 (.inl rfl) rfl rfl () (by rw [hw]) ?_; rw [write_no hw (by decide)]; exact Ent.disk x hok Z.d rfl Z.f)
        | (have hw := werr_ok1 (d := d) (k := k) (b := b) (by omega) (by omega) (by omega); refine hx_ret1 (.inl rfl) rfl rfl () (by rw [hw]) ?_; rw [write_yes hw]; exact Ent.cons .here Z.f)
        | (have hw := werr_ok2 (d := d) (k := k) (b := b) (by omega) (by omega) h1; refine hx_ret1 (.inl rfl) rfl rfl () (by rw [hw]) ?_; rw [write_yes hw]; exact Ent.cons .here Z.f)
 ·skip
  refine Z.go 10 ?_
  refine Z.ld 1 ?_
  refine Z.ev (ev_lookupOkI (v := .slice a0 s0.length c0) (ok := true) rfl Tryz.underlying66 Tryz.underlying3 Tryz.ty73 rfl rfl Z.p (by rw [h2] <;> rfl) (by rw [h2] <;> rfl)) 12 ?_
  refine Z.lt 20 5 (fun g1 => ?_) (fun g1 => ?_)
  ·skip
   first
    | (have hw := werr_sector (d := d) (k := k) (b := b) (by omega); refine hx_ret1 (.inl rfl) rfl rfl () (by rw [hw]) ?_; rw [write_no hw (by decide)]; exact Ent.disk x hok Z.d rfl Z.f)
    | (have hw := werr_long (d := d) (k := k) (b := b) (by omega) (by omega); refine hx_ret1 (.inl rfl) rfl rfl () (by rw [hw]) ?_; rw [write_no hw (by decide)]; exact Ent.disk x hok Z.d rfl Z.f)
    | (have hw := werr_full (d := d) (k := k) (b := b) (by omega) (by omega) h1 (by omega); refine hx_ret1 (.inl rfl) rfl rfl () (by rw [hw]) ?_; rw [write_no hw (by decide)]; exact Ent.disk x hok Z.d rfl Z.f)
    | (have hw := werr_ok1 (d := d) (k := k) (b := b) (by omega) (by omega) (by omega); refine hx_ret1 (.inl rfl) rfl rfl () (by rw [hw]) ?_; rw [write_yes hw]; exact Ent.cons .here Z.f)
    | (have hw := werr_ok2 (d := d) (k := k) (b := b) (by omega) (by omega) h1; refine hx_ret1 (.inl rfl) rfl rfl () (by rw [hw]) ?_; rw [write_yes hw]; exact Ent.cons .here Z.f)
  ·skip
   refine Z.ld 0 ?_
   refine Z.ge 13 9 (fun g2 => ?_) (fun g2 => ?_)
   ·skip
    first
     | (have hw := werr_sector (d := d) (k := k) (b := b) (by omega); refine hx_ret1 (.inl rfl) rfl rfl () (by rw [hw]) ?_; rw [write_no hw (by decide)]; exact Ent.disk x hok Z.d rfl Z.f)
     | (have hw := werr_long (d := d) (k := k) (b := b) (by omega) (by omega); refine hx_ret1 (.inl rfl) rfl rfl () (by rw [hw]) ?_; rw [write_no hw (by decide)]; exact Ent.disk x hok Z.d rfl Z.f)
     | (have hw := werr_full (d := d) (k := k) (b := b) (by omega) (by omega) h1 (by omega); refine hx_ret1 (.inl rfl) rfl rfl () (by rw [hw]) ?_; rw [write_no hw (by decide)]; exact Ent.disk x hok Z.d rfl Z.f)
     | (have hw := werr_ok1 (d := d) (k := k) (b := b) (by omega) (by omega) (by omega); refine hx_ret1 (.inl rfl) rfl rfl () (by rw [hw]) ?_; rw [write_yes hw]; exact Ent.cons .here Z.f)
     | (have hw := werr_ok2 (d := d) (k := k) (b := b) (by omega) (by omega) h1; refine hx_ret1 (.inl rfl) rfl rfl () (by rw [hw]) ?_; rw [write_yes hw]; exact Ent.cons .here Z.f)
   ·skip
    refine Z.gt 12 5 (fun g3 => ?_) (fun g3 => ?_)
    ·skip
     first
      | (have hw := werr_sector (d := d) (k := k) (b := b) (by omega); refine hx_ret1 (.inl rfl) rfl rfl () (by rw [hw]) ?_; rw [write_no hw (by decide)]; exact Ent.disk x hok Z.d rfl Z.f)
      | (have hw := werr_long (d := d) (k := k) (b := b) (by omega) (by omega); refine hx_ret1 (.inl rfl) rfl rfl () (by rw [hw]) ?_; rw [write_no hw (by decide)]; exact Ent.disk x hok Z.d rfl Z.f)
      | (have hw := werr_full (d := d) (k := k) (b := b) (by omega) (by omega) h1 (by omega); refine hx_ret1 (.inl rfl) rfl rfl () (by rw [hw]) ?_; rw [write_no hw (by decide)]; exact Ent.disk x hok Z.d rfl Z.f)
      | (have hw := werr_ok1 (d := d) (k := k) (b := b) (by omega) (by omega) (by omega); refine hx_ret1 (.inl rfl) rfl rfl () (by rw [hw]) ?_; rw [write_yes hw]; exact Ent.cons .here Z.f)
      | (have hw := werr_ok2 (d := d) (k := k) (b := b) (by omega) (by omega) h1; refine hx_ret1 (.inl rfl) rfl rfl () (by rw [hw]) ?_; rw [write_yes hw]; exact Ent.cons .here Z.f)
    ·skip
     refine ht_draw (.op 0 (.op 1 (.op 2 (.op 3 (.op 4 (.op 5 (.op 6 (.op 7 (.op 8 (.op 9 (.op 10 (.op 11 (.op 12 (.op 13 (.op 14 .done))))))))))))))) [] Tryz.mixed rfl ?_
     refine hd_evb rfl rfl rfl rfl (EvG.go rfl (ev_move rfl rfl)) (fun g4 => ?_) (fun g4 => ?_)
     ·skip
      refine Z.dr 14 ?_
      refine hd_nil ?_
      refine Z.xg 7 ?_
      refine Z.ef (eff_buildAll (α := UInt8) [] rfl Tryz.underlying73 Tryz.ty5 .nil .nil rfl (Nat.le_of_ble_eq_true rfl)) 1 (fun b48 => ?_)
      refine Z.ef (eff_append (α := UInt8) rfl Tryz.underlying73 Tryz.ty5 rfl (by decide) Tryz.underlying73 rfl rfl Z.p (by first | exact reads_ro Z.p | exact reads_own Z.p | exact reads_nil _) (by first | omega | (simp only [List.length_append, List.length_cons, List.length_nil, List.length_drop, List.length_take]; omega) | (simp; omega))) 8 (fun p50 => ?_)
      refine ho_cap (α := UInt8) Z.p (fun hl hcap => ?_)
      refine ho_freezeS (α := UInt8) Z.p ?_
      simp only [List.nil_append] at hl hcap ⊢
      refine Z.ca (c := disk_writing k _ _ b (by omega) hcap) 2 (fun q => ?_)
      refine ho_ent (L := _) (M := _) (Ent.disk (d := d) x hok Z.d rfl (Ent.refl _)) ?_
      refine Z.ca (c := disk_do p d (.func (.func 96) #[] #[.pointer (some ⟨q.1, 0, none⟩), .pointer (some ⟨q.2, 0, none⟩)]) (.wr k b) _ hpl (by intro k1 b1 h; cases h; omega)) 8 (fun _ => ?_)
      first
       | (have hw := werr_sector (d := d) (k := k) (b := b) (by omega); refine hx_ret1 (.inl rfl) rfl rfl () (by rw [hw]) ?_; rw [write_no hw (by decide)]; exact Ent.disk x hok Z.d rfl Z.f)
       | (have hw := werr_long (d := d) (k := k) (b := b) (by omega) (by omega); refine hx_ret1 (.inl rfl) rfl rfl () (by rw [hw]) ?_; rw [write_no hw (by decide)]; exact Ent.disk x hok Z.d rfl Z.f)
       | (have hw := werr_full (d := d) (k := k) (b := b) (by omega) (by omega) h1 (by omega); refine hx_ret1 (.inl rfl) rfl rfl () (by rw [hw]) ?_; rw [write_no hw (by decide)]; exact Ent.disk x hok Z.d rfl Z.f)
       | (have hw := werr_ok1 (d := d) (k := k) (b := b) (by omega) (by omega) (by omega); refine hx_ret1 (.inl rfl) rfl rfl () (by rw [hw]) ?_; rw [write_yes hw]; exact Ent.cons .here Z.f)
       | (have hw := werr_ok2 (d := d) (k := k) (b := b) (by omega) (by omega) h1; refine hx_ret1 (.inl rfl) rfl rfl () (by rw [hw]) ?_; rw [write_yes hw]; exact Ent.cons .here Z.f)
     ·simp at g4
theorem disk_Free (p : Nat) (d : Dk.Disk) (k : Int) (hpl : d.pend.length < 4294967296) : Ctr Tryz.prog 50 #[.pointer (some ⟨p, 0, none⟩), .int .i64 k] [DiskAt p d] (fun _ : Unit => .int .i64 (if (d.view k).isSome then 0 else 61)) (fun _ => [DiskAt p (d.free k)]) := by
 refine Z.fn Tryz.func50 Tryz.ntmps50 (fun κ F => ?_)
 refine ht_disk (fun x hok => ?_)
 refine ht_secs (f := d.view) k Z.p (fun h1 h2 => ?_) (fun a0 c0 s0 h1 h2 h3 => ?_)
 ·skip
  refine Z.go 11 ?_
  refine Z.ld 1 ?_
  refine Z.ev (ev_lookupOkI (v := .slice none 0 0) (ok := false) rfl Tryz.underlying66 Tryz.underlying3 Tryz.ty73 rfl rfl Z.p (by rw [h2] <;> rfl) (by rw [h2] <;> rfl)) 10 ?_
  refine Z.bo 16 0 11 (fun g1 => ?_) (fun g1 => ?_)
  ·simp at g1
  ·skip
   first
    | (refine hx_ret1 (.inl rfl) rfl rfl () (by rw [h1]; rfl) ?_; rw [show d.free k = d from by unfold Dk.Disk.free; rw [h1]; rfl]; exact Ent.disk x hok Z.d rfl Z.f)
    | (refine hx_ret1 (.inl rfl) rfl rfl () (by rw [h1]; rfl) ?_; rw [show d.free k = d.push (.fr k) 0 from by unfold Dk.Disk.free; rw [h1]; rfl]; exact Ent.cons .here Z.f)
 ·skip
  refine Z.go 11 ?_
  refine Z.ld 1 ?_
  refine Z.ev (ev_lookupOkI (v := .slice a0 s0.length c0) (ok := true) rfl Tryz.underlying66 Tryz.underlying3 Tryz.ty73 rfl rfl Z.p (by rw [h2] <;> rfl) (by rw [h2] <;> rfl)) 10 ?_
  refine Z.bo 16 10 0 (fun g1 => ?_) (fun g1 => ?_)
  ·skip
   refine Z.ca (c := disk_freeing k) 0 (fun q => ?_)
   refine ho_ent (L := _) (M := _) (Ent.disk (d := d) x hok Z.d rfl (Ent.refl _)) ?_
   refine Z.ca (c := disk_do p d (.func (.func 91) #[] #[.pointer (some ⟨q, 0, none⟩)]) (.fr k) _ hpl (by intro k1 b1 h; cases h)) 8 (fun _ => ?_)
   first
    | (refine hx_ret1 (.inl rfl) rfl rfl () (by rw [h1]; rfl) ?_; rw [show d.free k = d from by unfold Dk.Disk.free; rw [h1]; rfl]; exact Ent.disk x hok Z.d rfl Z.f)
    | (refine hx_ret1 (.inl rfl) rfl rfl () (by rw [h1]; rfl) ?_; rw [show d.free k = d.push (.fr k) 0 from by unfold Dk.Disk.free; rw [h1]; rfl]; exact Ent.cons .here Z.f)
  ·simp at g1

section
variable {P : Program} {κ : World} {n : Nat} {L M R R' : List Assn} {ρ : Env} {Q : Exit → Act → World → Prop}
theorem ht_nodup {c : Code} {it b : Nat} {es left : List (Int × Value)} {cur : Option (Int × Value)} (k : Pick (rangeI it b es left cur) L R) (h : (es.map fun x => x.1).Nodup → HT P κ n L ρ c Q) : HT P κ n L ρ c Q := fun a w ha hw => 
  h (mapI_nodup (b := b) ((hw.ent (Ent.pick k)).ent rangeI_end) .here) a w ha hw
theorem Ent.rangeEnd {it b : Nat} {es left : List (Int × Value)} {cur : Option (Int × Value)} (k : Pick (rangeI it b es left cur) L R) : Ent L (mapI b es :: R) := (Ent.pick k).trans rangeI_end
theorem Ent.roDupAt {φ : RoP} {L R M : List Assn} (k : Pick (ro φ) L R) (h : Ent L M) : Ent L (ro φ :: M) := Ent.roWeak k (fun _ h => h) h
end

/-- sectors but for those of a list -/
def lessI (f : Dk.Secs) (l : List (Int × Value)) : Dk.Secs := fun k => if k ∈ l.map (fun x => x.1) then none else f k
theorem lessI_nil (f : Dk.Secs) : lessI f [] = f := by funext k; simp [lessI]
theorem SecsOk.less {r : Part} {es : List (Int × Value)} {f : Dk.Secs} (h : SecsOk r es f) : SecsOk r [] (lessI f es) := by
  refine ⟨by simp, fun k _ => ?_, fun k v hg => by simp [getI] at hg⟩
  unfold lessI
  split
  · rfl
  · rename_i hk
    refine h.no k ?_
    unfold getI
    rw [find_none_of_not_mem hk]; rfl
theorem erase_keys {left : List (Int × Value)} {i : Nat} {k : Int} {v : Value} (hn : (left.map fun x => x.1).Nodup) (hi : left[i]? = some (k, v)) (j : Int) : j ∈ (left.eraseIdx i).map (fun x => x.1) ↔ j ≠ k ∧ j ∈ left.map (fun x => x.1) := by
  obtain ⟨hlt, he⟩ := List.getElem?_eq_some_iff.1 hi
  have e : (left.eraseIdx i).map (fun x => x.1) = (left.map (fun x => x.1)).eraseIdx i := by
    apply List.ext_getElem?
    intro n
    simp only [List.getElem?_map, List.getElem?_eraseIdx]
    split <;> rfl
  rw [e]
  have hk : (left.map fun x => x.1)[i]? = some k := by simp [hi]
  have hlt' : i < (left.map fun x => x.1).length := by simpa using hlt
  have hk' : (left.map fun x => x.1)[i] = k := by simpa [List.getElem?_eq_getElem hlt'] using hk
  rw [List.mem_eraseIdx_iff_getElem?]
  constructor
  · rintro ⟨m, hm, hj⟩
    refine ⟨fun ejk => ?_, List.mem_of_getElem? hj⟩
    subst ejk
    exact hm ((List.getElem?_inj hlt' hn).1 (hk.trans hj.symm)).symm
  · rintro ⟨hne, hj⟩
    obtain ⟨m, hm⟩ := List.mem_iff_getElem?.1 hj
    refine ⟨m, fun e => ?_, hm⟩
    subst e
    rw [hk] at hm
    exact hne (Option.some.inj hm).symm
theorem lessI_step {f : Dk.Secs} {left : List (Int × Value)} {i : Nat} {k : Int} {v : Value} {s : Dk.Bytes} (hn : (left.map fun x => x.1).Nodup) (hi : left[i]? = some (k, v)) (hf : f k = some s) : Dk.upd (lessI f left) k (some s) = lessI f (left.eraseIdx i) := by
  funext j
  have h := erase_keys hn hi j
  unfold Dk.upd lessI
  by_cases e : j = k
  · subst e
    rw [if_pos rfl, if_neg (fun x => (h.1 x).1 rfl), hf]
  · rw [if_neg e]
    by_cases m : j ∈ left.map (fun x => x.1)
    · rw [if_pos m, if_pos (h.2 ⟨e, m⟩)]
    · rw [if_neg m, if_neg (fun x => m (h.1 x).2)]
theorem erase_nodup {left : List (Int × Value)} (i : Nat) (hn : (left.map fun x => x.1).Nodup) : ((left.eraseIdx i).map fun x => x.1).Nodup := hn.sublist ((List.eraseIdx_sublist left i).map _)
theorem erase_sub {left vs : List (Int × Value)} (i : Nat) (h : ∀ x ∈ left, x ∈ vs) : ∀ x ∈ left.eraseIdx i, x ∈ vs := fun x hx => h x ((List.eraseIdx_sublist left i).subset hx)


instance : Enc (Int × Int) := ⟨2, fun x => [.int .i64 x.1, .int .i64 x.2], fun _ => rfl, fun x v h => by simp at h; rcases h with rfl | rfl <;> rfl, by decide⟩
/-- the map of survivors -/
def leftI (l : List (Int × Int)) : List (Int × Value) := l.foldr (fun x es => putI es x.1 (.int .i64 x.2)) []
theorem getI_leftI (l : List (Int × Int)) (k : Int) : getI (leftI l) k = (Dk.stays l k).map (fun n => .int .i64 n) := by
  induction l with
  | nil => rfl
  | cons x l ih =>
    show getI (putI (leftI l) x.1 (.int .i64 x.2)) k = _
    rw [getI_put, ih]
    unfold Dk.stays
    by_cases h : k = x.1
    · simp [h]
    · rw [if_neg h, List.find?_cons_of_neg (by simpa using fun e => h e.symm)]
theorem leftI_step {l : List (Int × Int)} {j : Nat} {x : Int × Int} (h : l[j]? = some x) : putI (leftI (l.drop (j + 1))) x.1 (.int .i64 x.2) = leftI (l.drop j) := by
  obtain ⟨hj, rfl⟩ := List.getElem?_eq_some_iff.1 h
  rw [List.drop_eq_getElem_cons hj]; rfl
structure CrashS (d : Dk.Disk) (l : List (Int × Int)) (i : Nat) (g : Dk.Secs) : Prop where mk ::
  few : Few g
  le : i ≤ d.pend.length
  eq : Dk.crashFrom l i (d.pend.drop i) g = Dk.crashFrom l 0 d.pend d.ground
theorem CrashS.start {d : Dk.Disk} (hok : DkOk d) (l : List (Int × Int)) : CrashS d l 0 d.ground := ⟨hok.ground, by omega, by simp⟩
theorem CrashS.stop {d : Dk.Disk} {l : List (Int × Int)} {i : Nat} {g : Dk.Secs} (h : CrashS d l i g) (hi : d.pend.length ≤ i) : g = Dk.crashFrom l 0 d.pend d.ground := by
  rw [← h.eq, List.drop_eq_nil_of_le hi]; rfl
theorem CrashS.no {d : Dk.Disk} {l : List (Int × Int)} {i : Nat} {g : Dk.Secs} (h : CrashS d l i g) (hi : i < d.pend.length) (hs : Dk.stays l i = none) : CrashS d l (i + 1) g := by
  refine ⟨h.few, hi, ?_⟩
  rw [← h.eq, List.drop_eq_getElem_cons hi]
  simp only [Dk.crashFrom, hs]
theorem CrashS.yes {d : Dk.Disk} {l : List (Int × Int)} {i : Nat} {g : Dk.Secs} (h : CrashS d l i g) {po : Dk.POp} (hi : d.pend[i]? = some po) {n : Int} (hs : Dk.stays l i = some n) (hb : ∀ k b, po = .wr k b → b.length ≤ 512) : CrashS d l (i + 1) (po.run n g) := by
  obtain ⟨hlt, rfl⟩ := List.getElem?_eq_some_iff.1 hi
  refine ⟨h.few.run hb n, hlt, ?_⟩
  rw [← h.eq, List.drop_eq_getElem_cons hlt]
  simp only [Dk.crashFrom, hs]
theorem CloOk.len {r : Part} {v : Value} {k : Int} {b : Dk.Bytes} (h : CloOk r v (.wr k b)) : b.length ≤ 512 := by
  cases h with
  | wr h _ _ _ _ => exact h
section
variable {P : Program} {κ : World} {n : Nat} {L M R R' : List Assn} {ρ : Env} {Q : Exit → Act → World → Prop}
theorem ht_pend {c : Code} {cl : List VCell} {ps : List Dk.POp} {i : Nat} (hi : i < ps.length) (hp : Pick (ro (pendR cl ps)) L R) (h : ∀ v po, cl[i]? = some v → ps[i]? = some po → (∀ k b, po = .wr k b → b.length ≤ 512) → HT P κ n (ro (cloR v.v po) :: L) ρ c Q) : HT P κ n L ρ c Q := fun a w ha hw => by
  obtain ⟨p, r, h1, h2, h3, h4⟩ := hw.sep
  obtain ⟨p1, p2, k1, k2, k3, hA, hL⟩ := hp.sep h4
  have hA : PendOk r cl ps := hA
  have hcl : i < cl.length := by rw [hA.len]; exact hi
  have e1 := List.getElem?_eq_getElem hcl
  have e2 := List.getElem?_eq_getElem hi
  have hc := hA.at_ i _ _ e1 e2
  refine h _ _ e1 e2 (fun k b e => ?_) a w ha ⟨hw.os, hw.tape, hw.output, p, r, h1, h2, h3, Sep.addRo (φ := cloR _ _) hc h4⟩
  rw [e] at hc
  exact hc.len
end

theorem disk_copied (mv : Nat) (vs : List (Int × Value)) (f : Dk.Secs) (hf : Few f) : Ctr Tryz.prog 43 #[.map (some mv)] [mapI mv vs, ro (secsR vs f)] (fun m : Nat × List (Int × Value) => .map (some m.1)) (fun m => [mapI mv vs, mapI m.1 m.2, ro (secsR m.2 f)]) := by
 refine Z.fn Tryz.func43 Tryz.ntmps43 (fun κ F => ?_)
 refine Z.go 7 ?_
 refine Z.ef (eff_makeMap rfl) 7 (fun m6 => ?_)
 refine Z.ef (eff_range rfl Tryz.underlying66 rfl Z.p) 3 (fun it8 => ?_)
 refine ht_nodup (es := vs) (b := mv) (it := it8) (left := vs) (cur := none) Z.p (fun hnd => ?_)
 refine Z.lo (fun q : List (Int × Value) × Option (Int × Value) × List (Int × Value) => ([rangeI it8 mv vs q.1 q.2.1, mapI m6 q.2.2, ro (secsR vs f), ro (secsR q.2.2 (lessI f q.1)), pu ((∀ x ∈ q.1, x ∈ vs) ∧ (q.1.map fun x => x.1).Nodup), F], [(3, .map (some m6)), (8, .pointer (some ⟨it8, 0, none⟩))])) (fun q : List (Int × Value) × Option (Int × Value) × List (Int × Value) => q.1.length) (vs, none, []) ?_ (fun q => ?_)
 ·(first | dsimp only | skip)
  exact Ent.cons Z.k (Ent.cons Z.k (Ent.roDupAt Z.p (Ent.roWeak (φ := secsR vs f) Z.p (fun r h => h.less) (Ent.pu ⟨fun x h => h, hnd⟩ Z.f))))
 obtain ⟨left, cur, vs2⟩ := q
 dsimp only
 refine ht_pick (A := pu ((∀ x ∈ left, x ∈ vs) ∧ (left.map fun x => x.1).Nodup)) Z.k (ht_pure fun hq => ?_)
 refine Z.go 2 ?_
 refine Z.ef (eff_nextI rfl rfl Z.p) 0 (fun r9 => ?_)
 rcases r9 with _ | i9
 ·refine ho_pu (φ := _) .here (fun hnx => ?_)
  subst hnx
  refine Z.og 17 ?_
  rw [lessI_nil]
  exact hx_ret1 (.inl rfl) rfl rfl (m6, vs2) rfl (Ent.trans (Ent.rangeEnd Z.k) (Ent.cons Z.k (Ent.cons Z.k (Ent.cons Z.k Z.f))))
 ·refine ho_pu (φ := _) .here (fun hnx => ?_)
  obtain ⟨⟨k0, v0⟩, hkv⟩ : ∃ kv, left[i9]? = some kv := ⟨_, List.getElem?_eq_getElem hnx⟩
  rw [hkv]
  refine Z.og 9 ?_
  refine ht_secs (f := f) k0 Z.p (fun h1 h2 => absurd ((getI_of_mem hnd (hq.1 _ (List.mem_of_getElem? hkv))).symm.trans h2) (by simp)) (fun a0 c0 s0 h1 h2 h3 => ?_)
  obtain rfl : v0 = _ := Option.some.inj ((getI_of_mem hnd (hq.1 _ (List.mem_of_getElem? hkv))).symm.trans h2)
  have hs0 := hf k0 s0 h1
  refine Z.go 1 ?_
  refine Z.ev (ev_entryI rfl rfl Z.p) 9 ?_
  refine Z.ef (eff_buildAll (α := UInt8) [] rfl Tryz.underlying73 Tryz.ty5 .nil .nil rfl (Nat.le_of_ble_eq_true rfl)) 1 (fun b16 => ?_)
  refine Z.ef (eff_append (α := UInt8) rfl Tryz.underlying73 Tryz.ty5 rfl (by decide) Tryz.underlying73 rfl rfl Z.p (by first | exact reads_ro Z.p | exact reads_own Z.p | exact reads_nil _) (by first | omega | (simp only [List.length_append, List.length_cons, List.length_nil, List.length_drop, List.length_take]; omega) | (simp; omega))) 0 (fun p18 => ?_)
  refine ho_cap (α := UInt8) Z.p (fun hl hcap => ?_)
  refine ho_freezeS (α := UInt8) Z.p ?_
  refine Z.ef0 (eff_putI rfl Tryz.underlying66 Tryz.underlying3 rfl rfl rfl Z.p) 2 (fun _ => ?_)
  refine Z.ag (left.eraseIdx i9, some (k0, Value.slice a0 s0.length c0), putI vs2 k0 (.slice p18.1 ([] ++ s0).length p18.2)) (by (first | dsimp only | skip); rw [List.length_eraseIdx, if_pos hnx]; omega) ?_
  (first | dsimp only | skip)
  refine Ent.cons Z.k (Ent.cons Z.k (Ent.roDupAt Z.p (Ent.roWeak2 (φ := secsR vs2 (lessI f left)) (φ' := roS (α := UInt8) _ _ _) Z.p Z.p (fun r hs hl => ?_) (Ent.pu ⟨erase_sub i9 hq.1, erase_nodup i9 hq.2⟩ Z.f))))
  rw [← lessI_step hq.2 hkv h1]
  exact SecsOk.put (s := s0) hs hl hcap
theorem disk_Sync (p : Nat) (d : Dk.Disk) : Ctr Tryz.prog 41 #[.pointer (some ⟨p, 0, none⟩)] [DiskAt p d] (fun _ : Unit => .tuple #[]) (fun _ => [DiskAt p d.sync]) := by
 refine Z.fn Tryz.func41 Tryz.ntmps41 (fun κ F => ?_)
 refine ht_disk (fun x hok => ?_)
 refine Z.go 6 ?_
 refine Z.ld 0 ?_
 refine Z.ca (c := disk_copied _ _ (d.view) hok.view) 2 (fun y => ?_)
 refine Z.s1 2 ?_
 refine Z.s1 1 ?_
 refine hx_ret0 (.inr rfl) rfl () rfl ?_
 refine Ent.trans (Ent.roTrue (ψ := pendR [] []) (fun r => ⟨rfl, fun i v o h => by simp at h⟩) (ownS_nil (α := VCell) 106)) ?_
 refine Ent.trans (Ent.roDupAt (φ := secsR x.vs d.view) Z.p (Ent.refl _)) ?_
 exact Ent.disk (d := d.sync) ⟨x.mv, y.1, none, 0, x.vs, y.2, []⟩ ⟨hok.view, hok.view⟩ Z.d rfl Z.f
theorem disk_Crash (p : Nat) (d : Dk.Disk) (a : Option Addr) (c : Nat) (l : List (Int × Int)) (hll : l.length < 4294967296) (hpl : d.pend.length < 4294967296) : Ctr Tryz.prog 17 #[.pointer (some ⟨p, 0, none⟩), .slice a l.length c] [DiskAt p d, ro (roS a l.length l)] (fun _ : Unit => .tuple #[]) (fun _ => [DiskAt p (d.crash l)]) := by
 refine Z.fn Tryz.func17 Tryz.ntmps17 (fun κ F => ?_)
 refine ht_disk (fun x hok => ?_)
 refine Z.go 2 ?_
 refine Z.ef (eff_makeMap rfl) 8 (fun m10 => ?_)
 refine Z.sb 4 ?_
 refine Z.lo (fun q : Nat => ([pt p (.cells #[.int .i64 d.size, .int .i64 d.limit, .map (some x.mv), .map (some x.mg), .slice x.a d.pend.length x.c] 69 (0, 0)), mapI x.mg x.gs, ownS 106 x.a d.pend.length x.c x.cl, ro (secsR x.gs d.ground), ro (pendR x.cl d.pend), ro (roS a l.length l), mapI m10 (leftI (l.drop q)), pu (q ≤ l.length), F], [(0, .pointer (some ⟨p, 0, none⟩)), (1, .slice a l.length c), (4, .map (some m10)), (5, .int .i64 ((q : Int) - 1))])) (fun q : Nat => q) l.length ?_ (fun q => ?_)
 ·(first | dsimp only | skip)
  rw [List.drop_eq_nil_of_le (Nat.le_refl _)]
  exact Ent.cons Z.k (Ent.cons Z.k (Ent.cons Z.k (Ent.cons Z.k (Ent.cons Z.k (Ent.cons Z.k (Ent.cons Z.k (Ent.pu (Nat.le_refl _) Z.f)))))))
 dsimp only
 refine ht_pick (A := pu (q ≤ l.length)) Z.k (ht_pure fun hj => ?_)
 refine Z.go 4 ?_
 refine Z.ge 7 14 (fun g1 => ?_) (fun g1 => ?_)
 ·skip
  obtain ⟨j', hq⟩ : ∃ j' : Nat, q = j' + 1 := ⟨q - 1, by omega⟩
  refine ht_someS (α := Int × Int) (reads_ro Z.p) (by omega) (fun ab ao ha => ?_)
  have e0 : ((q : Int) - 1).toNat = j' := by omega
  have hx0 := List.getElem?_eq_getElem (l := l) (i := j') (by omega)
  refine ht_draw (.op 0 (.op 1 (.op 2 (.op 3 (.op 4 (.op 5 (.op 6 (.op 7 (.op 8 (.op 9 (.op 10 (.op 11 .done)))))))))))) [11] Tryz.mixed rfl ?_
  refine Z.dr 3 ?_
  refine hd_ev rfl rfl rfl rfl (EvG.go rfl (ev_indexAddr rfl Tryz.underlying47 Tryz.ty104 (congrArg (fun z => some (Value.slice z l.length c)) ha) rfl (by omega) (by omega))) ?_
  refine hd_ev rfl rfl rfl rfl (EvG.go rfl (by first | exact ev_fieldAddr0 rfl Tryz.fld104_0 rfl | exact ev_fieldAddr rfl Tryz.fld104_0 rfl)) ?_
  refine Z.dl (hc := by exact cell_Sa (α := Int × Int) (k := 0) ha (reads_ro Z.p) (by rw [e0]; exact hx0) rfl) ?_
  refine Z.dr 2 ?_
  refine hd_ev rfl rfl rfl rfl (EvG.go rfl (ev_indexAddr rfl Tryz.underlying47 Tryz.ty104 (congrArg (fun z => some (Value.slice z l.length c)) ha) rfl (by omega) (by omega))) ?_
  refine hd_ev rfl rfl rfl rfl (EvG.go rfl (by first | exact ev_fieldAddr0 rfl Tryz.fld104_1 rfl | exact ev_fieldAddr rfl Tryz.fld104_1 rfl)) ?_
  refine Z.dl (hc := by exact cell_Sa (α := Int × Int) (k := 1) ha (reads_ro Z.p) (by rw [e0]; exact hx0) rfl) ?_
  refine Z.de0 rfl (eff_putI rfl Tryz.underlying102 Tryz.underlying3 rfl rfl rfl Z.p) (fun _ => ?_)
  refine hd_nil ?_
  refine Z.xg 4 ?_
  refine Z.sb 2 ?_
  rw [show (q : Int) - 1 - 1 = ((j' : Nat) : Int) - 1 by omega]
  refine Z.ag j' (by (first | dsimp only | skip); omega) ?_
  (first | dsimp only | skip)
  rw [← leftI_step hx0, ← hq]
  exact Ent.cons Z.k (Ent.cons Z.k (Ent.cons Z.k (Ent.cons Z.k (Ent.cons Z.k (Ent.cons Z.k (Ent.cons Z.k (Ent.pu (by omega) Z.f)))))))
 ·skip
  refine Z.ld 5 ?_
  refine Z.lo (fun q : Nat × List (Int × Value) × Dk.Secs => ([pt p (.cells #[.int .i64 d.size, .int .i64 d.limit, .map (some x.mv), .map (some x.mg), .slice x.a d.pend.length x.c] 69 (0, 0)), mapI x.mg q.2.1, ownS 106 x.a d.pend.length x.c x.cl, ro (secsR q.2.1 q.2.2), ro (pendR x.cl d.pend), mapI m10 (leftI l), pu (CrashS d l q.1 q.2.2), F], [(0, .pointer (some ⟨p, 0, none⟩)), (4, .map (some m10)), (32, .slice x.a d.pend.length x.c), (33, .int .i64 d.pend.length), (34, .int .i64 q.1)])) (fun q : Nat × List (Int × Value) × Dk.Secs => d.pend.length - q.1) (0, x.gs, d.ground) ?_ (fun q => ?_)
  ·(first | dsimp only | skip)
   rw [show (q : Nat) = 0 by omega]; simp only [List.drop_zero]
   exact Ent.cons Z.k (Ent.cons Z.k (Ent.cons Z.k (Ent.cons Z.k (Ent.cons Z.k (Ent.cons Z.k (Ent.pu (CrashS.start hok l) Z.f))))))
  obtain ⟨i, gs, g⟩ := q
  dsimp only
  refine ht_pick (A := pu (CrashS d l i g)) Z.k (ht_pure fun hcs => ?_)
  refine Z.go 2 ?_
  refine Z.lt 9 15 (fun g2 => ?_) (fun g2 => ?_)
  ·skip
   have hlt : i < d.pend.length := by omega
   refine ht_pend hlt Z.p (fun v po hv hpo hpl => ?_)
   refine ht_someS (α := VCell) (reads_own Z.p) (by omega) (fun ab ao ha => ?_)
   have hlk := getI_leftI l i
   rcases hst : Dk.stays l i with _ | sn
   all_goals rw [hst] at hlk
   ·skip
    refine Z.go 2 ?_
    refine Z.ev (ev_indexAddr rfl Tryz.underlying67 Tryz.ty106 (congrArg (fun z => some (Value.slice z d.pend.length x.c)) ha) rfl (by omega) (by omega)) 0 ?_
    refine Z.ld (hc := by exact cell_Sa0 ha (reads_own Z.p) hv rfl) 8 ?_
    refine Z.ev (ev_lookupOkI (v := .int .i64 0) (ok := false) rfl Tryz.underlying102 Tryz.underlying3 Tryz.ty3 rfl rfl Z.p (by rw [hlk] <;> rfl) (by rw [hlk] <;> rfl)) 12 ?_
    refine Z.bc 45 0 5 (fun g3 => ?_) (fun g3 => ?_)
    ·simp at g3
    ·skip
     refine Z.ad 2 ?_
     refine Z.ag (i + 1, gs, g) (by (first | dsimp only | skip); omega) ?_
     (first | dsimp only | skip)
     exact Ent.cons Z.k (Ent.cons Z.k (Ent.cons Z.k (Ent.cons Z.k (Ent.cons Z.k (Ent.cons Z.k (Ent.pu (hcs.no hlt hst) Z.f))))))
   ·skip
    refine Z.go 2 ?_
    refine Z.ev (ev_indexAddr rfl Tryz.underlying67 Tryz.ty106 (congrArg (fun z => some (Value.slice z d.pend.length x.c)) ha) rfl (by omega) (by omega)) 0 ?_
    refine Z.ld (hc := by exact cell_Sa0 ha (reads_own Z.p) hv rfl) 8 ?_
    refine Z.ev (ev_lookupOkI (v := .int .i64 sn) (ok := true) rfl Tryz.underlying102 Tryz.underlying3 Tryz.ty3 rfl rfl Z.p (by rw [hlk] <;> rfl) (by rw [hlk] <;> rfl)) 12 ?_
    refine Z.bc 45 6 0 (fun g4 => ?_) (fun g4 => ?_)
    ·skip
     refine Z.ld 1 ?_
     refine Z.ef (eff_clo (po := po) (f := g) rfl rfl rfl rfl Z.p Z.p Z.p hcs.few) 4 (fun vs2 => ?_)
     refine Z.ad 2 ?_
     refine Z.ag (i + 1, vs2, po.run sn g) (by (first | dsimp only | skip); omega) ?_
     (first | dsimp only | skip)
     exact Ent.cons Z.k (Ent.cons Z.k (Ent.cons Z.k (Ent.cons Z.k (Ent.cons Z.k (Ent.cons Z.k (Ent.pu (hcs.yes hpo hst hpl) Z.f))))))
    ·simp at g4
  ·skip
   refine Z.ld 0 ?_
   refine Z.ca (c := disk_copied _ _ (g) hcs.few) 2 (fun y => ?_)
   refine Z.s1 2 ?_
   refine Z.s1 1 ?_
   refine hx_ret0 (.inr rfl) rfl () rfl ?_
   obtain rfl := hcs.stop (by omega)
   refine Ent.trans (Ent.roTrue (ψ := pendR [] []) (fun r => ⟨rfl, fun i v o h => by simp at h⟩) (ownS_nil (α := VCell) 106)) ?_
   exact Ent.disk (d := d.crash l) ⟨y.1, x.mg, none, 0, y.2, gs, []⟩ ⟨hcs.few, hcs.few⟩ Z.d rfl Z.f
end Go.Proofs.YtlejcepbcfijiaaGreatDoor
