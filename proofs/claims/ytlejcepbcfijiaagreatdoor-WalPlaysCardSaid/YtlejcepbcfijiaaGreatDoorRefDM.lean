/-
  THE DOCUMENT'S DISK AND META PAGE IN PLAIN LEAN: lists of sectors, and what they tell of the disk. Conditions: none.
-/
import Derived.Test.YtlejcepbcfijiaaGreatDoorMetaM
import Derived.Test.YtlejcepbcfijiaaGreatDoorRefM
set_option linter.unusedVariables false
namespace Go.Rf
open Go.Dk
structure RPend where mk ::
  place : Int
  free : Bool
  b : Dk.Bytes
def RPend.op (p : RPend) : POp := if p.free then .fr p.place else .wr p.place p.b
structure RDisk where mk ::
  size : Int
  limit : Int
  view : List (Int × Dk.Bytes)
  ground : List (Int × Dk.Bytes)
  L : List RPend
def rfind (l : List (Int × Dk.Bytes)) (k : Int) : Option Dk.Bytes := (l.find? (·.1 == k)).map (·.2)
def rdone (l : List (Int × Dk.Bytes)) (p : RPend) (n : Int) : List (Int × Dk.Bytes) :=
  if p.free then l.filter (fun x => x.1 != p.place) else l.filter (fun x => x.1 != p.place) ++ [(p.place, torn ((rfind l p.place).getD []) p.b n)]
def RDisk.put (r : RDisk) (p : RPend) : RDisk := { r with L := r.L ++ [p], view := rdone r.view p p.b.length }
def RDisk.werr (r : RDisk) (k : Int) (b : Dk.Bytes) : Int :=
  if k < 0 ∨ r.size ≤ k then 61 else if 512 < b.length then 62 else if rfind r.view k = none ∧ r.limit ≤ r.view.length then 63 else 0
def RDisk.write (r : RDisk) (k : Int) (b : Dk.Bytes) : RDisk := if r.werr k b = 0 then r.put ⟨k, false, b⟩ else r
def RDisk.free (r : RDisk) (k : Int) : RDisk := if (rfind r.view k).isSome then r.put ⟨k, true, []⟩ else r
def RDisk.sync (r : RDisk) : RDisk := { r with ground := r.view, L := [] }
def rcrashFrom (l : List (Int × Int)) : Nat → List RPend → List (Int × Dk.Bytes) → List (Int × Dk.Bytes)
  | _, [], g => g
  | i, p :: ps, g => rcrashFrom l (i + 1) ps (match stays l i with | some n => rdone g p n | none => g)
def RDisk.crash (r : RDisk) (l : List (Int × Int)) : RDisk := { r with ground := rcrashFrom l 0 r.L r.ground, view := rcrashFrom l 0 r.L r.ground, L := [] }
def RDisk.new (n : Int) : RDisk := ⟨n, n, [], [], []⟩
/-- the document's disk tells this disk -/
structure RRep (r : RDisk) (d : Disk) : Prop where mk ::
  size : r.size = d.size
  limit : r.limit = d.limit
  view : Rep r.view d.view
  ground : Rep r.ground d.ground
  pend : r.L.map RPend.op = d.pend
theorem rep_find {l : List (Int × Dk.Bytes)} {f : Secs} (h : Rep l f) (k : Int) : rfind l k = f k := h.look k
theorem rep_nil : Rep [] none_ := ⟨by simp, fun k => rfl⟩
theorem find_filter (l : List (Int × Dk.Bytes)) (p k : Int) : (l.filter (fun x => x.1 != p)).find? (·.1 == k) = if k = p then none else l.find? (·.1 == k) := by
  induction l with
  | nil => simp
  | cons x l ih =>
    by_cases hx : x.1 = p
    · have e1 : (x.1 != p) = false := by simpa using hx
      rw [List.filter_cons_of_neg (by simp [hx]), ih]
      by_cases hk : k = p
      · rw [if_pos hk, if_pos hk]
      · have e2 : (x.1 == k) = false := by rw [hx]; simpa using fun e : p = k => hk e.symm
        rw [if_neg hk, if_neg hk, List.find?_cons, e2]
    · rw [List.filter_cons_of_pos (by simpa using hx)]
      rw [List.find?_cons, List.find?_cons]
      by_cases hk : x.1 = k
      · have e2 : (x.1 == k) = true := by simpa using hk
        rw [e2]
        rw [if_neg (fun e => hx (hk.trans e))]
      · have e2 : (x.1 == k) = false := by simpa using hk
        rw [e2]; exact ih
theorem rep_done {l : List (Int × Dk.Bytes)} {f : Secs} (h : Rep l f) (p : RPend) (n : Int) : Rep (rdone l p n) (p.op.run n f) := by
  have hn : ((l.filter (fun x => x.1 != p.place)).map (·.1)).Nodup := (List.filter_sublist.map _).nodup h.nodup
  unfold rdone RPend.op
  cases hf : p.free with
  | true =>
    simp only [if_true]
    refine ⟨hn, fun k => ?_⟩
    rw [find_filter]
    show _ = upd f p.place none k
    by_cases e : k = p.place
    · subst e; rw [if_pos rfl, upd_same]; rfl
    · rw [if_neg e, upd_other e]; exact h.look k
  | false =>
    simp only [Bool.false_eq_true, if_false]
    refine ⟨?_, fun k => ?_⟩
    · rw [List.map_append, List.nodup_append]
      refine ⟨hn, by simp, ?_⟩
      intro a ha b hb
      simp at hb
      subst hb
      obtain ⟨x, hx, rfl⟩ := List.mem_map.1 ha
      have := (List.mem_filter.1 hx).2
      simpa using this
    · rw [List.find?_append, find_filter]
      show _ = upd f p.place (some (torn ((f p.place).getD []) p.b n)) k
      by_cases e : k = p.place
      · subst e; rw [if_pos rfl, upd_same, rep_find h]; simp
      · rw [if_neg e, upd_other e]
        have hb : (p.place == k) = false := by simpa using fun e' : p.place = k => e e'.symm
        rw [← h.look k]
        cases l.find? (·.1 == k) with
        | none => simp [hb]
        | some y => rfl
theorem rrep_put {r : RDisk} {d : Disk} (h : RRep r d) (p : RPend) : RRep (r.put p) (d.push p.op p.b.length) :=
  ⟨h.size, h.limit, rep_done h.view p _, h.ground, by show (r.L ++ [p]).map _ = d.pend ++ [p.op]; rw [List.map_append, h.pend]; rfl⟩
theorem rrep_werr {r : RDisk} {d : Disk} (h : RRep r d) (k : Int) (b : Dk.Bytes) : r.werr k b = d.werr k b := by
  unfold RDisk.werr Disk.werr
  rw [h.size, h.limit, rep_find h.view, h.view.card]
theorem rrep_write {r : RDisk} {d : Disk} (h : RRep r d) (k : Int) (b : Dk.Bytes) : RRep (r.write k b) (d.write k b) := by
  unfold RDisk.write Disk.write
  rw [rrep_werr h]
  split
  · exact rrep_put h ⟨k, false, b⟩
  · exact h
theorem rrep_free {r : RDisk} {d : Disk} (h : RRep r d) (k : Int) : RRep (r.free k) (d.free k) := by
  unfold RDisk.free Disk.free
  rw [rep_find h.view]
  split
  · exact rrep_put h ⟨k, true, []⟩
  · exact h
theorem rrep_sync {r : RDisk} {d : Disk} (h : RRep r d) : RRep r.sync d.sync := ⟨h.size, h.limit, h.view, h.view, rfl⟩
theorem rep_crashFrom (l : List (Int × Int)) : ∀ (ps : List RPend) (i : Nat) (g : List (Int × Dk.Bytes)) (f : Secs), Rep g f → Rep (rcrashFrom l i ps g) (crashFrom l i (ps.map RPend.op) f)
  | [], i, g, f, h => h
  | p :: ps, i, g, f, h => by
    simp only [rcrashFrom, List.map_cons, crashFrom]
    refine rep_crashFrom l ps (i + 1) _ _ ?_
    cases stays l i with
    | none => exact h
    | some n => exact rep_done h p n
theorem rrep_crash {r : RDisk} {d : Disk} (h : RRep r d) (l : List (Int × Int)) : RRep (r.crash l) (d.crash l) := by
  have := rep_crashFrom l r.L 0 _ _ h.ground
  rw [h.pend] at this
  exact ⟨h.size, h.limit, this, this, rfl⟩
theorem rrep_new (n : Int) : RRep (RDisk.new n) (Disk.new n) := ⟨rfl, rfl, rep_nil, rep_nil, rfl⟩
theorem rrep_limit {r : RDisk} {d : Disk} (h : RRep r d) (n : Int) : RRep { r with limit := n } (d.setLimit n) := ⟨h.size, rfl, h.view, h.ground, h.pend⟩
/-! steps of the walks -/
theorem rf_step {xs : List (Int × Dk.Bytes)} {k : Int} {q : Nat} {x : Int × Dk.Bytes} (h : (xs.take q).find? (·.1 == k) = none) (hx : xs[q]? = some x) (hk : x.1 ≠ k) : (xs.take (q + 1)).find? (·.1 == k) = none := by
  rw [List.take_add_one, hx, List.find?_append, h]
  have : (x.1 == k) = false := by simpa using hk
  simp [this]
theorem rf_here {xs : List (Int × Dk.Bytes)} {k : Int} {q : Nat} {x : Int × Dk.Bytes} (h : (xs.take q).find? (·.1 == k) = none) (hx : xs[q]? = some x) (hk : x.1 = k) : rfind xs k = some x.2 := by
  have hd : xs.drop q = x :: xs.drop (q + 1) := by
    obtain ⟨h1, h2⟩ := List.getElem?_eq_some_iff.1 hx
    rw [← h2]; exact List.drop_eq_getElem_cons h1
  unfold rfind
  rw [← List.take_append_drop q xs, List.find?_append, h, hd, List.find?_cons]
  have : (x.1 == k) = true := by simpa using hk
  rw [this]; rfl
theorem st_step {l : List (Int × Int)} {k : Int} {q : Nat} {x : Int × Int} (h : (l.take q).find? (·.1 == k) = none) (hx : l[q]? = some x) (hk : x.1 ≠ k) : (l.take (q + 1)).find? (·.1 == k) = none := by
  rw [List.take_add_one, hx, List.find?_append, h]
  have : (x.1 == k) = false := by simpa using hk
  simp [this]
theorem st_here {l : List (Int × Int)} {k : Int} {q : Nat} {x : Int × Int} (h : (l.take q).find? (·.1 == k) = none) (hx : l[q]? = some x) (hk : x.1 = k) : stays l k = some x.2 := by
  have hd : l.drop q = x :: l.drop (q + 1) := by
    obtain ⟨h1, h2⟩ := List.getElem?_eq_some_iff.1 hx
    rw [← h2]; exact List.drop_eq_getElem_cons h1
  unfold stays
  rw [← List.take_append_drop q l, List.find?_append, h, hd, List.find?_cons]
  have : (x.1 == k) = true := by simpa using hk
  rw [this]; rfl
theorem st_none {l : List (Int × Int)} {k : Int} (h : (l.take l.length).find? (·.1 == k) = none) : stays l k = none := by
  rw [List.take_length] at h; unfold stays; rw [h]; rfl
def filt (xs : List (Int × Dk.Bytes)) (k : Int) (q : Nat) : List (Int × Dk.Bytes) := (xs.take q).filter (fun x => x.1 != k)
theorem filt_zero (xs : List (Int × Dk.Bytes)) (k : Int) : filt xs k 0 = [] := rfl
theorem filt_len (xs : List (Int × Dk.Bytes)) (k : Int) (q : Nat) : (filt xs k q).length ≤ xs.length := by
  have h1 := List.length_filter_le (fun x : Int × Dk.Bytes => x.1 != k) (xs.take q)
  have h2 : (xs.take q).length ≤ xs.length := by simp; omega
  unfold filt; omega
theorem filt_yes {xs : List (Int × Dk.Bytes)} {k : Int} {q : Nat} {x : Int × Dk.Bytes} (hx : xs[q]? = some x) (hk : x.1 ≠ k) : filt xs k (q + 1) = filt xs k q ++ [x] := by
  unfold filt
  rw [List.take_add_one, hx, List.filter_append]
  congr 1
  simp [hk]
theorem filt_no {xs : List (Int × Dk.Bytes)} {k : Int} {q : Nat} {x : Int × Dk.Bytes} (hx : xs[q]? = some x) (hk : x.1 = k) : filt xs k (q + 1) = filt xs k q := by
  unfold filt
  rw [List.take_add_one, hx, List.filter_append]
  simp [hk]
theorem filt_all (xs : List (Int × Dk.Bytes)) (k : Int) : filt xs k xs.length = xs.filter (fun x => x.1 != k) := by unfold filt; rw [List.take_length]
theorem rcrash_step {l : List (Int × Int)} {L : List RPend} {i : Nat} {p : RPend} (h : L[i]? = some p) (g : List (Int × Dk.Bytes)) : rcrashFrom l i (L.drop i) g = rcrashFrom l (i + 1) (L.drop (i + 1)) (match stays l i with | some n => rdone g p n | none => g) := by
  have hd : L.drop i = p :: L.drop (i + 1) := by
    obtain ⟨h1, h2⟩ := List.getElem?_eq_some_iff.1 h
    rw [← h2]; exact List.drop_eq_getElem_cons h1
  rw [hd]; rfl
/-- the document's word for where it was written last -/
def rlast (s : Mt.St) : Int := if s.number = 0 then -1 else (s.last : Int)
theorem pick_same {s : Mt.St} {i : Nat} {o : Option Dk.Bytes} (h : ∀ b, o = some b → ¬ ((Wire.getV b).2.2.2 = true ∧ (Wire.getV b).2.2.1 = b.length ∧ s.number < (Wire.getV b).1)) : s.pick i (Mt.tell o) = s := by
  cases o with
  | none => rfl
  | some b =>
    unfold Mt.tell
    simp only []
    split
    · rename_i c
      exact Mt.pick_no (fun hn => h b rfl ⟨c.1, c.2.1, hn⟩)
    · rfl
theorem pick_new {s : Mt.St} {i : Nat} {b : Dk.Bytes} (h1 : (Wire.getV b).2.2.2 = true) (h2 : (Wire.getV b).2.2.1 = b.length) (h3 : s.number < (Wire.getV b).1) : s.pick i (Mt.tell (some b)) = ⟨(Wire.getV b).1, i, (Wire.getV b).2.1⟩ := by
  unfold Mt.tell
  simp only []
  rw [if_pos ⟨h1, h2, by omega⟩]
  exact Mt.pick_yes h3
/-! how long the lists are -/
theorem rdone_len (l : List (Int × Dk.Bytes)) (p : RPend) (n : Int) : (rdone l p n).length ≤ l.length + 1 := by
  have := List.length_filter_le (fun x : Int × Dk.Bytes => x.1 != p.place) l
  unfold rdone
  split <;> simp <;> omega
theorem rdone_free (l : List (Int × Dk.Bytes)) (k n : Int) : (rdone l ⟨k, true, []⟩ n).length ≤ l.length := by
  have := List.length_filter_le (fun x : Int × Dk.Bytes => x.1 != k) l
  unfold rdone
  simpa using this
theorem rcrash_len (l : List (Int × Int)) : ∀ (ps : List RPend) (i : Nat) (g : List (Int × Dk.Bytes)), (rcrashFrom l i ps g).length ≤ g.length + ps.length
  | [], i, g => by simp [rcrashFrom]
  | p :: ps, i, g => by
    have h1 := rcrash_len l ps (i + 1) (match stays l i with | some n => rdone g p n | none => g)
    have h2 : (match stays l i with | some n => rdone g p n | none => g).length ≤ g.length + 1 := by
      cases stays l i with
      | none => simp
      | some n => exact rdone_len g p n
    simp only [rcrashFrom, List.length_cons] at h1 ⊢
    omega
theorem rfind_mem {l : List (Int × Dk.Bytes)} {k : Int} {b : Dk.Bytes} (h : rfind l k = some b) : ∃ y ∈ l, y.2 = b := by
  unfold rfind at h
  cases hf : l.find? (·.1 == k) with
  | none => rw [hf] at h; cases h
  | some y => rw [hf] at h; cases h; exact ⟨y, List.mem_of_find?_eq_some hf, rfl⟩
theorem rfind_short {l : List (Int × Dk.Bytes)} {k : Int} (h : ∀ y ∈ l, y.2.length ≤ 1048576) : ((rfind l k).getD []).length ≤ 1099511627776 := by
  cases hf : rfind l k with
  | none => simp
  | some b => obtain ⟨y, hy, e⟩ := rfind_mem hf; have := h y hy; rw [e] at this; simp; omega
theorem rdone_short {g : List (Int × Dk.Bytes)} {p : RPend} (h : ∀ y ∈ g, y.2.length ≤ 1048576) (hp : p.b.length ≤ 524288) (m : Int) : ∀ y ∈ rdone g p m, y.2.length ≤ 1048576 := by
  intro y hy
  have hold : ((rfind g p.place).getD []).length ≤ 1048576 := by
    cases hf : rfind g p.place with
    | none => simp
    | some b => obtain ⟨y, hy, e⟩ := rfind_mem hf; have := h y hy; rw [e] at this; simpa using this
  unfold rdone at hy
  split at hy
  · exact h y (List.mem_filter.1 hy).1
  · rcases List.mem_append.1 hy with hy | hy
    · exact h y (List.mem_filter.1 hy).1
    · simp at hy
      subst hy
      show (torn _ _ _).length ≤ _
      unfold torn
      split
      · rw [List.length_append, List.length_take]
        split
        · rw [List.length_drop]; omega
        · simp; omega
      · omega
theorem free_view_len (r : RDisk) (k : Int) : (r.free k).view.length ≤ r.view.length := by
  unfold RDisk.free
  split
  · exact rdone_free r.view k (([] : Dk.Bytes).length)
  · exact Nat.le_refl _
structure Small (r : RDisk) (q : Nat) : Prop where mk ::
  view : r.view.length ≤ q
  ground : r.ground.length + r.L.length ≤ q
theorem Small.mono {r : RDisk} {q q' : Nat} (h : Small r q) (k : q ≤ q') : Small r q' := ⟨Nat.le_trans h.view k, Nat.le_trans h.ground k⟩
theorem small_sync {r : RDisk} {q : Nat} (h : r.view.length ≤ q) : Small r.sync q := ⟨h, by show r.view.length + 0 ≤ q; omega⟩
theorem small_free {r : RDisk} {q : Nat} (h : Small r q) (k : Int) : Small (r.free k) (q + 1) ∧ (r.free k).view.length ≤ q := by
  unfold RDisk.free
  split
  · have := rdone_free r.view k (([] : Dk.Bytes).length)
    have h1 := h.view
    have h2 := h.ground
    have hv : (r.put ⟨k, true, []⟩).view.length ≤ r.view.length := this
    refine ⟨⟨by omega, ?_⟩, by omega⟩
    show r.ground.length + (r.L ++ [_]).length ≤ q + 1
    simp; omega
  · exact ⟨h.mono (by omega), h.view⟩
theorem small_write {r : RDisk} {q : Nat} (h : Small r q) (k : Int) (b : Dk.Bytes) : Small (r.write k b) (q + 1) := by
  unfold RDisk.write
  split
  · have := rdone_len r.view ⟨k, false, b⟩ b.length
    have h1 := h.view
    have h2 := h.ground
    refine ⟨by show (rdone r.view ⟨k, false, b⟩ b.length).length ≤ q + 1; omega, ?_⟩
    show r.ground.length + (r.L ++ [_]).length ≤ q + 1
    simp; omega
  · exact h.mono (by omega)
theorem small_crash {r : RDisk} {q : Nat} (h : Small r q) (l : List (Int × Int)) : Small (r.crash l) q := by
  have h1 := rcrash_len l r.L 0 r.ground
  have h2 := h.ground
  exact ⟨by show (rcrashFrom l 0 r.L r.ground).length ≤ q; omega, by show (rcrashFrom l 0 r.L r.ground).length + 0 ≤ q; omega⟩
/-- no bytes are too long -/
structure Short (r : RDisk) : Prop where mk ::
  view : ∀ y ∈ r.view, y.2.length ≤ 1048576
  ground : ∀ y ∈ r.ground, y.2.length ≤ 1048576
  pend : ∀ p ∈ r.L, p.b.length ≤ 524288
theorem short_put {r : RDisk} (h : Short r) {p : RPend} (hp : p.b.length ≤ 524288) : Short (r.put p) :=
  ⟨rdone_short h.view hp _, h.ground, fun q hq => by
    rcases List.mem_append.1 hq with hq | hq
    · exact h.pend q hq
    · simp at hq; subst hq; exact hp⟩
theorem short_free {r : RDisk} (h : Short r) (k : Int) : Short (r.free k) := by
  unfold RDisk.free
  split
  · exact short_put h (by show 0 ≤ _; omega)
  · exact h
theorem short_sync {r : RDisk} (h : Short r) : Short r.sync := ⟨h.view, h.view, fun p hp => by cases hp⟩
theorem short_write {r : RDisk} (h : Short r) (k : Int) {b : Dk.Bytes} (hb : b.length ≤ 524288) : Short (r.write k b) := by
  unfold RDisk.write
  split
  · exact short_put h hb
  · exact h
theorem short_crashFrom (l : List (Int × Int)) : ∀ (ps : List RPend) (i : Nat) (g : List (Int × Dk.Bytes)), (∀ p ∈ ps, p.b.length ≤ 524288) → (∀ y ∈ g, y.2.length ≤ 1048576) → ∀ y ∈ rcrashFrom l i ps g, y.2.length ≤ 1048576
  | [], i, g, _, h => h
  | p :: ps, i, g, hp, h => by
    simp only [rcrashFrom]
    refine short_crashFrom l ps (i + 1) _ (fun q hq => hp q (by simp [hq])) ?_
    cases stays l i with
    | none => exact h
    | some n => exact rdone_short h (hp p (by simp)) n
theorem short_crash {r : RDisk} (h : Short r) (l : List (Int × Int)) : Short (r.crash l) :=
  ⟨short_crashFrom l r.L 0 _ h.pend h.ground, short_crashFrom l r.L 0 _ h.pend h.ground, fun p hp => by cases hp⟩
theorem short_new (n : Int) : Short (RDisk.new n) := ⟨fun y hy => by (cases hy), fun y hy => by (cases hy), fun y hy => by (cases hy)⟩
/-! the document's meta page -/
structure RRes where mk ::
  r : RDisk
  fin : Bool
  err : Int
  number : Nat
  last : Int
def rother (last : Int) : Int := if last = 0 then 1 else 0
/-- the disk behind so many steps -/
def rsd (r : RDisk) (k : Int) (b : Dk.Bytes) : Nat → RDisk
  | 0 => r
  | 1 => r.free k
  | 2 => (r.free k).sync
  | 3 => (r.free k).sync.write k b
  | _ => ((r.free k).sync.write k b).sync
def rsteps (r : RDisk) (k : Int) (number : Nat) (last : Int) (body : Dk.Bytes) (n : Int) : RRes :=
  let o := k + rother last
  let b := Wire.put ((number + 1) % 18446744073709551616) body
  if 480 < body.length then ⟨r, false, 120, number, last⟩ else
  if n < 1 then ⟨r, false, 0, number, last⟩ else
  if n < 2 then ⟨r.free o, false, 0, number, last⟩ else
  if n < 3 then ⟨(r.free o).sync, false, 0, number, last⟩ else
  if (r.free o).sync.werr o b ≠ 0 then ⟨(r.free o).sync, false, (r.free o).sync.werr o b, number, last⟩ else
  if n < 4 then ⟨(r.free o).sync.write o b, false, 0, number, last⟩ else
  ⟨((r.free o).sync.write o b).sync, true, 0, (number + 1) % 18446744073709551616, rother last⟩
/-- where it was written last: the program's word and the document's -/
def Same (number last : Nat) (rlast : Int) : Prop := (rlast = -1 ∧ last = 1) ∨ (rlast = (last : Int) ∧ (last = 0 ∨ last = 1))
theorem same_other {number last : Nat} {rlast : Int} (h : Same number last rlast) : rother rlast = 1 - (last : Int) := by
  unfold rother
  rcases h with ⟨h1, h2⟩ | ⟨h1, h2 | h2⟩
  · rw [h1, h2]; rfl
  · rw [h1, h2]; rfl
  · rw [h1, h2]; rfl
theorem same_last {number last : Nat} {rlast : Int} (h : Same number last rlast) : last = 0 ∨ last = 1 := by
  rcases h with ⟨_, h⟩ | ⟨_, h⟩
  · exact .inr h
  · exact h
/-- the program's and the document's steps come to the same -/
theorem steps_same {r : RDisk} {d : Disk} {k : Int} {number last : Nat} {rlast : Int} {body : Dk.Bytes} {n : Int} (h : RRep r d) (hs : Same number last rlast) :
    RRep (rsteps r k number rlast body n).r (Mt.stepsW d k number last body n).d ∧ (rsteps r k number rlast body n).fin = (Mt.stepsW d k number last body n).fin ∧ (rsteps r k number rlast body n).err = (Mt.stepsW d k number last body n).err ∧
    (rsteps r k number rlast body n).number = (Mt.stepsW d k number last body n).number ∧ Same (rsteps r k number rlast body n).number (Mt.stepsW d k number last body n).last (rsteps r k number rlast body n).last := by
  have ho := same_other hs
  have hl := same_last hs
  unfold rsteps Mt.stepsW
  simp only [ho]
  have hw := rrep_werr (rrep_sync (rrep_free h (k + (1 - (last : Int))))) (k + (1 - (last : Int))) (Wire.put ((number + 1) % 18446744073709551616) body)
  split
  · exact ⟨h, rfl, rfl, rfl, hs⟩
  · split
    · exact ⟨h, rfl, rfl, rfl, hs⟩
    · split
      · exact ⟨rrep_free h _, rfl, rfl, rfl, hs⟩
      · split
        · exact ⟨rrep_sync (rrep_free h _), rfl, rfl, rfl, hs⟩
        · have hw' : (Mt.sd d (k + (1 - (last : Int))) [] 2).werr (k + (1 - (last : Int))) (Wire.put ((number + 1) % 18446744073709551616) body) = (r.free (k + (1 - (last : Int)))).sync.werr (k + (1 - (last : Int))) (Wire.put ((number + 1) % 18446744073709551616) body) := hw.symm
          rw [hw']
          split
          · exact ⟨rrep_sync (rrep_free h _), rfl, rfl, rfl, hs⟩
          · split
            · exact ⟨rrep_write (rrep_sync (rrep_free h _)) _ _, rfl, rfl, rfl, hs⟩
            · refine ⟨rrep_sync (rrep_write (rrep_sync (rrep_free h _)) _ _), rfl, rfl, rfl, .inr ⟨?_, ?_⟩⟩
              · show 1 - (last : Int) = ((1 - last : Nat) : Int); omega
              · show 1 - last = 0 ∨ 1 - last = 1; omega
theorem small_steps {r : RDisk} {q : Nat} (h : Small r q) (k : Int) (number : Nat) (last : Int) (body : Dk.Bytes) (n : Int) : Small (rsteps r k number last body n).r (q + 1) := by
  have hf := small_free h (k + rother last)
  have h2 := small_sync hf.2
  unfold rsteps
  simp only []
  split
  · exact h.mono (by omega)
  · split
    · exact h.mono (by omega)
    · split
      · exact hf.1
      · split
        · exact h2.mono (by omega)
        · split
          · exact h2.mono (by omega)
          · split
            · exact small_write h2 _ _
            · exact small_sync (small_write h2 _ _).view
theorem short_steps {r : RDisk} (h : Short r) (k : Int) (number : Nat) (last : Int) {body : Dk.Bytes} (hb : body.length ≤ 4096) (n : Int) : Short (rsteps r k number last body n).r := by
  have hp : (Wire.put ((number + 1) % 18446744073709551616) body).length ≤ 524288 := by
    have := Wire.put_len ((number + 1) % 18446744073709551616) body (Nat.mod_lt _ (by decide)) (by omega)
    omega
  have hf := short_free h (k + rother last)
  unfold rsteps
  simp only []
  split
  · exact h
  · split
    · exact h
    · split
      · exact hf
      · split
        · exact short_sync hf
        · split
          · exact short_sync hf
          · split
            · exact short_write (short_sync hf) _ hp
            · exact short_sync (short_write (short_sync hf) _ hp)
theorem same_opened (f : Secs) (k : Int) : Same (Mt.opened f k).number (Mt.opened f k).last (rlast (Mt.opened f k)) := by
  unfold Same rlast
  rcases Mt.opened_cases f k with ⟨_, _, e⟩ | ⟨n, b, h, e, _⟩ | ⟨n, b, h, e, _⟩
  · rw [e]; exact .inl ⟨rfl, rfl⟩
  · have := Mt.tell_pos h
    rw [e]; exact .inr ⟨if_neg (by show ¬ n = 0; omega), .inl rfl⟩
  · have := Mt.tell_pos h
    rw [e]; exact .inr ⟨if_neg (by show ¬ n = 0; omega), .inr rfl⟩
theorem rep_fun {l : List (Int × Dk.Bytes)} {f : Secs} (h : Rep l f) : (fun i => rfind l i) = f := funext (rep_find h)
/-- what holds at the head of each round -/
structure Plays (r : RDisk) (d : Disk) (number last : Nat) (rl : Int) (q : Nat) : Prop where mk ::
  rep : RRep r d
  small : Small r q
  short : Short r
  same : Same number last rl
theorem plays_new (n : Int) : Plays (RDisk.new n) (Disk.new n) 0 1 (-1) 0 := ⟨rrep_new n, ⟨by simp [RDisk.new], by simp [RDisk.new]⟩, short_new n, .inl ⟨rfl, rfl⟩⟩
theorem plays_limit {r : RDisk} {d : Disk} {number last : Nat} {rl : Int} {q : Nat} (h : Plays r d number last rl q) (n : Int) : Plays { r with limit := n } (d.setLimit n) number last rl (q + 1) :=
  ⟨rrep_limit h.rep n, ⟨by have := h.small.view; show r.view.length ≤ q + 1; omega, by have := h.small.ground; show r.ground.length + r.L.length ≤ q + 1; omega⟩, ⟨h.short.view, h.short.ground, h.short.pend⟩, h.same⟩
theorem plays_len {r : RDisk} {d : Disk} {number last : Nat} {rl : Int} {q : Nat} (h : Plays r d number last rl q) : d.pend.length = r.L.length ∧ r.L.length ≤ q ∧ r.view.length ≤ q ∧ r.ground.length ≤ q ∧ card d.view = r.view.length := by
  have h1 := h.small.ground
  have h2 := congrArg List.length h.rep.pend
  rw [List.length_map] at h2
  exact ⟨h2.symm, by omega, h.small.view, by omega, h.rep.view.card⟩
theorem plays_steps {r : RDisk} {d : Disk} {number last : Nat} {rl : Int} {q : Nat} (h : Plays r d number last rl q) (k : Int) {body : Dk.Bytes} (hb : body.length ≤ 4096) (n : Int) :
    Plays (rsteps r k number rl body n).r (Mt.stepsW d k number last body n).d (Mt.stepsW d k number last body n).number (Mt.stepsW d k number last body n).last (rsteps r k number rl body n).last (q + 1) ∧
    (rsteps r k number rl body n).fin = (Mt.stepsW d k number last body n).fin ∧ (rsteps r k number rl body n).err = (Mt.stepsW d k number last body n).err ∧ (rsteps r k number rl body n).number = (Mt.stepsW d k number last body n).number := by
  obtain ⟨h1, h2, h3, h4, h5⟩ := steps_same (k := k) (body := body) (n := n) h.rep h.same
  exact ⟨⟨h1, small_steps h.small _ _ _ _ _, short_steps h.short _ _ _ hb _, h5⟩, h2, h3, h4⟩
theorem plays_crash {r : RDisk} {d : Disk} {number last : Nat} {rl : Int} {q : Nat} (h : Plays r d number last rl q) (l : List (Int × Int)) : Plays (r.crash l) (d.crash l) number last rl q :=
  ⟨rrep_crash h.rep l, small_crash h.small l, short_crash h.short l, h.same⟩
theorem plays_open {r : RDisk} {d : Disk} {number last : Nat} {rl : Int} {q : Nat} (h : Plays r d number last rl q) (k : Int) : Plays r d (Mt.opened d.view k).number (Mt.opened d.view k).last (rlast (Mt.opened d.view k)) q :=
  ⟨h.rep, h.small, h.short, same_opened _ _⟩
end Go.Rf
