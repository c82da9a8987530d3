/-
  THE LOG'S PLAIN LAW (layer 8): what is appended is what is found again. Conditions: none.
-/
import Derived.Test.YtlejcepbcfijiaaGreatDoorWalN
set_option linter.unusedVariables false
set_option maxRecDepth 20000
namespace Go.Wl
open Go.Dk Go.Wire
theorem get_more {b : Dk.Bytes} {x : Nat × Dk.Bytes × Nat} (h : Wire.get b = some x) (r : Dk.Bytes) : Wire.get (b ++ r) = some x := by
  unfold Wire.get at h
  split at h
  · cases h
  · rename_i h4
    simp only at h
    split at h
    · cases h
    · rename_i hn
      have e1 : (b ++ r).take 4 = b.take 4 := List.take_append_of_le_length (by omega)
      have e2 : (b ++ r).drop 4 = b.drop 4 ++ r := List.drop_append_of_le_length (by omega)
      have e3 : (b.drop 4 ++ r).take (ofBe (b.take 4)) = (b.drop 4).take (ofBe (b.take 4)) := List.take_append_of_le_length (by omega)
      unfold Wire.get
      rw [if_neg (by rw [List.length_append]; omega)]
      simp only [e1, e2, e3]
      rw [if_neg (by rw [List.length_append]; omega)]
      exact h
/-! ### 1. A segment's bytes, what is read in them -/
def items (G : List Rec) : Dk.Bytes := G.flatMap fun r => Wire.put r.seq r.body
def bytesOf (b : Nat) (G : List Rec) : Dk.Bytes := Wire.put b title ++ items G
def numbered (b : Nat) : List Rec → Prop
  | [] => True
  | r :: G => r.seq = b ∧ r.body.length ≤ 32768 ∧ numbered (b + 1) G
theorem items_cons (r : Rec) (G : List Rec) : items (r :: G) = Wire.put r.seq r.body ++ items G := rfl
theorem items_snoc (G : List Rec) (r : Rec) : items (G ++ [r]) = items G ++ Wire.put r.seq r.body := by simp [items]
theorem numbered_snoc : ∀ (G : List Rec) (b : Nat) (r : Rec), numbered b G → r.seq = b + G.length → r.body.length ≤ 32768 → numbered b (G ++ [r])
  | [], b, r, _, h, hb => ⟨by simpa using h, hb, trivial⟩
  | x :: G, b, r, h, hs, hb => ⟨h.1, h.2.1, numbered_snoc G (b + 1) r h.2.2 (by rw [hs, List.length_cons]; omega) hb⟩
theorem scan_items : ∀ (G : List Rec) (b m : Nat), numbered b G → b + G.length < W → G.length ≤ m → scan m (items G) b = G
  | [], b, m, _, _, _ => scan_none (by show Wire.get [] = none; exact Wire.get_short (by decide))
  | r :: G, b, 0, _, _, hm => by simp at hm
  | r :: G, b, m + 1, h, hw, hm => by
    rw [List.length_cons] at hw hm
    obtain ⟨h1, h2, h3⟩ := h
    have hs : r.seq < 2 ^ 64 := by rw [h1]; have : W = 2 ^ 64 := rfl; omega
    have hg := get_more (Wire.get_put r.seq r.body hs h2) (items G)
    rw [items_cons, scan_yes hg (by show r.seq = b % W; rw [Nat.mod_eq_of_lt (by omega)]; exact h1)]
    have e : (Wire.put r.seq r.body ++ items G).drop (Wire.put r.seq r.body).length = items G := List.drop_left
    show _ :: scan m ((Wire.put r.seq r.body ++ items G).drop (Wire.put r.seq r.body).length) (b + 1) = r :: G
    rw [e, scan_items G (b + 1) m h3 (by omega) (by omega)]
theorem put_pos (s : Nat) (b : Dk.Bytes) : 4 ≤ (Wire.put s b).length := by simp [Wire.put, be_len]
theorem items_len (G : List Rec) : G.length ≤ (items G).length := by
  induction G with
  | nil => exact Nat.le_refl _
  | cons r G ih =>
    rw [items_cons, List.length_append, List.length_cons]
    have := put_pos r.seq r.body
    omega
theorem fdOf_bytes {b i : Nat} {G : List Rec} (h : numbered b G) (hw : b + G.length < W) : fdOf (bytesOf b G) i = some ⟨i, b, G⟩ := by
  have hb : b < 2 ^ 64 := by have : W = 2 ^ 64 := rfl; omega
  have hg := get_more (Wire.get_put b title hb (by decide)) (items G)
  have hy := fdOf_yes (i := i) hg rfl
  have e : (Wire.put b title ++ items G).drop (Wire.put b title).length = items G := List.drop_left
  unfold bytesOf
  rw [hy]
  simp only [e]
  rw [scan_items G b _ h hw (items_len G)]
/-- a segment's sectors hold these bytes -/
def Holds (f : Secs) (k : Int) (size : Nat) (s : Dk.Bytes) : Prop := ∀ j : Nat, j < size → f (k + (j : Int)) = if j * 512 < s.length then some (sect s j) else none
theorem sect_drop (s : Dk.Bytes) (j : Nat) : sect s j = (s.drop (j * 512)).take 512 := by
  unfold sect
  rw [List.drop_take]
  by_cases h : (j + 1) * 512 ≤ s.length
  · rw [Nat.min_eq_left h, show (j + 1) * 512 - j * 512 = 512 by omega]
  · rw [Nat.min_eq_right (by omega), List.take_of_length_le (by rw [List.length_drop]; omega), List.take_of_length_le (by rw [List.length_drop]; omega)]
theorem segBytes_holds {f : Secs} {k : Int} {size : Nat} {s : Dk.Bytes} (h : Holds f k size s) (hl : s.length ≤ size * 512) : ∀ (m j : Nat), j + m = size → segBytes f (k + (j : Int)) m = s.drop (j * 512)
  | 0, j, hj => by
    have e : s.length ≤ j * 512 := by omega
    show [] = _
    exact (List.drop_eq_nil_of_le e).symm
  | m + 1, j, hj => by
    have hv := h j (by omega)
    by_cases hlt : j * 512 < s.length
    · rw [if_pos hlt] at hv
      have hsl : (sect s j).length = min 512 (s.length - j * 512) := by rw [sect_drop, List.length_take, List.length_drop]
      by_cases h5 : (sect s j).length < 512
      · rw [segBytes_short hv h5, sect_drop, List.take_of_length_le (by rw [List.length_drop]; omega)]
      · rw [segBytes_long hv h5, show k + (j : Int) + 1 = k + ((j + 1 : Nat) : Int) by push_cast; omega, segBytes_holds h hl m (j + 1) (by omega), sect_drop]
        rw [show (j + 1) * 512 = j * 512 + 512 by omega, ← List.drop_drop, List.take_append_drop]
    · rw [if_neg hlt] at hv
      have e : s.length ≤ j * 512 := by omega
      rw [segBytes_none hv]
      exact (List.drop_eq_nil_of_le e).symm
theorem segBytes_of {f : Secs} {k : Int} {size : Nat} {s : Dk.Bytes} (h : Holds f k size s) (hl : s.length ≤ size * 512) : segBytes f k size = s := by
  have := segBytes_holds h hl size 0 (by omega)
  simpa using this
/-! ### 2. Writing a segment's bytes -/
theorem Rep.add {l : List (Int × Dk.Bytes)} {f : Secs} (h : Rep l f) {k : Int} {s : Dk.Bytes} (hk : f k = none) : Rep ((k, s) :: l) (upd f k (some s)) := by
  constructor
  · rw [List.map_cons, List.nodup_cons]
    exact ⟨by rw [h.mem, hk]; simp, h.nodup⟩
  · intro i
    rw [List.find?_cons]
    by_cases hi : i = k
    · subst hi; simp [upd_same]
    · have : ((k, s).1 == i) = false := by simp; exact fun e => hi e.symm
      rw [this]
      simp only
      rw [h.look, upd_other hi]
theorem card_most : ∀ (M : Nat) (f : Secs), (∀ i, f i ≠ none → 0 ≤ i ∧ i < (M : Int)) → ∃ l, Rep l f ∧ l.length ≤ M
  | 0, f, h => ⟨[], ⟨by simp, fun k => by
      cases hk : f k with
      | none => simp
      | some s => have := h k (by rw [hk]; simp); omega⟩, Nat.le_refl _⟩
  | M + 1, f, h => by
    obtain ⟨l, hl, hn⟩ := card_most M (upd f (M : Int) none) (fun i hi => by
      by_cases he : i = (M : Int)
      · subst he; rw [upd_same] at hi; exact absurd rfl hi
      · rw [upd_other he] at hi; have := h i hi; omega)
    cases hf : f (M : Int) with
    | none =>
      have e : upd f (M : Int) none = f := by
        funext i
        by_cases he : i = (M : Int)
        · subst he; rw [upd_same, hf]
        · rw [upd_other he]
      rw [e] at hl
      exact ⟨l, hl, by omega⟩
    | some s =>
      have e : upd (upd f (M : Int) none) (M : Int) (some s) = f := by
        funext i
        by_cases he : i = (M : Int)
        · subst he; rw [upd_same, hf]
        · rw [upd_other he, upd_other he]
      refine ⟨((M : Int), s) :: l, ?_, by simp; omega⟩
      have := Rep.add hl (k := (M : Int)) (s := s) (upd_same _ _ _)
      rwa [e] at this
theorem card_le {M : Nat} {f : Secs} (h : ∀ i, f i ≠ none → 0 ≤ i ∧ i < (M : Int)) : card f ≤ M := by
  obtain ⟨l, hl, hn⟩ := card_most M f h
  rw [hl.card]; exact hn
/-- a disk on whose first M sectors may be written -/
structure Roomy (d : Disk) (M : Nat) : Prop where mk ::
  few : ∀ i, d.view i ≠ none → 0 ≤ i ∧ i < (M : Int)
  size : (M : Int) ≤ d.size
  limit : (M : Int) < d.limit
theorem Roomy.ok {d : Disk} {M : Nat} (h : Roomy d M) {k : Int} (h0 : 0 ≤ k) (h1 : k < (M : Int)) {b : Dk.Bytes} (hb : b.length ≤ 512) : d.werr k b = 0 := by
  have hc := card_le h.few
  have := h.size
  have := h.limit
  unfold Disk.werr
  rw [if_neg (by omega), if_neg (by omega), if_neg (by omega)]
theorem write_view {d : Disk} {k : Int} {b : Dk.Bytes} (h : d.werr k b = 0) : (d.write k b).view = upd d.view k (some b) := by
  unfold Disk.write
  rw [if_pos h]
  show upd d.view k (some (torn ((d.view k).getD []) b b.length)) = _
  rw [torn_all]
theorem write_rest {d : Disk} {k : Int} {b : Dk.Bytes} : (d.write k b).size = d.size ∧ (d.write k b).limit = d.limit := by
  unfold Disk.write
  split <;> exact ⟨rfl, rfl⟩
theorem Roomy.write {d : Disk} {M : Nat} (h : Roomy d M) {k : Int} (h0 : 0 ≤ k) (h1 : k < (M : Int)) {b : Dk.Bytes} (hb : b.length ≤ 512) : Roomy (d.write k b) M := by
  have he := h.ok h0 h1 hb
  refine ⟨fun i hi => ?_, by rw [write_rest.1]; exact h.size, by rw [write_rest.2]; exact h.limit⟩
  rw [write_view he] at hi
  by_cases e : i = k
  · subst e; exact ⟨h0, h1⟩
  · rw [upd_other e] at hi; exact h.few i hi
theorem putF_law {k : Int} {s : Dk.Bytes} {M size : Nat} (h0 : 0 ≤ k) (h1 : k + (size : Int) ≤ (M : Int)) (hl : s.length ≤ size * 512) : ∀ (m j : Nat) (d : Disk), Roomy d M → s.length ≤ 512 * (j + m) →
    (putF k s m j d).2 = 0 ∧ Roomy (putF k s m j d).1 M ∧ ∀ i, (putF k s m j d).1.view i = if k + (j : Int) ≤ i ∧ (i - k).toNat * 512 < s.length then some (sect s (i - k).toNat) else d.view i
  | 0, j, d, hr, hm => by
    refine ⟨rfl, hr, fun i => ?_⟩
    show d.view i = _
    rw [if_neg (by omega)]
  | m + 1, j, d, hr, hm => by
    by_cases hj : j * 512 < s.length
    · have hb := sect_len s j
      have he : d.werr (k + (j : Int)) (sect s j) = 0 := hr.ok (by omega) (by omega) hb
      obtain ⟨e1, e2, e3⟩ := putF_law h0 h1 hl m (j + 1) (d.write (k + (j : Int)) (sect s j)) (hr.write (by omega) (by omega) hb) (by omega)
      rw [putF_go (by omega) hj he]
      refine ⟨e1, e2, fun i => ?_⟩
      show (putF k s m (j + 1) _).1.view i = _
      rw [e3 i, write_view he]
      by_cases hi : i = k + (j : Int)
      · subst hi
        have e : (k + (j : Int) - k).toNat = j := by omega
        rw [if_neg (by push_cast; omega), upd_same, if_pos (by rw [e]; exact ⟨by omega, hj⟩), e]
      · rw [upd_other hi]
        by_cases c : k + (((j + 1 : Nat)) : Int) ≤ i ∧ (i - k).toNat * 512 < s.length
        · rw [if_pos c, if_pos ⟨by have := c.1; push_cast at this; omega, c.2⟩]
        · rw [if_neg c, if_neg (by push_cast at c; omega)]
    · rw [putF_end hj]
      refine ⟨rfl, hr, fun i => ?_⟩
      show d.view i = _
      rw [if_neg (by omega)]
end Go.Wl
