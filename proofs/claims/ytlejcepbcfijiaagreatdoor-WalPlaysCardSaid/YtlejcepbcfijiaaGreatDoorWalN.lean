/-
  THE LOG IN PLAIN LEAN (layer 8): what is appended. Conditions: none.
-/
import Derived.Test.YtlejcepbcfijiaaGreatDoorWalM
set_option linter.unusedVariables false
namespace Go.Wl
open Go.Dk Go.Wire
/-- one of a segment's sectors -/
def sect (b : Dk.Bytes) (j : Nat) : Dk.Bytes := (b.take (min ((j + 1) * 512) b.length)).drop (j * 512)
theorem sect_len (b : Dk.Bytes) (j : Nat) : (sect b j).length ≤ 512 := by unfold sect; rw [List.length_drop, List.length_take]; omega
noncomputable def putF (k : Int) (b : Dk.Bytes) : Nat → Nat → Disk → Disk × Int
  | 0, _, d => (d, 0)
  | m + 1, j, d => if j * 512 < b.length then (if d.werr (k + (j : Int)) (sect b j) = 0 then putF k b m (j + 1) (d.write (k + (j : Int)) (sect b j)) else (d.write (k + (j : Int)) (sect b j), d.werr (k + (j : Int)) (sect b j))) else (d, 0)
noncomputable def put (k : Int) (b : Dk.Bytes) (from_ : Nat) (d : Disk) : Disk × Int := putF k b b.length (from_ / 512) d
theorem putF_go {k : Int} {b : Dk.Bytes} {m j : Nat} {d : Disk} (hm : 0 < m) (h : j * 512 < b.length) (he : d.werr (k + (j : Int)) (sect b j) = 0) : putF k b m j d = putF k b (m - 1) (j + 1) (d.write (k + (j : Int)) (sect b j)) := by
  obtain ⟨q, rfl⟩ : ∃ q, m = q + 1 := ⟨m - 1, by omega⟩
  conv => lhs; unfold putF
  rw [if_pos h, if_pos he]; rfl
theorem putF_err {k : Int} {b : Dk.Bytes} {m j : Nat} {d : Disk} (hm : 0 < m) (h : j * 512 < b.length) (he : ¬ d.werr (k + (j : Int)) (sect b j) = 0) : putF k b m j d = (d.write (k + (j : Int)) (sect b j), d.werr (k + (j : Int)) (sect b j)) := by
  obtain ⟨q, rfl⟩ : ∃ q, m = q + 1 := ⟨m - 1, by omega⟩
  conv => lhs; unfold putF
  rw [if_pos h, if_neg he]
theorem putF_end {k : Int} {b : Dk.Bytes} {m j : Nat} {d : Disk} (h : ¬ j * 512 < b.length) : putF k b m j d = (d, 0) := by
  cases m with
  | zero => rfl
  | succ m => unfold putF; rw [if_neg h]
theorem write_pend (d : Disk) (k : Int) (b : Dk.Bytes) : (d.write k b).pend.length ≤ d.pend.length + 1 := by
  unfold Disk.write; split
  · simp [Disk.push]
  · omega
theorem putF_pend (k : Int) (b : Dk.Bytes) : ∀ (m j : Nat) (d : Disk), (putF k b m j d).1.pend.length ≤ d.pend.length + m
  | 0, j, d => Nat.le_refl _
  | m + 1, j, d => by
    have h1 := write_pend d (k + (j : Int)) (sect b j)
    unfold putF
    split
    · split
      · have h2 := putF_pend k b m (j + 1) (d.write (k + (j : Int)) (sect b j)); omega
      · show (d.write _ _).pend.length ≤ _; omega
    · show d.pend.length ≤ _; omega
/-- the first one from a place on that isn't in use -/
def nextFree (lv : List Seg) : Nat → Nat → Nat
  | 0, i => i
  | m + 1, i => if has lv (i : Int) then nextFree lv m (i + 1) else i
theorem nextFree_le (lv : List Seg) : ∀ m i, i ≤ nextFree lv m i ∧ nextFree lv m i ≤ i + m
  | 0, i => ⟨Nat.le_refl _, Nat.le_refl _⟩
  | m + 1, i => by
    have h := nextFree_le lv m (i + 1)
    unfold nextFree
    split <;> omega
theorem nextFree_go {lv : List Seg} {m i : Nat} (hm : 0 < m) (h : has lv (i : Int) = true) : nextFree lv m i = nextFree lv (m - 1) (i + 1) := by
  obtain ⟨k, rfl⟩ : ∃ k, m = k + 1 := ⟨m - 1, by omega⟩
  conv => lhs; unfold nextFree
  rw [if_pos h]; rfl
theorem nextFree_stop {lv : List Seg} {m i : Nat} (h : m = 0 ∨ has lv (i : Int) = false) : nextFree lv m i = i := by
  cases m with
  | zero => rfl
  | succ m =>
    rcases h with h | h
    · omega
    · unfold nextFree; rw [if_neg (by rw [h]; decide)]
structure Lg where mk ::
  at_ : Int
  n : Nat
  size : Nat
  live : List Seg
  stream : Dk.Bytes
  last : Nat
  synced : Nat
  d : Disk
def Lg.seq (l : Lg) : Nat := (l.last + 1) % W
noncomputable def Lg.goOn (l : Lg) (from_ : Nat) (str : Dk.Bytes) (ini : List Seg) (s : Seg) : Lg × Nat × Int :=
  if (put (l.at_ + ((s.place * l.size : Nat) : Int)) str from_ l.d).2 = 0 then
    ({ l with live := ini ++ [⟨s.place, s.base, (s.count + 1) % W⟩], stream := str, last := l.seq, d := (put (l.at_ + ((s.place * l.size : Nat) : Int)) str from_ l.d).1 }, l.seq, 0)
  else if has l.live s.place then ({ l with stream := [], d := (put (l.at_ + ((s.place * l.size : Nat) : Int)) str from_ l.d).1 }, 0, (put (l.at_ + ((s.place * l.size : Nat) : Int)) str from_ l.d).2)
  else ({ l with stream := [], synced := l.last, d := (freeAll (put (l.at_ + ((s.place * l.size : Nat) : Int)) str from_ l.d).1 (l.at_ + ((s.place * l.size : Nat) : Int)) l.size).sync }, 0, (put (l.at_ + ((s.place * l.size : Nat) : Int)) str from_ l.d).2)
noncomputable def Lg.append (l : Lg) (body : Dk.Bytes) : Lg × Nat × Int :=
  if l.size * 512 < (Wire.put l.seq title).length + (Wire.put l.seq body).length then (l, 0, 81)
  else if l.stream.length = 0 ∨ l.size * 512 < l.stream.length + (Wire.put l.seq body).length then
    (if nextFree l.live l.n 0 = l.n then (l, 0, 82) else l.goOn 0 ((Wire.put l.seq title) ++ Wire.put l.seq body) l.live ⟨nextFree l.live l.n 0, l.seq, 0⟩)
  else match l.live.getLast? with
    | some s => l.goOn l.stream.length (l.stream ++ Wire.put l.seq body) l.live.dropLast s
    | none => (l, 0, 0)
structure Lg.Ok (l : Lg) : Prop where mk ::
  at0 : 0 ≤ l.at_
  at1 : l.at_ + ((l.n * l.size : Nat) : Int) ≤ 65536
  size : l.size ≤ 64
  n : l.n ≤ 64
  live : l.live.length ≤ 1000
  places : ∀ s ∈ l.live, s.place < l.n
  stream : l.stream.length ≤ l.size * 512
  cur : l.stream.length ≠ 0 → l.live ≠ []
  last : l.last < W
  pend : l.d.pend.length ≤ 900000
theorem Lg.seq_lt (l : Lg) : l.seq < 18446744073709551616 := Nat.mod_lt _ (by decide)
section
variable {l : Lg} {body : Dk.Bytes}
theorem app_long (h : l.size * 512 < (Wire.put l.seq title).length + (Wire.put l.seq body).length) : l.append body = (l, 0, 81) := by unfold Lg.append; rw [if_pos h]
theorem app_full (h : ¬ l.size * 512 < (Wire.put l.seq title).length + (Wire.put l.seq body).length) (h2 : l.stream.length = 0 ∨ l.size * 512 < l.stream.length + (Wire.put l.seq body).length) (h3 : nextFree l.live l.n 0 = l.n) : l.append body = (l, 0, 82) := by
  unfold Lg.append; rw [if_neg h, if_pos h2, if_pos h3]
theorem app_fresh (h : ¬ l.size * 512 < (Wire.put l.seq title).length + (Wire.put l.seq body).length) (h2 : l.stream.length = 0 ∨ l.size * 512 < l.stream.length + (Wire.put l.seq body).length) (h3 : ¬ nextFree l.live l.n 0 = l.n) : l.append body = l.goOn 0 ((Wire.put l.seq title) ++ Wire.put l.seq body) l.live ⟨nextFree l.live l.n 0, l.seq, 0⟩ := by
  unfold Lg.append; rw [if_neg h, if_pos h2, if_neg h3]
theorem app_cur (h : ¬ l.size * 512 < (Wire.put l.seq title).length + (Wire.put l.seq body).length) (h2 : ¬ l.stream.length = 0) (h3 : ¬ l.size * 512 < l.stream.length + (Wire.put l.seq body).length) {ini : List Seg} {s : Seg} (hl : l.live = ini ++ [s]) : l.append body = l.goOn l.stream.length (l.stream ++ Wire.put l.seq body) ini s := by
  have e : l.live.getLast? = some s := by rw [hl]; simp
  have e2 : l.live.dropLast = ini := by rw [hl]; simp
  unfold Lg.append; rw [if_neg h, if_neg (by omega), e, e2]
theorem live_split {xs : List Seg} (h : xs ≠ []) : ∃ ini s, xs = ini ++ [s] := ⟨xs.dropLast, xs.getLast h, (List.dropLast_concat_getLast h).symm⟩
variable {from_ : Nat} {str : Dk.Bytes} {ini : List Seg} {s : Seg}
theorem goOn_ok (h : (put (l.at_ + ((s.place * l.size : Nat) : Int)) str from_ l.d).2 = 0) : l.goOn from_ str ini s = ({ l with live := ini ++ [⟨s.place, s.base, (s.count + 1) % W⟩], stream := str, last := l.seq, d := (put (l.at_ + ((s.place * l.size : Nat) : Int)) str from_ l.d).1 }, l.seq, 0) := by
  unfold Lg.goOn; rw [if_pos h]
theorem goOn_err1 (h : ¬ (put (l.at_ + ((s.place * l.size : Nat) : Int)) str from_ l.d).2 = 0) (hu : has l.live s.place = true) : l.goOn from_ str ini s = ({ l with stream := [], d := (put (l.at_ + ((s.place * l.size : Nat) : Int)) str from_ l.d).1 }, 0, (put (l.at_ + ((s.place * l.size : Nat) : Int)) str from_ l.d).2) := by
  unfold Lg.goOn; rw [if_neg h, if_pos hu]
theorem goOn_err2 (h : ¬ (put (l.at_ + ((s.place * l.size : Nat) : Int)) str from_ l.d).2 = 0) (hu : has l.live s.place = false) : l.goOn from_ str ini s = ({ l with stream := [], synced := l.last, d := (freeAll (put (l.at_ + ((s.place * l.size : Nat) : Int)) str from_ l.d).1 (l.at_ + ((s.place * l.size : Nat) : Int)) l.size).sync }, 0, (put (l.at_ + ((s.place * l.size : Nat) : Int)) str from_ l.d).2) := by
  unfold Lg.goOn; rw [if_neg h, if_neg (by rw [hu]; decide)]
end
theorem set_snoc (ini : List Seg) (s s' : Seg) : (ini ++ [s]).set ini.length s' = ini ++ [s'] := by
  rw [List.set_append_right _ _ (Nat.le_refl _)]; simp
end Go.Wl
