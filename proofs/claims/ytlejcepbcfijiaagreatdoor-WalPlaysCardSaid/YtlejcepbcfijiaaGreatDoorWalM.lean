/-
  THE LOG IN PLAIN LEAN (layer 8): segments' bytes, records one behind the other, what is looked up. Conditions: none.
-/
import Derived.Test.YtlejcepbcfijiaaGreatDoorWireM
import Derived.Test.YtlejcepbcfijiaaGreatDoorDiskM
set_option linter.unusedVariables false
namespace Go.Wl
open Go.Dk Go.Wire
def W : Nat := 18446744073709551616
structure Seg where mk ::
  place : Nat
  base : Nat
  count : Nat
structure Rec where mk ::
  seq : Nat
  body : Dk.Bytes
structure Fd where mk ::
  place : Nat
  base : Nat
  recs : List Rec
def Fd.seg (f : Fd) : Seg := ⟨f.place, f.base, f.recs.length⟩
def title : Dk.Bytes := [115, 101, 103, 109, 101, 110, 116]
/-- a segment's bytes: m sectors from k on -/
def segBytes (f : Secs) (k : Int) : Nat → Dk.Bytes
  | 0 => []
  | m + 1 => match f k with
    | none => []
    | some b => if b.length < 512 then b else b ++ segBytes f (k + 1) m
/-- records one behind the other, from a number on -/
def scan : Nat → Dk.Bytes → Nat → List Rec
  | 0, _, _ => []
  | m + 1, b, first => match Wire.get b with
    | some x => if x.1 = first % W then ⟨x.1, x.2.1⟩ :: scan m (b.drop x.2.2) (first + 1) else []
    | none => []
/-- what a segment's bytes tell -/
def fdOf (b : Dk.Bytes) (i : Nat) : Option Fd :=
  match Wire.get b with
  | some x => if x.2.1 = title then some ⟨i, x.1, scan (b.drop x.2.2).length (b.drop x.2.2) x.1⟩ else none
  | none => none
def fd (f : Secs) (k : Int) (size i : Nat) : Option Fd := fdOf (segBytes f (k + ((i * size : Nat) : Int)) size) i
theorem fdOf_yes {b : Dk.Bytes} {i : Nat} {x : Nat × Dk.Bytes × Nat} (h : Wire.get b = some x) (ht : x.2.1 = title) : fdOf b i = some ⟨i, x.1, scan (b.drop x.2.2).length (b.drop x.2.2) x.1⟩ := by simp [fdOf, h, ht]
theorem fdOf_no1 {b : Dk.Bytes} {i : Nat} (h : Wire.get b = none) : fdOf b i = none := by simp [fdOf, h]
theorem fdOf_no2 {b : Dk.Bytes} {i : Nat} {x : Nat × Dk.Bytes × Nat} (h : Wire.get b = some x) (ht : ¬ x.2.1 = title) : fdOf b i = none := by simp [fdOf, h, ht]
def look (f : Secs) (k : Int) (size : Nat) : Nat → List Fd
  | 0 => []
  | n + 1 => look f k size n ++ (fd f k size n).toList
theorem scan_len : ∀ (m : Nat) (b : Dk.Bytes) (first : Nat), (scan m b first).length ≤ m
  | 0, b, first => Nat.le_refl _
  | m + 1, b, first => by
    unfold scan
    split
    · split
      · have h := scan_len m; simp only [List.length_cons]; have := h (b.drop (by assumption : Nat × Dk.Bytes × Nat).2.2) (first + 1); omega
      · simp
    · simp
theorem look_no {f : Secs} {k : Int} {size n : Nat} (h : fd f k size n = none) : look f k size (n + 1) = look f k size n := by simp [look, h]
theorem look_yes {f : Secs} {k : Int} {size n : Nat} {x : Fd} (h : fd f k size n = some x) : look f k size (n + 1) = look f k size n ++ [x] := by simp [look, h]
theorem look_len (f : Secs) (k : Int) (size : Nat) : ∀ n, (look f k size n).length ≤ n
  | 0 => Nat.le_refl _
  | n + 1 => by
    have h := look_len f k size n
    unfold look
    rw [List.length_append]
    cases fd f k size n <;> simp <;> omega
theorem segBytes_len (f : Secs) (h : ∀ k s, f k = some s → s.length ≤ 512) : ∀ (m : Nat) (k : Int), (segBytes f k m).length ≤ 512 * m
  | 0, k => by simp [segBytes]
  | m + 1, k => by
    unfold segBytes
    cases hf : f k with
    | none => simp
    | some b =>
      have h1 := h k b hf
      have h2 := segBytes_len f h m (k + 1)
      simp only
      split
      · omega
      · rw [List.length_append]; omega
theorem get_len {b : Dk.Bytes} {x : Nat × Dk.Bytes × Nat} (h : Wire.get b = some x) : 8 ≤ x.2.2 ∧ x.2.2 ≤ b.length ∧ x.1 < W := by
  unfold Wire.get at h
  split at h
  · cases h
  · rename_i h4
    simp only at h
    split at h
    · cases h
    · rename_i hn
      split at h
      · rename_i ho
        cases hr : openRec (openS ((b.drop 4).take (ofBe (b.take 4)))).1 with
        | none => rw [hr] at h; cases h
        | some y =>
          rw [hr] at h
          simp only [Option.map_some, Option.some.injEq] at h
          subst h
          refine ⟨?_, ?_, ?_⟩
          · show 8 ≤ 4 + ofBe (b.take 4)
            unfold openS at ho
            split at ho
            · cases ho
            · rename_i h5
              rw [List.length_take] at h5
              omega
          · show 4 + ofBe (b.take 4) ≤ b.length
            rw [List.length_drop] at hn; omega
          · unfold openRec at hr
            simp only at hr
            split at hr
            · cases hr; exact num_lt _
            · cases hr
      · cases h
def has (xs : List Seg) (i : Int) : Bool := xs.any (fun s => decide ((s.place : Int) = i))
theorem has_here {xs : List Seg} {i : Int} {q : Nat} {x : Seg} (hx : xs[q]? = some x) (h : (x.place : Int) = i) : has xs i = true := by
  unfold has
  rw [List.any_eq_true]
  exact ⟨x, List.mem_of_getElem? hx, by simpa using h⟩
theorem has_none {xs : List Seg} {i : Int} (h : has (xs.take xs.length) i = false) : has xs i = false := by rwa [List.take_length] at h
theorem has_step {xs : List Seg} {i : Int} {q : Nat} {x : Seg} (h : has (xs.take q) i = false) (hx : xs[q]? = some x) (hne : (x.place : Int) ≠ i) : has (xs.take (q + 1)) i = false := by
  unfold has at h ⊢
  rw [List.take_add_one, hx, List.any_append, h]
  simp [hne]
/-- sectors given back, from k on -/
def freeAll (d : Disk) (k : Int) : Nat → Disk
  | 0 => d
  | m + 1 => (freeAll d k m).free (k + (m : Int))
theorem freeAll_pend (d : Disk) (k : Int) : ∀ m, (freeAll d k m).pend.length ≤ d.pend.length + m
  | 0 => Nat.le_refl _
  | m + 1 => by
    have h := freeAll_pend d k m
    show ((freeAll d k m).free _).pend.length ≤ _
    unfold Disk.free
    split
    · simp [Disk.push]; omega
    · omega
theorem segBytes_none {f : Secs} {k : Int} {m : Nat} (h : f k = none) : segBytes f k m = [] := by cases m <;> simp [segBytes, h]
theorem segBytes_short {f : Secs} {k : Int} {m : Nat} {b : Dk.Bytes} (h : f k = some b) (hb : b.length < 512) : segBytes f k (m + 1) = b := by simp [segBytes, h, hb]
theorem segBytes_long {f : Secs} {k : Int} {m : Nat} {b : Dk.Bytes} (h : f k = some b) (hb : ¬ b.length < 512) : segBytes f k (m + 1) = b ++ segBytes f (k + 1) m := by simp [segBytes, h, hb]
theorem scan_yes {m : Nat} {b : Dk.Bytes} {first : Nat} {x : Nat × Dk.Bytes × Nat} (h : Wire.get b = some x) (hs : x.1 = first % W) : scan (m + 1) b first = ⟨x.1, x.2.1⟩ :: scan m (b.drop x.2.2) (first + 1) := by simp [scan, h, hs]
theorem scan_none {m : Nat} {b : Dk.Bytes} {first : Nat} (h : Wire.get b = none) : scan m b first = [] := by cases m <;> simp [scan, h]
theorem scan_no {m : Nat} {b : Dk.Bytes} {first : Nat} {x : Nat × Dk.Bytes × Nat} (h : Wire.get b = some x) (hs : ¬ x.1 = first % W) : scan m b first = [] := by cases m <;> simp [scan, h, hs]
theorem getV_get {b : Dk.Bytes} (h : (Wire.getV b).2.2.2 = true) : Wire.get b = some ((Wire.getV b).1, (Wire.getV b).2.1, (Wire.getV b).2.2.1) := by
  unfold Wire.getV at h ⊢
  cases hg : Wire.get b with
  | none => rw [hg] at h; cases h
  | some x => rfl
theorem getV_get_no {b : Dk.Bytes} (h : (Wire.getV b).2.2.2 = false) : Wire.get b = none := by
  unfold Wire.getV at h
  cases hg : Wire.get b with
  | none => rfl
  | some x => rw [hg] at h; cases h
/-- the records behind a number -/
def behind (k : Nat) (xs : List Rec) : List Rec := xs.filter (fun r => decide (k < r.seq))
theorem behind_yes {k q : Nat} {xs : List Rec} {r : Rec} (h : xs[q]? = some r) (hk : k < r.seq) : behind k (xs.take (q + 1)) = behind k (xs.take q) ++ [r] := by
  unfold behind; rw [List.take_add_one, h]; simp [hk]
theorem behind_no {k q : Nat} {xs : List Rec} {r : Rec} (h : xs[q]? = some r) (hk : ¬ k < r.seq) : behind k (xs.take (q + 1)) = behind k (xs.take q) := by
  unfold behind; rw [List.take_add_one, h]; simp [hk]
theorem behind_len (k : Nat) (xs : List Rec) : (behind k xs).length ≤ xs.length := List.length_filter_le _ _
/-- the last number of a segment -/
def upTo (base n : Nat) : Nat := ((base + n) % W + (W - 1)) % W
/-- where the first one is that answers -/
def pos (ok : Fd → Bool) : List Fd → Nat → Int
  | [], _ => -1
  | f :: fs, i => if ok f then (i : Int) else pos ok fs (i + 1)
theorem pos_here {ok : Fd → Bool} : ∀ {fs : List Fd} {q i : Nat} {f : Fd}, (fs.take q).any ok = false → fs[q]? = some f → ok f = true → pos ok fs i = ((i + q : Nat) : Int)
  | [], q, i, f, _, h, _ => by simp at h
  | x :: fs, 0, i, f, _, h, hk => by
    simp at h; subst h; unfold pos; rw [if_pos hk]; rfl
  | x :: fs, q + 1, i, f, h1, h, hk => by
    rw [List.take_succ_cons, List.any_cons, Bool.or_eq_false_iff] at h1
    unfold pos
    rw [if_neg (by rw [h1.1]; decide), pos_here (q := q) h1.2 (by simpa using h) hk]
    congr 1; omega
theorem pos_none {ok : Fd → Bool} : ∀ {fs : List Fd} {i : Nat}, fs.any ok = false → pos ok fs i = -1
  | [], i, _ => rfl
  | x :: fs, i, h => by
    rw [List.any_cons, Bool.or_eq_false_iff] at h
    unfold pos
    rw [if_neg (by rw [h.1]; decide)]
    exact pos_none h.2
theorem any_step {ok : Fd → Bool} {fs : List Fd} {q : Nat} {f : Fd} (h : (fs.take q).any ok = false) (hf : fs[q]? = some f) (hk : ok f = false) : (fs.take (q + 1)).any ok = false := by
  rw [List.take_add_one, hf, List.any_append, h]; simp [hk]
/-- the one that goes on from a number -/
def okNext (live : List Seg) (last : Nat) (f : Fd) : Bool := decide (f.base = (last + 1) % W) && !(has live f.place)
theorem okNext_is {live : List Seg} {last : Nat} {f : Fd} {b : Bool} (h : f.base = (last + 1) % 18446744073709551616) (hu : has live f.place = b) : okNext live last f = !b := by
  have h' : f.base = (last + 1) % W := h
  unfold okNext; rw [decide_eq_true h', hu]; rfl
theorem okNext_no {live : List Seg} {last : Nat} {f : Fd} (h : ¬ f.base = (last + 1) % 18446744073709551616) : okNext live last f = false := by
  have h' : ¬ f.base = (last + 1) % W := h
  unfold okNext; rw [decide_eq_false h']; rfl
theorem pos_cases (ok : Fd → Bool) : ∀ (fs : List Fd) (i : Nat), pos ok fs i = -1 ∨ ∃ q f, pos ok fs i = ((i + q : Nat) : Int) ∧ fs[q]? = some f ∧ ok f = true
  | [], i => .inl rfl
  | x :: fs, i => by
    unfold pos
    split
    · exact .inr ⟨0, x, rfl, rfl, by assumption⟩
    · rcases pos_cases ok fs (i + 1) with h | ⟨q, f, h1, h2, h3⟩
      · exact .inl h
      · exact .inr ⟨q + 1, f, by rw [h1]; congr 1; omega, by simpa using h2, h3⟩
/-- a segment from which the log may begin -/
def cand (k : Nat) (f : Fd) : Bool := decide (f.base ≤ (k + 1) % W) && decide ((k + 1) % W ≤ (f.base + f.recs.length) % W)
def better (fs : List Fd) (b : Int) (f : Fd) : Bool := decide (b < 0) || (match fs[b.toNat]? with | some g => decide (g.base < f.base) | none => false)
def bestF (k : Nat) (fs : List Fd) : Nat → Int
  | 0 => -1
  | n + 1 => match fs[n]? with
    | some f => if cand k f && better fs (bestF k fs n) f then (n : Int) else bestF k fs n
    | none => bestF k fs n
theorem bestF_cases (k : Nat) (fs : List Fd) : ∀ n, bestF k fs n = -1 ∨ ∃ j f, bestF k fs n = ((j : Nat) : Int) ∧ j < n ∧ fs[j]? = some f
  | 0 => .inl rfl
  | n + 1 => by
    have ih := bestF_cases k fs n
    unfold bestF
    cases hf : fs[n]? with
    | none =>
      rcases ih with h | ⟨j, g, h1, h2, h3⟩
      · exact .inl h
      · exact .inr ⟨j, g, h1, by omega, h3⟩
    | some f =>
      simp only
      split
      · exact .inr ⟨n, f, rfl, by omega, hf⟩
      · rcases ih with h | ⟨j, g, h1, h2, h3⟩
        · exact .inl h
        · exact .inr ⟨j, g, h1, by omega, h3⟩
section
variable {k n : Nat} {fs : List Fd} {f : Fd}
theorem best_yes1 (hf : fs[n]? = some f) (h1 : f.base ≤ (k + 1) % 18446744073709551616) (h2 : (k + 1) % 18446744073709551616 ≤ (f.base + f.recs.length) % 18446744073709551616) (h3 : bestF k fs n = -1) : bestF k fs (n + 1) = (n : Int) := by
  have h1' : f.base ≤ (k + 1) % W := h1
  have h2' : (k + 1) % W ≤ (f.base + f.recs.length) % W := h2
  unfold bestF; rw [hf]; simp only [h3, cand, better, decide_eq_true h1', decide_eq_true h2']; rfl
theorem best_yes2 {j : Nat} {g : Fd} (hf : fs[n]? = some f) (h1 : f.base ≤ (k + 1) % 18446744073709551616) (h2 : (k + 1) % 18446744073709551616 ≤ (f.base + f.recs.length) % 18446744073709551616) (h3 : bestF k fs n = ((j : Nat) : Int)) (hg : fs[j]? = some g) (h4 : g.base < f.base) : bestF k fs (n + 1) = (n : Int) := by
  have h1' : f.base ≤ (k + 1) % W := h1
  have h2' : (k + 1) % W ≤ (f.base + f.recs.length) % W := h2
  unfold bestF; rw [hf]; simp only [h3, cand, better, decide_eq_true h1', decide_eq_true h2', Int.toNat_natCast, hg, decide_eq_true h4]; simp
theorem best_no1 (hf : fs[n]? = some f) (h1 : ¬ f.base ≤ (k + 1) % 18446744073709551616) : bestF k fs (n + 1) = bestF k fs n := by
  have h1' : ¬ f.base ≤ (k + 1) % W := h1
  conv => lhs; unfold bestF
  rw [hf]; simp only [cand, decide_eq_false h1']; rfl
theorem best_no2 (hf : fs[n]? = some f) (h2 : ¬ (k + 1) % 18446744073709551616 ≤ (f.base + f.recs.length) % 18446744073709551616) : bestF k fs (n + 1) = bestF k fs n := by
  have h2' : ¬ (k + 1) % W ≤ (f.base + f.recs.length) % W := h2
  conv => lhs; unfold bestF
  rw [hf]; simp only [cand, decide_eq_false h2', Bool.and_false, Bool.false_and]; rfl
theorem best_no3 {j : Nat} {g : Fd} (hf : fs[n]? = some f) (h3 : bestF k fs n = ((j : Nat) : Int)) (hg : fs[j]? = some g) (h4 : ¬ g.base < f.base) : bestF k fs (n + 1) = bestF k fs n := by
  conv => lhs; unfold bestF
  rw [hf]; simp only [h3, better, Int.toNat_natCast, hg, decide_eq_false h4]
  rw [if_neg (by simp)]
end
/-- what is found, one segment behind the other -/
structure Ch where mk ::
  live : List Seg
  last : Nat
  out : List Rec
  next : Int
def Ch.step (k : Nat) (fs : List Fd) (c : Ch) : Ch := match fs[c.next.toNat]? with
  | some f => ⟨c.live ++ [f.seg], upTo f.base f.recs.length, c.out ++ behind k f.recs, pos (okNext (c.live ++ [f.seg]) (upTo f.base f.recs.length)) fs 0⟩
  | none => c
def Ch.run (k : Nat) (fs : List Fd) : Nat → Ch → Ch
  | 0, c => c
  | m + 1, c => if c.next < 0 then c else Ch.run k fs m (c.step k fs)
theorem Ch.run_stop {k m : Nat} {fs : List Fd} {c : Ch} (h : c.next < 0) : Ch.run k fs m c = c := by cases m <;> simp [Ch.run, h]
theorem Ch.run_go {k m : Nat} {fs : List Fd} {lv : List Seg} {la j : Nat} {o : List Rec} {f : Fd} (hf : fs[j]? = some f) :
    Ch.run k fs (m + 1) ⟨lv, la, o, (j : Int)⟩ = Ch.run k fs m ⟨lv ++ [f.seg], upTo f.base f.recs.length, o ++ behind k f.recs, pos (okNext (lv ++ [f.seg]) (upTo f.base f.recs.length)) fs 0⟩ := by
  have h : ¬ ((j : Int) < 0) := by omega
  conv => lhs; unfold Ch.run
  simp only [h, if_false, Ch.step, Int.toNat_natCast, hf]
/-- how many aren't in use -/
def idle : List Fd → List Seg → Nat
  | [], _ => 0
  | f :: fs, lv => (if has lv f.place then 0 else 1) + idle fs lv
theorem has_snoc (lv : List Seg) (s : Seg) (i : Int) : has (lv ++ [s]) i = (has lv i || decide ((s.place : Int) = i)) := by simp [has]
theorem idle_le (lv : List Seg) (s : Seg) : ∀ fs : List Fd, idle fs (lv ++ [s]) ≤ idle fs lv
  | [] => Nat.le_refl _
  | x :: fs => by
    have ih := idle_le lv s fs
    unfold idle
    rw [has_snoc]
    cases has lv x.place <;> cases decide ((s.place : Int) = x.place) <;> simp <;> omega
theorem idle_lt {lv : List Seg} {f : Fd} (hu : has lv f.place = false) : ∀ {fs : List Fd} {q : Nat}, fs[q]? = some f → idle fs (lv ++ [f.seg]) < idle fs lv
  | [], q, hf => by simp at hf
  | x :: fs, 0, hf => by
    simp at hf; subst hf
    have h := idle_le lv x.seg fs
    unfold idle
    rw [has_snoc, hu]
    have : decide ((x.seg.place : Int) = (x.place : Int)) = true := by simp [Fd.seg]
    rw [this]; simp; omega
  | x :: fs, q + 1, hf => by
    have h := idle_lt hu (fs := fs) (q := q) (by simpa using hf)
    unfold idle
    rw [has_snoc]
    cases has lv x.place <;> cases decide ((f.seg.place : Int) = x.place) <;> simp <;> omega
theorem idle_len (lv : List Seg) : ∀ fs : List Fd, idle fs lv ≤ fs.length
  | [] => Nat.le_refl _
  | x :: fs => by
    have h := idle_len lv fs
    unfold idle
    rw [List.length_cons]
    split <;> omega
/-- the sectors of segments that aren't in use given back -/
def freeUn (d : Disk) (k : Int) (size : Nat) (lv : List Seg) : Nat → Disk
  | 0 => d
  | i + 1 => if has lv (i : Int) then freeUn d k size lv i else freeAll (freeUn d k size lv i) (k + ((i * size : Nat) : Int)) size
theorem freeUn_pend (d : Disk) (k : Int) (size : Nat) (lv : List Seg) : ∀ i, (freeUn d k size lv i).pend.length ≤ d.pend.length + i * size
  | 0 => by simp [freeUn]
  | i + 1 => by
    have h := freeUn_pend d k size lv i
    have h2 : (i + 1) * size = i * size + size := Nat.succ_mul _ _
    unfold freeUn
    split
    · omega
    · have h3 := freeAll_pend (freeUn d k size lv i) (k + ((i * size : Nat) : Int)) size
      omega
/-- what is looked up, is few -/
theorem look_ok {f : Secs} (h : ∀ k s, f k = some s → s.length ≤ 512) {k : Int} {size : Nat} (hs : size ≤ 64) : ∀ (n : Nat) (x : Fd), x ∈ look f k size n → x.base < W ∧ x.recs.length ≤ 32768
  | 0, x, hx => by simp [look] at hx
  | n + 1, x, hx => by
    unfold look at hx
    rcases List.mem_append.1 hx with h1 | h1
    · exact look_ok h hs n x h1
    · unfold fd fdOf at h1
      have hl := segBytes_len f h size (k + ((n * size : Nat) : Int))
      generalize segBytes f (k + ((n * size : Nat) : Int)) size = b at h1 hl
      cases hg : Wire.get b with
      | none => rw [hg] at h1; simp at h1
      | some y =>
        rw [hg] at h1
        simp only at h1
        have h2 := get_len hg
        split at h1
        · simp at h1; subst h1
          refine ⟨h2.2.2, ?_⟩
          have := scan_len (b.drop y.2.2).length (b.drop y.2.2) y.1
          rw [List.length_drop] at this
          show (scan _ _ _).length ≤ 32768
          omega
        · simp at h1
/-- the log that is opened -/
def found (d : Disk) (k : Int) (size n from_ : Nat) : Ch := Ch.run from_ (look d.view k size n) (look d.view k size n).length ⟨[], from_, [], bestF from_ (look d.view k size n) (look d.view k size n).length⟩
def openDisk (d : Disk) (k : Int) (size n from_ : Nat) : Disk := (freeUn d k size (found d k size n from_).live n).sync
theorem okNext_free {lv : List Seg} {la : Nat} {f : Fd} (h : okNext lv la f = true) : has lv f.place = false := by
  unfold okNext at h
  rw [Bool.and_eq_true] at h
  simpa using h.2
theorem next_ok (lv : List Seg) (la : Nat) (fs : List Fd) : pos (okNext lv la) fs 0 = -1 ∨ ∃ j f, pos (okNext lv la) fs 0 = ((j : Nat) : Int) ∧ fs[j]? = some f ∧ has lv f.place = false := by
  rcases pos_cases (okNext lv la) fs 0 with h | ⟨q, f, h1, h2, h3⟩
  · exact .inl h
  · exact .inr ⟨q, f, by rw [h1]; congr 1; omega, h2, okNext_free h3⟩
theorem first_ok (k : Nat) (fs : List Fd) : bestF k fs fs.length = -1 ∨ ∃ j f, bestF k fs fs.length = ((j : Nat) : Int) ∧ fs[j]? = some f ∧ has [] f.place = false := by
  rcases bestF_cases k fs fs.length with h | ⟨j, f, h1, h2, h3⟩
  · exact .inl h
  · exact .inr ⟨j, f, h1, h3, rfl⟩
end Go.Wl
