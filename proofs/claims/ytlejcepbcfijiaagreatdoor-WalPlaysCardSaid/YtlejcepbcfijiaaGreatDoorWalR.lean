/-
  THE LOG IN PLAIN LEAN (layer 8): the document's way of looking (by places), giving back, its disk beside the log's. Conditions: none.
-/
import Derived.Test.YtlejcepbcfijiaaGreatDoorWalN
import Derived.Test.YtlejcepbcfijiaaGreatDoorRefDM
set_option linter.unusedVariables false
namespace Go.Wl
open Go.Dk Go.Wire
/-! ### 1. By places -/
theorem fd_place {f : Secs} {k : Int} {size i : Nat} {x : Fd} (h : fd f k size i = some x) : x.place = i := by
  unfold fd fdOf at h
  split at h
  · split at h
    · cases h; rfl
    · cases h
  · cases h
def firstP (ok : Fd → Bool) (f : Secs) (k : Int) (size : Nat) : Nat → Nat → Int
  | 0, _ => -1
  | m + 1, i => match fd f k size i with
    | some x => if ok x then (i : Int) else firstP ok f k size m (i + 1)
    | none => firstP ok f k size m (i + 1)
section
variable {ok : Fd → Bool} {f : Secs} {k : Int} {size : Nat}
theorem firstP_yes {m i : Nat} {x : Fd} (h : fd f k size i = some x) (hk : ok x = true) : firstP ok f k size (m + 1) i = (i : Int) := by unfold firstP; rw [h]; simp [hk]
theorem firstP_no1 {m i : Nat} (h : fd f k size i = none) : firstP ok f k size (m + 1) i = firstP ok f k size m (i + 1) := by conv => lhs; unfold firstP
                                                                                                                              rw [h]
theorem firstP_no2 {m i : Nat} {x : Fd} (h : fd f k size i = some x) (hk : ok x = false) : firstP ok f k size (m + 1) i = firstP ok f k size m (i + 1) := by
  conv => lhs; unfold firstP
  rw [h]; simp [hk]
def lookF (f : Secs) (k : Int) (size : Nat) : Nat → Nat → List Fd
  | 0, _ => []
  | m + 1, i => (fd f k size i).toList ++ lookF f k size m (i + 1)
theorem lookF_snoc : ∀ (m i : Nat), lookF f k size (m + 1) i = lookF f k size m i ++ (fd f k size (i + m)).toList
  | 0, i => by simp [lookF]
  | m + 1, i => by
    have h := lookF_snoc m (i + 1)
    show (fd f k size i).toList ++ lookF f k size (m + 1) (i + 1) = _
    rw [h, ← List.append_assoc, show i + 1 + m = i + (m + 1) by omega]; rfl
theorem look_eq : ∀ n, look f k size n = lookF f k size n 0
  | 0 => rfl
  | n + 1 => by rw [lookF_snoc, Nat.zero_add]; unfold look; rw [look_eq n]
theorem firstP_pos : ∀ (m i q : Nat), (pos ok (lookF f k size m i) q = -1 ∧ firstP ok f k size m i = -1) ∨
    ∃ j x, pos ok (lookF f k size m i) q = ((q + j : Nat) : Int) ∧ (lookF f k size m i)[j]? = some x ∧ firstP ok f k size m i = (x.place : Int) ∧ fd f k size x.place = some x
  | 0, i, q => .inl ⟨rfl, rfl⟩
  | m + 1, i, q => by
    cases hx : fd f k size i with
    | none =>
      rw [firstP_no1 hx]
      have e : lookF f k size (m + 1) i = lookF f k size m (i + 1) := by unfold lookF; rw [hx]; cases m <;> rfl
      rw [e]; exact firstP_pos m (i + 1) q
    | some x =>
      have e : lookF f k size (m + 1) i = x :: lookF f k size m (i + 1) := by
        show (fd f k size i).toList ++ _ = _
        rw [hx]; rfl
      have hp := fd_place hx
      rw [e]
      cases hk : ok x with
      | true =>
        right
        refine ⟨0, x, ?_, rfl, ?_, by rw [hp]; exact hx⟩
        · unfold pos; rw [hk]; rfl
        · rw [firstP_yes hx hk, hp]
      | false =>
        rw [firstP_no2 hx hk]
        have ep : pos ok (x :: lookF f k size m (i + 1)) q = pos ok (lookF f k size m (i + 1)) (q + 1) := by
          show (if ok x = true then ((q : Nat) : Int) else pos ok (lookF f k size m (i + 1)) (q + 1)) = _
          rw [hk]; rfl
        rw [ep]
        rcases firstP_pos m (i + 1) (q + 1) with h | ⟨j, y, h1, h2, h3, h4⟩
        · exact .inl h
        · exact .inr ⟨j + 1, y, by rw [h1]; congr 1; omega, by simpa using h2, h3, h4⟩
/-- what is next, as an index and as a place -/
def Nx (f : Secs) (k : Int) (size n : Nat) (j p : Int) : Prop := (j = -1 ∧ p = -1) ∨ ∃ (q : Nat) (x : Fd), j = (q : Int) ∧ (look f k size n)[q]? = some x ∧ p = (x.place : Int) ∧ fd f k size x.place = some x
theorem nx_first (n : Nat) : Nx f k size n (pos ok (look f k size n) 0) (firstP ok f k size n 0) := by
  rw [look_eq]
  rcases firstP_pos (ok := ok) (f := f) (k := k) (size := size) n 0 0 with h | ⟨j, x, h1, h2, h3, h4⟩
  · exact .inl h
  · exact .inr ⟨j, x, by rw [h1]; congr 1; omega, by rw [look_eq]; exact h2, h3, h4⟩
theorem bestF_prefix (k0 : Nat) (fs gs : List Fd) : ∀ m, m ≤ fs.length → bestF k0 (fs ++ gs) m = bestF k0 fs m
  | 0, _ => rfl
  | m + 1, h => by
    have ih := bestF_prefix k0 fs gs m (by omega)
    have e : (fs ++ gs)[m]? = fs[m]? := List.getElem?_append_left (by omega)
    unfold bestF
    rw [e, ih]
    cases hm : fs[m]? with
    | none => rfl
    | some x =>
      have eb : better (fs ++ gs) (bestF k0 fs m) x = better fs (bestF k0 fs m) x := by
        rcases bestF_cases k0 fs m with hb | ⟨j, y, hb, hj, hy⟩
        · rw [hb]; rfl
        · rw [hb]; unfold better
          rw [Int.toNat_natCast, List.getElem?_append_left (by omega)]
      simp only [eb]
/-- the best one so far, as an index and as a place -/
def BestP (k0 : Nat) (f : Secs) (k : Int) (size i : Nat) (p : Int) (b : Nat) : Prop := (bestF k0 (look f k size i) (look f k size i).length = -1 ∧ p = -1) ∨
  ∃ (q : Nat) (x : Fd), bestF k0 (look f k size i) (look f k size i).length = (q : Int) ∧ (look f k size i)[q]? = some x ∧ p = (x.place : Int) ∧ b = x.base ∧ fd f k size x.place = some x
theorem bestP_zero (k0 : Nat) (b : Nat) : BestP k0 f k size 0 (-1) b := .inl ⟨rfl, rfl⟩
theorem bestP_none {k0 i b : Nat} {p : Int} (h : BestP k0 f k size i p b) (hx : fd f k size i = none) : BestP k0 f k size (i + 1) p b := by unfold BestP; rw [look_no hx]; exact h
theorem bestP_last {k0 i : Nat} {x : Fd} (hx : fd f k size i = some x) : bestF k0 (look f k size (i + 1)) (look f k size (i + 1)).length = if (cand k0 x && better (look f k size i ++ [x]) (bestF k0 (look f k size i) (look f k size i).length) x) = true then (((look f k size i).length : Nat) : Int) else bestF k0 (look f k size i) (look f k size i).length := by
  rw [look_yes hx, List.length_append, List.length_singleton]
  conv => lhs; unfold bestF
  rw [show (look f k size i ++ [x])[(look f k size i).length]? = some x by simp]
  simp only []
  rw [bestF_prefix k0 _ [x] _ (Nat.le_refl _)]
theorem bestP_yes {k0 i b : Nat} {p : Int} {x : Fd} (h : BestP k0 f k size i p b) (hx : fd f k size i = some x) (h1 : x.base ≤ (k0 + 1) % 18446744073709551616) (h2 : (k0 + 1) % 18446744073709551616 ≤ (x.base + x.recs.length) % 18446744073709551616) (h3 : p < 0 ∨ b < x.base) : BestP k0 f k size (i + 1) (i : Int) x.base := by
  have hp := fd_place hx
  have hc : cand k0 x = true := by unfold cand; rw [Bool.and_eq_true, decide_eq_true_eq, decide_eq_true_eq]; exact ⟨h1, h2⟩
  have hbt : better (look f k size i ++ [x]) (bestF k0 (look f k size i) (look f k size i).length) x = true := by
    unfold better
    rcases h with ⟨e1, e2⟩ | ⟨q, y, e1, e2, e3, e4, e5⟩
    · rw [e1]; rfl
    · have hq := (List.getElem?_eq_some_iff.1 e2).1
      rw [e1, Int.toNat_natCast, List.getElem?_append_left hq, e2]
      have : y.base < x.base := by omega
      simp [this]
  right
  refine ⟨(look f k size i).length, x, ?_, by rw [look_yes hx]; simp, by rw [hp], rfl, by rw [hp]; exact hx⟩
  rw [bestP_last hx, hc, hbt]; rfl
theorem bestP_no {k0 i b : Nat} {p : Int} {x : Fd} (h : BestP k0 f k size i p b) (hx : fd f k size i = some x) (hn : ¬ x.base ≤ (k0 + 1) % 18446744073709551616 ∨ ¬ (k0 + 1) % 18446744073709551616 ≤ (x.base + x.recs.length) % 18446744073709551616 ∨ (0 ≤ p ∧ ¬ b < x.base)) : BestP k0 f k size (i + 1) p b := by
  have hf : (cand k0 x && better (look f k size i ++ [x]) (bestF k0 (look f k size i) (look f k size i).length) x) = false := by
    rcases hn with h1 | h2 | ⟨h3, h4⟩
    · have : cand k0 x = false := by unfold cand; rw [show decide (x.base ≤ (k0 + 1) % W) = false from decide_eq_false h1]; rfl
      rw [this]; rfl
    · have : cand k0 x = false := by unfold cand; rw [show decide ((k0 + 1) % W ≤ (x.base + x.recs.length) % W) = false from decide_eq_false h2, Bool.and_false]
      rw [this]; rfl
    · rw [Bool.and_eq_false_iff]; right
      unfold better
      rcases h with ⟨e1, e2⟩ | ⟨q, y, e1, e2, e3, e4, e5⟩
      · omega
      · have hq := (List.getElem?_eq_some_iff.1 e2).1
        rw [e1, Int.toNat_natCast, List.getElem?_append_left hq, e2]
        have : ¬ y.base < x.base := by omega
        have h0 : ¬ ((q : Int) < 0) := by omega
        simp [this]
  rcases h with ⟨e1, e2⟩ | ⟨q, y, e1, e2, e3, e4, e5⟩
  · left; rw [bestP_last hx, hf]; exact ⟨e1, e2⟩
  · right
    refine ⟨q, y, by rw [bestP_last hx, hf]; exact e1, ?_, e3, e4, e5⟩
    rw [look_yes hx, List.getElem?_append_left (List.getElem?_eq_some_iff.1 e2).1]; exact e2
theorem bestP_nx {k0 n b : Nat} {p : Int} (h : BestP k0 f k size n p b) : Nx f k size n (bestF k0 (look f k size n) (look f k size n).length) p := by
  rcases h with ⟨e1, e2⟩ | ⟨q, y, e1, e2, e3, e4, e5⟩
  · exact .inl ⟨e1, e2⟩
  · exact .inr ⟨q, y, e1, e2, e3, e5⟩
end
/-- the lowest one that isn't in use -/
theorem nextFree_from (lv : List Seg) : ∀ (m i : Nat), nextFree lv m i = i + m ∨ (nextFree lv m i < i + m ∧ has lv ((nextFree lv m i : Nat) : Int) = false)
  | 0, i => .inl rfl
  | m + 1, i => by
    unfold nextFree
    cases h : has lv (i : Int) with
    | true =>
      rw [if_pos rfl]
      rcases nextFree_from lv m (i + 1) with e | ⟨e1, e2⟩
      · left; rw [e]; omega
      · right; exact ⟨by omega, e2⟩
    | false => right; rw [if_neg (by decide)]; exact ⟨by omega, h⟩
theorem nextFree_step {lv : List Seg} {m i : Nat} : nextFree lv (m + 1) i = if has lv (i : Int) then nextFree lv m (i + 1) else i := rfl
/-- the document's number for it: minus one, if there is none -/
def fresh (lv : List Seg) (n q : Nat) : Int := if nextFree lv (n - q) q = n then -1 else ((nextFree lv (n - q) q : Nat) : Int)
theorem fresh_end (lv : List Seg) (n : Nat) : fresh lv n n = -1 := by unfold fresh; rw [Nat.sub_self]; exact if_pos rfl
theorem fresh_used {lv : List Seg} {n q : Nat} (hq : q < n) (h : has lv (q : Int) = true) : fresh lv n q = fresh lv n (q + 1) := by
  unfold fresh
  rw [show n - q = (n - (q + 1)) + 1 by omega, nextFree_step, if_pos h]
theorem fresh_free {lv : List Seg} {n q : Nat} (hq : q < n) (h : has lv (q : Int) = false) : fresh lv n q = (q : Int) := by
  unfold fresh
  have e : nextFree lv (n - q) q = q := by rw [show n - q = (n - (q + 1)) + 1 by omega, nextFree_step, h]; rfl
  rw [e, if_neg (by omega)]
theorem fresh_zero (lv : List Seg) (n : Nat) : (fresh lv n 0 = -1 ∧ nextFree lv n 0 = n) ∨ (fresh lv n 0 = ((nextFree lv n 0 : Nat) : Int) ∧ nextFree lv n 0 < n ∧ has lv ((nextFree lv n 0 : Nat) : Int) = false) := by
  unfold fresh
  rw [Nat.sub_zero]
  rcases nextFree_from lv n 0 with e | ⟨e1, e2⟩
  · left; rw [e, Nat.zero_add]; exact ⟨if_pos rfl, rfl⟩
  · right; rw [if_neg (by omega)]; exact ⟨rfl, by omega, e2⟩
theorem look_place (f : Secs) (k : Int) (size : Nat) : ∀ (n : Nat) (x : Fd), x ∈ look f k size n → x.place < n
  | 0, x, h => by simp [look] at h
  | n + 1, x, h => by
    unfold look at h
    rcases List.mem_append.1 h with h | h
    · have := look_place f k size n x h; omega
    · cases hx : fd f k size n with
      | none => rw [hx] at h; simp at h
      | some y => rw [hx] at h; simp at h; subst h; have := fd_place hx; omega
theorem fd_ok {f : Secs} (h : ∀ k s, f k = some s → s.length ≤ 512) {k : Int} {size i : Nat} (hs : size ≤ 64) {x : Fd} (hx : fd f k size i = some x) : x.base < W ∧ x.recs.length ≤ 32768 :=
  look_ok h hs (i + 1) x (by rw [look_yes hx]; simp)
/-! ### 2. Giving back -/
def keeps (seq : Nat) (s : Seg) : Bool := decide (0 < s.count) && decide (seq < upTo s.base s.count)
def freeStep (k : Int) (size seq : Nat) (d : Disk) (s : Seg) : Disk := if keeps seq s then d else freeAll d (k + ((s.place * size : Nat) : Int)) size
def freeTr (k : Int) (size seq : Nat) (d : Disk) (ss : List Seg) : Disk := ss.foldl (freeStep k size seq) d
theorem freeTr_step {k : Int} {size seq i : Nat} {d : Disk} {ss : List Seg} {s : Seg} (h : ss[i]? = some s) : freeTr k size seq d (ss.take (i + 1)) = freeStep k size seq (freeTr k size seq d (ss.take i)) s := by
  unfold freeTr; rw [List.take_add_one, h]; simp
theorem keep_yes {seq i : Nat} {ss : List Seg} {s : Seg} (h : ss[i]? = some s) (hk : keeps seq s = true) : (ss.take (i + 1)).filter (keeps seq) = (ss.take i).filter (keeps seq) ++ [s] := by
  rw [List.take_add_one, h, List.filter_append]; simp [hk]
theorem keep_no {seq i : Nat} {ss : List Seg} {s : Seg} (h : ss[i]? = some s) (hk : keeps seq s = false) : (ss.take (i + 1)).filter (keeps seq) = (ss.take i).filter (keeps seq) := by
  rw [List.take_add_one, h, List.filter_append]; simp [hk]
theorem freeTr_pend (k : Int) (size seq : Nat) (d : Disk) (ss : List Seg) : ∀ i, (freeTr k size seq d (ss.take i)).pend.length ≤ d.pend.length + i * size
  | 0 => by simp [freeTr]
  | i + 1 => by
    have ih := freeTr_pend k size seq d ss i
    have h2 : (i + 1) * size = i * size + size := Nat.succ_mul _ _
    cases h : ss[i]? with
    | none => rw [List.take_add_one, h]; simp at ih ⊢; omega
    | some s =>
      rw [freeTr_step h]
      unfold freeStep
      split
      · omega
      · have := freeAll_pend (freeTr k size seq d (ss.take i)) (k + ((s.place * size : Nat) : Int)) size
        omega
def Lg.keepStream (l : Lg) (seq : Nat) : Dk.Bytes := match l.live.getLast? with
  | some s => if keeps seq s then l.stream else []
  | none => l.stream
def Lg.truncate (l : Lg) (seq : Nat) : Lg × Int :=
  if l.last < seq then (l, 83) else ({ l with live := l.live.filter (keeps seq), stream := l.keepStream seq, synced := l.last, d := (freeTr l.at_ l.size seq l.d l.live).sync }, 0)
/-- the current segment, as the code holds it -/
def CurOk (l : Lg) (tp : Int) (t : Seg) : Prop := (l.stream.length = 0 ∧ tp = -1) ∨ (l.stream.length ≠ 0 ∧ l.live.getLast? = some t ∧ tp = (t.place : Int))
def StOk (l : Lg) (seq q : Nat) (t : Seg) (st : Dk.Bytes) : Prop := (st = l.stream ∧ (l.stream.length ≠ 0 → ∀ i s, i < q → l.live[i]? = some s → keeps seq s = false → s ≠ t)) ∨ (st = [] ∧ l.stream.length ≠ 0 ∧ keeps seq t = false)
section
variable {l : Lg} {seq q : Nat} {t s : Seg} {tp : Int} {st : Dk.Bytes}
theorem stOk_zero : StOk l seq 0 t l.stream := .inl ⟨rfl, fun _ i s h => by omega⟩
theorem stOk_keep (h : StOk l seq q t st) (hs : l.live[q]? = some s) (hk : keeps seq s = true) : StOk l seq (q + 1) t st := by
  rcases h with ⟨h1, h2⟩ | h
  · refine .inl ⟨h1, fun hn i u hi hu hku => ?_⟩
    rcases Nat.lt_or_ge i q with c | c
    · exact h2 hn i u c hu hku
    · obtain rfl : i = q := by omega
      rw [hs] at hu; cases hu; rw [hk] at hku; cases hku
  · exact .inr h
theorem stOk_diff (h : StOk l seq q t st) (hc : CurOk l tp t) (hs : l.live[q]? = some s) (hne : ¬ ((s.place : Int) = tp ∧ s.base = t.base ∧ s.count = t.count)) : StOk l seq (q + 1) t st := by
  rcases h with ⟨h1, h2⟩ | h
  · refine .inl ⟨h1, fun hn i u hi hu hku => ?_⟩
    rcases Nat.lt_or_ge i q with c | c
    · exact h2 hn i u c hu hku
    · obtain rfl : i = q := by omega
      rw [hs] at hu; cases hu
      rcases hc with ⟨c1, _⟩ | ⟨_, _, c3⟩
      · exact absurd c1 hn
      · rintro rfl; exact hne ⟨c3.symm, rfl, rfl⟩
  · exact .inr h
theorem stOk_same (hc : CurOk l tp t) (hs : l.live[q]? = some s) (hk : keeps seq s = false) (he : (s.place : Int) = tp ∧ s.base = t.base ∧ s.count = t.count) : StOk l seq (q + 1) t [] := by
  rcases hc with ⟨_, c2⟩ | ⟨c1, _, c3⟩
  · omega
  · obtain ⟨a, b, c⟩ := s
    obtain ⟨a', b', c'⟩ := t
    obtain ⟨e1, e2, e3⟩ := he
    dsimp only at e1 e2 e3 c3
    obtain rfl : a = a' := by omega
    subst e2 e3
    exact .inr ⟨rfl, c1, hk⟩
theorem stOk_end (h : StOk l seq l.live.length t st) (hc : CurOk l tp t) : st = l.keepStream seq := by
  unfold Lg.keepStream
  rcases hc with ⟨c1, _⟩ | ⟨c1, c2, _⟩
  · have e : l.stream = [] := List.eq_nil_of_length_eq_zero c1
    rcases h with ⟨h1, _⟩ | ⟨_, h2, _⟩
    · rw [h1, e]; cases l.live.getLast? with
      | none => rfl
      | some u => simp
    · exact absurd c1 h2
  · rw [c2]
    simp only
    rcases h with ⟨h1, h2⟩ | ⟨h1, _, h3⟩
    · cases hk : keeps seq t with
      | true => rw [h1]; rfl
      | false =>
        rw [List.getLast?_eq_getElem?] at c2
        exact absurd rfl (h2 c1 _ t (by have := (List.getElem?_eq_some_iff.1 c2).1; exact this) c2 hk)
    · rw [h1, h3]; rfl
end
theorem putF_few (k : Int) (b : Dk.Bytes) : ∀ (m j : Nat) (d : Disk), (putF k b m j d).1.pend.length ≤ d.pend.length + ((b.length + 511) / 512 - j)
  | 0, j, d => by show d.pend.length ≤ _; omega
  | m + 1, j, d => by
    have h1 := write_pend d (k + (j : Int)) (sect b j)
    unfold putF
    split
    · split
      · have h2 := putF_few k b m (j + 1) (d.write (k + (j : Int)) (sect b j)); omega
      · show (d.write _ _).pend.length ≤ _; omega
    · show d.pend.length ≤ _; omega
/-! ### 3. The document's disk beside the log's -/
structure RD (r : Rf.RDisk) (d : Disk) (V Q : Nat) : Prop where mk ::
  rep : Rf.RRep r d
  short : Rf.Short r
  view : r.view.length ≤ V
  all : r.ground.length + r.L.length ≤ Q
theorem RD.mono {r : Rf.RDisk} {d : Disk} {V Q V' Q' : Nat} (h : RD r d V Q) (h1 : V ≤ V') (h2 : Q ≤ Q') : RD r d V' Q' := ⟨h.rep, h.short, Nat.le_trans h.view h1, Nat.le_trans h.all h2⟩
theorem RD.free {r : Rf.RDisk} {d : Disk} {V Q : Nat} (h : RD r d V Q) (k : Int) : RD (r.free k) (d.free k) V (Q + 1) := by
  refine ⟨Rf.rrep_free h.rep k, Rf.short_free h.short k, Nat.le_trans (Rf.free_view_len r k) h.view, ?_⟩
  have := h.all
  unfold Rf.RDisk.free
  split
  · show r.ground.length + (r.L ++ [_]).length ≤ _
    simp; omega
  · omega
theorem RD.write {r : Rf.RDisk} {d : Disk} {V Q : Nat} (h : RD r d V Q) (k : Int) {b : Dk.Bytes} (hb : b.length ≤ 524288) : RD (r.write k b) (d.write k b) (V + 1) (Q + 1) := by
  have h1 := h.view
  have h2 := h.all
  refine ⟨Rf.rrep_write h.rep k b, Rf.short_write h.short k hb, ?_, ?_⟩
  · unfold Rf.RDisk.write
    split
    · have := Rf.rdone_len r.view ⟨k, false, b⟩ b.length
      show (Rf.rdone r.view ⟨k, false, b⟩ b.length).length ≤ _; omega
    · omega
  · unfold Rf.RDisk.write
    split
    · show r.ground.length + (r.L ++ [_]).length ≤ _
      simp; omega
    · omega
theorem RD.sync {r : Rf.RDisk} {d : Disk} {V Q : Nat} (h : RD r d V Q) : RD r.sync d.sync V V := ⟨Rf.rrep_sync h.rep, Rf.short_sync h.short, h.view, by have := h.view; show r.view.length + 0 ≤ V; omega⟩
theorem RD.crash {r : Rf.RDisk} {d : Disk} {V Q : Nat} (h : RD r d V Q) (l : List (Int × Int)) : RD (r.crash l) (d.crash l) Q Q := by
  have h1 := Rf.rcrash_len l r.L 0 r.ground
  have h2 := h.all
  exact ⟨Rf.rrep_crash h.rep l, Rf.short_crash h.short l, by show (Rf.rcrashFrom l 0 r.L r.ground).length ≤ Q; omega, by show (Rf.rcrashFrom l 0 r.L r.ground).length + 0 ≤ Q; omega⟩
theorem RD.limit {r : Rf.RDisk} {d : Disk} {V Q : Nat} (h : RD r d V Q) (n : Int) : RD { r with limit := n } (d.setLimit n) V Q := ⟨Rf.rrep_limit h.rep n, ⟨h.short.view, h.short.ground, h.short.pend⟩, h.view, h.all⟩
theorem RD.new (n : Int) : RD (Rf.RDisk.new n) (Disk.new n) 0 0 := ⟨Rf.rrep_new n, Rf.short_new n, Nat.le_refl _, Nat.le_refl _⟩
theorem RD.find {r : Rf.RDisk} {d : Disk} {V Q : Nat} (h : RD r d V Q) (k : Int) : Rf.rfind r.view k = d.view k := Rf.rep_find h.rep.view k
theorem RD.werr {r : Rf.RDisk} {d : Disk} {V Q : Nat} (h : RD r d V Q) (k : Int) (b : Dk.Bytes) : r.werr k b = d.werr k b := Rf.rrep_werr h.rep k b
theorem RD.old {r : Rf.RDisk} {d : Disk} {V Q : Nat} (h : RD r d V Q) (k : Int) : ((Rf.rfind r.view k).getD []).length ≤ 1099511627776 := Rf.rfind_short h.short.view
end Go.Wl
