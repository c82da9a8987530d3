/-
  THE LOG'S PLAIN LAW (layer 8), second part: an invariant of appending, what opening finds. Conditions: none.
-/
import Derived.Test.YtlejcepbcfijiaaGreatDoorWalL
set_option linter.unusedVariables false
set_option maxRecDepth 20000
namespace Go.Wl
open Go.Dk Go.Wire
/-! ### 1. Groups of records: one a segment -/
def groups (b : Nat) : List (List Rec) → Prop
  | [] => True
  | G :: gs => G ≠ [] ∧ numbered b G ∧ groups (b + G.length) gs
def founds (b i : Nat) : List (List Rec) → List Fd
  | [] => []
  | G :: gs => ⟨i, b, G⟩ :: founds (b + G.length) (i + 1) gs
def total (gs : List (List Rec)) : Nat := gs.flatten.length
theorem total_cons (G : List Rec) (gs : List (List Rec)) : total (G :: gs) = G.length + total gs := by simp [total]
theorem founds_len : ∀ (gs : List (List Rec)) (b i : Nat), (founds b i gs).length = gs.length
  | [], b, i => rfl
  | G :: gs, b, i => by show (founds _ _ gs).length + 1 = gs.length + 1; rw [founds_len gs]
theorem founds_place : ∀ (gs : List (List Rec)) (b i j : Nat) (f : Fd), (founds b i gs)[j]? = some f → f.place = i + j ∧ b ≤ f.base ∧ f.base + f.recs.length ≤ b + total gs ∧ f.base = b + total (gs.take j) ∧ gs[j]? = some f.recs
  | [], b, i, j, f, h => by simp [founds] at h
  | G :: gs, b, i, 0, f, h => by
    simp [founds] at h; subst h
    exact ⟨rfl, Nat.le_refl _, by rw [total_cons]; simp, by simp [total], rfl⟩
  | G :: gs, b, i, j + 1, f, h => by
    have h' := founds_place gs (b + G.length) (i + 1) j f (by simpa [founds] using h)
    obtain ⟨h1, h2, h3, h4, h5⟩ := h'
    refine ⟨by omega, by omega, by rw [total_cons]; omega, ?_, by simpa using h5⟩
    rw [List.take_succ_cons, total_cons]; omega
theorem groups_num : ∀ (gs : List (List Rec)) (b i j : Nat) (f : Fd), groups b gs → (founds b i gs)[j]? = some f → numbered f.base f.recs ∧ f.recs ≠ []
  | [], b, i, j, f, _, h => by simp [founds] at h
  | G :: gs, b, i, 0, f, hg, h => by simp [founds] at h; subst h; exact ⟨hg.2.1, hg.1⟩
  | G :: gs, b, i, j + 1, f, hg, h => groups_num gs (b + G.length) (i + 1) j f hg.2.2 (by simpa [founds] using h)
theorem groups_flat : ∀ (gs : List (List Rec)) (b : Nat), groups b gs → numbered b gs.flatten
  | [], b, _ => trivial
  | G :: gs, b, h => by
    have h2 := groups_flat gs (b + G.length) h.2.2
    have : ∀ (X Y : List Rec) (b : Nat), numbered b X → numbered (b + X.length) Y → numbered b (X ++ Y) := by
      intro X
      induction X with
      | nil => intro Y b _ h; simpa using h
      | cons x X ih => intro Y b h h'; exact ⟨h.1, h.2.1, ih Y (b + 1) h.2.2 (by rw [List.length_cons] at h'; rw [show b + 1 + X.length = b + (X.length + 1) by omega]; exact h')⟩
    rw [List.flatten_cons]
    exact this G _ b h.2.1 h2
theorem numbered_get : ∀ (X : List Rec) (b j : Nat) (r : Rec), numbered b X → X[j]? = some r → r.seq = b + j
  | [], b, j, r, _, h => by simp at h
  | x :: X, b, 0, r, hn, h => by simp at h; subst h; exact hn.1
  | x :: X, b, j + 1, r, hn, h => by rw [numbered_get X (b + 1) j r hn.2.2 (by simpa using h)]; omega
/-- the records behind a number, of records that are numbered -/
theorem behind_num (k : Nat) : ∀ (X : List Rec) (b : Nat), numbered b X → b ≤ k + 1 → behind k X = X.drop (k + 1 - b)
  | [], b, _, _ => by simp [behind]
  | x :: X, b, h, hb => by
    unfold behind
    rw [List.filter_cons]
    by_cases c : k < x.seq
    · rw [if_pos (by simpa using c)]
      have hk : k + 1 - b = 0 := by have := h.1; omega
      rw [hk, List.drop_zero]
      congr 1
      have : ∀ (Y : List Rec) (b : Nat), numbered b Y → k < b → Y.filter (fun r => decide (k < r.seq)) = Y := by
        intro Y
        induction Y with
        | nil => intro b _ _; rfl
        | cons y Y ih => intro b hn hk; rw [List.filter_cons, if_pos (by have := hn.1; simp; omega), ih (b + 1) hn.2.2 (by omega)]
      exact this X (b + 1) h.2.2 (by have := h.1; omega)
    · rw [if_neg (by simpa using c)]
      have h1 := h.1
      have ih := behind_num k X (b + 1) h.2.2 (by omega)
      unfold behind at ih
      rw [ih, show k + 1 - b = (k + 1 - (b + 1)) + 1 by omega, List.drop_succ_cons]
/-! ### 2. Opening: the choice, the chain -/
theorem bestF_cand (k : Nat) (fs : List Fd) : ∀ n, bestF k fs n = -1 ∨ ∃ j f, bestF k fs n = ((j : Nat) : Int) ∧ fs[j]? = some f ∧ cand k f = true
  | 0 => .inl rfl
  | n + 1 => by
    have ih := bestF_cand k fs n
    unfold bestF
    cases hf : fs[n]? with
    | none => exact ih
    | some f =>
      simp only
      split
      · rename_i h
        rw [Bool.and_eq_true] at h
        exact .inr ⟨n, f, rfl, hf, h.1⟩
      · exact ih
theorem bestF_some (k : Nat) (fs : List Fd) : ∀ n, (∃ j f, j < n ∧ fs[j]? = some f ∧ cand k f = true) → bestF k fs n ≠ -1
  | 0, h => by obtain ⟨j, f, h, _⟩ := h; omega
  | n + 1, ⟨j, f, hj, hf, hc⟩ => by
    unfold bestF
    by_cases e : j = n
    · subst e
      rw [hf]
      simp only
      split
      · omega
      · rename_i h
        intro hb
        apply h
        rw [hc, hb]; simp [better]
    · have ih := bestF_some k fs n ⟨j, f, by omega, hf, hc⟩
      split
      · split
        · omega
        · exact ih
      · exact ih
theorem pos_some {ok : Fd → Bool} : ∀ (fs : List Fd) (i j : Nat) (f : Fd), fs[j]? = some f → ok f = true → (∀ (q : Nat) (g : Fd), fs[q]? = some g → ok g = true → q = j) → pos ok fs i = ((i + j : Nat) : Int)
  | [], i, j, f, h, _, _ => by simp at h
  | x :: fs, i, 0, f, h, hk, _ => by simp at h; subst h; unfold pos; rw [if_pos hk]; rfl
  | x :: fs, i, j + 1, f, h, hk, hu => by
    unfold pos
    have hx : ¬ ok x = true := fun hx => by have := hu 0 x rfl hx; omega
    rw [if_neg hx, pos_some fs (i + 1) j f (by simpa using h) hk (fun q g hq hg => by have := hu (q + 1) g (by simpa using hq) hg; omega)]
    congr 1; omega
theorem pos_never {ok : Fd → Bool} : ∀ (fs : List Fd) (i : Nat), (∀ (q : Nat) (g : Fd), fs[q]? = some g → ok g = false) → pos ok fs i = -1
  | [], i, _ => rfl
  | x :: fs, i, h => by
    unfold pos
    rw [if_neg (by rw [h 0 x rfl]; decide)]
    exact pos_never fs (i + 1) (fun q g hq => h (q + 1) g (by simpa using hq))
theorem upTo_eq {b n : Nat} (h : 0 < b + n) (hw : b + n < W) : upTo b n = b + n - 1 := by
  unfold upTo W at *; omega
section
variable {gs : List (List Rec)} (hg : groups 1 gs) (hW : 1 + total gs < W)
include hg
theorem base_inj {q j : Nat} {f g : Fd} (hf : (founds 1 0 gs)[j]? = some f) (hq : (founds 1 0 gs)[q]? = some g) (h : f.base = g.base) : j = q := by
  have strict : ∀ (gs : List (List Rec)) (b i j q : Nat) (f g : Fd), groups b gs → (founds b i gs)[j]? = some f → (founds b i gs)[q]? = some g → j < q → f.base < g.base := by
    intro gs
    induction gs with
    | nil => intro b i j q f g _ h; simp [founds] at h
    | cons G gs ih =>
      intro b i j q f g hg hf hq hjq
      cases q with
      | zero => omega
      | succ q =>
        cases j with
        | zero =>
          simp [founds] at hf; subst hf
          have h2 := (founds_place gs (b + G.length) (i + 1) q g (by simpa [founds] using hq)).2.1
          have h3 := List.length_pos_iff.2 hg.1
          show b < g.base
          omega
        | succ j => exact ih (b + G.length) (i + 1) j q f g hg.2.2 (by simpa [founds] using hf) (by simpa [founds] using hq) (by omega)
  rcases Nat.lt_trichotomy j q with c | c | c
  · have := strict gs 1 0 j q f g hg hf hq c; omega
  · exact c
  · have := strict gs 1 0 q j g f hg hq hf c; omega
include hW
theorem chain_law (k : Nat) : ∀ (m j : Nat) (lv : List Seg) (la : Nat) (out : List Rec), gs.length ≤ j + m → j ≤ gs.length → (∀ s ∈ lv, s.place < j) → (j = gs.length → la = total gs) →
    Ch.run k (founds 1 0 gs) m ⟨lv, la, out, if j < gs.length then ((j : Nat) : Int) else -1⟩ = ⟨lv ++ ((founds 1 0 gs).drop j).map Fd.seg, total gs, out ++ behind k (gs.drop j).flatten, -1⟩ := by
  intro m
  induction m with
  | zero =>
    intro j lv la out hj hjl hlv hla
    have hje : j = gs.length := by omega
    have h1 : (founds 1 0 gs).drop gs.length = [] := List.drop_eq_nil_of_le (by rw [founds_len]; exact Nat.le_refl _)
    rw [if_neg (by omega), hla hje, hje, h1, List.drop_length]
    show (⟨lv, total gs, out, -1⟩ : Ch) = _
    simp [behind]
  | succ m ih =>
    intro j lv la out hj hjl hlv hla
    by_cases hlt : j < gs.length
    · have hfl : j < (founds 1 0 gs).length := by rw [founds_len]; exact hlt
      obtain ⟨f, hf⟩ : ∃ f, (founds 1 0 gs)[j]? = some f := ⟨_, List.getElem?_eq_getElem hfl⟩
      obtain ⟨p1, p2, p3, p4, p5⟩ := founds_place gs 1 0 j f hf
      obtain ⟨n1, n2⟩ := groups_num gs 1 0 j f hg hf
      have hnp := List.length_pos_iff.2 n2
      rw [if_pos hlt, Ch.run_go hf, upTo_eq (by omega) (by omega)]
      have hnext : total (gs.take (j + 1)) = f.base + f.recs.length - 1 := by
        have h1 : gs.take (j + 1) = gs.take j ++ [f.recs] := by rw [List.take_add_one, p5]; rfl
        have h2 : total (gs.take j ++ [f.recs]) = total (gs.take j) + f.recs.length := by simp [total]
        rw [h1, h2]; omega
      have hpos : pos (okNext (lv ++ [f.seg]) (f.base + f.recs.length - 1)) (founds 1 0 gs) 0 = if j + 1 < gs.length then (((j + 1 : Nat)) : Int) else -1 := by
        by_cases c : j + 1 < gs.length
        · rw [if_pos c]
          have hgl : j + 1 < (founds 1 0 gs).length := by rw [founds_len]; exact c
          obtain ⟨g, hgf⟩ : ∃ g, (founds 1 0 gs)[j + 1]? = some g := ⟨_, List.getElem?_eq_getElem hgl⟩
          obtain ⟨g1, g2, g3, g4, g5⟩ := founds_place gs 1 0 (j + 1) g hgf
          have hgb : g.base = f.base + f.recs.length := by rw [g4, hnext]; omega
          have hfree : has (lv ++ [f.seg]) (g.place : Int) = false := by
            unfold has
            rw [List.any_eq_false]
            intro s hs
            rcases List.mem_append.1 hs with h | h
            · have := hlv s h; rw [decide_eq_true_eq]; omega
            · obtain rfl := List.mem_singleton.1 h
              show ¬ decide ((f.place : Int) = (g.place : Int)) = true
              rw [decide_eq_true_eq]; omega
          have hok : okNext (lv ++ [f.seg]) (f.base + f.recs.length - 1) g = true := by
            rw [okNext_is (b := false) (by rw [hgb]; have : W = 18446744073709551616 := rfl; omega) hfree]; rfl
          rw [pos_some (founds 1 0 gs) 0 (j + 1) g hgf hok (fun q x hq hx => ?_)]
          · congr 1; omega
          · unfold okNext at hx
            rw [Bool.and_eq_true] at hx
            have hx1 : x.base = (f.base + f.recs.length - 1 + 1) % W := by simpa using hx.1
            rw [Nat.mod_eq_of_lt (by omega)] at hx1
            exact base_inj hg hq hgf (by omega)
        · rw [if_neg c]
          refine pos_never _ _ fun q g hq => ?_
          refine okNext_no ?_
          obtain ⟨g1, g2, g3, g4, g5⟩ := founds_place gs 1 0 q g hq
          obtain ⟨m1, m2⟩ := groups_num gs 1 0 q g hg hq
          have := List.length_pos_iff.2 m2
          have hall : gs.take (j + 1) = gs := List.take_of_length_le (by omega)
          rw [hall] at hnext
          have : W = 18446744073709551616 := rfl
          omega
      rw [hpos, ih (j + 1) (lv ++ [f.seg]) (f.base + f.recs.length - 1) (out ++ behind k f.recs) (by omega) (by omega) (fun s hs => by
        rcases List.mem_append.1 hs with h | h
        · have := hlv s h; omega
        · obtain rfl := List.mem_singleton.1 h
          show f.place < j + 1; omega) (fun e => by rw [List.take_of_length_le (by omega)] at hnext; exact hnext.symm)]
      have hd : (founds 1 0 gs).drop j = f :: (founds 1 0 gs).drop (j + 1) := by
        rw [List.drop_eq_getElem_cons hfl]
        rw [List.getElem?_eq_getElem hfl] at hf
        rw [Option.some.inj hf]
      have hd2 : gs.drop j = f.recs :: gs.drop (j + 1) := by
        rw [List.drop_eq_getElem_cons hlt]
        rw [List.getElem?_eq_getElem hlt] at p5
        rw [Option.some.inj p5]
      rw [hd, hd2, List.map_cons, List.flatten_cons]
      have hb : behind k (f.recs ++ (gs.drop (j + 1)).flatten) = behind k f.recs ++ behind k (gs.drop (j + 1)).flatten := by simp [behind]
      rw [hb]
      simp
    · have hje : j = gs.length := by omega
      have h1 : (founds 1 0 gs).drop gs.length = [] := List.drop_eq_nil_of_le (by rw [founds_len]; exact Nat.le_refl _)
      rw [if_neg hlt, Ch.run_stop (by show (-1 : Int) < 0; omega), hla hje, hje, h1, List.drop_length]
      simp [behind]
end
/-! ### 3. What is looked up -/
theorem founds_snoc : ∀ (gs : List (List Rec)) (b i : Nat) (G : List Rec), founds b i (gs ++ [G]) = founds b i gs ++ [⟨i + gs.length, b + total gs, G⟩]
  | [], b, i, G => by simp [founds, total]
  | H :: gs, b, i, G => by
    show (⟨i, b, H⟩ : Fd) :: founds (b + H.length) (i + 1) (gs ++ [G]) = _
    rw [founds_snoc gs, total_cons, List.length_cons, show i + 1 + gs.length = i + (gs.length + 1) by omega, Nat.add_assoc b]; rfl
theorem total_snoc (gs : List (List Rec)) (G : List Rec) : total (gs ++ [G]) = total gs + G.length := by simp [total]
theorem groups_snoc : ∀ (gs : List (List Rec)) (b : Nat) (G : List Rec), groups b gs → G ≠ [] → numbered (b + total gs) G → groups b (gs ++ [G])
  | [], b, G, _, h1, h2 => ⟨h1, by simpa [total] using h2, trivial⟩
  | H :: gs, b, G, h, h1, h2 => ⟨h.1, h.2.1, groups_snoc gs _ G h.2.2 h1 (by rw [total_cons] at h2; rwa [Nat.add_assoc])⟩
theorem groups_split : ∀ (gs : List (List Rec)) (b : Nat) (G : List Rec), groups b (gs ++ [G]) → groups b gs ∧ G ≠ [] ∧ numbered (b + total gs) G
  | [], b, G, h => ⟨trivial, h.1, by simpa [total] using h.2.1⟩
  | H :: gs, b, G, h => by
    obtain ⟨h1, h2, h3⟩ := groups_split gs _ G h.2.2
    exact ⟨⟨h.1, h.2.1, h1⟩, h2, by rw [total_cons]; rwa [← Nat.add_assoc]⟩
/-- the log's disk: segments one behind the other from the first sector on -/
structure Laid (f : Secs) (size n : Nat) (gs : List (List Rec)) : Prop where mk ::
  count : gs.length ≤ n
  holds : ∀ (i : Nat) (x : Fd), (founds 1 0 gs)[i]? = some x → Holds f ((i * size : Nat) : Int) size (bytesOf x.base x.recs) ∧ (bytesOf x.base x.recs).length ≤ size * 512
  none : ∀ i : Int, ((gs.length * size : Nat) : Int) ≤ i → f i = Option.none
theorem get_nil : Wire.get [] = none := Wire.get_short (by decide)
theorem fd_law {f : Secs} {size n : Nat} {gs : List (List Rec)} (h : Laid f size n gs) (hg : groups 1 gs) (hW : 1 + total gs < W) (i : Nat) : fd f 0 size i = (founds 1 0 gs)[i]? := by
  unfold fd
  by_cases hi : i < gs.length
  · have hfl : i < (founds 1 0 gs).length := by rw [founds_len]; exact hi
    obtain ⟨x, hx⟩ : ∃ x, (founds 1 0 gs)[i]? = some x := ⟨_, List.getElem?_eq_getElem hfl⟩
    obtain ⟨p1, p2, p3, p4, p5⟩ := founds_place gs 1 0 i x hx
    obtain ⟨n1, n2⟩ := groups_num gs 1 0 i x hg hx
    obtain ⟨h1, h2⟩ := h.holds i x hx
    rw [Int.zero_add, segBytes_of h1 h2, fdOf_bytes n1 (by omega), hx]
    obtain ⟨xp, xb, xr⟩ := x
    simp at p1; subst p1; rfl
  · rw [List.getElem?_eq_none (by rw [founds_len]; omega), Int.zero_add, segBytes_none (h.none _ (by have := Nat.mul_le_mul_right size (Nat.le_of_not_lt hi); omega))]
    exact fdOf_no1 get_nil
theorem look_law {f : Secs} {size n : Nat} {gs : List (List Rec)} (h : Laid f size n gs) (hg : groups 1 gs) (hW : 1 + total gs < W) : look f 0 size n = founds 1 0 gs := by
  have key : ∀ m, look f 0 size m = (founds 1 0 gs).take m := by
    intro m
    induction m with
    | zero => simp [look]
    | succ m ih =>
      unfold look
      rw [ih, fd_law h hg hW, List.take_add_one]
  rw [key, List.take_of_length_le (by rw [founds_len]; exact h.count)]
/-- opened from a number on that it has: all records behind that -/
theorem found_law {d : Disk} {size n : Nat} {gs : List (List Rec)} (h : Laid d.view size n gs) (hg : groups 1 gs) (hW : 1 + total gs < W) {k : Nat} (hk : k ≤ total gs) : (found d 0 size n k).out = gs.flatten.drop k ∧ max (found d 0 size n k).last k = total gs := by
  unfold found
  rw [look_law h hg hW, founds_len]
  have hnum := groups_flat gs 1 hg
  have hbh := behind_num k gs.flatten 1 hnum (by omega)
  rw [Nat.add_sub_cancel] at hbh
  cases gs with
  | nil =>
    have hk0 : k = 0 := by simp [total] at hk; exact hk
    subst hk0
    exact ⟨rfl, rfl⟩
  | cons G gs =>
    have hne : bestF k (founds 1 0 (G :: gs)) (G :: gs).length ≠ -1 := by
      refine bestF_some k _ _ ?_
      by_cases hz : k + 1 ≤ 1 + G.length
      · refine ⟨0, ⟨0, 1, G⟩, by simp, rfl, ?_⟩
        have : total (G :: gs) = G.length + total gs := total_cons G gs
        unfold cand
        rw [Bool.and_eq_true, decide_eq_true_eq, decide_eq_true_eq]
        show 1 ≤ (k + 1) % W ∧ (k + 1) % W ≤ (1 + G.length) % W
        rw [Nat.mod_eq_of_lt (by omega), Nat.mod_eq_of_lt (by omega)]
        omega
      · -- some segment ends at or behind it
        have ex : ∀ (hs : List (List Rec)) (b i : Nat), groups b hs → b ≤ k + 1 → k + 1 ≤ b + total hs → hs ≠ [] → ∃ j f, j < hs.length ∧ (founds b i hs)[j]? = some f ∧ f.base ≤ k + 1 ∧ k + 1 ≤ f.base + f.recs.length := by
          intro hs
          induction hs with
          | nil => intro b i _ _ _ h; exact absurd rfl h
          | cons H hs ih =>
            intro b i hgr h1 h2 _
            rw [total_cons] at h2
            by_cases c : k + 1 ≤ b + H.length
            · exact ⟨0, ⟨i, b, H⟩, by simp, rfl, h1, c⟩
            · have hne : hs ≠ [] := by rintro rfl; simp [total] at h2; omega
              obtain ⟨j, f, e1, e2, e3, e4⟩ := ih (b + H.length) (i + 1) hgr.2.2 (by omega) (by omega) hne
              exact ⟨j + 1, f, by simp; omega, by simpa [founds] using e2, e3, e4⟩
        obtain ⟨j, f, e1, e2, e3, e4⟩ := ex (G :: gs) 1 0 hg (by omega) (by omega) (by simp)
        obtain ⟨p1, p2, p3, p4, p5⟩ := founds_place (G :: gs) 1 0 j f e2
        refine ⟨j, f, e1, e2, ?_⟩
        unfold cand
        rw [Bool.and_eq_true, decide_eq_true_eq, decide_eq_true_eq, Nat.mod_eq_of_lt (by omega), Nat.mod_eq_of_lt (by omega)]
        exact ⟨e3, e4⟩
    rcases bestF_cand k (founds 1 0 (G :: gs)) (G :: gs).length with hb | ⟨j, f, hb, hf, hc⟩
    · exact absurd hb hne
    · obtain ⟨p1, p2, p3, p4, p5⟩ := founds_place (G :: gs) 1 0 j f hf
      have hjl : j < (G :: gs).length := by have := (List.getElem?_eq_some_iff.1 hf).1; rwa [founds_len] at this
      have hch := chain_law (gs := G :: gs) hg hW k (G :: gs).length j [] k [] (by omega) (by omega) (fun s hs => by cases hs) (fun e => by omega)
      rw [if_pos hjl] at hch
      rw [hb, hch]
      unfold cand at hc
      rw [Bool.and_eq_true, decide_eq_true_eq, decide_eq_true_eq, Nat.mod_eq_of_lt (by omega), Nat.mod_eq_of_lt (by omega)] at hc
      refine ⟨?_, by show max (total (G :: gs)) k = _; omega⟩
      rw [← hbh]
      show [] ++ behind k ((G :: gs).drop j).flatten = behind k (G :: gs).flatten
      rw [List.nil_append]
      have hsplit : (G :: gs).flatten = ((G :: gs).take j).flatten ++ ((G :: gs).drop j).flatten := by rw [← List.flatten_append, List.take_append_drop]
      have hfront : behind k ((G :: gs).take j).flatten = [] := by
        have hl : ((G :: gs).take j).flatten.length = total ((G :: gs).take j) := rfl
        unfold behind
        rw [List.filter_eq_nil_iff]
        intro r hr
        obtain ⟨q, hq⟩ := List.getElem?_of_mem hr
        have hql := (List.getElem?_eq_some_iff.1 hq).1
        have : (G :: gs).flatten[q]? = some r := by rw [hsplit, List.getElem?_append_left hql, hq]
        have := numbered_get _ 1 q r hnum this
        rw [decide_eq_true_eq]; omega
      rw [hsplit]
      unfold behind at hfront ⊢
      rw [List.filter_append, hfront, List.nil_append]
end Go.Wl
