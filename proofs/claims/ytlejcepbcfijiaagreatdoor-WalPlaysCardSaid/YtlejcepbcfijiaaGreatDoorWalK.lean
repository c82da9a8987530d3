/-
  THE LOG'S PLAIN LAW (layer 8), third part: appending keeps the log's disk in order. Conditions: none.
-/
import Derived.Test.YtlejcepbcfijiaaGreatDoorWalI
set_option linter.unusedVariables false
set_option maxRecDepth 20000
namespace Go.Wl
open Go.Dk Go.Wire
theorem laid_put {d : Disk} {size n i j : Nat} {gs gs' : List (List Rec)} {s : Dk.Bytes} {x : Fd} (hl : Laid d.view size n gs) (hr : Roomy d (n * size)) (hi : i + 1 = gs'.length) (hn : gs'.length ≤ n) (hgl : gs.length ≤ gs'.length)
    (hx : (founds 1 0 gs')[i]? = some x) (hs : s = bytesOf x.base x.recs) (hlen : s.length ≤ size * 512)
    (hold : ∀ q, q < i → (founds 1 0 gs')[q]? = (founds 1 0 gs)[q]?)
    (hfront : ∀ q : Nat, q < j → d.view (((i * size : Nat) : Int) + (q : Int)) = some (sect s q) ∧ q * 512 < s.length)
    (hback : ∀ q : Nat, j ≤ q → q < size → s.length ≤ q * 512 → d.view (((i * size : Nat) : Int) + (q : Int)) = none) :
    (putF ((i * size : Nat) : Int) s s.length j d).2 = 0 ∧ Laid (putF ((i * size : Nat) : Int) s s.length j d).1.view size n gs' ∧ Roomy (putF ((i * size : Nat) : Int) s s.length j d).1 (n * size) := by
  have him : i * size + size ≤ n * size := by have := Nat.mul_le_mul_right size (show i + 1 ≤ n by omega); rwa [Nat.succ_mul] at this
  obtain ⟨e1, e2, e3⟩ := putF_law (k := ((i * size : Nat) : Int)) (s := s) (M := n * size) (size := size) (by omega) (by omega) hlen s.length j d hr (by omega)
  refine ⟨e1, ⟨hn, fun q y hy => ?_, fun z hz => ?_⟩, e2⟩
  · have hql : q < gs'.length := by have := (List.getElem?_eq_some_iff.1 hy).1; rwa [founds_len] at this
    by_cases hq : q = i
    · subst hq
      obtain rfl : x = y := Option.some.inj (hx.symm.trans hy)
      refine ⟨fun t ht => ?_, by rw [← hs]; exact hlen⟩
      rw [e3, show (((q * size : Nat) : Int) + (t : Int) - ((q * size : Nat) : Int)).toNat = t by omega, ← hs]
      by_cases c : j ≤ t
      · by_cases c2 : t * 512 < s.length
        · rw [if_pos ⟨by omega, c2⟩, if_pos c2]
        · rw [if_neg (by omega), if_neg c2]; exact hback t c ht (by omega)
      · have := hfront t (by omega)
        rw [if_neg (by omega), this.1, if_pos this.2]
    · have hqi : q < i := by omega
      rw [hold q hqi] at hy
      obtain ⟨h1, h2⟩ := hl.holds q y hy
      refine ⟨fun t ht => ?_, h2⟩
      have hqm : q * size + size ≤ i * size := by have := Nat.mul_le_mul_right size (show q + 1 ≤ i by omega); rwa [Nat.succ_mul] at this
      rw [e3, if_neg (by omega)]
      exact h1 t ht
  · have hmm : gs'.length * size = i * size + size := by rw [← hi, Nat.succ_mul]
    have hgm : gs.length * size ≤ gs'.length * size := Nat.mul_le_mul_right size hgl
    rw [e3, if_neg (by omega)]
    exact hl.none z (by omega)
structure Inv (n size N : Nat) (l : Lg) (gs : List (List Rec)) : Prop where mk ::
  at0 : l.at_ = 0
  en : l.n = n
  es : l.size = size
  groups : groups 1 gs
  last : l.last = total gs
  live : l.live = (founds 1 0 gs).map Fd.seg
  stream0 : gs = [] → l.stream = []
  stream1 : ∀ ini G, gs = ini ++ [G] → l.stream = bytesOf (1 + total ini) G
  laid : Laid l.d.view size n gs
  room : Roomy l.d (n * size)
  pend : l.d.pend.length ≤ 2048 * N
  few : total gs ≤ N
theorem Inv.more {n size N : Nat} {l : Lg} {gs : List (List Rec)} (h : Inv n size N l gs) : Inv n size (N + 1) l gs :=
  ⟨h.at0, h.en, h.es, h.groups, h.last, h.live, h.stream0, h.stream1, h.laid, h.room, by have := h.pend; omega, by have := h.few; omega⟩
theorem has_law (gs : List (List Rec)) (i : Nat) : has ((founds 1 0 gs).map Fd.seg) (i : Int) = decide (i < gs.length) := by
  rw [Bool.eq_iff_iff, decide_eq_true_eq]
  unfold has
  rw [List.any_eq_true]
  constructor
  · rintro ⟨s, hs, he⟩
    obtain ⟨x, hx, rfl⟩ := List.mem_map.1 hs
    obtain ⟨q, hq⟩ := List.getElem?_of_mem hx
    have h1 := (List.getElem?_eq_some_iff.1 hq).1
    rw [founds_len] at h1
    have h2 := (founds_place gs 1 0 q x hq).1
    rw [decide_eq_true_eq] at he
    have he : (x.place : Int) = (i : Int) := he
    omega
  · intro hi
    obtain ⟨x, hx⟩ : ∃ x, (founds 1 0 gs)[i]? = some x := ⟨_, List.getElem?_eq_getElem (by rw [founds_len]; exact hi)⟩
    have h2 := (founds_place gs 1 0 i x hx).1
    refine ⟨x.seg, List.mem_map.2 ⟨x, List.mem_of_getElem? hx, rfl⟩, ?_⟩
    rw [decide_eq_true_eq]
    show (x.place : Int) = (i : Int)
    omega
theorem nextFree_law (gs : List (List Rec)) : ∀ (m i : Nat), i ≤ gs.length → gs.length ≤ i + m → nextFree ((founds 1 0 gs).map Fd.seg) m i = gs.length
  | 0, i, h1, h2 => by show i = _; omega
  | m + 1, i, h1, h2 => by
    unfold nextFree
    rw [has_law]
    by_cases c : i < gs.length
    · rw [if_pos (by simpa using c)]; exact nextFree_law gs m (i + 1) (by omega) (by omega)
    · rw [if_neg (by simpa using c)]; omega
theorem sect_more {s r : Dk.Bytes} {q : Nat} (h : (q + 1) * 512 ≤ s.length) : sect (s ++ r) q = sect s q := by
  rw [sect_drop, sect_drop, List.drop_append_of_le_length (by omega), List.take_append_of_le_length (by rw [List.length_drop]; omega)]
theorem bytesOf_snoc (b : Nat) (G : List Rec) (r : Rec) : bytesOf b (G ++ [r]) = bytesOf b G ++ Wire.put r.seq r.body := by
  unfold bytesOf; rw [items_snoc, List.append_assoc]
theorem bytesOf_pos (b : Nat) (G : List Rec) : 0 < (bytesOf b G).length := by unfold bytesOf; rw [List.length_append]; have := put_pos b title; omega
theorem total_take {gs : List (List Rec)} : gs = [] ∨ ∃ ini G, gs = ini ++ [G] := by
  rcases List.eq_nil_or_concat gs with h | ⟨ini, G, h⟩
  · exact .inl h
  · exact .inr ⟨ini, G, by rw [h, List.concat_eq_append]⟩
theorem Inv.seq {n size N : Nat} {l : Lg} {gs : List (List Rec)} (h : Inv n size N l gs) (hN : N ≤ 40) : l.seq = total gs + 1 := by
  unfold Lg.seq
  rw [h.last, Nat.mod_eq_of_lt (by have := h.few; have : W = 18446744073709551616 := rfl; omega)]
theorem Inv.ok {n size N : Nat} {l : Lg} {gs : List (List Rec)} (h : Inv n size N l gs) (hN : N ≤ 40) (hn : n ≤ 7) (hs : size ≤ 4) : l.Ok ∧ (∀ s ∈ l.live, s.count < 18446744073709551616) ∧ l.live.length ≤ n := by
  have hf := h.few
  have hc := h.laid.count
  have hll : l.live.length = gs.length := by rw [h.live, List.length_map, founds_len]
  have hns : l.n * l.size ≤ 7 * 4 := by rw [h.en, h.es]; exact Nat.mul_le_mul hn hs
  have hmem : ∀ s ∈ l.live, s.place < l.n ∧ s.count < 18446744073709551616 := by
    intro s hs
    rw [h.live] at hs
    obtain ⟨x, hx, rfl⟩ := List.mem_map.1 hs
    obtain ⟨q, hq⟩ := List.getElem?_of_mem hx
    have h1 := (List.getElem?_eq_some_iff.1 hq).1
    rw [founds_len] at h1
    obtain ⟨p1, p2, p3, p4, p5⟩ := founds_place gs 1 0 q x hq
    refine ⟨?_, ?_⟩
    · show x.place < l.n
      rw [h.en]; omega
    · show x.recs.length < _
      omega
  have hst : l.stream.length ≤ l.size * 512 ∧ (l.stream.length ≠ 0 → l.live ≠ []) := by
    rcases total_take (gs := gs) with e | ⟨ini, G, e⟩
    · rw [h.stream0 e]; exact ⟨by simp, by simp⟩
    · rw [h.stream1 ini G e]
      refine ⟨?_, fun _ hnil => ?_⟩
      · have hx : (founds 1 0 gs)[ini.length]? = some ⟨0 + ini.length, 1 + total ini, G⟩ := by rw [e, founds_snoc, List.getElem?_append_right (by rw [founds_len]; exact Nat.le_refl _), founds_len]; simp
        have := (h.laid.holds _ _ hx).2
        rw [h.es]; exact this
      · rw [hnil] at hll; rw [e] at hll; simp at hll
  refine ⟨⟨by rw [h.at0]; omega, by rw [h.at0]; omega, by rw [h.es]; omega, by rw [h.en]; omega, by omega, fun s hs => (hmem s hs).1, hst.1, hst.2, ?_, ?_⟩, fun s hs => (hmem s hs).2, by omega⟩
  · rw [h.last]; have : W = 18446744073709551616 := rfl; omega
  · have := h.pend; omega
theorem put_short (s : Nat) (b : Dk.Bytes) (h : s < 18446744073709551616) (hb : b.length ≤ 1500) : (Wire.put s b).length ≤ b.length + 40 := by
  have := Wire.put_len s b h (by omega); omega
theorem inv_append {n size N : Nat} {l : Lg} {gs : List (List Rec)} {body : Dk.Bytes} (h : Inv n size N l gs) (hN : N < 40) (hn : n ≤ 7) (hs : 1 ≤ size ∧ size ≤ 4) (hb : body.length ≤ 1500) :
    ((l.append body).1 = l ∧ (l.append body).2.2 ≠ 0 ∧ (size * 512 < (Wire.put l.seq title).length + (Wire.put l.seq body).length ∨ gs.length = n)) ∨ ∃ gs', (l.append body).2 = (total gs + 1, 0) ∧ Inv n size (N + 1) (l.append body).1 gs' ∧ gs'.flatten = gs.flatten ++ [⟨total gs + 1, body⟩] ∧ (l.stream.length ≠ 0 → l.stream.length + (Wire.put l.seq body).length ≤ size * 512 → gs'.length = gs.length) := by
  have hseq := h.seq (by omega)
  have hf := h.few
  have hWW : W = 18446744073709551616 := rfl
  have hcount := h.laid.count
  by_cases c1 : l.size * 512 < (Wire.put l.seq title).length + (Wire.put l.seq body).length
  · left; rw [app_long c1]; exact ⟨rfl, by show (81 : Int) ≠ 0; decide, .inl (by rw [← h.es]; exact c1)⟩
  by_cases c2 : l.stream.length = 0 ∨ l.size * 512 < l.stream.length + (Wire.put l.seq body).length
  · have hnf : nextFree l.live l.n 0 = gs.length := by rw [h.live]; exact nextFree_law gs l.n 0 (by omega) (by rw [h.en]; omega)
    by_cases c3 : nextFree l.live l.n 0 = l.n
    · left; rw [app_full c1 c2 c3]; exact ⟨rfl, by show (82 : Int) ≠ 0; decide, .inr (by rw [← hnf, c3, h.en])⟩
    · right
      rw [app_fresh c1 c2 c3, hnf]
      rw [hnf] at c3
      have en := h.en
      have es := h.es
      let G : List Rec := [⟨total gs + 1, body⟩]
      have hx : (founds 1 0 (gs ++ [G]))[gs.length]? = some ⟨0 + gs.length, 1 + total gs, G⟩ := by rw [founds_snoc, List.getElem?_append_right (by rw [founds_len]; exact Nat.le_refl _), founds_len]; simp
      have hstr : Wire.put l.seq title ++ Wire.put l.seq body = bytesOf (1 + total gs) G := by
        rw [hseq, Nat.add_comm (total gs) 1]; unfold bytesOf items; simp [G, Nat.add_comm]
      have hlen : (Wire.put l.seq title ++ Wire.put l.seq body).length ≤ size * 512 := by rw [List.length_append, ← es]; omega
      obtain ⟨q1, q2, q3⟩ := laid_put (i := gs.length) (j := 0) (s := Wire.put l.seq title ++ Wire.put l.seq body) (gs' := gs ++ [G]) h.laid h.room (by simp) (by simp; omega) (by simp) hx hstr hlen (fun q hq => by rw [founds_snoc, List.getElem?_append_left (by rw [founds_len]; exact hq)]) (fun q hq => by omega)
        (fun q _ hq _ => h.laid.none _ (by omega))
      have hput : put (l.at_ + ((gs.length * l.size : Nat) : Int)) (Wire.put l.seq title ++ Wire.put l.seq body) 0 l.d = putF ((gs.length * size : Nat) : Int) (Wire.put l.seq title ++ Wire.put l.seq body) (Wire.put l.seq title ++ Wire.put l.seq body).length 0 l.d := by
        unfold put; rw [h.at0, es, Int.zero_add]
      have hpp := putF_pend ((gs.length * size : Nat) : Int) (Wire.put l.seq title ++ Wire.put l.seq body) (Wire.put l.seq title ++ Wire.put l.seq body).length 0 l.d
      refine ⟨gs ++ [G], ?_⟩
      rw [goOn_ok (s := ⟨gs.length, l.seq, 0⟩) (by show (put (l.at_ + ((gs.length * l.size : Nat) : Int)) _ 0 l.d).2 = 0; rw [hput]; exact q1)]
      refine ⟨by rw [hseq], ?_, by simp [G], fun h1 h2 => by exfalso; rw [← es] at h2; omega⟩
      have hd : (put (l.at_ + (((⟨gs.length, l.seq, 0⟩ : Seg).place * l.size : Nat) : Int)) (Wire.put l.seq title ++ Wire.put l.seq body) 0 l.d) = _ := hput
      rw [hd]
      refine ⟨h.at0, en, es, groups_snoc gs 1 G h.groups (by simp [G]) ⟨by simp; omega, by simp; omega, trivial⟩, ?_, ?_, fun e => by simp at e, fun ini H e => ?_, q2, q3, ?_, ?_⟩
      · show l.seq = _; rw [hseq, total_snoc]; rfl
      · show l.live ++ [⟨gs.length, l.seq, (0 + 1) % W⟩] = _
        rw [founds_snoc, List.map_append, h.live, hseq, Nat.add_comm (total gs) 1]
        simp [Fd.seg, G, hWW]
      · obtain ⟨e1, e2⟩ := List.append_inj' e rfl
        obtain rfl := List.cons.inj e2 |>.1
        subst e1
        exact hstr
      · show (putF _ _ _ 0 l.d).1.pend.length ≤ _
        have := h.pend
        have : size * 512 ≤ 2048 := by omega
        omega
      · rw [total_snoc]; show total gs + 1 ≤ _; omega
  · right
    have hne : gs ≠ [] := fun e => c2 (.inl (by rw [h.stream0 e]; rfl))
    obtain ⟨ini, G, rfl⟩ := (total_take (gs := gs)).resolve_left hne
    have hstm := h.stream1 ini G rfl
    have en := h.en
    have es := h.es
    obtain ⟨g1, g2, g3⟩ := groups_split ini 1 G h.groups
    have htot := total_snoc ini G
    have hlive : l.live = (founds 1 0 ini).map Fd.seg ++ [⟨ini.length, 1 + total ini, G.length⟩] := by rw [h.live, founds_snoc, List.map_append]; simp [Fd.seg]
    have hlen0 : (ini ++ [G]).length = ini.length + 1 := by simp
    let r : Rec := ⟨total (ini ++ [G]) + 1, body⟩
    let G' : List Rec := G ++ [r]
    have hx : (founds 1 0 (ini ++ [G']))[ini.length]? = some ⟨0 + ini.length, 1 + total ini, G'⟩ := by rw [founds_snoc, List.getElem?_append_right (by rw [founds_len]; exact Nat.le_refl _), founds_len]; simp
    have hx0 : (founds 1 0 (ini ++ [G]))[ini.length]? = some ⟨0 + ini.length, 1 + total ini, G⟩ := by rw [founds_snoc, List.getElem?_append_right (by rw [founds_len]; exact Nat.le_refl _), founds_len]; simp
    obtain ⟨ho, hol⟩ := h.laid.holds _ _ hx0
    have ho : Holds l.d.view ((ini.length * size : Nat) : Int) size (bytesOf (1 + total ini) G) := ho
    rw [← hstm] at ho
    have hstr : l.stream ++ Wire.put l.seq body = bytesOf (1 + total ini) G' := by rw [hstm, hseq]; exact (bytesOf_snoc _ G r).symm
    have hlen : (l.stream ++ Wire.put l.seq body).length ≤ size * 512 := by rw [List.length_append, ← es]; omega
    have hjs : l.stream.length / 512 * 512 ≤ l.stream.length := Nat.div_mul_le_self _ _
    obtain ⟨q1, q2, q3⟩ := laid_put (i := ini.length) (j := l.stream.length / 512) (s := l.stream ++ Wire.put l.seq body) (gs' := ini ++ [G']) h.laid h.room (by simp) (by simp; omega) (by simp) hx hstr hlen
      (fun q hq => by rw [founds_snoc, founds_snoc, List.getElem?_append_left (by rw [founds_len]; exact hq), List.getElem?_append_left (by rw [founds_len]; exact hq)])
      (fun q hq => by
        have hq5 : (q + 1) * 512 ≤ l.stream.length := by omega
        have hqs : q < size := by rw [← hstm] at hol; have : l.stream.length ≤ size * 512 := by omega
                                  omega
        rw [ho q hqs, if_pos (by omega), sect_more hq5]
        exact ⟨rfl, by rw [List.length_append]; omega⟩)
      (fun q hq hqs hle => by rw [ho q hqs, if_neg (by rw [List.length_append] at hle; omega)])
    have hput : put (l.at_ + ((ini.length * l.size : Nat) : Int)) (l.stream ++ Wire.put l.seq body) l.stream.length l.d = putF ((ini.length * size : Nat) : Int) (l.stream ++ Wire.put l.seq body) (l.stream ++ Wire.put l.seq body).length (l.stream.length / 512) l.d := by
      unfold put; rw [h.at0, es, Int.zero_add]
    have hpp := putF_pend ((ini.length * size : Nat) : Int) (l.stream ++ Wire.put l.seq body) (l.stream ++ Wire.put l.seq body).length (l.stream.length / 512) l.d
    refine ⟨ini ++ [G'], ?_⟩
    rw [app_cur c1 (fun e => c2 (.inl e)) (fun e => c2 (.inr e)) hlive, goOn_ok (s := ⟨ini.length, 1 + total ini, G.length⟩) (by show (put (l.at_ + ((ini.length * l.size : Nat) : Int)) _ _ l.d).2 = 0; rw [hput]; exact q1)]
    refine ⟨by rw [hseq], ?_, by simp [G', r], fun _ _ => by simp⟩
    have hd : (put (l.at_ + (((⟨ini.length, 1 + total ini, G.length⟩ : Seg).place * l.size : Nat) : Int)) (l.stream ++ Wire.put l.seq body) l.stream.length l.d) = _ := hput
    rw [hd]
    have htot' : total (ini ++ [G']) = total (ini ++ [G]) + 1 := by rw [total_snoc, total_snoc]; simp [G']; omega
    refine ⟨h.at0, en, es, groups_snoc ini 1 G' g1 (by simp [G']) (numbered_snoc G _ r g3 (by show total (ini ++ [G]) + 1 = _; omega) (by show body.length ≤ _; omega)), ?_, ?_, fun e => by simp at e, fun ini' H e => ?_, q2, q3, ?_, ?_⟩
    · show l.seq = _; rw [hseq, htot']
    · show (founds 1 0 ini).map Fd.seg ++ [⟨ini.length, 1 + total ini, (G.length + 1) % W⟩] = _
      rw [founds_snoc, List.map_append, Nat.mod_eq_of_lt (by omega)]
      simp [Fd.seg, G']
    · obtain ⟨e1, e2⟩ := List.append_inj' e rfl
      obtain rfl := List.cons.inj e2 |>.1
      subst e1
      exact hstr
    · show (putF _ _ _ _ l.d).1.pend.length ≤ _
      have := h.pend
      have : size * 512 ≤ 2048 := by omega
      omega
    · rw [htot']; omega
/-! ### An empty disk; the chapter's example -/
theorem look_none (k : Int) (size : Nat) : ∀ n, look Dk.none_ k size n = []
  | 0 => rfl
  | n + 1 => by
    unfold look
    rw [look_none k size n]
    unfold fd
    rw [segBytes_none (f := Dk.none_) rfl, fdOf_no1 get_nil]; rfl
theorem found_none {d : Disk} (h : d.view = Dk.none_) (k : Int) (size n from_ : Nat) : found d k size n from_ = ⟨[], from_, [], -1⟩ := by
  unfold found; rw [h, look_none]; rfl
theorem freeAll_none {d : Disk} (h : d.view = Dk.none_) (k : Int) : ∀ m, freeAll d k m = d
  | 0 => rfl
  | m + 1 => by
    unfold freeAll; rw [freeAll_none h k m]; unfold Disk.free; rw [h]; rfl
theorem freeUn_none {d : Disk} (h : d.view = Dk.none_) (k : Int) (size : Nat) (lv : List Seg) : ∀ m, freeUn d k size lv m = d
  | 0 => rfl
  | m + 1 => by
    unfold freeUn; rw [freeUn_none h k size lv m]
    split
    · rfl
    · exact freeAll_none h _ _
theorem open_new (N : Int) (k : Int) (size n from_ : Nat) : openDisk (Disk.new N) k size n from_ = Disk.new N := by
  unfold openDisk; rw [freeUn_none rfl]; rfl
theorem card_none : card Dk.none_ = 0 := by
  have h : Rep [] Dk.none_ := ⟨by simp, fun k => rfl⟩
  rw [h.card]; rfl
theorem inv_new {n size : Nat} {N : Int} (h : ((n * size : Nat) : Int) < N) : Inv n size 0 ⟨0, n, size, [], [], 0, 0, Disk.new N⟩ [] :=
  ⟨rfl, rfl, rfl, trivial, rfl, rfl, fun _ => rfl, fun ini G e => by simp at e, ⟨Nat.zero_le _, fun i x hx => by simp [founds] at hx, fun i _ => rfl⟩,
    ⟨fun i hi => absurd rfl hi, by show _ ≤ N; omega, by show _ < N; exact h⟩, Nat.le_refl _, Nat.le_refl _⟩
theorem groups_len : ∀ (gs : List (List Rec)) (b : Nat), groups b gs → gs.length ≤ total gs
  | [], b, _ => Nat.zero_le _
  | G :: gs, b, h => by
    have := groups_len gs _ h.2.2
    have := List.length_pos_iff.2 h.1
    rw [total_cons, List.length_cons]; omega
theorem found_one {d : Disk} {size n : Nat} {G : List Rec} (h : Laid d.view size n [G]) (hg : groups 1 [G]) (hW : 1 + total [G] < W) {k : Nat} (hk : k ≤ total [G]) : (found d 0 size n k).live.length = 1 := by
  unfold found
  rw [look_law h hg hW, founds_len]
  have ht : total [G] = G.length := by simp [total]
  have hc : cand k ⟨0, 1, G⟩ = true := by
    unfold cand
    rw [Bool.and_eq_true, decide_eq_true_eq, decide_eq_true_eq]
    show 1 ≤ (k + 1) % W ∧ (k + 1) % W ≤ (1 + G.length) % W
    rw [Nat.mod_eq_of_lt (by omega), Nat.mod_eq_of_lt (by omega)]
    omega
  have hb : bestF k (founds 1 0 [G]) [G].length = ((0 : Nat) : Int) := by
    show bestF k [⟨0, 1, G⟩] 1 = _
    unfold bestF bestF
    simp [hc, better]
  have hch := chain_law (gs := [G]) hg hW k [G].length 0 [] k [] (by omega) (by omega) (fun s hs => by cases hs) (fun e => by simp at e)
  rw [if_pos (by simp)] at hch
  rw [hb, hch]
  simp [founds]
abbrev lg0 : Lg := ⟨0, 2, 1, [], [], 0, 0, Disk.new 9⟩
theorem aw08 : ∃ l1 l2 : Lg, lg0.append [97] = (l1, 1, 0) ∧ l1.append [98] = (l2, 2, 0) ∧ (lg0.Ok ∧ ∀ s ∈ lg0.live, s.count < 18446744073709551616) ∧ (l1.Ok ∧ ∀ s ∈ l1.live, s.count < 18446744073709551616) ∧ l2.last = 2 ∧ l2.d.pend.length ≤ 8000 ∧
    (found (l2.d.sync.crash []) 0 1 2 1).out = [⟨2, [98]⟩] ∧ max (found (l2.d.sync.crash []) 0 1 2 1).last 1 = 2 ∧ (found (l2.d.sync.crash []) 0 1 2 1).live.length = 1 := by
  have i0 : Inv 2 1 0 lg0 [] := inv_new (by decide)
  have o0 := i0.ok (by decide) (by decide) (by decide)
  have hs0 : lg0.seq = 1 := i0.seq (by decide)
  have ht : title.length = 7 := rfl
  have hp : ∀ (s : Nat) (b : Dk.Bytes), s < 18446744073709551616 → b.length ≤ 7 → (Wire.put s b).length ≤ 47 := fun s b h1 h2 => by have := put_short s b h1 (by omega); omega
  have p0 := hp lg0.seq title lg0.seq_lt (by decide)
  have p1 := hp lg0.seq [97] lg0.seq_lt (by decide)
  obtain ⟨_, _, h1 | h1⟩ | ⟨gs1, e1, i1, f1, _⟩ := inv_append (body := [97]) i0 (by decide) (by decide) (by decide) (by decide)
  · exfalso; omega
  · simp at h1
  generalize ha : lg0.append [97] = R1 at e1 i1
  obtain ⟨l1, r1⟩ := R1
  dsimp only at e1 i1
  subst e1
  have o1 := i1.ok (by decide) (by decide) (by decide)
  have hs1 : l1.seq = total gs1 + 1 := i1.seq (by decide)
  have ht1 : total gs1 = 1 := by unfold total; rw [f1]; rfl
  have hl1 : gs1.length ≤ 1 := by rw [← ht1]; exact groups_len gs1 1 i1.groups
  have hg1 : gs1 ≠ [] := fun e => by rw [e] at ht1; simp [total] at ht1
  obtain ⟨G1, rfl⟩ : ∃ G, gs1 = [G] := by
    match gs1, hl1, hg1 with
    | [G], _, _ => exact ⟨G, rfl⟩
    | [], _, h => exact absurd rfl h
    | _ :: _ :: _, h, _ => simp at h
  have hstm : l1.stream = bytesOf 1 G1 := i1.stream1 [] G1 rfl
  have p2 := hp l1.seq title l1.seq_lt (by decide)
  have p3 := hp l1.seq [98] l1.seq_lt (by decide)
  have hG1 : G1 = [⟨1, [97]⟩] := by simpa [total] using f1
  have hst1 : l1.stream.length ≤ 94 := by
    rw [hstm, hG1]
    have q1 := hp 1 title (by decide) (by decide)
    have q2 := hp 1 [97] (by decide) (by decide)
    simp [bytesOf, items]; omega
  have hst0 : l1.stream.length ≠ 0 := by rw [hstm]; have := bytesOf_pos 1 G1; omega
  obtain ⟨_, _, h2 | h2⟩ | ⟨gs2, e2, i2, f2, k2⟩ := inv_append (body := [98]) i1 (by decide) (by decide) (by decide) (by decide)
  · exfalso; omega
  · simp at h2
  generalize ha2 : l1.append [98] = R2 at e2 i2
  obtain ⟨l2, r2⟩ := R2
  dsimp only at e2 i2
  subst e2
  have hl2 := k2 hst0 (by omega)
  obtain ⟨G2, rfl⟩ : ∃ G, gs2 = [G] := by
    match gs2, hl2 with
    | [G], _ => exact ⟨G, rfl⟩
    | [], h => simp at h
    | _ :: _ :: _, h => simp at h
  have hG2 : G2 = [⟨1, [97]⟩, ⟨2, [98]⟩] := by rw [hG1] at f2; simpa [total] using f2
  have ht2 : total [G2] = 2 := by rw [hG2]; rfl
  have hW2 : 1 + total [G2] < W := by rw [ht2]; decide
  have hlaid : Laid (l2.d.sync.crash []).view 1 2 [G2] := i2.laid
  obtain ⟨q1, q2⟩ := found_law hlaid i2.groups hW2 (k := 1) (by omega)
  refine ⟨l1, l2, rfl, ?_, ⟨o0.1, o0.2.1⟩, ⟨o1.1, o1.2.1⟩, by rw [i2.last, ht2], by have := i2.pend; omega, by rw [q1, hG2]; rfl, by rw [q2, ht2], found_one hlaid i2.groups hW2 (by omega)⟩
  rw [ha2, ht1]
end Go.Wl
