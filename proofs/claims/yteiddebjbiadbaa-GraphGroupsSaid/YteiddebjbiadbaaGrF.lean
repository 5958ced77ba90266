/- Graphs, plain: an order of all nodes, by a heap of the free ones. -/
import Derived.Test.YteiddebjbiadbaaGrC
import Derived.Test.YteiddebjbiadbaaGrE
namespace Go.Proofs.Yteiddebjbiadbaa
namespace Gr
def nth (h : List Nat) (i : Nat) : Nat := h.getD i 0
def swapF (h : List Nat) (i j : Nat) : List Nat := (h.set i (nth h j)).set j (nth h i)
def upF : Nat → List Nat → Nat → List Nat
  | 0, h, _ => h
  | k + 1, h, j => if (j - 1) / 2 = j ∨ ¬ nth h j < nth h ((j - 1) / 2) then h else upF k (swapF h ((j - 1) / 2) j) ((j - 1) / 2)
/-- The child that is the smaller one. -/
def childF (h : List Nat) (i n : Nat) : Nat := if 2 * i + 1 + 1 < n ∧ nth h (2 * i + 1 + 1) < nth h (2 * i + 1) then 2 * i + 1 + 1 else 2 * i + 1
def downF : Nat → List Nat → Nat → Nat → List Nat
  | 0, h, _, _ => h
  | k + 1, h, i, n => if n ≤ 2 * i + 1 then h else if ¬ nth h (childF h i n) < nth h i then h else downF k (swapF h i (childF h i n)) (childF h i n) n
def pushF (h : List Nat) (x : Nat) : List Nat := upF (h.length + 1) (h ++ [x]) h.length
def popW (h : List Nat) : List Nat := downF h.length (swapF h 0 (h.length - 1)) 0 (h.length - 1)
def popF (h : List Nat) : Nat × List Nat := (nth (popW h) (h.length - 1), (popW h).take (h.length - 1))
theorem swap_len (h : List Nat) (i j : Nat) : (swapF h i j).length = h.length := by simp [swapF]
theorem nth_get {h : List Nat} {i : Nat} (hi : i < h.length) : nth h i = h[i] := by
  unfold nth; rw [List.getD_eq_getElem?_getD, List.getElem?_eq_getElem hi]; rfl
theorem swap_perm {h : List Nat} {i j : Nat} (hi : i < h.length) (hj : j < h.length) : (swapF h i j).Perm h := by
  unfold swapF
  rw [nth_get hi, nth_get hj]
  rw [List.perm_iff_count]
  intro a
  rw [List.count_set (by simpa using hj), List.count_set hi]
  by_cases e : i = j
  · subst e
    simp only [List.getElem_set_self]
    have : 0 < List.count h[i] h := List.count_pos_iff.2 (List.getElem_mem hi)
    by_cases e1 : h[i] = a
    · subst e1; simp
    · simp [e1]
  · rw [List.getElem_set_ne e]
    have h1 : 0 < List.count h[i] h := List.count_pos_iff.2 (List.getElem_mem hi)
    have h2 : 0 < List.count h[j] h := List.count_pos_iff.2 (List.getElem_mem hj)
    by_cases e1 : h[i] = a <;> by_cases e2 : h[j] = a
    · subst e1; simp [e2] <;> omega
    · subst e1; simp [e2] <;> omega
    · subst e2; simp [e1]
    · simp [e1, e2]
theorem up_len : ∀ (k : Nat) (h : List Nat) (j : Nat), (upF k h j).length = h.length
  | 0, _, _ => rfl
  | k + 1, h, j => by
    unfold upF
    split
    · rfl
    · rw [up_len k, swap_len]
theorem up_perm : ∀ (k : Nat) (h : List Nat) (j : Nat), j < h.length → (upF k h j).Perm h
  | 0, _, _, _ => .refl _
  | k + 1, h, j, hj => by
    unfold upF
    split
    · exact .refl _
    · exact (up_perm k _ _ (by rw [swap_len]; omega)).trans (swap_perm (by omega) hj)
theorem child_lt {h : List Nat} {i n : Nat} (hn : ¬ n ≤ 2 * i + 1) : childF h i n < n := by
  unfold childF; split <;> omega
theorem down_len : ∀ (k : Nat) (h : List Nat) (i n : Nat), (downF k h i n).length = h.length
  | 0, _, _, _ => rfl
  | k + 1, h, i, n => by
    unfold downF
    split
    · rfl
    · split
      · rfl
      · rw [down_len k, swap_len]
theorem down_perm : ∀ (k : Nat) (h : List Nat) (i n : Nat), i < h.length → n ≤ h.length → (downF k h i n).Perm h
  | 0, _, _, _, _, _ => .refl _
  | k + 1, h, i, n, hi, hn => by
    unfold downF
    split
    · exact .refl _
    · rename_i hc
      split
      · exact .refl _
      · have := child_lt (h := h) hc
        exact (down_perm k _ _ n (by rw [swap_len]; omega) (by rw [swap_len]; exact hn)).trans (swap_perm hi (by omega))
theorem push_perm (h : List Nat) (x : Nat) : (pushF h x).Perm (x :: h) :=
  (up_perm _ _ _ (by simp)).trans (List.perm_append_singleton x h)
theorem popW_len (h : List Nat) : (popW h).length = h.length := by unfold popW; rw [down_len, swap_len]
theorem pop_perm {h : List Nat} (hh : h ≠ []) : h.Perm ((popF h).1 :: (popF h).2) := by
  have hl : 0 < h.length := List.length_pos_iff.2 hh
  have h1 : (popW h).Perm h := (down_perm _ _ _ _ (by rw [swap_len]; exact hl) (by rw [swap_len]; omega)).trans (swap_perm hl (by omega))
  have h2 := popW_len h
  unfold popF
  refine h1.symm.trans ?_
  generalize popW h = w at h2
  have e : w = w.take (h.length - 1) ++ [nth w (h.length - 1)] := by
    rw [nth_get (by omega)]
    conv => lhs; rw [← List.take_append_drop (h.length - 1) w]
    rw [List.drop_eq_getElem_cons (by omega), List.drop_eq_nil_of_le (by omega)]
  have h3 := List.perm_append_singleton (nth w (h.length - 1)) (w.take (h.length - 1))
  rw [← e] at h3
  exact h3
/-! ### Order -/
def kahnRow (st : List Int × List Nat) (m : Nat) : List Int × List Nat :=
  (st.1.set m (at_ st.1 m - 1), if at_ st.1 m - 1 = 0 then pushF st.2 m else st.2)
def kahnF (adj : Nat → List Nat) : Nat → List Int → List Nat → List Nat → List Nat
  | 0, _, _, l => l
  | k + 1, L, h, l => if h.length = 0 then l else
      let r := (adj (popF h).1).foldl kahnRow (L, (popF h).2)
      kahnF adj k r.1 r.2 (l ++ [(popF h).1])
def freeF (bf : Nat → List Nat) (n : Nat) : List Nat := (List.range n).foldl (fun h i => if (bf i).length = 0 then pushF h i else h) []
def orderF (adj bf : Nat → List Nat) (n : Nat) : List Nat := kahnF adj (n + 1) ((List.range n).map fun i => ((bf i).length : Int)) (freeF bf n) []
/-- Behind l: what is left of each node's edges; h are those with none left. -/
structure Kahn (es : List Ed) (bf : Nat → List Nat) (n : Nat) (L : List Int) (h l : List Nat) : Prop where
  len : L.length = n
  lef : ∀ i, i < n → at_ L i = ((bf i).countP fun j => !l.contains j : Nat)
  nod : (h ++ l).Nodup
  mem : ∀ i, i ∈ h ++ l ↔ i < n ∧ at_ L i = 0
  top : ∀ l1 x l2, l = l1 ++ x :: l2 → ∀ y, (y, x) ∈ es → y ∈ l1
theorem row_kahn {n a : Nat} {L0 : List Int} (hL : L0.length = n) : ∀ (ms P : List Nat) (L : List Int) (h : List Nat), L.length = n → (P ++ ms).Nodup → (∀ m ∈ ms, m < n) → (∀ m ∈ ms, 0 < at_ L0 m) →
    (∀ i, at_ L i = at_ L0 i - if i ∈ P then 1 else 0) →
    (ms.foldl kahnRow (L, h)).1.length = n ∧ (∀ i, at_ (ms.foldl kahnRow (L, h)).1 i = at_ L0 i - if i ∈ P ++ ms then 1 else 0) ∧ (ms.foldl kahnRow (L, h)).2.Perm (ms.filter (fun m => decide (at_ L0 m - 1 = 0)) ++ h)
  | [], P, L, h, hl, _, _, _, hv => ⟨hl, fun i => by rw [List.append_nil]; exact hv i, .refl _⟩
  | m :: ms, P, L, h, hl, hn, hm, hp, hv => by
    have hmP : m ∉ P := fun hx => by
      rw [List.nodup_append] at hn
      exact hn.2.2 m hx m List.mem_cons_self rfl
    have hvm : at_ L m = at_ L0 m := by rw [hv, if_neg hmP]; omega
    rw [List.foldl_cons]
    have e : kahnRow (L, h) m = (L.set m (at_ L0 m - 1), if at_ L0 m - 1 = 0 then pushF h m else h) := by unfold kahnRow; rw [hvm]
    rw [e]
    have hs : ∀ i, at_ (L.set m (at_ L0 m - 1)) i = if i = m then at_ L0 m - 1 else at_ L i := at_set (by rw [hl]; exact hm m List.mem_cons_self)
    obtain ⟨h1, h2, h3⟩ := row_kahn (a := a) hL ms (P ++ [m]) (L.set m (at_ L0 m - 1)) (if at_ L0 m - 1 = 0 then pushF h m else h) (by rw [List.length_set]; exact hl) (by rw [List.append_assoc]; exact hn) (fun x hx => hm x (List.mem_cons_of_mem _ hx)) (fun x hx => hp x (List.mem_cons_of_mem _ hx)) (fun i => by
      rw [hs]
      by_cases q : i = m
      · subst q; simp
      · rw [if_neg q, hv]; simp [q])
    refine ⟨h1, fun i => by rw [h2, List.append_assoc]; rfl, h3.trans ?_⟩
    by_cases q : at_ L0 m - 1 = 0
    · rw [if_pos q, List.filter_cons, if_pos (by simpa using q)]
      exact ((push_perm h m).append_left _).trans List.perm_middle
    · rw [if_neg q, List.filter_cons, if_neg (by simpa using q)]
theorem count_snoc {bfi : List Nat} (hn : bfi.Nodup) (l : List Nat) (a : Nat) (ha : a ∉ l) : (bfi.countP fun j => !l.contains j) = (bfi.countP fun j => !(l ++ [a]).contains j) + if a ∈ bfi then 1 else 0 := by
  induction bfi with
  | nil => simp
  | cons x xs ih =>
    rw [List.nodup_cons] at hn
    rw [List.countP_cons, List.countP_cons, ih hn.2]
    by_cases e : x = a
    · subst e
      have h1 : l.contains x = false := by simpa using ha
      simp [hn.1, ha]
    · have h1 : a ∈ x :: xs ↔ a ∈ xs := by simp [Ne.symm e]
      simp only [h1]
      have h2 : (l ++ [a]).contains x = l.contains x := by simp [e]
      rw [h2]
      omega
theorem kahn_step {es : List Ed} {adj bf : Nat → List Nat} {n : Nat} (hadj : ∀ i j, j ∈ adj i ↔ (i, j) ∈ es) (hbf : ∀ i j, j ∈ bf i ↔ (j, i) ∈ es) (hna : ∀ i, (adj i).Nodup) (hnb : ∀ i, (bf i).Nodup) (hin : Ins n es)
    {L : List Int} {h l : List Nat} (k : Kahn es bf n L h l) (hh : h ≠ []) : Kahn es bf n ((adj (popF h).1).foldl kahnRow (L, (popF h).2)).1 ((adj (popF h).1).foldl kahnRow (L, (popF h).2)).2 (l ++ [(popF h).1]) := by
  have hp := pop_perm hh
  generalize popF h = p at hp
  obtain ⟨a, h'⟩ := p
  dsimp only at hp ⊢
  have hpm : (h ++ l).Perm (a :: (h' ++ l)) := hp.append_right l
  have hnd := (hpm.nodup_iff).1 k.nod
  rw [List.nodup_cons, List.mem_append, not_or] at hnd
  obtain ⟨⟨hah, hal⟩, hnd⟩ := hnd
  have ha := (k.mem a).1 (hpm.mem_iff.2 List.mem_cons_self)
  have hzero : ∀ y, (y, a) ∈ es → y ∈ l := fun y hy => by
    have h0 := k.lef a ha.1
    rw [ha.2] at h0
    have h1 : (bf a).countP (fun j => !l.contains j) = 0 := by omega
    have := List.countP_eq_zero.1 h1 y ((hbf a y).2 hy)
    simpa using this
  have hpos : ∀ m ∈ adj a, 0 < at_ L m := fun m hm => by
    have hma := (hadj a m).1 hm
    rw [k.lef m (hin _ hma).2]
    have : 0 < (bf m).countP (fun j => !l.contains j) := List.countP_pos_iff.2 ⟨a, (hbf m a).2 hma, by simpa using hal⟩
    omega
  obtain ⟨h1, h2, h3⟩ := row_kahn (a := a) k.len (adj a) [] L h' k.len (by simpa using hna a) (fun m hm => (hin _ ((hadj a m).1 hm)).2) hpos (fun i => by simp)
  rw [List.nil_append] at h2
  generalize (adj a).foldl kahnRow (L, h') = r at h1 h2 h3
  have hlef : ∀ i, i < n → at_ r.1 i = ((bf i).countP fun j => !(l ++ [a]).contains j : Nat) := fun i hi => by
    rw [h2, k.lef i hi, count_snoc (hnb i) l a hal]
    have : i ∈ adj a ↔ a ∈ bf i := by rw [hadj, hbf]
    simp only [this]
    split <;> omega
  have hfil : ∀ m, m ∈ (adj a).filter (fun m => decide (at_ L m - 1 = 0)) → m ∉ h' ++ l ∧ m ≠ a := fun m hm => by
    obtain ⟨hm1, _⟩ := List.mem_filter.1 hm
    have hp1 := hpos m hm1
    refine ⟨fun q => ?_, fun q => ?_⟩
    · have := ((k.mem m).1 (hpm.mem_iff.2 (List.mem_cons_of_mem _ q))).2; omega
    · subst q; rw [ha.2] at hp1; omega
  refine ⟨h1, hlef, ?_, fun i => ?_, fun l1 x l2 e y hy => ?_⟩
  · have hq : (r.2 ++ (l ++ [a])).Perm (((adj a).filter fun m => decide (at_ L m - 1 = 0)) ++ (a :: (h' ++ l))) := by
      refine (h3.append_right _).trans ?_
      rw [List.append_assoc]
      refine List.Perm.append_left _ ?_
      rw [← List.append_assoc]
      exact List.perm_append_singleton _ _
    refine hq.nodup_iff.2 ?_
    rw [List.nodup_append]
    refine ⟨List.Nodup.sublist List.filter_sublist (hna a), List.nodup_cons.2 ⟨by rw [List.mem_append, not_or]; exact ⟨hah, hal⟩, hnd⟩, fun x hx y hy e => ?_⟩
    subst e
    rcases List.mem_cons.1 hy with q | q
    · exact (hfil x hx).2 q
    · exact (hfil x hx).1 q
  · have hr : i ∈ r.2 ++ (l ++ [a]) ↔ i ∈ (adj a).filter (fun m => decide (at_ L m - 1 = 0)) ∨ i ∈ h ++ l := by
      rw [List.mem_append, h3.mem_iff, List.mem_append, hpm.mem_iff, List.mem_cons, List.mem_append, List.mem_append, List.mem_singleton]
      constructor
      · rintro ((q | q) | q | q)
        · exact .inl q
        · exact .inr (.inr (.inl q))
        · exact .inr (.inr (.inr q))
        · exact .inr (.inl q)
      · rintro (q | q | q | q)
        · exact .inl (.inl q)
        · exact .inr (.inr q)
        · exact .inl (.inr q)
        · exact .inr (.inl q)
    rw [hr, k.mem, List.mem_filter, h2]
    constructor
    · rintro (⟨q1, q2⟩ | ⟨q1, q2⟩)
      · refine ⟨(hin _ ((hadj a i).1 q1)).2, ?_⟩
        rw [if_pos q1]
        simpa using q2
      · refine ⟨q1, ?_⟩
        rw [if_neg (fun q => by have := hpos i q; omega)]
        omega
    · rintro ⟨q1, q2⟩
      by_cases q : i ∈ adj a
      · left; rw [if_pos q] at q2; exact ⟨q, by simpa using q2⟩
      · right; rw [if_neg q] at q2; exact ⟨q1, by omega⟩
  · rcases snoc_split e with ⟨rfl, rfl, rfl⟩ | ⟨l3, rfl, e2⟩
    · exact hzero y hy
    · exact k.top l1 x l3 e2 y hy
theorem kahn_ok {es : List Ed} {adj bf : Nat → List Nat} {n : Nat} (hadj : ∀ i j, j ∈ adj i ↔ (i, j) ∈ es) (hbf : ∀ i j, j ∈ bf i ↔ (j, i) ∈ es) (hna : ∀ i, (adj i).Nodup) (hnb : ∀ i, (bf i).Nodup) (hin : Ins n es) :
    ∀ (k : Nat) (L : List Int) (h l : List Nat), Kahn es bf n L h l → n + 1 ≤ k + l.length → ∃ L', Kahn es bf n L' [] (kahnF adj k L h l)
  | 0, L, h, l, hk, hl => by
    exfalso
    have : l.length ≤ (List.range n).length := nodup_len (List.nodup_append.1 hk.nod).2.1 (fun x hx => List.mem_range.2 ((hk.mem x).1 (List.mem_append_right _ hx)).1)
    rw [List.length_range] at this
    omega
  | k + 1, L, h, l, hk, hl => by
    unfold kahnF
    by_cases h0 : h.length = 0
    · rw [if_pos h0]
      obtain rfl := List.eq_nil_of_length_eq_zero h0
      exact ⟨L, hk⟩
    · rw [if_neg h0]
      exact kahn_ok hadj hbf hna hnb hin k _ _ _ (kahn_step hadj hbf hna hnb hin hk (fun e => h0 (by rw [e]; rfl))) (by rw [List.length_append, List.length_singleton]; omega)
theorem free_perm (bf : Nat → List Nat) (n : Nat) : (freeF bf n).Perm ((List.range n).filter fun i => decide ((bf i).length = 0)) := by
  unfold freeF
  induction n with
  | zero => exact .refl _
  | succ n ih =>
    rw [List.range_succ, List.foldl_append, List.filter_append]
    show (if (bf n).length = 0 then pushF _ n else _).Perm _
    by_cases e : (bf n).length = 0
    · rw [if_pos e]
      refine (push_perm _ n).trans ?_
      refine ((ih.cons n).trans (List.perm_append_singleton n _).symm).trans ?_
      have : List.filter (fun i => decide ((bf i).length = 0)) [n] = [n] := by rw [List.filter_cons, if_pos (by simpa using e)]; rfl
      rw [this]
    · rw [if_neg e]
      have : List.filter (fun i => decide ((bf i).length = 0)) [n] = [] := by simp [List.filter_cons] ; intro q; simp [q] at e
      rw [this, List.append_nil]; exact ih
theorem order_kahn {es : List Ed} {adj bf : Nat → List Nat} {n : Nat} (hadj : ∀ i j, j ∈ adj i ↔ (i, j) ∈ es) (hbf : ∀ i j, j ∈ bf i ↔ (j, i) ∈ es) (hna : ∀ i, (adj i).Nodup) (hnb : ∀ i, (bf i).Nodup) (hin : Ins n es) :
    ∃ L, Kahn es bf n L [] (orderF adj bf n) := by
  have hat : ∀ i, i < n → at_ ((List.range n).map fun i => ((bf i).length : Int)) i = (bf i).length := fun i hi => by
    unfold at_
    rw [List.getD_eq_getElem?_getD, List.getElem?_map, List.getElem?_range hi]
    rfl
  have hat2 : ∀ i, ¬ i < n → at_ ((List.range n).map fun i => ((bf i).length : Int)) i = -1 := fun i hi => by
    unfold at_
    rw [List.getD_eq_getElem?_getD, List.getElem?_eq_none (by simpa using hi)]
    rfl
  refine kahn_ok hadj hbf hna hnb hin (n + 1) _ _ _ ⟨by simp, fun i hi => ?_, ?_, fun i => ?_, fun l1 x l2 e => by simp at e⟩ (by simp)
  · rw [hat i hi]
    simp [List.countP_true]
  · rw [List.append_nil]
    exact (free_perm bf n).nodup_iff.2 (List.Nodup.sublist List.filter_sublist List.nodup_range)
  · rw [List.append_nil, (free_perm bf n).mem_iff, List.mem_filter, List.mem_range]
    constructor
    · rintro ⟨a, b⟩
      rw [hat i a]
      exact ⟨a, by have : (bf i).length = 0 := by simpa using b
                   omega⟩
    · rintro ⟨a, b⟩
      rw [hat i a] at b
      exact ⟨a, by rw [decide_eq_true_iff]; omega⟩
/-- There is an order of all nodes exactly if no edge joins nodes of one group. -/
theorem order_iff {es : List Ed} {adj bf : Nat → List Nat} {n : Nat} (hadj : ∀ i j, j ∈ adj i ↔ (i, j) ∈ es) (hbf : ∀ i j, j ∈ bf i ↔ (j, i) ∈ es) (hna : ∀ i, (adj i).Nodup) (hnb : ∀ i, (bf i).Nodup) (hin : Ins n es) :
    ¬ (orderF adj bf n).length < n ↔ ∀ a b, (a, b) ∈ es → ¬ Mut es a b := by
  obtain ⟨L, k⟩ := order_kahn hadj hbf hna hnb hin
  generalize orderF adj bf n = l at k
  have hnl : l.Nodup := by simpa using k.nod
  constructor
  · intro hlen a b hab hm
    have hall : ∀ i, i < n → i ∈ l := fun i hi => by
      refine Classical.byContradiction (fun hni => ?_)
      have := nodup_len (a := i :: l) (b := List.range n) (List.nodup_cons.2 ⟨hni, hnl⟩) (fun x hx => by
        rw [List.mem_range]
        rcases List.mem_cons.1 hx with q | q
        · rw [q]; exact hi
        · exact ((k.mem x).1 (by simpa using q)).1)
      simp at this
      omega
    -- what stands ahead of b is closed under going back along the edges
    obtain ⟨l1, l2, e⟩ := List.append_of_mem (hall b (hin _ hab).2)
    have hback : ∀ {x y : Nat}, Reach es x y → y ∈ l1 → x ∈ l1 := fun {x y} hr hy => by
      obtain ⟨q, hw⟩ := hr
      induction hw with
      | here _ => exact hy
      | step e1 _ ih =>
        have h1 := ih hy
        obtain ⟨m1, m2, e2⟩ := List.append_of_mem h1
        have := k.top m1 _ (m2 ++ b :: l2) (by rw [e, e2, List.append_assoc]; rfl) _ e1
        rw [e2]; exact List.mem_append_left _ this
    have h1 := k.top l1 b l2 e a hab
    have h2 := hback hm.2 h1
    rw [e, List.nodup_append] at hnl
    exact hnl.2.2 b h2 b List.mem_cons_self rfl
  · intro hno hlen
    open Classical in
    have key : ∀ (c x : Nat), x < n → x ∉ l → (List.range n).countP (fun y => decide (Reach es y x)) = c → False := by
      intro c
      induction c using Nat.strongRecOn with
      | ind c ih =>
        intro x hx hxl hc
        have hne : at_ L x ≠ 0 := fun q => hxl (by have := (k.mem x).2 ⟨hx, q⟩; simpa using this)
        have h0 := k.lef x hx
        have : 0 < (bf x).countP (fun j => !l.contains j) := by omega
        obtain ⟨j, hj, hjl⟩ := List.countP_pos_iff.1 this
        have hjx := (hbf x j).1 hj
        refine ih _ ?_ j (hin _ hjx).1 (by simpa using hjl) rfl
        rw [← hc]
        have hsub : ∀ y ∈ List.range n, decide (Reach es y j) = true → decide (Reach es y x) = true := fun y _ hy => by
          rw [decide_eq_true_iff] at hy ⊢
          exact hy.trans (.edge hjx)
        have h2 := List.countP_mono_left (p := fun y => decide (Reach es y j) || decide (y = x)) (q := fun y => decide (Reach es y x)) (l := List.range n) (fun y hy hp => by
          rw [Bool.or_eq_true] at hp
          rcases hp with hp | hp
          · exact hsub y hy hp
          · have := of_decide_eq_true hp; subst this; exact decide_eq_true (.refl _ _))
        have h3 : (List.range n).countP (fun y => decide (Reach es y j)) < (List.range n).countP (fun y => decide (Reach es y j) || decide (y = x)) := by
          have hxj : ¬ Reach es x j := fun q => hno j x hjx ⟨.edge hjx, q⟩
          clear h2 hsub ih h0 this
          obtain ⟨a1, a2, e⟩ := List.append_of_mem (List.mem_range.2 hx)
          rw [e, List.countP_append, List.countP_append, List.countP_cons, List.countP_cons]
          have m1 := List.countP_mono_left (l := a1) (p := fun y => decide (Reach es y j)) (q := fun y => decide (Reach es y j) || decide (y = x)) (fun y _ h => by rw [h]; rfl)
          have m2 := List.countP_mono_left (l := a2) (p := fun y => decide (Reach es y j)) (q := fun y => decide (Reach es y j) || decide (y = x)) (fun y _ h => by rw [h]; rfl)
          simp only [decide_eq_false hxj, Bool.false_or, decide_true, if_true]
          simp
          omega
        omega
    obtain ⟨x, hx, hxl⟩ : ∃ x, x < n ∧ x ∉ l := by
      refine Classical.byContradiction (fun hh => ?_)
      have : (List.range n).length ≤ l.length := nodup_len List.nodup_range (fun x hx => Classical.byContradiction (fun q => hh ⟨x, List.mem_range.1 hx, q⟩))
      rw [List.length_range] at this
      omega
    exact key _ x hx hxl rfl
end Gr
end Go.Proofs.Yteiddebjbiadbaa
