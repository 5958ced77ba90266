/- Graphs, plain: distances, and the first shortest path. -/
import Derived.Test.YteiddebjbiadbaaGrB
namespace Go.Proofs.Yteiddebjbiadbaa
namespace Gr
def at_ (L : List Int) (i : Nat) : Int := L.getD i (-1)
theorem at_set {L : List Int} {n : Nat} {c : Int} (hn : n < L.length) (i : Nat) : at_ (L.set n c) i = if i = n then c else at_ L i := by
  unfold at_
  simp only [List.getD_eq_getElem?_getD, List.getElem?_set]
  by_cases h : n = i
  · subst h; simp [hn]
  · simp [h, Ne.symm h]
theorem at_rep (n i : Nat) : at_ (List.replicate n (-1)) i = -1 := by
  unfold at_
  rw [List.getD_eq_getElem?_getD, List.getElem?_replicate]
  split <;> rfl
/-- L holds the distances to t: what is far is one edge farther than a node behind an edge, and no edge leads farther than one. -/
structure Dist (es : List Ed) (n t : Nat) (L : List Int) : Prop where
  len : L.length = n
  zero : at_ L t = 0
  lo : ∀ i, -1 ≤ at_ L i
  near : ∀ i, i ≠ t → 0 ≤ at_ L i → 0 < at_ L i ∧ ∃ j, (i, j) ∈ es ∧ at_ L j + 1 = at_ L i
  far : ∀ i j, (i, j) ∈ es → 0 ≤ at_ L j → 0 ≤ at_ L i ∧ at_ L i ≤ at_ L j + 1
theorem Dist.le {es : List Ed} {n t : Nat} {L M : List Int} (h : Dist es n t L) (k : Dist es n t M) : ∀ (d : Nat) (i : Nat), at_ L i = d → 0 ≤ at_ M i ∧ at_ M i ≤ d
  | 0, i, hi => by
    by_cases e : i = t
    · subst e; rw [k.zero]; omega
    · have := (h.near i e (by omega)).1; omega
  | d + 1, i, hi => by
    by_cases e : i = t
    · subst e; rw [h.zero] at hi; omega
    · obtain ⟨_, j, hj, e2⟩ := h.near i e (by omega)
      obtain ⟨h1, h2⟩ := Dist.le h k d j (by omega)
      obtain ⟨h3, h4⟩ := k.far i j hj h1
      omega
theorem Dist.unique {es : List Ed} {n t : Nat} {L M : List Int} (h : Dist es n t L) (k : Dist es n t M) : L = M := by
  have key : ∀ i, at_ L i = at_ M i := fun i => by
    have h1 := h.lo i
    have h2 := k.lo i
    by_cases hl : 0 ≤ at_ L i
    · obtain ⟨d, hd⟩ := Int.eq_ofNat_of_zero_le hl
      obtain ⟨h3, h4⟩ := Dist.le h k d i hd
      obtain ⟨d2, hd2⟩ := Int.eq_ofNat_of_zero_le h3
      obtain ⟨h5, h6⟩ := Dist.le k h d2 i hd2
      omega
    · by_cases hm : 0 ≤ at_ M i
      · obtain ⟨d2, hd2⟩ := Int.eq_ofNat_of_zero_le hm
        have := (Dist.le k h d2 i hd2).1
        omega
      · omega
  apply List.ext_getElem (h.len.trans k.len.symm)
  intro i h1 h2
  have := key i
  unfold at_ at this
  rw [List.getD_eq_getElem?_getD, List.getD_eq_getElem?_getD, List.getElem?_eq_getElem h1, List.getElem?_eq_getElem h2] at this
  exact this
/-- A node has a distance exactly if it reaches t. -/
theorem Dist.reach {es : List Ed} {n t : Nat} {L : List Int} (h : Dist es n t L) (i : Nat) : 0 ≤ at_ L i ↔ Reach es i t := by
  constructor
  · intro hi
    obtain ⟨d, hd⟩ := Int.eq_ofNat_of_zero_le hi
    clear hi
    induction d generalizing i with
    | zero =>
      by_cases e : i = t
      · subst e; exact .refl _ _
      · have := (h.near i e (by omega)).1; omega
    | succ d ih =>
      by_cases e : i = t
      · subst e; exact .refl _ _
      · obtain ⟨_, j, hj, e2⟩ := h.near i e (by omega)
        exact (Reach.edge hj).trans (ih j (by omega))
  · rintro ⟨k, hw⟩
    have gen : ∀ {k a b : Nat}, Walk es k a b → b = t → 0 ≤ at_ L a := fun {k a b} hw => by
      induction hw with
      | here x => intro e; subst e; rw [h.zero]; omega
      | step e _ ih => intro e2; exact (h.far _ _ e (ih e2)).1
    exact gen hw rfl
/-! ### Breadth first -/
def bfsRow (q : Nat) (st : List Int × List Nat) (m : Nat) : List Int × List Nat := if at_ st.1 m < 0 then (st.1.set m (at_ st.1 q + 1), st.2 ++ [m]) else st
def bfsF (bf : Nat → List Nat) : Nat → List Int → List Nat → List Int
  | 0, L, _ => L
  | _ + 1, L, [] => L
  | k + 1, L, q :: qs => bfsF bf k ((bf q).foldl (bfsRow q) (L, qs)).1 ((bf q).foldl (bfsRow q) (L, qs)).2
def negs (L : List Int) : Nat := L.countP (· < 0)
structure Bfs (es : List Ed) (n t : Nat) (L : List Int) (Q : List Nat) : Prop where
  len : L.length = n
  zero : at_ L t = 0
  lo : ∀ i, -1 ≤ at_ L i
  near : ∀ i, i ≠ t → 0 ≤ at_ L i → 0 < at_ L i ∧ ∃ j, (i, j) ∈ es ∧ at_ L j + 1 = at_ L i
  inq : ∀ q ∈ Q, q < n ∧ 0 ≤ at_ L q
  sort : Q.Pairwise fun x y => at_ L x ≤ at_ L y
  bound : ∀ q ∈ Q.head?, ∀ j, at_ L j ≤ at_ L q + 1
  done : ∀ j, 0 ≤ at_ L j → j ∈ Q ∨ ∀ i, (i, j) ∈ es → 0 ≤ at_ L i ∧ at_ L i ≤ at_ L j + 1
structure Row (es : List Ed) (n t q : Nat) (d : Int) (P : List Nat) (L : List Int) (Q : List Nat) : Prop where
  len : L.length = n
  zero : at_ L t = 0
  lo : ∀ i, -1 ≤ at_ L i
  near : ∀ i, i ≠ t → 0 ≤ at_ L i → 0 < at_ L i ∧ ∃ j, (i, j) ∈ es ∧ at_ L j + 1 = at_ L i
  hq : at_ L q = d
  inq : ∀ x ∈ Q, x < n ∧ d ≤ at_ L x
  sort : Q.Pairwise fun x y => at_ L x ≤ at_ L y
  bound : ∀ j, at_ L j ≤ d + 1
  done : ∀ j, 0 ≤ at_ L j → j ≠ q → j ∈ Q ∨ ∀ i, (i, j) ∈ es → 0 ≤ at_ L i ∧ at_ L i ≤ at_ L j + 1
  past : ∀ m ∈ P, 0 ≤ at_ L m
theorem negs_set {L : List Int} {m : Nat} {c : Int} (hm : m < L.length) (h : at_ L m < 0) (hc : 0 ≤ c) : negs (L.set m c) + 1 = negs L := by
  unfold at_ at h
  rw [List.getD_eq_getElem?_getD, List.getElem?_eq_getElem hm, Option.getD_some] at h
  unfold negs
  rw [List.countP_set hm]
  have : 0 < L.countP (· < 0) := List.countP_pos_iff.2 ⟨_, List.getElem_mem hm, by simpa using h⟩
  have hc' : ¬ c < 0 := by omega
  simp [h, hc']
  omega
theorem row_step {es : List Ed} {n t q : Nat} {d : Int} {P : List Nat} {L : List Int} {Q : List Nat} {m : Nat} (hin : Ins n es) (hd : 0 ≤ d) (hm : (m, q) ∈ es) (h : Row es n t q d P L Q) :
    Row es n t q d (P ++ [m]) (bfsRow q (L, Q) m).1 (bfsRow q (L, Q) m).2 ∧ negs (bfsRow q (L, Q) m).1 + (bfsRow q (L, Q) m).2.length = negs L + Q.length := by
  unfold bfsRow
  dsimp only
  have hmn : m < n := (hin _ hm).1
  by_cases h0 : at_ L m < 0
  · rw [if_pos h0, h.hq]
    have hs : ∀ i, at_ (L.set m (d + 1)) i = if i = m then d + 1 else at_ L i := at_set (by rw [h.len]; exact hmn)
    have hold : ∀ i, 0 ≤ at_ L i → at_ (L.set m (d + 1)) i = at_ L i := fun i hi => by
      rw [hs, if_neg (fun e => by subst e; omega)]
    refine ⟨⟨by rw [List.length_set]; exact h.len, ?_, fun i => ?_, fun i hi hp => ?_, ?_, fun x hx => ?_, ?_, fun j => ?_, fun j hj hjq => ?_, fun x hx => ?_⟩, ?_⟩
    · rw [hold t (by rw [h.zero]; omega), h.zero]
    · rw [hs]; split
      · omega
      · exact h.lo i
    · by_cases e : i = m
      · subst e
        have hv : at_ (L.set i (d + 1)) i = d + 1 := by rw [hs, if_pos rfl]
        refine ⟨by rw [hv]; omega, q, hm, ?_⟩
        rw [hold q (by rw [h.hq]; exact hd), h.hq, hv]
      · have hv : at_ (L.set m (d + 1)) i = at_ L i := by rw [hs, if_neg e]
        rw [hv] at hp ⊢
        obtain ⟨h1, j, hj, e2⟩ := h.near i hi hp
        exact ⟨h1, j, hj, by rw [hold j (by omega)]; exact e2⟩
    · rw [hold q (by rw [h.hq]; exact hd), h.hq]
    · rcases List.mem_append.1 hx with hx | hx
      · have := h.inq x hx
        rw [hold x (by omega)]; exact this
      · obtain rfl : x = m := by simpa using hx
        rw [hs, if_pos rfl]; omega
    · rw [List.pairwise_append]
      refine ⟨?_, by simp, fun a ha b hb => ?_⟩
      · refine h.sort.imp_of_mem (fun {a b} ha hb hab => ?_)
        rw [hold a (by have := h.inq a ha; omega), hold b (by have := h.inq b hb; omega)]; exact hab
      · obtain rfl : b = m := by simpa using hb
        rw [hold a (by have := h.inq a ha; omega), hs, if_pos rfl]
        exact h.bound a
    · rw [hs]; split
      · omega
      · exact h.bound j
    · by_cases e : j = m
      · subst e; exact .inl (by simp)
      · have hv : at_ (L.set m (d + 1)) j = at_ L j := by rw [hs, if_neg e]
        rw [hv] at hj ⊢
        rcases h.done j hj hjq with q1 | q1
        · exact .inl (List.mem_append_left _ q1)
        · right
          intro i hi
          have := q1 i hi
          rw [hold i this.1]; exact this
    · rcases List.mem_append.1 hx with hx | hx
      · have := h.past x hx
        rw [hold x this]; exact this
      · obtain rfl : x = m := by simpa using hx
        rw [hs, if_pos rfl]; omega
    · have := negs_set (c := d + 1) (by rw [h.len]; exact hmn) h0 (by omega)
      simp only [List.length_append, List.length_singleton]
      omega
  · rw [if_neg h0]
    refine ⟨⟨h.len, h.zero, h.lo, h.near, h.hq, h.inq, h.sort, h.bound, h.done, fun x hx => ?_⟩, rfl⟩
    rcases List.mem_append.1 hx with hx | hx
    · exact h.past x hx
    · obtain rfl : x = m := by simpa using hx
      show 0 ≤ at_ L x
      omega
theorem row_fold {es : List Ed} {n t q : Nat} {d : Int} (hin : Ins n es) (hd : 0 ≤ d) : ∀ (ms P : List Nat) (L : List Int) (Q : List Nat), (∀ m ∈ ms, (m, q) ∈ es) → Row es n t q d P L Q →
    Row es n t q d (P ++ ms) (ms.foldl (bfsRow q) (L, Q)).1 (ms.foldl (bfsRow q) (L, Q)).2 ∧ negs (ms.foldl (bfsRow q) (L, Q)).1 + (ms.foldl (bfsRow q) (L, Q)).2.length = negs L + Q.length
  | [], P, L, Q, _, h => by rw [List.append_nil]; exact ⟨h, rfl⟩
  | m :: ms, P, L, Q, hm, h => by
    obtain ⟨h1, h2⟩ := row_step hin hd (hm m List.mem_cons_self) h
    obtain ⟨h3, h4⟩ := row_fold hin hd ms (P ++ [m]) _ _ (fun x hx => hm x (List.mem_cons_of_mem _ hx)) h1
    rw [List.append_assoc] at h3
    exact ⟨h3, h4.trans h2⟩
theorem bfs_ok {es : List Ed} {bf : Nat → List Nat} {n t : Nat} (hbf : ∀ i j, j ∈ bf i ↔ (j, i) ∈ es) (hin : Ins n es) : ∀ (k : Nat) (L : List Int) (Q : List Nat), negs L + Q.length ≤ k → Bfs es n t L Q → Dist es n t (bfsF bf k L Q)
  | k, L, [], _, h => by
    have e : bfsF bf k L [] = L := by cases k <;> rfl
    rw [e]
    exact ⟨h.len, h.zero, h.lo, h.near, fun i j he hj => ((h.done j hj).resolve_left (by simp)) i he⟩
  | 0, L, q :: Q, hk, _ => by simp at hk
  | k + 1, L, q :: Q, hk, h => by
    have hq := h.inq q List.mem_cons_self
    have hs := List.pairwise_cons.1 h.sort
    have h0 : Row es n t q (at_ L q) [] L Q := ⟨h.len, h.zero, h.lo, h.near, rfl, fun x hx => ⟨(h.inq x (List.mem_cons_of_mem _ hx)).1, hs.1 x hx⟩, hs.2, h.bound q rfl,
      fun j hj hjq => (h.done j hj).imp (fun hm => (List.mem_cons.1 hm).resolve_left hjq) id, fun m hm => by cases hm⟩
    obtain ⟨h1, h2⟩ := row_fold hin hq.2 (bf q) [] L Q (fun m hm => (hbf q m).1 hm) h0
    show Dist es n t (bfsF bf k _ _)
    refine bfs_ok hbf hin k _ _ (by rw [List.length_cons] at hk; omega) ?_
    rw [List.nil_append] at h1
    revert h1 h2
    generalize (bf q).foldl (bfsRow q) (L, Q) = r
    intro h1 h2
    refine ⟨h1.len, h1.zero, h1.lo, h1.near, fun x hx => ⟨(h1.inq x hx).1, Int.le_trans hq.2 (h1.inq x hx).2⟩, h1.sort, fun x hx j => ?_, fun j hj => ?_⟩
    · have hx : x ∈ r.2 := by
        cases hr : r.2 with
        | nil => rw [hr] at hx; simp at hx
        | cons y ys => rw [hr] at hx; simp at hx; subst hx; simp
      have := (h1.inq x hx).2
      have := h1.bound j
      omega
    · by_cases e : j = q
      · subst e
        right
        intro i hi
        have h3 := h1.past i ((hbf _ i).2 hi)
        have h4 := h1.bound i
        exact ⟨h3, by rw [h1.hq]; exact h4⟩
      · exact h1.done j hj e
def leftF (bf : Nat → List Nat) (n t : Nat) : List Int := bfsF bf n ((List.replicate n (-1)).set t 0) [t]
theorem start_at {n t : Nat} (ht : t < n) (i : Nat) : at_ ((List.replicate n (-1)).set t 0) i = if i = t then 0 else -1 := by
  rw [at_set (by simpa using ht), at_rep]
theorem left_ok {es : List Ed} {bf : Nat → List Nat} {n t : Nat} (hbf : ∀ i j, j ∈ bf i ↔ (j, i) ∈ es) (hin : Ins n es) (ht : t < n) : Dist es n t (leftF bf n t) := by
  have hs := start_at ht
  refine bfs_ok hbf hin n _ _ ?_ ⟨by simp, by rw [hs, if_pos rfl], fun i => by rw [hs]; split <;> omega, fun i hi h => ?_, fun q hq => ?_, by simp, fun q hq j => ?_, fun j hj => ?_⟩
  · have h1 : negs (List.replicate n (-1 : Int)) ≤ n := by unfold negs; exact Nat.le_trans List.countP_le_length (by simp)
    have := negs_set (L := List.replicate n (-1)) (m := t) (c := 0) (by simpa using ht) (by rw [at_rep]; omega) (by omega)
    simp only [List.length_singleton]
    omega
  · rw [hs, if_neg hi] at h; omega
  · obtain rfl : q = t := by simpa using hq
    exact ⟨ht, by rw [hs, if_pos rfl]; omega⟩
  · obtain rfl : q = t := by simpa using hq.symm
    rw [hs, hs, if_pos rfl]; split <;> omega
  · rw [hs] at hj
    by_cases e : j = t
    · left; simp [e]
    · rw [if_neg e] at hj; omega
/-! ### Level by level -/
def farRow (d : Nat) (L : List Int) (e : Ed) : List Int := if at_ L e.2 = d ∧ at_ L e.1 < 0 then L.set e.1 (d + 1) else L
def farF (es : List Ed) (n t : Nat) : List Int := (List.range n).foldl (fun L d => es.foldl (farRow d) L) ((List.replicate n (-1)).set t 0)
structure Far (es : List Ed) (n t d : Nat) (L : List Int) : Prop where
  len : L.length = n
  zero : at_ L t = 0
  lo : ∀ i, -1 ≤ at_ L i
  near : ∀ i, i ≠ t → 0 ≤ at_ L i → 0 < at_ L i ∧ ∃ j, (i, j) ∈ es ∧ at_ L j + 1 = at_ L i
  bound : ∀ i, at_ L i ≤ d
  far : ∀ i j, (i, j) ∈ es → 0 ≤ at_ L j → at_ L j < d → 0 ≤ at_ L i ∧ at_ L i ≤ at_ L j + 1
structure FarR (es : List Ed) (n t d : Nat) (P : List Ed) (L : List Int) : Prop where
  len : L.length = n
  zero : at_ L t = 0
  lo : ∀ i, -1 ≤ at_ L i
  near : ∀ i, i ≠ t → 0 ≤ at_ L i → 0 < at_ L i ∧ ∃ j, (i, j) ∈ es ∧ at_ L j + 1 = at_ L i
  bound : ∀ i, at_ L i ≤ d + 1
  far : ∀ i j, (i, j) ∈ es → 0 ≤ at_ L j → at_ L j < d → 0 ≤ at_ L i ∧ at_ L i ≤ at_ L j + 1
  past : ∀ e ∈ P, at_ L e.2 = d → 0 ≤ at_ L e.1
theorem farR_step {es : List Ed} {n t d : Nat} {P : List Ed} {L : List Int} {e : Ed} (hin : Ins n es) (he : e ∈ es) (h : FarR es n t d P L) : FarR es n t d (P ++ [e]) (farRow d L e) := by
  unfold farRow
  by_cases h0 : at_ L e.2 = d ∧ at_ L e.1 < 0
  · rw [if_pos h0]
    obtain ⟨h1, h2⟩ := h0
    have hs : ∀ i, at_ (L.set e.1 (d + 1)) i = if i = e.1 then (d : Int) + 1 else at_ L i := at_set (by rw [h.len]; exact (hin _ he).1)
    have hold : ∀ i, 0 ≤ at_ L i → at_ (L.set e.1 (d + 1)) i = at_ L i := fun i hi => by rw [hs, if_neg (fun q => by subst q; omega)]
    refine ⟨by rw [List.length_set]; exact h.len, ?_, fun i => ?_, fun i hi hp => ?_, fun i => ?_, fun i j hij hj hjd => ?_, fun x hx hxd => ?_⟩
    · rw [hold t (by rw [h.zero]; omega), h.zero]
    · rw [hs]; split
      · omega
      · exact h.lo i
    · by_cases q : i = e.1
      · have hv : at_ (L.set e.1 (d + 1)) i = d + 1 := by rw [hs, if_pos q]
        refine ⟨by rw [hv]; omega, e.2, by rw [q]; exact he, ?_⟩
        rw [hold e.2 (by rw [h1]; omega), h1, hv]
      · have hv : at_ (L.set e.1 (d + 1)) i = at_ L i := by rw [hs, if_neg q]
        rw [hv] at hp ⊢
        obtain ⟨a, j, hj, b⟩ := h.near i hi hp
        exact ⟨a, j, hj, by rw [hold j (by omega)]; exact b⟩
    · rw [hs]; split
      · omega
      · exact h.bound i
    · by_cases q : j = e.1
      · rw [hs, if_pos q] at hjd; omega
      · have hv : at_ (L.set e.1 (d + 1)) j = at_ L j := by rw [hs, if_neg q]
        rw [hv] at hj hjd ⊢
        have := h.far i j hij hj hjd
        rw [hold i this.1]; exact this
    · have hxx : at_ L x.2 = d := by
        by_cases q : x.2 = e.1
        · rw [hs, if_pos q] at hxd; omega
        · rwa [hs, if_neg q] at hxd
      rcases List.mem_append.1 hx with hx | hx
      · have := h.past x hx hxx
        rw [hold _ this]; exact this
      · obtain rfl : x = e := by simpa using hx
        rw [hs, if_pos rfl]; omega
  · rw [if_neg h0]
    refine ⟨h.len, h.zero, h.lo, h.near, h.bound, h.far, fun x hx hxd => ?_⟩
    rcases List.mem_append.1 hx with hx | hx
    · exact h.past x hx hxd
    · obtain rfl : x = e := by simpa using hx
      have := not_and.1 h0 hxd
      omega
theorem farR_fold {es : List Ed} {n t d : Nat} (hin : Ins n es) : ∀ (fs P : List Ed) (L : List Int), (∀ e ∈ fs, e ∈ es) → FarR es n t d P L → FarR es n t d (P ++ fs) (fs.foldl (farRow d) L)
  | [], P, L, _, h => by rw [List.append_nil]; exact h
  | e :: fs, P, L, hm, h => by
    have := farR_fold hin fs (P ++ [e]) _ (fun x hx => hm x (List.mem_cons_of_mem _ hx)) (farR_step hin (hm e List.mem_cons_self) h)
    rw [List.append_assoc] at this
    exact this
theorem far_phase {es : List Ed} {n t d : Nat} {L : List Int} (hin : Ins n es) (h : Far es n t d L) : Far es n t (d + 1) (es.foldl (farRow d) L) := by
  have h1 := farR_fold hin es [] L (fun _ => id) ⟨h.len, h.zero, h.lo, h.near, fun i => by have := h.bound i; omega, h.far, fun e he => by cases he⟩
  rw [List.nil_append] at h1
  refine ⟨h1.len, h1.zero, h1.lo, h1.near, fun i => by have := h1.bound i; omega, fun i j hij hj hjd => ?_⟩
  by_cases q : at_ (es.foldl (farRow d) L) j < d
  · exact h1.far i j hij hj q
  · have e : at_ (es.foldl (farRow d) L) j = d := by omega
    have := h1.past (i, j) hij e
    have hb := h1.bound i
    exact ⟨this, by omega⟩
theorem nodup_len {α : Type} [DecidableEq α] : ∀ {a b : List α}, a.Nodup → (∀ x ∈ a, x ∈ b) → a.length ≤ b.length
  | [], b, _, _ => Nat.zero_le _
  | x :: a, b, hn, hs => by
    rw [List.nodup_cons] at hn
    have h1 := nodup_len (b := b.erase x) hn.2 (fun y hy => (List.mem_erase_of_ne (fun e : y = x => hn.1 (by rw [← e]; exact hy))).2 (hs y (List.mem_cons_of_mem _ hy)))
    have h2 := List.length_erase_of_mem (hs x List.mem_cons_self)
    have h3 : 0 < b.length := List.length_pos_of_mem (hs x List.mem_cons_self)
    simp only [List.length_cons]
    omega
theorem far_all {es : List Ed} {n t d : Nat} {L : List Int} (h : Far es n t d L) : ∀ (v : Nat) (i : Nat), at_ L i = v → ∀ u : Nat, u ≤ v → ∃ j, at_ L j = u
  | 0, i, hi, u, hu => ⟨i, by omega⟩
  | v + 1, i, hi, u, hu => by
    by_cases e : u = v + 1
    · exact ⟨i, by omega⟩
    · by_cases q : i = t
      · subst q; rw [h.zero] at hi; omega
      · obtain ⟨_, j, _, e2⟩ := h.near i q (by omega)
        exact far_all h v j (by omega) u (by omega)
theorem far_ok {es : List Ed} {n t : Nat} (hin : Ins n es) (ht : t < n) : Dist es n t (farF es n t) := by
  have hs := start_at ht
  have key : ∀ d, Far es n t d ((List.range d).foldl (fun L d => es.foldl (farRow d) L) ((List.replicate n (-1)).set t 0)) := by
    intro d
    induction d with
    | zero =>
      refine ⟨by simp, by show at_ ((List.replicate n (-1)).set t 0) t = 0; rw [hs, if_pos rfl], fun i => by show -1 ≤ at_ ((List.replicate n (-1)).set t 0) i; rw [hs]; split <;> omega, fun i hi h => ?_, fun i => by show at_ ((List.replicate n (-1)).set t 0) i ≤ _; rw [hs]; split <;> omega, fun i j _ h1 h2 => by omega⟩
      have h : 0 ≤ at_ ((List.replicate n (-1)).set t 0) i := h
      rw [hs, if_neg hi] at h; omega
    | succ d ih =>
      rw [List.range_succ, List.foldl_append]
      exact far_phase hin ih
  have h := key n
  have hlt : ∀ i, at_ (farF es n t) i < n := fun i => by
    have hb := h.bound i
    refine Classical.byContradiction (fun hne => ?_)
    have e : at_ ((List.range n).foldl (fun L d => es.foldl (farRow d) L) ((List.replicate n (-1)).set t 0)) i = n := by
      have : ¬ at_ ((List.range n).foldl (fun L d => es.foldl (farRow d) L) ((List.replicate n (-1)).set t 0)) i < n := hne
      omega
    have hall := far_all h n i e
    have : ((List.range (n + 1)).map fun u : Nat => (u : Int)).length ≤ (farF es n t).length := nodup_len (by
      rw [List.nodup_iff_pairwise_ne, List.pairwise_map]
      exact (List.nodup_iff_pairwise_ne.1 List.nodup_range).imp (fun {a b} hab e => hab (by omega))) (fun x hx => by
        obtain ⟨u, hu, rfl⟩ := List.mem_map.1 hx
        obtain ⟨j, hj⟩ := hall u (by have := List.mem_range.1 hu; omega)
        have hj' : at_ (farF es n t) j = u := hj
        unfold at_ at hj'
        rw [List.getD_eq_getElem?_getD] at hj'
        cases hq : (farF es n t)[j]? with
        | none => rw [hq] at hj'; simp at hj'
        | some y => rw [hq] at hj'; rw [← hj']; exact List.mem_of_getElem? hq)
    have hl : (farF es n t).length = n := h.len
    simp [hl] at this
    omega
  exact ⟨h.len, h.zero, h.lo, h.near, fun i j hij hj => h.far i j hij hj (hlt j)⟩
theorem left_far {es : List Ed} {bf : Nat → List Nat} {n t : Nat} (hbf : ∀ i j, j ∈ bf i ↔ (j, i) ∈ es) (hin : Ins n es) (ht : t < n) : leftF bf n t = farF es n t := (left_ok hbf hin ht).unique (far_ok hin ht)
/-- From a node to the first one that is nearer, until t. -/
def pathF (adj : Nat → List Nat) (L : List Int) (t : Nat) : Nat → Nat → List Nat
  | 0, n => [n]
  | k + 1, n => n :: if n = t then [] else match (adj n).find? fun j => at_ L j == at_ L n - 1 with
    | some j => pathF adj L t k j
    | none => []
end Gr
end Go.Proofs.Yteiddebjbiadbaa
