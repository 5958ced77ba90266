/- Graphs, plain: making a graph; its edges; reachability by the reference. -/
import Derived.Test.YteiddebjbiadbaaGrC
import Derived.Test.YteiddebjbiadbaaGrE
namespace Go.Proofs.Yteiddebjbiadbaa
namespace Gr
/-! ### Equal neighbours struck -/
section
variable {α : Type} [DecidableEq α]
def compactG (p : α) : List α → List α
  | [] => []
  | x :: xs => if x = p then compactG p xs else x :: compactG x xs
def compactL : List α → List α
  | [] => []
  | x :: xs => x :: compactG x xs
theorem mem_compactG : ∀ (xs : List α) (p e : α), e ∈ p :: compactG p xs ↔ e ∈ p :: xs
  | [], _, _ => Iff.rfl
  | x :: xs, p, e => by
    unfold compactG
    by_cases h : x = p
    · subst h
      rw [if_pos rfl, mem_compactG xs x e]
      simp only [List.mem_cons]
      constructor
      · rintro (q | q)
        · exact .inl q
        · exact .inr (.inr q)
      · rintro (q | q | q)
        · exact .inl q
        · exact .inl q
        · exact .inr q
    · rw [if_neg h, List.mem_cons, mem_compactG xs x e, List.mem_cons (l := x :: xs)]
theorem mem_compactL (l : List α) (e : α) : e ∈ compactL l ↔ e ∈ l := by
  cases l with
  | nil => exact Iff.rfl
  | cons x xs => exact mem_compactG xs x e
theorem compactG_snoc (x y : α) : ∀ (xs : List α) (p : α), (p :: xs).getLast? = some y → compactG p (xs ++ [x]) = compactG p xs ++ if x = y then [] else [x]
  | [], p, h => by
    obtain rfl : p = y := by simpa using h
    by_cases e : x = p
    · subst e; simp [compactG]
    · simp [compactG, e]
  | z :: xs, p, h => by
    have h' : (z :: xs).getLast? = some y := by rw [← h]; simp [List.getLast?_cons_cons]
    rw [List.cons_append]
    unfold compactG
    by_cases e : z = p
    · subst e
      rw [if_pos rfl, if_pos rfl]
      exact compactG_snoc x y xs z h'
    · rw [if_neg e, if_neg e, compactG_snoc x y xs z h']; rfl
theorem compactL_snoc (x y : α) {l : List α} (h : l.getLast? = some y) : compactL (l ++ [x]) = compactL l ++ if x = y then [] else [x] := by
  cases l with
  | nil => cases h
  | cons p xs =>
    show p :: compactG p (xs ++ [x]) = _
    rw [compactG_snoc x y xs p h]; rfl
theorem compactL_take {l : List α} {q : Nat} {x y : α} (hx : l[q + 1]? = some x) (hy : l[q]? = some y) : compactL (l.take (q + 1 + 1)) = compactL (l.take (q + 1)) ++ if x = y then [] else [x] := by
  have h1 : l.take (q + 1 + 1) = l.take (q + 1) ++ [x] := by rw [List.take_add_one, hx]; rfl
  rw [h1]
  refine compactL_snoc x y ?_
  rw [List.take_add_one, hy]
  simp
end
theorem compactL_map {α β : Type} [DecidableEq α] [DecidableEq β] (f : α → β) (hf : ∀ a b, f a = f b → a = b) (l : List α) : compactL (l.map f) = (compactL l).map f := by
  have gen : ∀ (xs : List α) (p : α), compactG (f p) (xs.map f) = (compactG p xs).map f := by
    intro xs
    induction xs with
    | nil => intro p; rfl
    | cons x xs ih =>
      intro p
      rw [List.map_cons]
      unfold compactG
      by_cases e : x = p
      · subst e; rw [if_pos rfl, if_pos rfl]; exact ih x
      · rw [if_neg (fun q => e (hf _ _ q)), if_neg e, List.map_cons, ih x]
  cases l with
  | nil => rfl
  | cons x xs => show f x :: _ = _; rw [gen]; rfl
theorem norm_compactG : ∀ (xs : List Ed) (p : Ed), (p :: xs).Pairwise (fun a b => ¬ ltE b a) → Norm (p :: compactG p xs)
  | [], p, _ => List.pairwise_singleton _ _
  | x :: xs, p, h => by
    have h1 := List.pairwise_cons.1 h
    unfold compactG
    by_cases e : x = p
    · subst e
      rw [if_pos rfl]
      exact norm_compactG xs x h1.2
    · rw [if_neg e]
      have ih := norm_compactG xs x h1.2
      refine List.pairwise_cons.2 ⟨fun y hy => ?_, ih⟩
      have hpx : ltE p x := ((ltE_tri p x).resolve_right (fun q => q.elim (fun q => e q.symm) (fun q => h1.1 x List.mem_cons_self q)))
      rcases List.mem_cons.1 hy with q | q
      · rw [q]; exact hpx
      · exact ltE_trans hpx ((List.pairwise_cons.1 ih).1 y q)
theorem norm_compactL {l : List Ed} (h : l.Pairwise (fun a b => ¬ ltE b a)) : Norm (compactL l) := by
  cases l with
  | nil => exact List.Pairwise.nil
  | cons x xs => exact norm_compactG xs x h
/-! ### Insertion -/
def insE (es : List Ed) (e : Ed) : List Ed :=
  let k := (es.takeWhile fun x => decide (ltE x e)).length
  if es[k]? = some e then es else es.take k ++ e :: es.drop k
theorem ins_split (es : List Ed) (e : Ed) : es.take (es.takeWhile fun x => decide (ltE x e)).length = es.takeWhile (fun x => decide (ltE x e)) ∧ es.drop (es.takeWhile fun x => decide (ltE x e)).length = es.dropWhile (fun x => decide (ltE x e)) := by
  have h := List.takeWhile_append_dropWhile (p := fun x => decide (ltE x e)) (l := es)
  constructor
  · conv => lhs; arg 2; rw [← h]
    rw [List.take_append_of_le_length (Nat.le_refl _), List.take_length]
  · conv => lhs; arg 2; rw [← h]
    rw [List.drop_append_of_le_length (Nat.le_refl _), List.drop_length, List.nil_append]
theorem ins_ok {es : List Ed} (h : Norm es) (e : Ed) : Norm (insE es e) ∧ ∀ x, x ∈ insE es e ↔ x = e ∨ x ∈ es := by
  unfold insE
  dsimp only
  obtain ⟨h1, h2⟩ := ins_split es e
  split
  · rename_i hk
    refine ⟨h, fun x => ⟨.inr, fun q => q.elim (fun q => ?_) id⟩⟩
    rw [q]; exact List.mem_of_getElem? hk
  · rename_i hk
    rw [h1, h2]
    have hs := List.takeWhile_append_dropWhile (p := fun x => decide (ltE x e)) (l := es)
    have hlt : ∀ x ∈ es.takeWhile (fun x => decide (ltE x e)), ltE x e := fun x hx => by
      have : ∀ {l : List Ed}, x ∈ l.takeWhile (fun x => decide (ltE x e)) → ltE x e := fun {l} => by
        induction l with
        | nil => intro h; simp at h
        | cons a l ih =>
          rw [List.takeWhile_cons]
          split
          · rename_i ha
            intro hx
            rcases List.mem_cons.1 hx with q | q
            · rw [q]; exact of_decide_eq_true ha
            · exact ih q
          · intro h; simp at h
      exact this hx
    have hgt : ∀ x ∈ es.dropWhile (fun x => decide (ltE x e)), ltE e x := by
      have hd : (es.dropWhile (fun x => decide (ltE x e))) = [] ∨ ∃ y ys, es.dropWhile (fun x => decide (ltE x e)) = y :: ys ∧ ¬ ltE y e := by
        generalize es = l
        induction l with
        | nil => exact .inl rfl
        | cons a l ih =>
          rw [List.dropWhile_cons]
          split
          · exact ih
          · rename_i ha
            exact .inr ⟨a, l, rfl, fun q => ha (decide_eq_true q)⟩
      intro x hx
      rcases hd with hd | ⟨y, ys, hd, hy⟩
      · rw [hd] at hx; simp at hx
      · have hye : y ≠ e := fun q => hk (by
          rw [← List.head?_drop, h2, hd, q]; rfl)
        have hey : ltE e y := ((ltE_tri e y).resolve_right (fun q => q.elim (fun q => hye q.symm) hy))
        rw [hd] at hx
        rcases List.mem_cons.1 hx with q | q
        · rw [q]; exact hey
        · have hn : Norm (y :: ys) := by
            rw [← hd]
            exact List.Pairwise.sublist (List.dropWhile_sublist _) h
          exact ltE_trans hey ((List.pairwise_cons.1 hn).1 x q)
    refine ⟨?_, fun x => ?_⟩
    · unfold Norm
      rw [List.pairwise_append]
      refine ⟨List.Pairwise.sublist (List.takeWhile_sublist _) h, List.pairwise_cons.2 ⟨hgt, List.Pairwise.sublist (List.dropWhile_sublist _) h⟩, fun a ha b hb => ?_⟩
      rcases List.mem_cons.1 hb with q | q
      · rw [q]; exact hlt a ha
      · exact ltE_trans (hlt a ha) (hgt b q)
    · have : x ∈ es ↔ x ∈ es.takeWhile (fun x => decide (ltE x e)) ∨ x ∈ es.dropWhile (fun x => decide (ltE x e)) := by
        conv => lhs; rw [← hs]
        exact List.mem_append
      rw [this, List.mem_append, List.mem_cons]
      constructor
      · rintro (q | q | q)
        · exact .inr (.inl q)
        · exact .inl q
        · exact .inr (.inr q)
      · rintro (q | q | q)
        · exact .inr (.inl q)
        · exact .inl q
        · exact .inr (.inr q)
def refNew (l : List Ed) : List Ed := l.foldl insE []
theorem refNew_ok (l : List Ed) : Norm (refNew l) ∧ ∀ e, e ∈ refNew l ↔ e ∈ l := by
  have gen : ∀ (l es : List Ed), Norm es → Norm (l.foldl insE es) ∧ ∀ e, e ∈ l.foldl insE es ↔ e ∈ l ∨ e ∈ es := by
    intro l
    induction l with
    | nil => intro es h; exact ⟨h, fun e => by simp⟩
    | cons x l ih =>
      intro es h
      obtain ⟨h1, h2⟩ := ins_ok h x
      obtain ⟨h3, h4⟩ := ih _ h1
      refine ⟨h3, fun e => ?_⟩
      rw [List.foldl_cons, h4, h2, List.mem_cons]
      constructor
      · rintro (q | q | q)
        · exact .inl (.inr q)
        · exact .inl (.inl q)
        · exact .inr q
      · rintro ((q | q) | q)
        · exact .inr (.inl q)
        · exact .inl q
        · exact .inr (.inr q)
  obtain ⟨h1, h2⟩ := gen l [] List.Pairwise.nil
  exact ⟨h1, fun e => by unfold refNew; rw [h2]; simp⟩
/-- Sorted and without equal neighbours: as by insertion. -/
theorem compact_ref {l s : List Ed} (hs : s.Pairwise (fun a b => ¬ ltE b a)) (hp : ∀ e, e ∈ s ↔ e ∈ l) : compactL s = refNew l :=
  norm_unique (norm_compactL hs) (refNew_ok l).1 (fun e => by rw [mem_compactL, hp, (refNew_ok l).2])
theorem refNew_norm {es : List Ed} (h : Norm es) : refNew es = es := norm_unique (refNew_ok es).1 h (refNew_ok es).2
theorem refNew_ins {l : List Ed} {n : Nat} (h : Ins n l) : Ins n (refNew l) := fun e he => h e (((refNew_ok l).2 e).1 he)
/-! ### The edges of a graph, row by row -/
def edgesF (A : Nat → List Nat) (n : Nat) : List Ed := (List.range n).flatMap fun i => (A i).map fun j => (i, j)
theorem mem_edgesF {A : Nat → List Nat} {n : Nat} {e : Ed} : e ∈ edgesF A n ↔ e.1 < n ∧ e.2 ∈ A e.1 := by
  unfold edgesF
  simp only [List.mem_flatMap, List.mem_range, List.mem_map]
  constructor
  · rintro ⟨i, hi, j, hj, rfl⟩; exact ⟨hi, hj⟩
  · rintro ⟨h1, h2⟩; exact ⟨e.1, h1, e.2, h2, rfl⟩
theorem edgesF_succ (A : Nat → List Nat) (n : Nat) : edgesF A (n + 1) = edgesF A n ++ (A n).map fun j => (n, j) := by
  unfold edgesF; rw [List.range_succ, List.flatMap_append]; simp
theorem norm_edgesF {A : Nat → List Nat} (hA : ∀ i, (A i).Pairwise (· < ·)) (n : Nat) : Norm (edgesF A n) := by
  induction n with
  | zero => exact List.Pairwise.nil
  | succ n ih =>
    rw [edgesF_succ]
    unfold Norm at *
    rw [List.pairwise_append]
    refine ⟨ih, ?_, fun a ha b hb => ?_⟩
    · rw [List.pairwise_map]
      exact (hA n).imp (fun h => .inr ⟨rfl, h⟩)
    · obtain ⟨j, _, rfl⟩ := List.mem_map.1 hb
      exact .inl (mem_edgesF.1 ha).1
theorem edges_aft {es : List Ed} {n : Nat} (h : Norm es) (hin : Ins n es) : edgesF (aft es) n = es :=
  norm_unique (norm_edgesF (aft_sort h) n) h (fun e => by
    rw [mem_edgesF, mem_aft]
    exact ⟨fun q => q.2, fun q => ⟨(hin e q).1, q⟩⟩)
theorem edges_bef {es : List Ed} {n : Nat} (h : Norm es) (hin : Ins n es) : edgesF (bef es) n = refNew (turn es) :=
  norm_unique (norm_edgesF (bef_sort h) n) (refNew_ok _).1 (fun e => by
    rw [mem_edgesF, mem_bef, (refNew_ok _).2]
    obtain ⟨a, b⟩ := e
    rw [mem_turn]
    exact ⟨fun q => q.2, fun q => ⟨(hin _ q).2, q⟩⟩)
theorem aft_turn {es fs : List Ed} (h : Norm es) (hf : Norm fs) (ht : ∀ a b, (a, b) ∈ fs ↔ (b, a) ∈ es) (i : Nat) : aft fs i = bef es i := by
  have key : ∀ {x y : List Nat}, x.Pairwise (· < ·) → y.Pairwise (· < ·) → (∀ j, j ∈ x ↔ j ∈ y) → x = y := fun {x} => by
    induction x with
    | nil =>
      intro y _ _ h
      cases y with
      | nil => rfl
      | cons b y => exact absurd ((h b).2 List.mem_cons_self) (by simp)
    | cons a x ih =>
      intro y hx hy h
      cases y with
      | nil => exact absurd ((h a).1 List.mem_cons_self) (by simp)
      | cons b y =>
        have hx' := List.pairwise_cons.1 hx
        have hy' := List.pairwise_cons.1 hy
        have hab : a = b := by
          rcases List.mem_cons.1 ((h a).1 List.mem_cons_self) with e | e
          · exact e
          · rcases List.mem_cons.1 ((h b).2 List.mem_cons_self) with k | k
            · exact k.symm
            · have := hx'.1 b k; have := hy'.1 a e; omega
        subst hab
        refine congrArg (a :: ·) (ih hx'.2 hy'.2 (fun j => ⟨fun k => ?_, fun k => ?_⟩))
        · rcases List.mem_cons.1 ((h j).1 (List.mem_cons_of_mem _ k)) with q | q
          · subst q; exact absurd (hx'.1 _ k) (by omega)
          · exact q
        · rcases List.mem_cons.1 ((h j).2 (List.mem_cons_of_mem _ k)) with q | q
          · subst q; exact absurd (hy'.1 _ k) (by omega)
          · exact q
  exact key (aft_sort hf i) (bef_sort h i) (fun j => by rw [mem_aft, mem_bef, ht])
/-- Graphs with the same nodes behind each node have the same edges. -/
theorem eq_of_aft {es fs : List Ed} {n : Nat} (h : Norm es) (hf : Norm fs) (hi : Ins n es) (hj : Ins n fs) (ha : ∀ i, i < n → aft es i = aft fs i) : es = fs :=
  norm_unique h hf (fun e => ⟨fun q => by have := mem_aft.2 (show (e.1, e.2) ∈ es from q); rw [ha _ (hi e q).1] at this; exact mem_aft.1 this,
    fun q => by have := mem_aft.2 (show (e.1, e.2) ∈ fs from q); rw [← ha _ (hj e q).1] at this; exact mem_aft.1 this⟩)
/-! ### Marks until nothing changes -/
def markRow (st : List Nat × Bool) (e : Ed) : List Nat × Bool := if val st.1 e.1 ≠ 0 ∧ val st.1 e.2 = 0 then (st.1.set e.2 1, true) else st
def marksF (es : List Ed) : Nat → List Nat → List Nat
  | 0, m => m
  | k + 1, m => if (es.foldl markRow (m, false)).2 = true then marksF es k (es.foldl markRow (m, false)).1 else (es.foldl markRow (m, false)).1
def startF (n : Nat) (S : List Nat) : List Nat := S.foldl (fun m s => m.set s 1) (List.replicate n 0)
structure Mk (es : List Ed) (n : Nat) (S : List Nat) (m : List Nat) : Prop where
  len : m.length = n
  root : ∀ s ∈ S, val m s ≠ 0
  back : ∀ i, i < n → val m i ≠ 0 → ∃ s ∈ S, Reach es s i
theorem mark_fold {es : List Ed} {n : Nat} {S : List Nat} (hin : Ins n es) : ∀ (fs : List Ed) (m : List Nat) (c : Bool), (∀ e ∈ fs, e ∈ es) → Mk es n S m →
    Mk es n S (fs.foldl markRow (m, c)).1 ∧ ((fs.foldl markRow (m, c)).2 = c ∧ (fs.foldl markRow (m, c)).1 = m ∧ (∀ e ∈ fs, val m e.1 ≠ 0 → val m e.2 ≠ 0) ∨ (fs.foldl markRow (m, c)).2 = true ∧ zeros (fs.foldl markRow (m, c)).1 < zeros m)
  | [], m, c, _, h => ⟨h, .inl ⟨rfl, rfl, fun e he => by cases he⟩⟩
  | e :: fs, m, c, hm, h => by
    rw [List.foldl_cons]
    have hee := hm e List.mem_cons_self
    by_cases h0 : val m e.1 ≠ 0 ∧ val m e.2 = 0
    · have e1 : markRow (m, c) e = (m.set e.2 1, true) := by unfold markRow; rw [if_pos h0]
      rw [e1]
      have hs : ∀ i, val (m.set e.2 1) i = if i = e.2 then 1 else val m i := val_set (val_lt h0.2)
      have hz := zeros_set (c := 1) h0.2 (by decide)
      obtain ⟨h1, h2⟩ := mark_fold hin fs (m.set e.2 1) true (fun x hx => hm x (List.mem_cons_of_mem _ hx)) ⟨by rw [List.length_set]; exact h.len, fun s hs' => by
        rw [hs]
        by_cases q : s = e.2
        · rw [if_pos q]; decide
        · rw [if_neg q]; exact h.root s hs', fun i hi hv => by
        rw [hs] at hv
        by_cases q : i = e.2
        · obtain ⟨s, hs1, hs2⟩ := h.back e.1 (hin e hee).1 h0.1
          exact ⟨s, hs1, hs2.trans (by rw [q]; exact .edge hee)⟩
        · rw [if_neg q] at hv; exact h.back i hi hv⟩
      refine ⟨h1, .inr ?_⟩
      rcases h2 with ⟨a, b, _⟩ | ⟨a, b⟩
      · exact ⟨a, by rw [b]; omega⟩
      · exact ⟨a, by omega⟩
    · have e1 : markRow (m, c) e = (m, c) := by unfold markRow; rw [if_neg h0]
      rw [e1]
      obtain ⟨h1, h2⟩ := mark_fold hin fs m c (fun x hx => hm x (List.mem_cons_of_mem _ hx)) h
      refine ⟨h1, h2.imp (fun ⟨a, b, d⟩ => ⟨a, b, fun x hx hv => ?_⟩) id⟩
      rcases List.mem_cons.1 hx with q | q
      · subst q; exact fun k => h0 ⟨hv, k⟩
      · exact d x q hv
theorem marks_ok {es : List Ed} {n : Nat} {S : List Nat} (hin : Ins n es) : ∀ (k : Nat) (m : List Nat), zeros m < k → Mk es n S m → (marksF es k m).length = n ∧ ∀ i, i < n → (val (marksF es k m) i ≠ 0 ↔ ∃ s ∈ S, Reach es s i)
  | 0, m, hz, _ => by omega
  | k + 1, m, hz, h => by
    obtain ⟨h1, h2⟩ := mark_fold hin es m false (fun _ => id) h
    unfold marksF
    by_cases q : (es.foldl markRow (m, false)).2 = true
    · rw [if_pos q]
      rcases h2 with ⟨a, _⟩ | ⟨_, b⟩
      · rw [a] at q; cases q
      · exact marks_ok hin k _ (by omega) h1
    · rw [if_neg q]
      rcases h2 with ⟨_, b, d⟩ | ⟨a, _⟩
      · rw [b]
        refine ⟨h.len, fun i hi => ⟨h.back i hi, ?_⟩⟩
        rintro ⟨s, hs, hr⟩
        exact closed_reach (P := fun x => val m x ≠ 0) (fun a b hab ha => d (a, b) hab ha) hr (h.root s hs)
      · exact absurd a q
theorem start_ok {es : List Ed} {n : Nat} {S : List Nat} (hS : ∀ s ∈ S, s < n) : Mk es n S (startF n S) := by
  have gen : ∀ (T : List Nat) (m : List Nat), (∀ s ∈ T, s < n) → m.length = n → (T.foldl (fun m s => m.set s 1) m).length = n ∧ ∀ i, val (T.foldl (fun m s => m.set s 1) m) i ≠ 0 ↔ i ∈ T ∨ val m i ≠ 0 := by
    intro T
    induction T with
    | nil => intro m _ hl; exact ⟨hl, fun i => by simp⟩
    | cons t T ih =>
      intro m hT hl
      obtain ⟨h1, h2⟩ := ih (m.set t 1) (fun s hs => hT s (List.mem_cons_of_mem _ hs)) (by rw [List.length_set]; exact hl)
      refine ⟨h1, fun i => ?_⟩
      rw [List.foldl_cons, h2, val_set (by rw [hl]; exact hT t List.mem_cons_self)]
      by_cases q : i = t
      · simp [q]
      · simp [q]
  obtain ⟨h1, h2⟩ := gen S (List.replicate n 0) hS (by simp)
  refine ⟨h1, fun s hs => (h2 s).2 (.inl hs), fun i hi hv => ?_⟩
  rcases (h2 i).1 hv with q | q
  · exact ⟨i, q, .refl _ _⟩
  · rw [val_rep, if_pos hi] at q; exact absurd rfl q
end Gr
end Go.Proofs.Yteiddebjbiadbaa
