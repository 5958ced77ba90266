/- Graphs, plain: visiting in depth. -/
import Derived.Test.YteiddebjbiadbaaGrA
namespace Go.Proofs.Yteiddebjbiadbaa
namespace Gr
/-- What is laid at a node: 0 for one that was not visited; beyond the end 1. -/
def val (g : List Nat) (i : Nat) : Nat := g.getD i 1
theorem val_lt {g : List Nat} {i : Nat} (h : val g i = 0) : i < g.length := by
  unfold val at h
  by_cases hi : i < g.length
  · exact hi
  · rw [List.getD_eq_getElem?_getD, List.getElem?_eq_none (by omega)] at h; cases h
theorem val_set {g : List Nat} {n c : Nat} (hn : n < g.length) (i : Nat) : val (g.set n c) i = if i = n then c else val g i := by
  unfold val
  simp only [List.getD_eq_getElem?_getD, List.getElem?_set]
  by_cases h : n = i
  · subst h; simp [hn]
  · simp [h, Ne.symm h]
def zeros (g : List Nat) : Nat := g.count 0
theorem zeros_set {g : List Nat} {n c : Nat} (h : val g n = 0) (hc : c ≠ 0) : zeros (g.set n c) + 1 = zeros g := by
  have hn := val_lt h
  unfold val at h
  rw [List.getD_eq_getElem?_getD, List.getElem?_eq_getElem hn, Option.getD_some] at h
  unfold zeros
  rw [List.count_set hn]
  have : 0 < g.count 0 := List.count_pos_iff.2 (h ▸ List.getElem_mem hn)
  simp [h, hc]
  omega
/-- The nodes behind n that were not visited are visited in depth; each is laid as c, and listed behind those that are visited from it. -/
def visitF (adj : Nat → List Nat) (c : Nat) : Nat → List Nat × List Nat → Nat → List Nat × List Nat
  | 0, st, _ => st
  | k + 1, st, n => if val st.1 n ≠ 0 then st else
      let r := (adj n).foldl (fun st m => visitF adj c k st m) (st.1.set n c, st.2)
      (r.1, r.2 ++ [n])
/-- A path through nodes of a kind. -/
inductive Via (adj : Nat → List Nat) (U : Nat → Prop) : Nat → Nat → Prop
  | here {a : Nat} : U a → Via adj U a a
  | step {a b c : Nat} : U a → b ∈ adj a → Via adj U b c → Via adj U a c
theorem Via.mono {adj : Nat → List Nat} {U U' : Nat → Prop} (hU : ∀ x, U x → U' x) {a b : Nat} (h : Via adj U a b) : Via adj U' a b := by
  induction h with
  | here h => exact .here (hU _ h)
  | step h e _ ih => exact .step (hU _ h) e ih
theorem Via.start {adj : Nat → List Nat} {U : Nat → Prop} {a b : Nat} (h : Via adj U a b) : U a := by cases h <;> assumption
theorem Via.stop {adj : Nat → List Nat} {U : Nat → Prop} {a b : Nat} (h : Via adj U a b) : U b := by
  induction h with
  | here h => exact h
  | step _ _ _ ih => exact ih
structure Vis (adj : Nat → List Nat) (c : Nat) (R : Nat → Prop) (g g' : List Nat) (l l' : List Nat) : Prop where
  len : g'.length = g.length
  old : ∀ i, val g i ≠ 0 → val g' i = val g i
  new : ∀ i, val g i = 0 → val g' i ≠ 0 → val g' i = c ∧ ∃ r, R r ∧ Via adj (fun x => val g x = 0) r i
  root : ∀ r, R r → val g' r ≠ 0
  shut : ∀ i, val g i = 0 → val g' i ≠ 0 → ∀ j ∈ adj i, val g' j ≠ 0
  fin : ∃ d, l' = l ++ d ∧ d.Nodup ∧ ∀ i, i ∈ d ↔ val g i = 0 ∧ val g' i ≠ 0
  zer : zeros g' ≤ zeros g
theorem Vis.seen {adj : Nat → List Nat} {c : Nat} {R : Nat → Prop} {g g' l l' : List Nat} (h : Vis adj c R g g' l l') {i : Nat} (hi : val g i ≠ 0) : val g' i ≠ 0 := by rw [h.old i hi]; exact hi
theorem Vis.nil {adj : Nat → List Nat} {c : Nat} {R : Nat → Prop} {g l : List Nat} (hR : ∀ r, R r → val g r ≠ 0) : Vis adj c R g g l l :=
  ⟨rfl, fun _ _ => rfl, fun i h k => absurd h k, hR, fun i h k => absurd h k, ⟨[], by simp, List.nodup_nil, fun i => by simp⟩, Nat.le_refl _⟩
theorem Vis.trans {adj : Nat → List Nat} {c : Nat} {R1 R2 : Nat → Prop} {g g1 g2 l l1 l2 : List Nat} (h : Vis adj c R1 g g1 l l1) (k : Vis adj c R2 g1 g2 l1 l2) : Vis adj c (fun r => R1 r ∨ R2 r) g g2 l l2 := by
  have hz : ∀ {x}, val g1 x = 0 → val g x = 0 := fun {x} hx => by
    by_cases hv : val g x = 0
    · exact hv
    · exact absurd hx (h.seen hv)
  refine ⟨k.len.trans h.len, fun i hi => ?_, fun i hi hi2 => ?_, fun r hr => ?_, fun i hi hi2 j hj => ?_, ?_, Nat.le_trans k.zer h.zer⟩
  · rw [k.old i (h.seen hi), h.old i hi]
  · by_cases h1 : val g1 i = 0
    · obtain ⟨e, r, hr, hv⟩ := k.new i h1 hi2
      exact ⟨e, r, .inr hr, hv.mono fun _ => hz⟩
    · obtain ⟨e, r, hr, hv⟩ := h.new i hi h1
      exact ⟨by rw [k.old i h1]; exact e, r, .inl hr, hv⟩
  · rcases hr with hr | hr
    · exact k.seen (h.root r hr)
    · exact k.root r hr
  · by_cases h1 : val g1 i = 0
    · exact k.shut i h1 hi2 j hj
    · exact k.seen (h.shut i hi h1 j hj)
  · obtain ⟨d1, e1, n1, m1⟩ := h.fin
    obtain ⟨d2, e2, n2, m2⟩ := k.fin
    refine ⟨d1 ++ d2, by rw [e2, e1, List.append_assoc], ?_, fun i => ?_⟩
    · rw [List.nodup_append]
      refine ⟨n1, n2, fun a ha b hb e => ?_⟩
      subst e
      exact ((m1 a).1 ha).2 ((m2 a).1 hb).1
    · rw [List.mem_append, m1, m2]
      constructor
      · rintro (⟨a, b⟩ | ⟨a, b⟩)
        · exact ⟨a, k.seen b⟩
        · exact ⟨hz a, b⟩
      · rintro ⟨a, b⟩
        by_cases h1 : val g1 i = 0
        · exact .inr ⟨h1, b⟩
        · exact .inl ⟨a, h1⟩
theorem Vis.roots {adj : Nat → List Nat} {c : Nat} {R R' : Nat → Prop} {g g' l l' : List Nat} (h : Vis adj c R g g' l l') (hR : ∀ r, R' r ↔ R r) : Vis adj c R' g g' l l' := by
  have : R' = R := funext fun r => propext (hR r)
  rw [this]; exact h
theorem fold_vis {adj : Nat → List Nat} {c k N : Nat} (hv : ∀ g l n, g.length = N → zeros g ≤ k → n < N → Vis adj c (· = n) g (visitF adj c k (g, l) n).1 l (visitF adj c k (g, l) n).2) :
    ∀ (ns : List Nat) (g l : List Nat), g.length = N → zeros g ≤ k → (∀ n ∈ ns, n < N) → Vis adj c (· ∈ ns) g (ns.foldl (fun st m => visitF adj c k st m) (g, l)).1 l (ns.foldl (fun st m => visitF adj c k st m) (g, l)).2
  | [], g, l, _, _, _ => Vis.nil (fun r hr => by cases hr)
  | n :: ns, g, l, hg, hz, hn => by
    have h1 := hv g l n hg hz (hn n List.mem_cons_self)
    have h2 := fold_vis hv ns _ (visitF adj c k (g, l) n).2 (h1.len.trans hg) (Nat.le_trans h1.zer hz) (fun m hm => hn m (List.mem_cons_of_mem _ hm))
    exact (h1.trans h2).roots (fun r => by simp)
theorem visit_vis {adj : Nat → List Nat} {c N : Nat} (hc : c ≠ 0) (ha : ∀ i, ∀ j ∈ adj i, j < N) : ∀ (k : Nat) (g l : List Nat) (n : Nat), g.length = N → zeros g ≤ k → n < N → Vis adj c (· = n) g (visitF adj c k (g, l) n).1 l (visitF adj c k (g, l) n).2
  | 0, g, l, n, hg, hz, hn => by
    refine Vis.nil (fun r hr => ?_)
    subst hr
    intro e
    have := zeros_set (c := 1) e (by decide)
    omega
  | k + 1, g, l, n, hg, hz, hn => by
    unfold visitF
    by_cases h0 : val g n = 0
    · rw [if_neg (by simpa using h0)]
      have hz1 := zeros_set h0 hc
      have hl1 : (g.set n c).length = N := by rw [List.length_set]; exact hg
      have h := fold_vis (visit_vis hc ha k) (adj n) (g.set n c) l hl1 (by omega) (ha n)
      revert h
      generalize (adj n).foldl (fun st m => visitF adj c k st m) (g.set n c, l) = r
      intro h
      have hs : ∀ i, val (g.set n c) i = if i = n then c else val g i := val_set (by omega)
      have hn1 : val (g.set n c) n = c := by rw [hs, if_pos rfl]
      have hn2 : val r.1 n = c := by rw [h.old n (by rw [hn1]; exact hc), hn1]
      have hz' : ∀ x, val (g.set n c) x = 0 → val g x = 0 := fun x hx => by
        rw [hs] at hx
        by_cases e : x = n
        · rw [e]; exact h0
        · rwa [if_neg e] at hx
      refine ⟨h.len.trans (List.length_set ..), fun i hi => ?_, fun i hi hi2 => ?_, fun q hq => ?_, fun i hi hi2 j hj => ?_, ?_, by have := h.zer; show zeros r.1 ≤ _; omega⟩
      · have hne : i ≠ n := fun e => hi (by rw [e]; exact h0)
        have h1 : val (g.set n c) i = val g i := by rw [hs, if_neg hne]
        show val r.1 i = _
        rw [h.old i (by rw [h1]; exact hi), h1]
      · by_cases e : i = n
        · subst e; exact ⟨hn2, i, rfl, .here h0⟩
        · have h1 : val (g.set n c) i = 0 := by rw [hs, if_neg e]; exact hi
          obtain ⟨e1, q, hq, hv⟩ := h.new i h1 hi2
          exact ⟨e1, n, rfl, .step h0 hq (hv.mono hz')⟩
      · subst hq; show val r.1 q ≠ 0; rw [hn2]; exact hc
      · by_cases e : i = n
        · subst e; exact h.root j hj
        · exact h.shut i (by rw [hs, if_neg e]; exact hi) hi2 j hj
      · obtain ⟨d, e1, n1, m1⟩ := h.fin
        refine ⟨d ++ [n], by show r.2 ++ [n] = _; rw [e1, List.append_assoc], ?_, fun i => ?_⟩
        · rw [List.nodup_append]
          refine ⟨n1, by simp, fun a ha b hb e => ?_⟩
          have hb : b = n := by simpa using hb
          subst e hb
          exact hc (hn1 ▸ ((m1 a).1 ha).1)
        · rw [List.mem_append, m1, List.mem_singleton]
          constructor
          · rintro (⟨a, b⟩ | e)
            · exact ⟨hz' i a, b⟩
            · subst e; exact ⟨h0, by show val r.1 i ≠ 0; rw [hn2]; exact hc⟩
          · rintro ⟨a, b⟩
            by_cases e : i = n
            · exact .inr e
            · exact .inl ⟨by rw [hs, if_neg e]; exact a, b⟩
    · rw [if_pos h0]
      exact Vis.nil (fun r hr => by subst hr; exact h0)
theorem visits_vis {adj : Nat → List Nat} {c N : Nat} (hc : c ≠ 0) (ha : ∀ i, ∀ j ∈ adj i, j < N) (k : Nat) (ns g l : List Nat) (hg : g.length = N) (hz : zeros g ≤ k) (hn : ∀ n ∈ ns, n < N) :
    Vis adj c (· ∈ ns) g (ns.foldl (fun st m => visitF adj c k st m) (g, l)).1 l (ns.foldl (fun st m => visitF adj c k st m) (g, l)).2 := fold_vis (visit_vis hc ha k) ns g l hg hz hn
theorem zeros_le (g : List Nat) : zeros g ≤ g.length := List.count_le_length
theorem val_rep (n i : Nat) : val (List.replicate n 0) i = if i < n then 0 else 1 := by
  unfold val
  by_cases h : i < n
  · rw [if_pos h, List.getD_eq_getElem?_getD, List.getElem?_eq_getElem (by simpa using h), Option.getD_some, List.getElem_replicate]
  · rw [if_neg h, List.getD_eq_getElem?_getD, List.getElem?_eq_none (by simpa using h), Option.getD_none]
/-- What is reached from some nodes along edges. -/
def reachedF (adj : Nat → List Nat) (n : Nat) (S : List Nat) : List Nat := (S.foldl (fun st m => visitF adj 1 n st m) (List.replicate n 0, [])).1
theorem reached_len {adj : Nat → List Nat} {n : Nat} (ha : ∀ i, ∀ j ∈ adj i, j < n) {S : List Nat} (hS : ∀ s ∈ S, s < n) : (reachedF adj n S).length = n :=
  (visits_vis (by decide) ha n S (List.replicate n 0) [] (by simp) (Nat.le_trans (zeros_le _) (by simp)) hS).len.trans (by simp)
theorem reached_iff {es : List Ed} {adj : Nat → List Nat} (hadj : ∀ i j, j ∈ adj i ↔ (i, j) ∈ es) {n : Nat} (hin : Ins n es) {S : List Nat} (hS : ∀ s ∈ S, s < n) {i : Nat} (hi : i < n) : val (reachedF adj n S) i ≠ 0 ↔ ∃ s ∈ S, Reach es s i := by
  have h := visits_vis (by decide : (1 : Nat) ≠ 0) (fun i j hj => (hin _ ((hadj i j).1 hj)).2) n S (List.replicate n 0) [] (by simp) (Nat.le_trans (zeros_le _) (by simp)) hS
  have h0 : ∀ i, i < n → val (List.replicate n 0) i = 0 := fun i hi => by rw [val_rep, if_pos hi]
  constructor
  · intro hv
    obtain ⟨-, r, hr, hp⟩ := h.new i (h0 i hi) hv
    refine ⟨r, hr, ?_⟩
    clear hr hv
    induction hp with
    | here _ => exact .refl _ _
    | step _ e _ ih => exact (Reach.edge ((hadj _ _).1 e)).trans (ih hi)
  · rintro ⟨s, hs, hr⟩
    refine closed_reach (P := fun a => val (reachedF adj n S) a ≠ 0) (fun a b e ha => ?_) hr (h.root s hs)
    exact h.shut a (h0 a (hin _ e).1) ha b ((hadj _ _).2 e)
end Gr
end Go.Proofs.Yteiddebjbiadbaa
