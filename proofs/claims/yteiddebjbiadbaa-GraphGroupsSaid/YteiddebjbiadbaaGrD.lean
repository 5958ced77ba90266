/- Graphs, plain: groups as lists, in the order of their first nodes. -/
import Derived.Test.YteiddebjbiadbaaGrC
namespace Go.Proofs.Yteiddebjbiadbaa
namespace Gr
/-- The nodes below m that are the first ones of their groups. -/
def reps (R : Nat → Nat → Bool) (m : Nat) : List Nat := (List.range m).filter fun i => !(List.range i).any fun j => R j i
def classesF (n : Nat) (R : Nat → Nat → Bool) : List (List Nat) := (reps R n).map fun i => (List.range n).filter (R i)
def asmStep (g : List Nat) (st : List Nat × List (List Nat)) (i : Nat) : List Nat × List (List Nat) :=
  let v := g.getD i 0
  let st1 := if st.1.getD v 0 = 0 then (st.1.set v (st.2.length + 1), st.2 ++ [[]]) else st
  let at' := st1.1.getD v 0 - 1
  (st1.1, st1.2.set at' (st1.2.getD at' [] ++ [i]))
def asmF (g : List Nat) (c : Nat) : List (List Nat) := ((List.range g.length).foldl (asmStep g) (List.replicate (c + 1) 0, [])).2
theorem reps_succ (R : Nat → Nat → Bool) (m : Nat) : reps R (m + 1) = reps R m ++ if (List.range m).any (fun j => R j m) then [] else [m] := by
  unfold reps
  rw [List.range_succ, List.filter_append]
  by_cases h : (List.range m).any (fun j => R j m) = true
  · rw [if_pos h]; simp only [List.filter_cons, h]; rfl
  · rw [if_neg h]; simp only [List.filter_cons, Bool.eq_false_iff.2 h]; rfl
theorem mem_reps {R : Nat → Nat → Bool} {m i : Nat} : i ∈ reps R m ↔ i < m ∧ ∀ j, j < i → R j i = false := by
  unfold reps
  simp only [List.mem_filter, List.mem_range, Bool.not_eq_true', List.any_eq_false, Bool.not_eq_true]
/-- By the value laid at a node. -/
def byVal (g : List Nat) (i j : Nat) : Bool := g.getD i 0 == g.getD j 0
structure Asm (g : List Nat) (c m : Nat) (st : List Nat × List (List Nat)) : Prop where
  pl : st.1.length = c + 1
  ls : st.2 = (reps (byVal g) m).map fun i => (List.range m).filter (byVal g i)
  no : ∀ v, v ≤ c → (∀ i, i < m → g.getD i 0 ≠ v) → st.1.getD v 0 = 0
  yes : ∀ i, i < m → ∃ k r, st.1.getD (g.getD i 0) 0 = k + 1 ∧ (reps (byVal g) m)[k]? = some r ∧ g.getD r 0 = g.getD i 0
theorem getD_set (l : List Nat) (i j x : Nat) (hi : i < l.length) : (l.set i x).getD j 0 = if j = i then x else l.getD j 0 := by
  simp only [List.getD_eq_getElem?_getD, List.getElem?_set]
  by_cases h : i = j
  · subst h; simp [hi]
  · simp [h, Ne.symm h]
theorem reps_inj {g : List Nat} {m r s : Nat} (hr : r ∈ reps (byVal g) m) (hs : s ∈ reps (byVal g) m) (h : g.getD r 0 = g.getD s 0) : r = s := by
  have h1 := (mem_reps.1 hr).2
  have h2 := (mem_reps.1 hs).2
  rcases Nat.lt_trichotomy r s with q | q | q
  · have := h2 r q; unfold byVal at this; rw [h] at this; simp at this
  · exact q
  · have := h1 s q; unfold byVal at this; rw [h] at this; simp at this
theorem asm_step {g : List Nat} {c m : Nat} {st : List Nat × List (List Nat)} (hm : m < g.length) (hc : ∀ i, i < g.length → g.getD i 0 ≤ c) (h : Asm g c m st) : Asm g c (m + 1) (asmStep g st m) := by
  obtain ⟨pl, ls⟩ := st
  have hpl : pl.length = c + 1 := h.pl
  have hls : ls = (reps (byVal g) m).map fun i => (List.range m).filter (byVal g i) := h.ls
  have hno : ∀ v, v ≤ c → (∀ i, i < m → g.getD i 0 ≠ v) → pl.getD v 0 = 0 := h.no
  have hyes : ∀ i, i < m → ∃ k r, pl.getD (g.getD i 0) 0 = k + 1 ∧ (reps (byVal g) m)[k]? = some r ∧ g.getD r 0 = g.getD i 0 := h.yes
  clear h
  have hv := hc m hm
  unfold asmStep
  dsimp only
  by_cases hex : ∃ i, i < m ∧ g.getD i 0 = g.getD m 0
  · obtain ⟨i, hi, hiv⟩ := hex
    obtain ⟨k, r, hk, hr, hrv⟩ := hyes i hi
    rw [hiv] at hk hrv
    rw [if_neg (by rw [hk]; omega)]
    rw [hk]
    have hany : (List.range m).any (fun j => byVal g j m) = true := List.any_eq_true.2 ⟨i, List.mem_range.2 hi, by unfold byVal; rw [hiv]; simp⟩
    have hrep : reps (byVal g) (m + 1) = reps (byVal g) m := by rw [reps_succ, if_pos hany, List.append_nil]
    have hlk : ls[k]? = some ((List.range m).filter (byVal g r)) := by rw [hls, List.getElem?_map, hr]; rfl
    refine ⟨hpl, ?_, fun v hv' hn => hno v hv' (fun j hj => hn j (by omega)), fun j hj => ?_⟩
    · dsimp only
      rw [show k + 1 - 1 = k by omega, hrep, List.getD_eq_getElem?_getD, hlk]
      apply List.ext_getElem?
      intro q
      rw [List.getElem?_set, List.getElem?_map]
      have hkl : k < ls.length := (List.getElem?_eq_some_iff.1 hlk).1
      by_cases hqk : k = q
      · subst hqk
        rw [if_pos rfl, if_pos hkl, hr]
        simp only [Option.map_some, Option.getD_some, Option.some.injEq]
        rw [List.range_succ, List.filter_append]
        have hb : byVal g r m = true := by unfold byVal; rw [hrv]; exact beq_self_eq_true _
        simp [hb]
      · rw [if_neg hqk, hls, List.getElem?_map]
        cases hq : (reps (byVal g) m)[q]? with
        | none => rfl
        | some s =>
          simp only [Option.map_some, Option.some.injEq]
          rw [List.range_succ, List.filter_append]
          have hsne : byVal g s m = false := by
            unfold byVal
            rw [beq_eq_false_iff_ne]
            intro e
            have hsr := reps_inj (List.mem_of_getElem? hq) (List.mem_of_getElem? hr) (e.trans hrv.symm)
            subst hsr
            have hnd : (reps (byVal g) m).Nodup := List.Nodup.sublist List.filter_sublist List.nodup_range
            have h1 := List.getElem?_eq_some_iff.1 hq
            have h2 := List.getElem?_eq_some_iff.1 hr
            exact hqk (((List.getElem_inj hnd).1 (h2.2.trans h1.2.symm)))
          simp [hsne]
    · rw [hrep]
      by_cases hjm : j = m
      · subst hjm; exact ⟨k, r, hk, hr, hrv⟩
      · exact hyes j (by omega)
  · have hex : ∀ i, i < m → g.getD i 0 ≠ g.getD m 0 := fun i hi e => hex ⟨i, hi, e⟩
    rw [if_pos (hno _ hv hex)]
    have hany : ¬ (List.range m).any (fun j => byVal g j m) = true := fun hh => by
      obtain ⟨j, hj, e⟩ := List.any_eq_true.1 hh
      exact hex j (List.mem_range.1 hj) (by simpa [byVal] using e)
    have hrep : reps (byVal g) (m + 1) = reps (byVal g) m ++ [m] := by rw [reps_succ, if_neg hany]
    have hll : ls.length = (reps (byVal g) m).length := by rw [hls, List.length_map]
    have hgs := getD_set pl (g.getD m 0) (g.getD m 0) (ls.length + 1) (by omega)
    rw [if_pos rfl] at hgs
    dsimp only
    rw [hgs]
    refine ⟨by simp [hpl], ?_, fun v hv' hn => ?_, fun j hj => ?_⟩
    · dsimp only
      rw [show ls.length + 1 - 1 = ls.length by omega, hrep, List.map_append]
      have e1 : (ls ++ [[]]).getD ls.length [] = ([] : List Nat) := by simp [List.getD_eq_getElem?_getD]
      rw [e1, List.set_append_right _ _ (Nat.le_refl _), Nat.sub_self]
      have e2 : ls = (reps (byVal g) m).map (fun i => (List.range (m + 1)).filter (byVal g i)) := by
        rw [hls]
        refine List.map_congr_left (fun s hs => ?_)
        rw [List.range_succ, List.filter_append]
        have : byVal g s m = false := by unfold byVal; rw [beq_eq_false_iff_ne]; exact hex s (mem_reps.1 hs).1
        simp [this]
      have e3 : (List.range (m + 1)).filter (byVal g m) = [m] := by
        rw [List.range_succ, List.filter_append]
        have : (List.range m).filter (byVal g m) = [] := by
          rw [List.filter_eq_nil_iff]
          intro a ha
          have hb : byVal g m a = false := by unfold byVal; rw [beq_eq_false_iff_ne]; exact Ne.symm (hex a (List.mem_range.1 ha))
          rw [hb]; decide
        rw [this]; simp [byVal]
      simp only [List.nil_append, List.map_cons, List.map_nil, e3, List.set_cons_zero]
      rw [← e2]
    · dsimp only
      rw [getD_set _ _ _ _ (by omega), if_neg (fun e => hn m (by omega) e.symm)]
      exact hno v hv' (fun j hj => hn j (by omega))
    · dsimp only
      rw [hrep]
      by_cases hjm : j = m
      · subst hjm
        exact ⟨ls.length, j, hgs, by rw [hll]; simp, rfl⟩
      · obtain ⟨k, r, hk, hr, hrv⟩ := hyes j (by omega)
        refine ⟨k, r, ?_, ?_, hrv⟩
        · rw [getD_set _ _ _ _ (by omega), if_neg (hex j (by omega))]; exact hk
        · rw [List.getElem?_append_left (List.getElem?_eq_some_iff.1 hr).1]; exact hr
theorem asm_ok {g : List Nat} {c : Nat} (hc : ∀ i, i < g.length → g.getD i 0 ≤ c) : asmF g c = classesF g.length (byVal g) := by
  have key : ∀ m, m ≤ g.length → Asm g c m ((List.range m).foldl (asmStep g) (List.replicate (c + 1) 0, [])) := by
    intro m
    induction m with
    | zero =>
      intro _
      refine ⟨by simp, by simp [reps], fun v hv _ => ?_, fun i hi => by omega⟩
      simp [List.getD_eq_getElem?_getD, List.getElem?_replicate]
      split <;> rfl
    | succ m ih =>
      intro hm
      rw [List.range_succ, List.foldl_append]
      exact asm_step (by omega) hc (ih (by omega))
  exact (key g.length (Nat.le_refl _)).ls
theorem classes_congr {n : Nat} {R R' : Nat → Nat → Bool} (h : ∀ i j, i < n → j < n → R i j = R' i j) : classesF n R = classesF n R' := by
  unfold classesF
  have e : reps R n = reps R' n := by
    unfold reps
    refine List.filter_congr (fun i hi => ?_)
    rw [List.mem_range] at hi
    congr 1
    rw [Bool.eq_iff_iff, List.any_eq_true, List.any_eq_true]
    constructor
    · rintro ⟨j, hj, k⟩; exact ⟨j, hj, by rw [← h j i (by have := List.mem_range.1 hj; omega) hi]; exact k⟩
    · rintro ⟨j, hj, k⟩; exact ⟨j, hj, by rw [h j i (by have := List.mem_range.1 hj; omega) hi]; exact k⟩
  rw [e]
  refine List.map_congr_left (fun i hi => List.filter_congr (fun j hj => h i j (mem_reps.1 hi).1 (List.mem_range.1 hj)))
/-- The groups of nodes on common cycles, by visits in depth. -/
def componentsF (adj bf : Nat → List Nat) (n : Nat) : List (List Nat) := asmF (groupsF bf n (finishedF adj n)).1 (groupsF bf n (finishedF adj n)).2
theorem components_ok {es : List Ed} {adj bf : Nat → List Nat} {n : Nat} (hadj : ∀ i j, j ∈ adj i ↔ (i, j) ∈ es) (hbf : ∀ i j, j ∈ bf i ↔ (j, i) ∈ es) (hin : Ins n es) (R : Nat → Nat → Bool) (hR : ∀ i j, i < n → j < n → (R i j = true ↔ Mut es i j)) :
    componentsF adj bf n = classesF n R := by
  obtain ⟨hg, hnz⟩ := groups_ok hadj hbf hin
  unfold componentsF
  generalize groupsF bf n (finishedF adj n) = r at hg hnz
  have hv : ∀ i, i < n → r.1.getD i 0 = val r.1 i := fun i hi => by
    unfold val
    rw [List.getD_eq_getElem?_getD, List.getD_eq_getElem?_getD, List.getElem?_eq_getElem (by rw [hg.len]; exact hi)]
    rfl
  rw [asm_ok (fun i hi => by rw [hg.len] at hi; rw [hv i hi]; exact hg.le i hi), hg.len]
  refine classes_congr (fun i j hi hj => ?_)
  rw [Bool.eq_iff_iff, hR i j hi hj]
  unfold byVal
  rw [beq_iff_eq, hv i hi, hv j hj]
  exact ⟨hg.same i j hi hj (hnz i hi), fun h => (hg.full i j hi hj (hnz i hi) h).symm⟩
end Gr
end Go.Proofs.Yteiddebjbiadbaa
