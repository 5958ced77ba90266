/- Graphs, plain: what the reference's functions answer, against what the graph's answer. -/
import Derived.Test.YteiddebjbiadbaaGrG
import Derived.Test.YteiddebjbiadbaaGrF
import Derived.Test.YteiddebjbiadbaaGrD
namespace Go.Proofs.Yteiddebjbiadbaa
namespace Gr
theorem back_ins {es : List Ed} {n : Nat} (hin : Ins n es) : Ins n (refNew (turn es)) := refNew_ins (fun e he => by
  obtain ⟨a, b⟩ := e
  have := hin _ (mem_turn.1 he)
  exact ⟨this.2, this.1⟩)
theorem mem_back {es : List Ed} {a b : Nat} : (a, b) ∈ refNew (turn es) ↔ (b, a) ∈ es := by rw [(refNew_ok _).2, mem_turn]
theorem marks_start {es : List Ed} {n : Nat} {S : List Nat} (hin : Ins n es) (hS : ∀ s ∈ S, s < n) : (marksF es (n + 1) (startF n S)).length = n ∧ ∀ i, i < n → (val (marksF es (n + 1) (startF n S)) i ≠ 0 ↔ ∃ s ∈ S, Reach es s i) :=
  marks_ok hin (n + 1) _ (by have h1 := zeros_le (startF n S); have h2 := (start_ok (es := es) hS).len; omega) (start_ok hS)
theorem reached_marks {es : List Ed} {n : Nat} {S : List Nat} (hin : Ins n es) (hS : ∀ s ∈ S, s < n) {i : Nat} (hi : i < n) : val (reachedF (aft es) n S) i ≠ 0 ↔ val (marksF es (n + 1) (startF n S)) i ≠ 0 :=
  (reached_iff (fun _ _ => mem_aft) hin hS hi).trans ((marks_start hin hS).2 i hi).symm
theorem back_marks {es : List Ed} {n : Nat} {S : List Nat} (hin : Ins n es) (hS : ∀ s ∈ S, s < n) {i : Nat} (hi : i < n) : val (reachedF (bef es) n S) i ≠ 0 ↔ val (marksF (refNew (turn es)) (n + 1) (startF n S)) i ≠ 0 :=
  (reached_iff (es := refNew (turn es)) (fun i j => by rw [mem_bef, mem_back]) (back_ins hin) hS hi).trans ((marks_start (back_ins hin) hS).2 i hi).symm
/-! ### The reference's groups -/
def rcStep (M : Nat → List Nat) (st : List Nat × List (List Nat)) (i : Nat) : List Nat × List (List Nat) :=
  if val st.1 i ≠ 0 then st else ((M i).foldl (fun d k => d.set k 1) st.1, st.2 ++ [M i])
def rcompF (M : Nat → List Nat) (n : Nat) : List (List Nat) := ((List.range n).foldl (rcStep M) (List.replicate n 0, [])).2
theorem fold_set : ∀ (T m : List Nat), (∀ s ∈ T, s < m.length) → (T.foldl (fun m s => m.set s 1) m).length = m.length ∧ ∀ i, val (T.foldl (fun m s => m.set s 1) m) i ≠ 0 ↔ i ∈ T ∨ val m i ≠ 0
  | [], m, _ => ⟨rfl, fun i => by simp⟩
  | t :: T, m, hT => by
    obtain ⟨h1, h2⟩ := fold_set T (m.set t 1) (fun s hs => by rw [List.length_set]; exact hT s (List.mem_cons_of_mem _ hs))
    refine ⟨by rw [List.foldl_cons, h1, List.length_set], fun i => ?_⟩
    rw [List.foldl_cons, h2, val_set (hT t List.mem_cons_self)]
    by_cases q : i = t
    · simp [q]
    · simp [q]
structure Eqv (n : Nat) (R : Nat → Nat → Bool) : Prop where
  r : ∀ i, i < n → R i i = true
  s : ∀ i j, i < n → j < n → R i j = true → R j i = true
  t : ∀ i j k, i < n → j < n → k < n → R i j = true → R j k = true → R i k = true
theorem rep_of {n : Nat} {R : Nat → Nat → Bool} (h : Eqv n R) : ∀ (j : Nat), j < n → ∃ r, r ≤ j ∧ (∀ k, k < r → R k r = false) ∧ R r j = true := by
  intro j
  induction j using Nat.strongRecOn with
  | ind j ih =>
    intro hj
    by_cases hm : ∀ k, k < j → R k j = false
    · exact ⟨j, Nat.le_refl _, hm, h.r j hj⟩
    · obtain ⟨k, hk⟩ : ∃ k, k < j ∧ R k j = true := Classical.byContradiction (fun q => hm (fun k hk => by
        cases e : R k j with
        | false => rfl
        | true => exact absurd ⟨k, hk, e⟩ q))
      obtain ⟨r, h1, h2, h3⟩ := ih k hk.1 (by omega)
      exact ⟨r, by omega, h2, h.t r k j (by omega) (by omega) hj h3 hk.2⟩
theorem rcomp_ok {n : Nat} {R : Nat → Nat → Bool} {M : Nat → List Nat} (h : Eqv n R) (hM : ∀ i, i < n → M i = (List.range n).filter (R i)) : rcompF M n = classesF n R := by
  have key : ∀ m, m ≤ n → ((List.range m).foldl (rcStep M) (List.replicate n 0, [])).1.length = n ∧ (∀ i, i < n → (val ((List.range m).foldl (rcStep M) (List.replicate n 0, [])).1 i ≠ 0 ↔ ∃ r ∈ reps R m, R r i = true))
      ∧ ((List.range m).foldl (rcStep M) (List.replicate n 0, [])).2 = (reps R m).map fun i => (List.range n).filter (R i) := by
    intro m
    induction m with
    | zero =>
      intro _
      refine ⟨by simp, fun i hi => ?_, rfl⟩
      show val (List.replicate n 0) i ≠ 0 ↔ _
      rw [val_rep, if_pos hi]
      simp [reps]
    | succ m ih =>
      intro hm
      obtain ⟨h1, h2, h3⟩ := ih (by omega)
      rw [List.range_succ, List.foldl_append, List.foldl_cons, List.foldl_nil, reps_succ]
      generalize (List.range m).foldl (rcStep M) (List.replicate n 0, []) = st at h1 h2 h3
      unfold rcStep
      by_cases hv : val st.1 m ≠ 0
      · rw [if_pos hv]
        obtain ⟨r, hr, hrm⟩ := (h2 m (by omega)).1 hv
        have : (List.range m).any (fun j => R j m) = true := List.any_eq_true.2 ⟨r, List.mem_range.2 (mem_reps.1 hr).1, hrm⟩
        rw [if_pos this, List.append_nil]
        exact ⟨h1, h2, h3⟩
      · rw [if_neg hv]
        have hno : ¬ (List.range m).any (fun j => R j m) = true := fun q => by
          obtain ⟨j, hj, hjm⟩ := List.any_eq_true.1 q
          have hj := List.mem_range.1 hj
          obtain ⟨r, q1, q2, q3⟩ := rep_of h j (by omega)
          exact hv ((h2 m (by omega)).2 ⟨r, mem_reps.2 ⟨by omega, q2⟩, h.t r j m (by omega) (by omega) (by omega) q3 hjm⟩)
        rw [if_neg hno]
        have hMm := hM m (by omega)
        obtain ⟨k1, k2⟩ := fold_set (M m) st.1 (fun s hs => by
          rw [hMm] at hs
          rw [h1]; exact List.mem_range.1 (List.mem_filter.1 hs).1)
        refine ⟨by rw [k1, h1], fun i hi => ?_, ?_⟩
        · rw [k2, h2 i hi]
          constructor
          · rintro (q | ⟨r, hr, q⟩)
            · rw [hMm] at q
              exact ⟨m, by simp, (List.mem_filter.1 q).2⟩
            · exact ⟨r, List.mem_append_left _ hr, q⟩
          · rintro ⟨r, hr, q⟩
            rcases List.mem_append.1 hr with hr | hr
            · exact .inr ⟨r, hr, q⟩
            · obtain rfl : r = m := by simpa using hr
              exact .inl (by rw [hMm]; exact List.mem_filter.2 ⟨List.mem_range.2 hi, q⟩)
        · rw [List.map_append, ← h3, hMm]; rfl
  exact (key n (Nat.le_refl n)).2.2
/-- Mutual reach, decided by the marks. -/
def mutB (es : List Ed) (n i j : Nat) : Bool := decide (val (marksF es (n + 1) (startF n [i])) j ≠ 0) && decide (val (marksF (refNew (turn es)) (n + 1) (startF n [i])) j ≠ 0)
theorem mutB_iff {es : List Ed} {n i j : Nat} (hin : Ins n es) (hi : i < n) (hj : j < n) : mutB es n i j = true ↔ Mut es i j := by
  have hS : ∀ s ∈ [i], s < n := fun s hs => by simp at hs; omega
  unfold mutB Mut
  rw [Bool.and_eq_true, decide_eq_true_iff, decide_eq_true_iff, (marks_start hin hS).2 j hj, (marks_start (back_ins hin) hS).2 j hj]
  simp only [List.mem_singleton, exists_eq_left]
  rw [Reach.turned (es := es) (fun a b => mem_back)]
theorem mut_eqv {es : List Ed} {n : Nat} (hin : Ins n es) : Eqv n (mutB es n) where
  r _ hi := (mutB_iff hin hi hi).2 ⟨.refl _ _, .refl _ _⟩
  s _ _ hi hj h := (mutB_iff hin hj hi).2 ((mutB_iff hin hi hj).1 h).symm
  t _ _ _ hi hj hk h1 h2 := (mutB_iff hin hi hk).2 (((mutB_iff hin hi hj).1 h1).trans ((mutB_iff hin hj hk).1 h2))
def rgroup (es : List Ed) (n i : Nat) : List Nat := (List.range n).filter (mutB es n i)
theorem rcomp_comp {es : List Ed} {n : Nat} (hin : Ins n es) : rcompF (rgroup es n) n = componentsF (aft es) (bef es) n := by
  rw [rcomp_ok (M := rgroup es n) (mut_eqv hin) (fun _ _ => rfl), components_ok (fun _ _ => mem_aft) (fun _ _ => mem_bef) hin (mutB es n) (fun i j hi hj => mutB_iff hin hi hj)]
/-- An edge inside a group. -/
theorem inside_iff {es : List Ed} {n : Nat} (hin : Ins n es) : (∃ g ∈ componentsF (aft es) (bef es) n, ∃ a ∈ g, ∃ b ∈ g, (a, b) ∈ es) ↔ ∃ a b, (a, b) ∈ es ∧ Mut es a b := by
  rw [components_ok (fun _ _ => mem_aft) (fun _ _ => mem_bef) hin (mutB es n) (fun i j hi hj => mutB_iff hin hi hj)]
  unfold classesF
  constructor
  · rintro ⟨g, hg, a, ha, b, hb, hab⟩
    obtain ⟨i, hi, rfl⟩ := List.mem_map.1 hg
    have hi := (mem_reps.1 hi).1
    have ha := List.mem_filter.1 ha
    have hb := List.mem_filter.1 hb
    have m1 := (mutB_iff hin hi (List.mem_range.1 ha.1)).1 ha.2
    have m2 := (mutB_iff hin hi (List.mem_range.1 hb.1)).1 hb.2
    exact ⟨a, b, hab, m1.symm.trans m2⟩
  · rintro ⟨a, b, hab, hm⟩
    have ha := (hin _ hab).1
    have hb := (hin _ hab).2
    obtain ⟨r, q1, q2, q3⟩ := rep_of (mut_eqv hin) a ha
    refine ⟨_, List.mem_map.2 ⟨r, mem_reps.2 ⟨by omega, q2⟩, rfl⟩, a, List.mem_filter.2 ⟨List.mem_range.2 ha, q3⟩, b, List.mem_filter.2 ⟨List.mem_range.2 hb, ?_⟩, hab⟩
    exact (mut_eqv hin).t r a b (by omega) ha hb q3 ((mutB_iff hin ha hb).2 hm)
theorem groups_lt {es : List Ed} {n : Nat} (hin : Ins n es) : ∀ g ∈ componentsF (aft es) (bef es) n, g.length ≤ n ∧ ∀ x ∈ g, x < n := by
  rw [components_ok (fun _ _ => mem_aft) (fun _ _ => mem_bef) hin (mutB es n) (fun i j hi hj => mutB_iff hin hi hj)]
  unfold classesF
  intro g hg
  obtain ⟨i, hi, rfl⟩ := List.mem_map.1 hg
  exact ⟨Nat.le_trans (List.length_filter_le _ _) (by simp), fun x hx => List.mem_range.1 (List.mem_filter.1 hx).1⟩
theorem comps_len {es : List Ed} {n : Nat} (hin : Ins n es) : (componentsF (aft es) (bef es) n).length ≤ n := by
  rw [components_ok (fun _ _ => mem_aft) (fun _ _ => mem_bef) hin (mutB es n) (fun i j hi hj => mutB_iff hin hi hj)]
  unfold classesF reps
  rw [List.length_map]
  exact Nat.le_trans (List.length_filter_le _ _) (by simp)
/-! ### Paths -/
theorem find_near {es : List Ed} {n t : Nat} {L : List Int} (h : Dist es n t L) {a : Nat} (ha : a ≠ t) (h0 : 0 ≤ at_ L a) : ∃ (i j : Nat), (aft es a)[i]? = some j ∧ at_ L j = at_ L a - 1 ∧ (∀ (k y : Nat), k < i → (aft es a)[k]? = some y → at_ L y ≠ at_ L a - 1) ∧ ((aft es a).find? fun j => at_ L j == at_ L a - 1) = some j := by
  obtain ⟨h1, j, hj, he⟩ := h.near a ha h0
  have hm := mem_aft.2 hj
  have gen : ∀ (l : List Nat), j ∈ l → ∃ (i j : Nat), l[i]? = some j ∧ at_ L j = at_ L a - 1 ∧ (∀ (k y : Nat), k < i → l[k]? = some y → at_ L y ≠ at_ L a - 1) ∧ (l.find? fun j => at_ L j == at_ L a - 1) = some j := by
    intro l
    induction l with
    | nil => intro h; cases h
    | cons x l ih =>
      intro hx
      by_cases q : at_ L x = at_ L a - 1
      · exact ⟨0, x, rfl, q, fun k y hk => by omega, by rw [List.find?_cons]; simp [q]⟩
      · rcases List.mem_cons.1 hx with e | e
        · subst e; exact absurd (by omega) q
        · obtain ⟨i, y, a1, a2, a3, a4⟩ := ih e
          refine ⟨i + 1, y, by simpa using a1, a2, fun k z hk hz => ?_, ?_⟩
          · cases k with
            | zero => simp at hz; subst hz; exact q
            | succ k => exact a3 k z (by omega) (by simpa using hz)
          · rw [List.find?_cons]
            have : (at_ L x == at_ L a - 1) = false := by simp [q]
            rw [this]; exact a4
  exact gen _ hm
/-- The nodes of a path. -/
structure PathOk (es : List Ed) (L : List Int) (t k a : Nat) (p : List Nat) : Prop where
  len : p.length = k + 1
  first : p[0]? = some a
  last : p[k]? = some t
  edge : ∀ (i x y : Nat), p[i]? = some x → p[i + 1]? = some y → (x, y) ∈ es
  far : ∀ (i x : Nat), p[i]? = some x → at_ L x = (k : Int) - i
theorem path_ok {es : List Ed} {n t : Nat} {L : List Int} (h : Dist es n t L) : ∀ (k a : Nat), at_ L a = k → PathOk es L t k a (pathF (aft es) L t k a)
  | 0, a, ha => by
    have hat : a = t := Classical.byContradiction (fun q => by have := (h.near a q (by omega)).1; omega)
    subst hat
    refine ⟨rfl, rfl, rfl, fun i x y _ hy => ?_, fun i x hx => ?_⟩
    · simp [pathF] at hy
    · cases i with
      | zero => simp [pathF] at hx; subst hx; rw [ha]; rfl
      | succ i => simp [pathF] at hx
  | k + 1, a, ha => by
    have hat : a ≠ t := fun q => by have := h.zero; rw [q] at ha; omega
    obtain ⟨i0, j, h1, h2, _, h4⟩ := find_near h hat (by omega)
    have e : pathF (aft es) L t (k + 1) a = a :: pathF (aft es) L t k j := by
      show a :: (if a = t then [] else _) = _
      rw [if_neg hat, h4]
    rw [e]
    have ih := path_ok h k j (by omega)
    refine ⟨by rw [List.length_cons, ih.len], rfl, by rw [List.getElem?_cons_succ]; exact ih.last, fun i x y hx hy => ?_, fun i x hx => ?_⟩
    · rw [List.getElem?_cons_succ] at hy
      cases i with
      | zero =>
        rw [List.getElem?_cons_zero] at hx
        rw [ih.first] at hy
        obtain rfl := Option.some.inj hx
        obtain rfl := Option.some.inj hy
        exact mem_aft.1 (List.mem_of_getElem? h1)
      | succ i =>
        rw [List.getElem?_cons_succ] at hx
        exact ih.edge i x y hx hy
    · cases i with
      | zero =>
        rw [List.getElem?_cons_zero] at hx
        obtain rfl := Option.some.inj hx
        rw [ha]; simp
      | succ i =>
        rw [List.getElem?_cons_succ] at hx
        have := ih.far i x hx
        rw [this]; push_cast; omega
theorem PathOk.inj {es : List Ed} {L : List Int} {t k a : Nat} {p : List Nat} (h : PathOk es L t k a p) {i j x : Nat} (hi : p[i]? = some x) (hj : p[j]? = some x) : i = j := by
  have h1 := h.far i x hi
  have h2 := h.far j x hj
  omega
theorem at_lt {L : List Int} {i : Nat} (h : 0 ≤ at_ L i) : i < L.length := by
  refine Classical.byContradiction (fun q => ?_)
  unfold at_ at h
  rw [List.getD_eq_getElem?_getD, List.getElem?_eq_none (by omega)] at h
  simp at h
theorem PathOk.nodup {es : List Ed} {L : List Int} {t k a : Nat} {p : List Nat} (h : PathOk es L t k a p) : p.Nodup := by
  rw [List.nodup_iff_pairwise_ne, List.pairwise_iff_getElem]
  intro i j hi hj hij e
  have := h.inj (i := i) (j := j) (x := p[i]) (List.getElem?_eq_getElem hi) (by rw [e]; exact List.getElem?_eq_getElem hj)
  omega
theorem PathOk.lt {es : List Ed} {n t : Nat} {L : List Int} {k a : Nat} {p : List Nat} (h : PathOk es L t k a p) (hl : L.length = n) : ∀ x ∈ p, x < n := fun x hx => by
  obtain ⟨i, hi⟩ := List.mem_iff_getElem?.1 hx
  have h1 := h.far i x hi
  have h2 := (List.getElem?_eq_some_iff.1 hi).1
  have h3 := h.len
  have := at_lt (L := L) (i := x) (by omega)
  omega
theorem Dist.lt {es : List Ed} {n t : Nat} {L : List Int} (h : Dist es n t L) {k a : Nat} (hk : at_ L a = k) : k < n := by
  have hp := path_ok h k a hk
  have := nodup_len hp.nodup (b := List.range n) (fun x hx => List.mem_range.2 (hp.lt h.len x hx))
  rw [hp.len, List.length_range] at this
  omega
end Gr
end Go.Proofs.Yteiddebjbiadbaa
