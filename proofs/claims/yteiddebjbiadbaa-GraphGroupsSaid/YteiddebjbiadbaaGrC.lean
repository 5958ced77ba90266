/- Graphs, plain: the order in which a visit in depth finishes, and the groups of nodes on common cycles. -/
import Derived.Test.YteiddebjbiadbaaGrB
namespace Go.Proofs.Yteiddebjbiadbaa
namespace Gr
theorem snoc_split {α : Type} {r l1 l2 : List α} {n m : α} (h : r ++ [n] = l1 ++ m :: l2) : (l2 = [] ∧ m = n ∧ l1 = r) ∨ ∃ l3, l2 = l3 ++ [n] ∧ r = l1 ++ m :: l3 := by
  rcases List.eq_nil_or_concat l2 with e | ⟨l3, x, e⟩
  · subst e
    left
    have h' : r ++ [n] = l1 ++ [m] := h
    obtain ⟨h1, h2⟩ := List.append_inj' h' rfl
    exact ⟨rfl, by simpa using h2.symm, h1.symm⟩
  · right
    subst e
    have h' : r ++ [n] = (l1 ++ m :: l3) ++ [x] := by rw [h]; simp [List.concat_eq_append]
    obtain ⟨h1, h2⟩ := List.append_inj' h' rfl
    have : n = x := by simpa using h2
    subst this
    exact ⟨l3, by simp [List.concat_eq_append], h1⟩
/-- A visit in depth with the nodes G under way: l lists what is finished. -/
structure Dfs (adj : Nat → List Nat) (g l : List Nat) (G : Nat → Prop) : Prop where
  seen : ∀ i, i < g.length → (val g i ≠ 0 ↔ i ∈ l ∨ G i)
  off : ∀ i ∈ l, i < g.length ∧ ¬ G i
  nod : l.Nodup
  cl : ∀ x ∈ l, ∀ y ∈ adj x, y ∈ l ∨ G y
  fn : ∀ l1 n l2, l = l1 ++ n :: l2 → ∃ b d, l1 = b ++ d ∧ (∀ x ∈ d, Via adj (fun _ => True) n x) ∧ ∀ x ∈ b, ∀ y ∈ adj x, y ∈ b ∨ y ∈ l2 ∨ G y
theorem fold_dfs {adj : Nat → List Nat} {c k N : Nat} (hc : c ≠ 0) (ha : ∀ i, ∀ j ∈ adj i, j < N) (G : Nat → Prop)
    (hv : ∀ g l n, g.length = N → zeros g ≤ k → n < N → Dfs adj g l G → Dfs adj (visitF adj c k (g, l) n).1 (visitF adj c k (g, l) n).2 G) :
    ∀ (ns : List Nat) (g l : List Nat), g.length = N → zeros g ≤ k → (∀ n ∈ ns, n < N) → Dfs adj g l G → Dfs adj (ns.foldl (fun st m => visitF adj c k st m) (g, l)).1 (ns.foldl (fun st m => visitF adj c k st m) (g, l)).2 G
  | [], g, l, _, _, _, h => h
  | n :: ns, g, l, hg, hz, hn, h => by
    have h1 := visit_vis hc ha k g l n hg hz (hn n List.mem_cons_self)
    exact fold_dfs hc ha G hv ns _ _ (h1.len.trans hg) (Nat.le_trans h1.zer hz) (fun m hm => hn m (List.mem_cons_of_mem _ hm)) (hv g l n hg hz (hn n List.mem_cons_self) h)
theorem visit_dfs {adj : Nat → List Nat} {c N : Nat} (hc : c ≠ 0) (ha : ∀ i, ∀ j ∈ adj i, j < N) : ∀ (k : Nat) (G : Nat → Prop) (g l : List Nat) (n : Nat), g.length = N → zeros g ≤ k → n < N → Dfs adj g l G → Dfs adj (visitF adj c k (g, l) n).1 (visitF adj c k (g, l) n).2 G
  | 0, _, _, _, _, _, _, _, h => h
  | k + 1, G, g, l, n, hg, hz, hn, h => by
    unfold visitF
    by_cases h0 : val g n = 0
    · rw [if_neg (by simpa using h0)]
      have hz1 := zeros_set h0 hc
      have hl1 : (g.set n c).length = N := by rw [List.length_set]; exact hg
      have hs : ∀ i, val (g.set n c) i = if i = n then c else val g i := val_set (by omega)
      have hv := visits_vis hc ha k (adj n) (g.set n c) l hl1 (by omega) (ha n)
      have hnl : n ∉ l ∧ ¬ G n := by
        exact not_or.1 (fun k => (h.seen n (by omega)).2 k h0)
      have hd : Dfs adj (g.set n c) l (fun x => G x ∨ x = n) := by
        refine ⟨fun i hi => ?_, fun i hi => ?_, h.nod, fun x hx y hy => ?_, fun l1 m l2 e => ?_⟩
        · rw [hs]
          rw [List.length_set] at hi
          by_cases e : i = n
          · simp [e, hc]
          · rw [if_neg e, h.seen i hi]; simp [e]
        · rw [List.length_set]
          refine ⟨(h.off i hi).1, ?_⟩
          rintro (q | q)
          · exact (h.off i hi).2 q
          · subst q; exact hnl.1 hi
        · exact (h.cl x hx y hy).imp id .inl
        · obtain ⟨b, d, h1, h2, h3⟩ := h.fn l1 m l2 e
          exact ⟨b, d, h1, h2, fun x hx y hy => (h3 x hx y hy).imp id (Or.imp id .inl)⟩
      have hf := fold_dfs hc ha (fun x => G x ∨ x = n) (fun g l n => visit_dfs hc ha k _ g l n) (adj n) (g.set n c) l hl1 (by omega) (ha n) hd
      revert hv hf
      generalize (adj n).foldl (fun st m => visitF adj c k st m) (g.set n c, l) = r
      intro hv hf
      have hrl : r.1.length = N := hv.len.trans hl1
      obtain ⟨d, e1, n1, m1⟩ := hv.fin
      refine ⟨fun i hi => ?_, fun i hi => ?_, ?_, fun x hx y hy => ?_, fun l1 m l2 e => ?_⟩
      · show val r.1 i ≠ 0 ↔ i ∈ r.2 ++ [n] ∨ G i
        rw [hf.seen i hi, List.mem_append, List.mem_singleton]
        constructor
        · rintro (a | a | a)
          · exact .inl (.inl a)
          · exact .inr a
          · exact .inl (.inr a)
        · rintro ((a | a) | a)
          · exact .inl a
          · exact .inr (.inr a)
          · exact .inr (.inl a)
      · have hi : i ∈ r.2 ++ [n] := hi
        rcases List.mem_append.1 hi with a | a
        · exact ⟨(hf.off i a).1, fun k => (hf.off i a).2 (.inl k)⟩
        · obtain rfl : i = n := by simpa using a
          exact ⟨by show i < r.1.length; omega, hnl.2⟩
      · show (r.2 ++ [n]).Nodup
        rw [List.nodup_append]
        refine ⟨hf.nod, by simp, fun a ha b hb e => ?_⟩
        obtain rfl : b = n := by simpa using hb
        exact (hf.off a ha).2 (.inr e)
      · show y ∈ r.2 ++ [n] ∨ G y
        have hx : x ∈ r.2 ++ [n] := hx
        rw [List.mem_append, List.mem_singleton]
        rcases List.mem_append.1 hx with a | a
        · rcases hf.cl x a y hy with q | q | q
          · exact .inl (.inl q)
          · exact .inr q
          · exact .inl (.inr q)
        · obtain rfl : x = n := by simpa using a
          have hy2 := (hf.seen y (by rw [hrl]; exact ha x y hy)).1 (hv.root y hy)
          rcases hy2 with q | q | q
          · exact .inl (.inl q)
          · exact .inr q
          · exact .inl (.inr q)
      · rcases snoc_split (show r.2 ++ [n] = l1 ++ m :: l2 from e) with ⟨rfl, rfl, rfl⟩ | ⟨l3, rfl, e2⟩
        · refine ⟨l, d, e1, fun x hx => ?_, fun x hx y hy => ?_⟩
          · obtain ⟨hx0, hx1⟩ := (m1 x).1 hx
            obtain ⟨-, q, hq, hp⟩ := hv.new x hx0 hx1
            exact .step trivial hq (hp.mono fun _ _ => trivial)
          · exact (h.cl x hx y hy).imp id .inr
        · obtain ⟨b, d2, h1, h2, h3⟩ := hf.fn l1 m l3 e2
          refine ⟨b, d2, h1, h2, fun x hx y hy => ?_⟩
          rw [List.mem_append, List.mem_singleton]
          rcases h3 x hx y hy with q | q | q | q
          · exact .inl q
          · exact .inr (.inl (.inl q))
          · exact .inr (.inr q)
          · exact .inr (.inl (.inr q))
    · rw [if_pos h0]; exact h
/-- All nodes, each behind those that are visited from it first. -/
def finishedF (adj : Nat → List Nat) (n : Nat) : List Nat := ((List.range n).foldl (fun st m => visitF adj 1 n st m) (List.replicate n 0, [])).2
theorem finished_dfs {adj : Nat → List Nat} {n : Nat} (ha : ∀ i, ∀ j ∈ adj i, j < n) : ∃ g, g.length = n ∧ Dfs adj g (finishedF adj n) (fun _ => False) ∧ ∀ i, i < n → i ∈ finishedF adj n := by
  have hz : zeros (List.replicate n 0) ≤ n := Nat.le_trans (zeros_le _) (by simp)
  have h0 : Dfs adj (List.replicate n 0) [] (fun _ => False) := by
    refine ⟨fun i hi => ?_, fun i hi => by simp at hi, List.nodup_nil, fun x hx => by simp at hx, fun l1 m l2 e => by simp at e⟩
    rw [val_rep, if_pos (by simpa using hi)]
    simp
  have hd := fold_dfs (c := 1) (by decide) ha (fun _ => False) (fun g l m => visit_dfs (c := 1) (by decide) ha n _ g l m) (List.range n) (List.replicate n 0) [] (by simp) hz (fun m hm => List.mem_range.1 hm) h0
  have hv := visits_vis (by decide : (1 : Nat) ≠ 0) ha n (List.range n) (List.replicate n 0) [] (by simp) hz (fun m hm => List.mem_range.1 hm)
  refine ⟨_, hv.len.trans (by simp), hd, fun i hi => ?_⟩
  have := (hd.seen i (by rw [hv.len]; simpa using hi)).1 (hv.root i (List.mem_range.2 hi))
  exact this.elim id (fun k => k.elim)
theorem finished_perm {adj : Nat → List Nat} {n : Nat} (ha : ∀ i, ∀ j ∈ adj i, j < n) : (finishedF adj n).Perm (List.range n) := by
  obtain ⟨g, hg, hd, hall⟩ := finished_dfs ha
  refine (List.perm_ext_iff_of_nodup hd.nod List.nodup_range).2 (fun i => ?_)
  rw [List.mem_range]
  exact ⟨fun h => hg ▸ (hd.off i h).1, hall i⟩
/-- Numbers of groups, given along a list from its end. -/
def groupStep (bef : Nat → List Nat) (n : Nat) (st : List Nat × Nat) (m : Nat) : List Nat × Nat := if val st.1 m ≠ 0 then st else ((visitF bef (st.2 + 1) n (st.1, []) m).1, st.2 + 1)
def groupsF (bef : Nat → List Nat) (n : Nat) (l : List Nat) : List Nat × Nat := l.reverse.foldl (groupStep bef n) (List.replicate n 0, 0)
def Mut (es : List Ed) (a b : Nat) : Prop := Reach es a b ∧ Reach es b a
structure Grp (es : List Ed) (n : Nat) (g : List Nat) (c : Nat) : Prop where
  len : g.length = n
  le : ∀ i, i < n → val g i ≤ c
  full : ∀ i j, i < n → j < n → val g i ≠ 0 → Mut es i j → val g j = val g i
  same : ∀ i j, i < n → j < n → val g i ≠ 0 → val g i = val g j → Mut es i j
theorem Mut.symm {es : List Ed} {a b : Nat} (h : Mut es a b) : Mut es b a := ⟨h.2, h.1⟩
theorem Mut.trans {es : List Ed} {a b c : Nat} (h : Mut es a b) (k : Mut es b c) : Mut es a c := ⟨h.1.trans k.1, k.2.trans h.2⟩
theorem via_reach {es : List Ed} {adj : Nat → List Nat} (hadj : ∀ i j, j ∈ adj i ↔ (i, j) ∈ es) {U : Nat → Prop} {a b : Nat} (h : Via adj U a b) : Reach es a b := by
  induction h with
  | here _ => exact .refl _ _
  | step _ e _ ih => exact (Reach.edge ((hadj _ _).1 e)).trans ih
theorem via_back {es : List Ed} {bf : Nat → List Nat} (hbf : ∀ i j, j ∈ bf i ↔ (j, i) ∈ es) {U : Nat → Prop} {a b : Nat} (h : Via bf U a b) : Reach es b a := by
  induction h with
  | here _ => exact .refl _ _
  | step _ e _ ih => exact ih.trans (Reach.edge ((hbf _ _).1 e))
theorem step_grp {es : List Ed} {adj bf : Nat → List Nat} {n : Nat} (hadj : ∀ i j, j ∈ adj i ↔ (i, j) ∈ es) (hbf : ∀ i j, j ∈ bf i ↔ (j, i) ∈ es) (hin : Ins n es) {g0 l : List Nat} (hg0 : g0.length = n) (hd : Dfs adj g0 l (fun _ => False)) (hall : ∀ i, i < n → i ∈ l)
    {l1 l2 : List Nat} {m : Nat} (hl : l = l1 ++ m :: l2) {g : List Nat} {c : Nat} (h : Grp es n g c) (hdone : ∀ x ∈ l2, val g x ≠ 0) :
    Grp es n (groupStep bf n (g, c) m).1 (groupStep bf n (g, c) m).2 ∧ ∀ x ∈ m :: l2, val (groupStep bf n (g, c) m).1 x ≠ 0 := by
  unfold groupStep
  have hmn : m < n := hg0 ▸ (hd.off m (by rw [hl]; simp)).1
  by_cases h0 : val g m = 0
  · rw [if_neg (by simpa using h0)]
    have hv := visit_vis (adj := bf) (c := c + 1) (N := n) (by omega) (fun i j hj => (hin _ ((hbf i j).1 hj)).1) n g [] m h.len (by have := zeros_le g; rw [h.len] at this; exact this) hmn
    dsimp only
    revert hv
    generalize visitF bf (c + 1) n (g, []) m = r
    intro hv
    obtain ⟨b, d, e1, hdr, hb⟩ := hd.fn l1 m l2 hl
    have hnd := hd.nod
    rw [hl, e1] at hnd
    have hmb : m ∉ b := fun hm => by
      rw [List.append_assoc, List.nodup_append] at hnd
      exact hnd.2.2 m hm m (by simp) rfl
    have hnotb : ∀ {a i : Nat}, Via bf (fun x => val g x = 0) a i → a ∉ b → i ∉ b := fun {a i} hp => by
      induction hp with
      | here _ => exact id
      | step hu e _ ih =>
        intro ha
        refine ih (fun hx => ?_)
        rcases hb _ hx _ ((hadj _ _).2 ((hbf _ _).1 e)) with q | q | q
        · exact ha q
        · exact hdone _ q hu
        · exact q
    have hmut : ∀ i, i < n → val g i = 0 → val r.1 i ≠ 0 → Mut es m i := fun i hi hz hz2 => by
      obtain ⟨-, q, rfl, hp⟩ := hv.new i hz hz2
      have hib := hnotb hp hmb
      have hil := hall i hi
      rw [hl, e1] at hil
      simp only [List.mem_append, List.mem_cons] at hil
      refine ⟨?_, via_back hbf hp⟩
      rcases hil with (q2 | q2) | q2 | q2
      · exact absurd q2 hib
      · exact via_reach hadj (hdr i q2)
      · subst q2; exact .refl _ _
      · exact absurd hz (hdone _ q2)
    have hnew : ∀ i, i < n → Mut es m i → val g i = 0 ∧ val r.1 i = c + 1 := fun i hi hm => by
      have hz : ∀ x, x < n → Mut es m x → val g x = 0 := fun x hx hm => by
        by_cases e : val g x = 0
        · exact e
        · exact absurd ((h.full x m hx hmn e hm.symm).symm.trans h0) e
      refine ⟨hz i hi hm, ?_⟩
      obtain ⟨k, hw⟩ := hm.2
      have hlt : ∀ {k a b : Nat}, Walk es k a b → b < n → a < n := fun {k a b} hw hb => by
        cases hw with
        | here => exact hb
        | step e _ => exact (hin _ e).1
      have key : ∀ {k a : Nat}, Walk es k a m → Reach es m a → val r.1 a ≠ 0 := fun {k a} hw => by
        have gen : ∀ {k a t : Nat}, Walk es k a t → t = m → Reach es m a → val r.1 a ≠ 0 := fun {k a t} hw => by
          induction hw with
          | here x => intro e _; exact hv.root x e
          | step e hw' ih =>
            rename_i a b t
            intro et hr
            have hbm : Reach es m b := hr.trans (.edge e)
            have hbn : b < n := (hin _ e).2
            have hb0 := hz b hbn ⟨hbm, _, et ▸ hw'⟩
            exact hv.shut b hb0 (ih et hbm) a ((hbf _ _).2 e)
        exact gen hw rfl
      exact (hv.new i (hz i hi hm) (key hw hm.1)).1
    refine ⟨⟨hv.len.trans h.len, fun i hi => ?_, fun i j hi hj hnz hm => ?_, fun i j hi hj hnz he => ?_⟩, fun x hx => ?_⟩
    · by_cases e : val g i = 0
      · by_cases e2 : val r.1 i = 0
        · omega
        · have := (hv.new i e e2).1; omega
      · rw [hv.old i e]; have := h.le i hi; omega
    · by_cases e : val g i = 0
      · have hmi := hmut i hi e hnz
        rw [(hnew i hi hmi).2, (hnew j hj (hmi.trans hm)).2]
      · have := h.full i j hi hj e hm
        rw [hv.old i e, hv.old j (by rw [this]; exact e), this]
    · by_cases e : val g i = 0
      · have hmi := hmut i hi e hnz
        have hvi := (hnew i hi hmi).2
        by_cases e2 : val g j = 0
        · exact hmi.symm.trans (hmut j hj e2 (by rw [← he]; exact hnz))
        · have h1 := hv.old j e2
          have h2 := h.le j hj
          omega
      · have h1 := hv.old i e
        by_cases e2 : val g j = 0
        · have hmj := (hnew j hj (hmut j hj e2 (by rw [← he]; exact hnz))).2
          have := h.le i hi
          omega
        · exact h.same i j hi hj e (by rw [← h1, he, hv.old j e2])
    · rcases List.mem_cons.1 hx with e | e
      · subst e; exact hv.root x rfl
      · exact hv.seen (hdone x e)
  · rw [if_pos h0]
    refine ⟨h, fun x hx => ?_⟩
    rcases List.mem_cons.1 hx with e | e
    · subst e; exact h0
    · exact hdone x e
theorem groups_ok {es : List Ed} {adj bf : Nat → List Nat} {n : Nat} (hadj : ∀ i j, j ∈ adj i ↔ (i, j) ∈ es) (hbf : ∀ i j, j ∈ bf i ↔ (j, i) ∈ es) (hin : Ins n es) :
    Grp es n (groupsF bf n (finishedF adj n)).1 (groupsF bf n (finishedF adj n)).2 ∧ ∀ i, i < n → val (groupsF bf n (finishedF adj n)).1 i ≠ 0 := by
  obtain ⟨g0, hg0, hd, hall⟩ := finished_dfs (adj := adj) (n := n) (fun i j hj => (hin _ ((hadj i j).1 hj)).2)
  have key : ∀ (l1 l2 : List Nat), finishedF adj n = l1 ++ l2 → Grp es n (l2.reverse.foldl (groupStep bf n) (List.replicate n 0, 0)).1 (l2.reverse.foldl (groupStep bf n) (List.replicate n 0, 0)).2 ∧ ∀ x ∈ l2, val (l2.reverse.foldl (groupStep bf n) (List.replicate n 0, 0)).1 x ≠ 0 := by
    intro l1 l2
    induction l2 generalizing l1 with
    | nil =>
      intro _
      have hz : ∀ i, i < n → val (List.replicate n 0) i = 0 := fun i hi => by rw [val_rep, if_pos hi]
      exact ⟨⟨by simp, fun i hi => by show val (List.replicate n 0) i ≤ 0; rw [hz i hi]; exact Nat.le_refl 0, fun i j hi _ h => absurd (hz i hi) h, fun i j hi _ h => absurd (hz i hi) h⟩, fun x hx => by simp at hx⟩
    | cons m l2 ih =>
      intro hl
      obtain ⟨h1, h2⟩ := ih (l1 ++ [m]) (by rw [hl]; simp)
      rw [List.reverse_cons, List.foldl_append]
      exact step_grp hadj hbf hin hg0 hd hall hl h1 h2
  obtain ⟨h1, h2⟩ := key [] (finishedF adj n) rfl
  exact ⟨h1, fun i hi => h2 i (hall i hi)⟩
end Gr
end Go.Proofs.Yteiddebjbiadbaa
