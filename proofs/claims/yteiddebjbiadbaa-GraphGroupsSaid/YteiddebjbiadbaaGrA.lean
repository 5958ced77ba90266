/- Graphs, plain: edges in order; the nodes behind and ahead of a node. -/
import Derived.Test.YteiddebjbiadbaaProg
namespace Go.Proofs.Yteiddebjbiadbaa
namespace Gr
abbrev Ed := Nat × Nat
def ltE (a b : Ed) : Prop := a.1 < b.1 ∨ (a.1 = b.1 ∧ a.2 < b.2)
instance (a b : Ed) : Decidable (ltE a b) := by unfold ltE; infer_instance
theorem ltE_irr (a : Ed) : ¬ ltE a a := by unfold ltE; omega
theorem ltE_trans {a b c : Ed} (h : ltE a b) (k : ltE b c) : ltE a c := by unfold ltE at *; omega
theorem ltE_tri (a b : Ed) : ltE a b ∨ a = b ∨ ltE b a := by
  unfold ltE
  rcases Nat.lt_trichotomy a.1 b.1 with h | h | h
  · exact .inl (.inl h)
  · rcases Nat.lt_trichotomy a.2 b.2 with k | k | k
    · exact .inl (.inr ⟨h, k⟩)
    · exact .inr (.inl (Prod.ext h k))
    · exact .inr (.inr (.inr ⟨h.symm, k⟩))
  · exact .inr (.inr (.inl h))
/-- A list of edges in order, each once. -/
def Norm (es : List Ed) : Prop := es.Pairwise ltE
theorem norm_unique : ∀ {a b : List Ed}, Norm a → Norm b → (∀ e, e ∈ a ↔ e ∈ b) → a = b
  | [], [], _, _, _ => rfl
  | [], y :: b, _, _, h => absurd ((h y).2 List.mem_cons_self) (by simp)
  | x :: a, [], _, _, h => absurd ((h x).1 List.mem_cons_self) (by simp)
  | x :: a, y :: b, ha, hb, h => by
    have ha' := List.pairwise_cons.1 ha
    have hb' := List.pairwise_cons.1 hb
    have hxy : x = y := by
      rcases List.mem_cons.1 ((h x).1 List.mem_cons_self) with e | e
      · exact e
      · rcases List.mem_cons.1 ((h y).2 List.mem_cons_self) with k | k
        · exact k.symm
        · exact absurd (ltE_trans (hb'.1 x e) (ha'.1 y k)) (ltE_irr _)
    subst hxy
    refine congrArg (x :: ·) (norm_unique ha'.2 hb'.2 (fun e => ⟨fun k => ?_, fun k => ?_⟩))
    · rcases List.mem_cons.1 ((h e).1 (List.mem_cons_of_mem _ k)) with q | q
      · subst q; exact absurd (ha'.1 _ k) (ltE_irr _)
      · exact q
    · rcases List.mem_cons.1 ((h e).2 (List.mem_cons_of_mem _ k)) with q | q
      · subst q; exact absurd (hb'.1 _ k) (ltE_irr _)
      · exact q
/-- The nodes to which edges lead from a node, and those from which edges lead to it. -/
def aft (es : List Ed) (i : Nat) : List Nat := (es.filter fun e => e.1 == i).map (·.2)
def bef (es : List Ed) (i : Nat) : List Nat := (es.filter fun e => e.2 == i).map (·.1)
theorem mem_aft {es : List Ed} {i j : Nat} : j ∈ aft es i ↔ (i, j) ∈ es := by
  unfold aft
  simp only [List.mem_map, List.mem_filter, beq_iff_eq]
  constructor
  · rintro ⟨⟨a, b⟩, ⟨h1, h2⟩, h3⟩; simp only at h2 h3; subst h2 h3; exact h1
  · intro h; exact ⟨(i, j), ⟨h, rfl⟩, rfl⟩
theorem mem_bef {es : List Ed} {i j : Nat} : j ∈ bef es i ↔ (j, i) ∈ es := by
  unfold bef
  simp only [List.mem_map, List.mem_filter, beq_iff_eq]
  constructor
  · rintro ⟨⟨a, b⟩, ⟨h1, h2⟩, h3⟩; simp only at h2 h3; subst h2 h3; exact h1
  · intro h; exact ⟨(j, i), ⟨h, rfl⟩, rfl⟩
theorem aft_sort {es : List Ed} (h : Norm es) (i : Nat) : (aft es i).Pairwise (· < ·) := by
  unfold aft
  rw [List.pairwise_map]
  have := List.Pairwise.sublist (List.filter_sublist (p := fun e : Ed => e.1 == i) (l := es)) h
  refine List.Pairwise.imp_of_mem ?_ this
  intro a b ha hb hab
  have h1 := (List.mem_filter.1 ha).2
  have h2 := (List.mem_filter.1 hb).2
  simp only [beq_iff_eq] at h1 h2
  unfold ltE at hab
  omega
theorem bef_sort {es : List Ed} (h : Norm es) (i : Nat) : (bef es i).Pairwise (· < ·) := by
  unfold bef
  rw [List.pairwise_map]
  have := List.Pairwise.sublist (List.filter_sublist (p := fun e : Ed => e.2 == i) (l := es)) h
  refine List.Pairwise.imp_of_mem ?_ this
  intro a b ha hb hab
  have h1 := (List.mem_filter.1 ha).2
  have h2 := (List.mem_filter.1 hb).2
  simp only [beq_iff_eq] at h1 h2
  unfold ltE at hab
  omega
theorem aft_append (a b : List Ed) (i : Nat) : aft (a ++ b) i = aft a i ++ aft b i := by simp [aft]
theorem bef_append (a b : List Ed) (i : Nat) : bef (a ++ b) i = bef a i ++ bef b i := by simp [bef]
theorem aft_one (e : Ed) (i : Nat) : aft [e] i = if e.1 = i then [e.2] else [] := by
  unfold aft; by_cases h : e.1 = i <;> simp [h]
theorem bef_one (e : Ed) (i : Nat) : bef [e] i = if e.2 = i then [e.1] else [] := by
  unfold bef; by_cases h : e.2 = i <;> simp [h]
/-- All edges join nodes below n. -/
def Ins (n : Nat) (es : List Ed) : Prop := ∀ e ∈ es, e.1 < n ∧ e.2 < n
/-- A walk of k steps along the edges. -/
inductive Walk (es : List Ed) : Nat → Nat → Nat → Prop
  | here (a : Nat) : Walk es 0 a a
  | step {k a b c : Nat} : (a, b) ∈ es → Walk es k b c → Walk es (k + 1) a c
def Reach (es : List Ed) (a b : Nat) : Prop := ∃ k, Walk es k a b
theorem Reach.refl (es : List Ed) (a : Nat) : Reach es a a := ⟨0, .here a⟩
theorem Reach.edge {es : List Ed} {a b : Nat} (h : (a, b) ∈ es) : Reach es a b := ⟨1, .step h (.here b)⟩
theorem Walk.trans {es : List Ed} {k l a b c : Nat} (h : Walk es k a b) (g : Walk es l b c) : Walk es (k + l) a c := by
  induction h with
  | here a => rw [Nat.zero_add]; exact g
  | step e _ ih => rw [Nat.add_right_comm]; exact .step e (ih g)
theorem Reach.trans {es : List Ed} {a b c : Nat} (h : Reach es a b) (g : Reach es b c) : Reach es a c := by
  obtain ⟨k, h⟩ := h; obtain ⟨l, g⟩ := g; exact ⟨_, h.trans g⟩
/-- Edges turned round. -/
def turn (es : List Ed) : List Ed := es.map fun e => (e.2, e.1)
theorem mem_turn {es : List Ed} {a b : Nat} : (a, b) ∈ turn es ↔ (b, a) ∈ es := by
  unfold turn
  simp only [List.mem_map, Prod.mk.injEq]
  constructor
  · rintro ⟨⟨x, y⟩, h, rfl, rfl⟩; exact h
  · intro h; exact ⟨(b, a), h, rfl, rfl⟩
theorem Walk.snoc {es : List Ed} {k a b c : Nat} (h : Walk es k a b) (e : (b, c) ∈ es) : Walk es (k + 1) a c := h.trans (.step e (.here c))
theorem Walk.turned {es fs : List Ed} (hf : ∀ a b, (a, b) ∈ fs ↔ (b, a) ∈ es) {k a b : Nat} (h : Walk es k a b) : Walk fs k b a := by
  induction h with
  | here a => exact .here a
  | step e _ ih => exact ih.snoc ((hf _ _).2 e)
theorem Reach.turned {es fs : List Ed} (hf : ∀ a b, (a, b) ∈ fs ↔ (b, a) ∈ es) {a b : Nat} : Reach fs b a ↔ Reach es a b :=
  ⟨fun ⟨k, h⟩ => ⟨k, h.turned (fun a b => (hf b a).symm)⟩, fun ⟨k, h⟩ => ⟨k, h.turned hf⟩⟩
/-- What is closed under the edges and holds a node holds what the node reaches. -/
theorem closed_reach {es : List Ed} {P : Nat → Prop} (hc : ∀ a b, (a, b) ∈ es → P a → P b) {a b : Nat} (h : Reach es a b) (ha : P a) : P b := by
  obtain ⟨k, h⟩ := h
  induction h with
  | here a => exact ha
  | step e _ ih => exact ih (hc _ _ e ha)
end Gr
end Go.Proofs.Yteiddebjbiadbaa
