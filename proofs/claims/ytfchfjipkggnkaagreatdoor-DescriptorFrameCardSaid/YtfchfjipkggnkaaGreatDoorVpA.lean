/- Operations upon a view as trees: what they read decides what they return, read and write. -/
import Derived.Test.YtfchfjipkggnkaaGreatDoorViewC
namespace Go.Proofs.YtfchfjipkggnkaaGreatDoor

inductive Vp (α : Type) where
  | ret (x : α)
  | get (n : NameT) (k : ByteArray × Bool → Vp α)
  | put (c : ChangeT) (k : Vp α)
namespace Vp
variable {α β : Type}
def run : Vp α → AV → AV × α
  | .ret x, V => (V, x)
  | .get n k, V => (k (avGet V n)).run (avSeen V n)
  | .put c k, V => k.run ⟨V.base, V.reads, V.calls ++ [c]⟩
def within (P : NameT → Prop) : Vp α → Prop
  | .ret _ => True
  | .get n k => P n ∧ ∀ v, (k v).within P
  | .put c k => P c.name ∧ k.within P
/-- At most m puts on each way. -/
def most : Nat → Vp α → Prop
  | _, .ret _ => True
  | m, .get _ k => ∀ v, (k v).most m
  | 0, .put _ _ => False
  | m + 1, .put _ k => k.most m
/-- On each way the result fits what was put. -/
def ends (R : List ChangeT → α → Prop) : List ChangeT → Vp α → Prop
  | cs, .ret x => R cs x
  | cs, .get _ k => ∀ v, (k v).ends R cs
  | cs, .put c k => k.ends R (cs ++ [c])
theorem run_base (t : Vp α) : ∀ V : AV, (t.run V).1.base = V.base := by
  induction t with
  | ret x => intro V; rfl
  | get n k ih =>
    intro V
    refine (ih _ _).trans ?_
    unfold avSeen
    split <;> rfl
  | put c k ih => intro V; exact (ih _).trans rfl
theorem run_keys (t : Vp α) : ∀ (V : AV) (n : NameT), n ∈ V.reads.map Prod.fst → n ∈ (t.run V).1.reads.map Prod.fst := by
  induction t with
  | ret x => intro V n h; exact h
  | get m k ih =>
    intro V n h
    refine ih _ _ n ?_
    unfold avSeen
    split
    · exact h
    · exact (aSet_keys _ _ _ n).2 (.inr h)
  | put c k ih => intro V n h; exact ih _ n h
theorem run_touch {P : NameT → Prop} (t : Vp α) : ∀ V : AV, t.within P → (∀ p ∈ V.reads, P p.1) → (∀ c ∈ V.calls, P c.name) → (∀ p ∈ (t.run V).1.reads, P p.1) ∧ ∀ c ∈ (t.run V).1.calls, P c.name := by
  induction t with
  | ret x => intro V _ h1 h2; exact ⟨h1, h2⟩
  | get n k ih =>
    intro V hw h1 h2
    refine ih _ _ (hw.2 _) (fun p hp => ?_) (fun c hc => ?_)
    · unfold avSeen at hp
      split at hp
      · exact h1 p hp
      · rcases aSet_mem _ _ _ hp with h | h
        · rw [h]; exact hw.1
        · exact h1 p h
    · unfold avSeen at hc
      split at hc <;> exact h2 c hc
  | put c k ih =>
    intro V hw h1 h2
    refine ih _ hw.2 h1 (fun d hd => ?_)
    rcases List.mem_append.1 hd with h | h
    · exact h2 d h
    · simp at h; rw [h]; exact hw.1
theorem run_most (t : Vp α) : ∀ (m : Nat) (V : AV), t.most m → (t.run V).1.calls.length ≤ V.calls.length + m := by
  induction t with
  | ret x => intro m V _; exact Nat.le_add_right _ _
  | get n k ih =>
    intro m V h
    have hc : (avSeen V n).calls = V.calls := by unfold avSeen; split <;> rfl
    have hk : ∀ v, (k v).most m := by
      cases m with
      | zero => exact h
      | succ m => exact h
    have := ih (avGet V n) m (avSeen V n) (hk _)
    rw [hc] at this
    exact this
  | put c k ih =>
    intro m V h
    cases m with
    | zero => exact h.elim
    | succ m =>
      have := ih m ⟨V.base, V.reads, V.calls ++ [c]⟩ h
      simp at this
      show (k.run _).1.calls.length ≤ _
      omega
theorem run_ends {R : List ChangeT → α → Prop} (t : Vp α) : ∀ (cs : List ChangeT) (V : AV) (c0 : List ChangeT), V.calls = c0 ++ cs → t.ends R cs → ∃ ds, (t.run V).1.calls = c0 ++ ds ∧ R ds (t.run V).2 := by
  induction t with
  | ret x => intro cs V c0 h hr; exact ⟨cs, h, hr⟩
  | get n k ih =>
    intro cs V c0 h hr
    refine ih _ cs _ c0 ?_ (hr _)
    unfold avSeen
    split <;> exact h
  | put c k ih =>
    intro cs V c0 h hr
    refine ih (cs ++ [c]) _ c0 ?_ hr
    show V.calls ++ [c] = _
    rw [h, List.append_assoc]
/-- Where a base has the values that were read, all goes alike. -/
theorem run_frame (t : Vp α) : ∀ V V' : AV, V'.reads = V.reads → V'.calls = V.calls → (∀ n, n ∈ (t.run V).1.reads.map Prod.fst → V'.base n = V.base n) →
    (t.run V').2 = (t.run V).2 ∧ (t.run V').1.reads = (t.run V).1.reads ∧ (t.run V').1.calls = (t.run V).1.calls := by
  induction t with
  | ret x => intro V V' h1 h2 _; exact ⟨rfl, h1, h2⟩
  | get n k ih =>
    intro V V' h1 h2 h3
    have key : avGet V' n = avGet V n ∧ (avSeen V' n).reads = (avSeen V n).reads := by
      unfold avGet avSeen
      rw [h2]
      cases hl : lastCall V.calls n with
      | some c => exact ⟨rfl, h1⟩
      | none =>
        have hb : V'.base n = V.base n := h3 n (run_keys (k (avGet V n)) (avSeen V n) n (by unfold avSeen; rw [hl]; exact (aSet_keys _ _ _ n).2 (.inl rfl)))
        dsimp only
        rw [hb, h1]
        exact ⟨rfl, rfl⟩
    have hc : (avSeen V' n).calls = (avSeen V n).calls := by
      unfold avSeen
      rw [h2]
      split <;> first | exact h2 | rfl
    have hb : ∀ W : AV, (avSeen W n).base = W.base := fun W => by unfold avSeen; split <;> rfl
    show ((k (avGet V' n)).run (avSeen V' n)).2 = _ ∧ _
    rw [show Vp.run (.get n k) V' = (k (avGet V' n)).run (avSeen V' n) from rfl, key.1]
    refine ih (avGet V n) (avSeen V n) (avSeen V' n) key.2 hc (fun m hm => ?_)
    rw [hb, hb]
    exact h3 m hm
  | put c k ih =>
    intro V V' h1 h2 h3
    exact ih ⟨V.base, V.reads, V.calls ++ [c]⟩ ⟨V'.base, V'.reads, V'.calls ++ [c]⟩ h1 (by rw [h2]) h3
end Vp
/-- Each read bears the value that the base has. -/
def ReadsTrue (V : AV) : Prop := ∀ p ∈ V.reads, p.2 = ⟨p.1, (V.base p.1).getD ⟨#[]⟩, (V.base p.1).isNone⟩
theorem Vp.run_true {α : Type} (t : Vp α) : ∀ V : AV, ReadsTrue V → ReadsTrue (t.run V).1 := by
  induction t with
  | ret x => intro V h; exact h
  | get n k ih =>
    intro V h
    refine ih _ _ ?_
    unfold avSeen
    split
    · exact h
    · intro p hp
      rcases aSet_mem _ _ _ hp with e | e
      · rw [e]
      · exact h p e
  | put c k ih => intro V h; exact ih _ h
end Go.Proofs.YtfchfjipkggnkaaGreatDoor
