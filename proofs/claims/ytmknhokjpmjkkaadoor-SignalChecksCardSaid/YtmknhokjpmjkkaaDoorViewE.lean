/- A view behind an operation: where it lies, and which blocks may have been written. -/
import Derived.Test.YtmknhokjpmjkkaaDoorViewD
namespace Go.Proofs.YtmknhokjpmjkkaaDoor
open Go.RowKit

/-- The view lies at h' in w'; only its own blocks and those of ex have been written. -/
structure VQ (h : VH) (ex : Nat → Prop) (w : World) (V : AV) (w' : World) (h' : VH) : Prop where
  at_ : ViewAt w' h' V
  b : h'.b = h.b
  bs : h'.bs = h.bs
  kept : Kept (fun k => h.fp k ∨ ex k) w w'
  fp : ∀ k, h'.fp k → h.fp k ∨ w.heap.size ≤ k
theorem VPost.vq {h : VH} {w : World} {V : AV} {w' : World} (p : VPost h w V w') : ∃ h', VQ h (fun _ => False) w V w' h' := by
  obtain ⟨h', a1, a2, a3, a4, a5, a6, a7, a8⟩ := p
  exact ⟨h', a1, a2, a5, a7.mono (fun _ _ h => .inl h), a8⟩
section
variable {h h' h1 : VH} {ex ex' S : Nat → Prop} {w w1 w2 : World} {V V1 V2 : AV}
theorem VQ.refl (v : ViewAt w h V) : VQ h ex w V w h := ⟨v, rfl, rfl, Kept.refl _ _, fun _ hk => .inl hk⟩
theorem VQ.mono (p : VQ h ex w V w1 h') (hx : ∀ k, ex k → ex' k) : VQ h ex' w V w1 h' := ⟨p.at_, p.b, p.bs, p.kept.mono (fun k _ h => h.imp id (hx k)), p.fp⟩
theorem VQ.later (p : VQ h ex w V w1 h') (hb : Below w1.heap.size w1 w2) : VQ h ex w V w2 h' :=
  ⟨p.at_.later hb, p.b, p.bs, p.kept.trans (Kept.of_below hb _) (fun _ _ hs => hs), p.fp⟩
theorem VQ.after (hb : Below w.heap.size w w1) (p : VQ h ex w1 V w2 h') : VQ h ex w V w2 h' :=
  ⟨p.at_, p.b, p.bs, (Kept.of_below hb _).trans p.kept (fun _ _ hs => hs), fun k hk => (p.fp k hk).imp id (fun h => Nat.le_trans hb.size h)⟩
theorem VQ.trans (p : VQ h ex w V1 w1 h1) (q : VQ h1 (fun _ => False) w1 V2 w2 h') : VQ h ex w V2 w2 h' := by
  refine ⟨q.at_, q.b.trans p.b, q.bs.trans p.bs, p.kept.trans q.kept (fun i hi hs => ?_), fun k hk => ?_⟩
  · rcases hs with hs | hs
    · rcases p.fp i hs with h | h
      · exact .inl h
      · omega
    · exact hs.elim
  · rcases q.fp k hk with h | h
    · exact p.fp k h
    · exact .inr (Nat.le_trans p.kept.size h)
/-- Stores into blocks that the view does not have. -/
theorem VQ.stores (p : VQ h ex w V w1 h') (hk : Kept S w1 w2) (hS : ∀ k, k < w1.heap.size → S k → (w.heap.size ≤ k ∨ ex k) ∧ ¬ h'.fp k ∧ h.bs ≤ k) : VQ h ex w V w2 h' := by
  have htop : h'.bs ≤ w1.heap.size := p.at_.top
  refine ⟨p.at_.kept ?_ (fun k hf => hk.block k (p.at_.fp_lt hf) (fun hs => (hS k (p.at_.fp_lt hf) hs).2.1 hf)), p.b, p.bs, p.kept.trans hk (fun i hi hs => ?_), p.fp⟩
  · refine ⟨hk.os, hk.tape, hk.output, hk.size, fun k hkk => hk.block k (Nat.lt_of_lt_of_le hkk htop) (fun hs => ?_)⟩
    have := (hS k (Nat.lt_of_lt_of_le hkk htop) hs).2.2
    rw [p.bs] at hkk
    omega
  · rcases (hS i (Nat.lt_of_lt_of_le hi p.kept.size) hs).1 with h | h
    · omega
    · exact .inr h
/-- A block that was new for the operation and is not the view's. -/
theorem VQ.not_fp (p : VQ h ex w V w1 h') {k : Nat} (hk : k < w.heap.size) (hn : ¬ h.fp k) : ¬ h'.fp k := fun hf => by
  rcases p.fp k hf with h | h
  · exact hn h
  · omega
end

end Go.Proofs.YtmknhokjpmjkkaaDoor
