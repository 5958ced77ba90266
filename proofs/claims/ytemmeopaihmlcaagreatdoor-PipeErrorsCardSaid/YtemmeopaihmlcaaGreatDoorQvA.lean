/- A view, its value known; blocks G are not the view's. -/
import Derived.Test.YtemmeopaihmlcaaGreatDoorPipS
import Derived.Test.YtemmeopaihmlcaaGreatDoorWriB
namespace Go.Proofs.YtemmeopaihmlcaaGreatDoor
open Go.RowKit

/-- The view at b, made after w0, is V. -/
structure QV (w0 w : World) (b : Nat) (V : AV) (G : Nat → Prop) : Prop where
  ex : ∃ h, ViewAt w h V ∧ h.b = b ∧ w0.heap.size ≤ h.bs ∧ ∀ k, G k → ¬ h.fp k ∧ k < w.heap.size ∧ h.bs ≤ k
  below : Below w0.heap.size w0 w
variable {w0 w w' : World} {b : Nat} {V V' : AV} {G G' : Nat → Prop}
def QVP (w0 : World) (b : Nat) (V' : AV) (G : Nat → Prop) (w : World) (v : Value) (r : Ending) (w' : World) : Prop :=
  r = .returned v ∧ QV w0 w' b V' G ∧ ∀ k, G k → w'.heap[k]? = w.heap[k]?
theorem qv_post {h h' : VH} (hv : ViewAt w h V) (hb : h.b = b) (hbs : w0.heap.size ≤ h.bs) (hG : ∀ k, G k → ¬ h.fp k ∧ k < w.heap.size ∧ h.bs ≤ k) (hlow : Below w0.heap.size w0 w) (hp : VQ h (fun _ => False) w V' w' h') :
    QV w0 w' b V' G ∧ ∀ k, G k → w'.heap[k]? = w.heap[k]? := by
  refine ⟨⟨⟨h', hp.at_, hp.b.trans hb, by rw [hp.bs]; exact hbs, fun k hk => ⟨fun hf => ?_, Nat.lt_of_lt_of_le (hG k hk).2.1 hp.kept.size, by rw [hp.bs]; exact (hG k hk).2.2⟩⟩, ?_⟩, fun k hk => hp.kept.block k (hG k hk).2.1 (fun hf => ?_)⟩
  · rcases hp.fp k hf with h1 | h1
    · exact (hG k hk).1 h1
    · have := (hG k hk).2.1; omega
  · refine hlow.trans (hp.kept.below (Nat.le_trans hbs hv.top) (fun k hk => ?_))
    rcases hk with h1 | h1
    · exact Nat.le_trans hbs (hv.lo k h1)
    · exact h1.elim
  · rcases hf with h1 | h1
    · exact (hG k hk).1 h1
    · exact h1
theorem QV.later (s : QV w0 w b V G) (hb : Below w.heap.size w w') : QV w0 w' b V G := by
  obtain ⟨⟨h, hv, h1, h2, h4⟩, h5⟩ := s
  exact ⟨⟨h, hv.later hb, h1, h2, fun k hk => ⟨(h4 k hk).1, Nat.lt_of_lt_of_le (h4 k hk).2.1 hb.size, (h4 k hk).2.2⟩⟩, h5.trans (hb.mono h5.size)⟩
theorem QV.fresh (s : QV w0 w b V G) (hb : Below w.heap.size w w') (hG : ∀ k, G' k → G k ∨ (w.heap.size ≤ k ∧ k < w'.heap.size)) : QV w0 w' b V G' := by
  obtain ⟨⟨h, hv, h1, h2, h4⟩, h5⟩ := s
  refine ⟨⟨h, hv.later hb, h1, h2, fun k hk => ?_⟩, h5.trans (hb.mono h5.size)⟩
  rcases hG k hk with h | h
  · exact ⟨(h4 k h).1, Nat.lt_of_lt_of_le (h4 k h).2.1 hb.size, (h4 k h).2.2⟩
  · exact ⟨fun hf => by have := hv.fp_lt hf; omega, h.2, Nat.le_trans hv.top h.1⟩
theorem QV.usages (s : QV w0 w b V G) : Usages w := by
  obtain ⟨⟨h, hv, h1, h2, h4⟩, h5⟩ := s
  exact hv.usages
theorem QV.len (s : QV w0 w b V G) : V.calls.length ≤ 1000000 := by
  obtain ⟨⟨h, hv, h1, h2, h4⟩, h5⟩ := s
  exact hv.len
theorem qv_new {sp : Nat} {f : NameT → Option ByteArray} (hb : Below w0.heap.size w0 w) (hlow : Below w.heap.size w w') (hv : ViewAt w' ⟨w.heap.size + 2, w.heap.size, w.heap.size + 1, .slice none 0 0, sp, w.heap.size⟩ ⟨f, [], []⟩) : QV w0 w' (w.heap.size + 2) ⟨f, [], []⟩ (fun _ => False) :=
  ⟨⟨_, hv, rfl, hb.size, fun _ hk => hk.elim⟩, hb.trans (hlow.mono hb.size)⟩

section
variable (s : QV w0 w b V G)
include s
theorem qvGet {m : ByteArray} {k : Int} (e : Int) (hr : PReady V m k) : Calls Tryz.prog 30 #[.pointer (some ⟨b, 0, none⟩), .agg #[.string m, .int .i64 k], .int .i64 e] w (QVP w0 b (pSeen V m k e) G w (.tuple #[pipeV (pGet V m k e).1, .int .i64 (pGet V m k e).2])) := by
  obtain ⟨⟨h, hv, rfl, h2, h4⟩, h5⟩ := s
  refine (pGet_any h V m k e w hv hr.mz hr.size).mono ?_
  rintro r w' ⟨h', rfl, hp⟩
  exact ⟨rfl, qv_post hv rfl h2 h4 h5 hp⟩
theorem qvMake {m : ByteArray} {k : Int} (e : Int) (hr : PReady V m k) : Calls Tryz.prog 31 #[.pointer (some ⟨b, 0, none⟩), .agg #[.string m, .int .i64 k], .int .i64 e] w (QVP w0 b (pMake V m k e).1 G w (.int .i64 (pMake V m k e).2)) := by
  obtain ⟨⟨h, hv, rfl, h2, h4⟩, h5⟩ := s
  refine (pMake_any h V m k e w hv hr).mono ?_
  rintro r w' ⟨h', rfl, hp⟩
  exact ⟨rfl, qv_post hv rfl h2 h4 h5 hp⟩
theorem qvRead {m : ByteArray} {k : Int} (e most : Int) (hr : PReady V m k) (hm : most ≤ 9223372036854775807) : Calls Tryz.prog 32 #[.pointer (some ⟨b, 0, none⟩), .agg #[.string m, .int .i64 k], .int .i64 e, .int .i64 most] w (QVP w0 b (pChange (opRead most) V m k e).1 G w (.tuple #[.string (pReadB most V m k e), .int .i64 (pChange (opRead most) V m k e).2])) := by
  obtain ⟨⟨h, hv, rfl, h2, h4⟩, h5⟩ := s
  refine (pRead_any h V m k e most w hv hr hm).mono ?_
  rintro r w' ⟨h', rfl, hp⟩
  exact ⟨rfl, qv_post hv rfl h2 h4 h5 hp⟩
theorem qvWrites : Calls Tryz.prog 20 #[.pointer (some ⟨b, 0, none⟩)] w fun r w' => ∃ v cs, r = .returned v ∧ RowC w' v cs ∧ cs.Perm (writesU V.calls) ∧ SortedC cs ∧ Below w.heap.size w w' ∧ QV w0 w' b V G := by
  have s' := s
  obtain ⟨⟨h, hv, rfl, h2, h4⟩, h5⟩ := s
  refine (writes_any h V w hv).mono ?_
  rintro r w' ⟨v, cs, h1, h2, h3, h4, h6⟩
  exact ⟨v, cs, h1, h2, h3, h4, h6, s'.later h6⟩
end
theorem avSeen_base (V : AV) (n : NameT) : (avSeen V n).base = V.base := by
  unfold avSeen
  split <;> rfl
/-- What Get answers depends on the base and the calls. -/
theorem avGet_same {V V' : AV} (hb : V'.base = V.base) (hc : V'.calls = V.calls) (n : NameT) : avGet V' n = avGet V n := by
  unfold avGet
  rw [hb, hc]
end Go.Proofs.YtemmeopaihmlcaaGreatDoor
