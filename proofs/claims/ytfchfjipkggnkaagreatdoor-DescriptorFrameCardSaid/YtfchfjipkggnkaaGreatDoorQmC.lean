/- A view, its value known, its base a state of at most M objects; blocks G are not the view's: the general part. A store into a block that belongs to no state and no view keeps both. A view in the midst of a call: G are the caller's blocks, E the call's own. -/
import Derived.Test.YtfchfjipkggnkaaGreatDoorStaG
import Derived.Test.YtfchfjipkggnkaaGreatDoorViewH
namespace Go.Proofs.YtfchfjipkggnkaaGreatDoor
open Go.RowKit

/-- The view at b, made after w0, is V, upon a state of at most M objects. -/
structure QM (w0 w : World) (b M : Nat) (V : AV) (G : Nat → Prop) : Prop where
  ex : ∃ h, ViewAt w h V ∧ BaseN M h.bs w h.sp V.base ∧ h.b = b ∧ w0.heap.size ≤ h.bs ∧ ∀ k, G k → ¬ h.fp k ∧ k < w.heap.size ∧ h.bs ≤ k
  below : Below w0.heap.size w0 w
section
variable {w0 w w' : World} {b M : Nat} {V V' : AV} {G G' : Nat → Prop}
def QMP (w0 : World) (b M : Nat) (V' : AV) (G : Nat → Prop) (w : World) (v : Value) (r : Ending) (w' : World) : Prop :=
  r = .returned v ∧ QM w0 w' b M V' G ∧ ∀ k, G k → w'.heap[k]? = w.heap[k]?
theorem qm_post {h h' : VH} (hv : ViewAt w h V) (hn : BaseN M h.bs w h.sp V.base) (hb : h.b = b) (hbs : w0.heap.size ≤ h.bs) (hG : ∀ k, G k → ¬ h.fp k ∧ k < w.heap.size ∧ h.bs ≤ k) (hlow : Below w0.heap.size w0 w) (hV : V'.base = V.base) (hp : VQ h (fun _ => False) w V' w' h') :
    QM w0 w' b M V' G ∧ ∀ k, G k → w'.heap[k]? = w.heap[k]? := by
  have hbel : Below h.bs w w' := hp.kept.below hv.top (fun k hk => by
    rcases hk with h1 | h1
    · exact hv.lo k h1
    · exact h1.elim)
  refine ⟨⟨⟨h', hp.at_, by rw [hp.bs, hp.sp, hV]; exact hn.later hbel, hp.b.trans hb, by rw [hp.bs]; exact hbs, fun k hk => ⟨fun hf => ?_, Nat.lt_of_lt_of_le (hG k hk).2.1 hp.kept.size, by rw [hp.bs]; exact (hG k hk).2.2⟩⟩, ?_⟩, fun k hk => hp.kept.block k (hG k hk).2.1 (fun hf => ?_)⟩
  · rcases hp.fp k hf with h1 | h1
    · exact (hG k hk).1 h1
    · have := (hG k hk).2.1; omega
  · exact hlow.trans (hbel.mono hbs)
  · rcases hf with h1 | h1
    · exact (hG k hk).1 h1
    · exact h1
theorem QM.later (s : QM w0 w b M V G) (hb : Below w.heap.size w w') : QM w0 w' b M V G := by
  obtain ⟨⟨h, hv, hn, h1, h2, h4⟩, h5⟩ := s
  exact ⟨⟨h, hv.later hb, hn.later (hb.mono hv.top), h1, h2, fun k hk => ⟨(h4 k hk).1, Nat.lt_of_lt_of_le (h4 k hk).2.1 hb.size, (h4 k hk).2.2⟩⟩, h5.trans (hb.mono h5.size)⟩
theorem QM.fresh (s : QM w0 w b M V G) (hb : Below w.heap.size w w') (hG : ∀ k, G' k → G k ∨ (w.heap.size ≤ k ∧ k < w'.heap.size)) : QM w0 w' b M V G' := by
  obtain ⟨⟨h, hv, hn, h1, h2, h4⟩, h5⟩ := s
  refine ⟨⟨h, hv.later hb, hn.later (hb.mono hv.top), h1, h2, fun k hk => ?_⟩, h5.trans (hb.mono h5.size)⟩
  rcases hG k hk with h | h
  · exact ⟨(h4 k h).1, Nat.lt_of_lt_of_le (h4 k h).2.1 hb.size, (h4 k h).2.2⟩
  · exact ⟨fun hf => by have := hv.fp_lt hf; omega, h.2, Nat.le_trans hv.top h.1⟩
theorem QM.guarded (s : QM w0 w b M V G) (hk : Kept G w w') (hG : ∀ k, G' k → G k ∨ (w.heap.size ≤ k ∧ k < w'.heap.size)) : QM w0 w' b M V G' := by
  obtain ⟨⟨h, hv, hn, h1, h2, h4⟩, h5⟩ := s
  have hbel : Below h.bs w w' := hk.below hv.top (fun k hs => (h4 k hs).2.2)
  refine ⟨⟨h, hv.kept hbel (fun k hf => hk.block k (hv.fp_lt hf) (fun hs => (h4 k hs).1 hf)), hn.later hbel, h1, h2, fun k hs => ?_⟩, h5.trans (hk.below h5.size (fun k hs => Nat.le_trans h2 (h4 k hs).2.2))⟩
  rcases hG k hs with h | h
  · exact ⟨(h4 k h).1, Nat.lt_of_lt_of_le (h4 k h).2.1 hk.size, (h4 k h).2.2⟩
  · exact ⟨fun hf => by have := hv.fp_lt hf; omega, h.2, Nat.le_trans hv.top h.1⟩
theorem QM.usages (s : QM w0 w b M V G) : Usages w := by
  obtain ⟨⟨h, hv, _⟩, h5⟩ := s
  exact hv.usages
theorem QM.len (s : QM w0 w b M V G) : V.calls.length ≤ 1000000 := by
  obtain ⟨⟨h, hv, _⟩, h5⟩ := s
  exact hv.len
theorem QM.glt (s : QM w0 w b M V G) {k : Nat} (hk : G k) : k < w.heap.size := by
  obtain ⟨⟨h, hv, hn, h1, h2, h4⟩, h5⟩ := s
  exact (h4 k hk).2.1
theorem qm_new {sp : Nat} {f : NameT → Option ByteArray} (hb : Below w0.heap.size w0 w) (hn : BaseN M w.heap.size w sp f) (hlow : Below w.heap.size w w') (hv : ViewAt w' ⟨w.heap.size + 2, w.heap.size, w.heap.size + 1, .slice none 0 0, sp, w.heap.size⟩ ⟨f, [], []⟩) : QM w0 w' (w.heap.size + 2) M ⟨f, [], []⟩ (fun _ => False) :=
  ⟨⟨_, hv, hn.later hlow, rfl, hb.size, fun _ hk => hk.elim⟩, hb.trans (hlow.mono hb.size)⟩
/-- A new view of a state. -/
theorem qmNew {sp : Nat} {f : NameT → Option ByteArray} (hu : Usages w) (hb : Below w0.heap.size w0 w) (hn : BaseN M w.heap.size w sp f) : Calls Tryz.prog 9 #[.pointer (some ⟨sp, 0, none⟩)] w (QMP w0 (w.heap.size + 2) M ⟨f, [], []⟩ (fun _ => False) w (.pointer (some ⟨w.heap.size + 2, 0, none⟩))) := by
  refine (viewNew_any sp f w hu hn.ok).mono ?_
  rintro r w' ⟨rfl, h1, h2⟩
  exact ⟨rfl, qm_new hb hn h1 h2, fun _ hk => hk.elim⟩
theorem avSeen_base (V : AV) (n : NameT) : (avSeen V n).base = V.base := by
  unfold avSeen
  split <;> rfl
end
section
variable {w0 w : World} {b M : Nat} {V V' : AV} {G : Nat → Prop} (s : QM w0 w b M V G)
include s
theorem QM.gk {w' : World} (hb : Below w.heap.size w w') : ∀ k, G k → w'.heap[k]? = w.heap[k]? := fun k hk => hb.block k (s.glt hk)
/-- A value that a view shows has at most 65536 bytes. -/
theorem QM.size (n : NameT) : (avGet V n).1.size ≤ 65536 := by
  obtain ⟨⟨h, hv, _⟩, h5⟩ := s
  unfold avGet
  cases hl : lastCall V.calls n with
  | some c =>
    have hm : c ∈ V.calls := by
      clear h5 hv
      revert hl
      generalize V.calls = cs
      intro hl
      induction cs with
      | nil => simp [lastCall] at hl
      | cons d cs ih =>
        simp only [lastCall] at hl
        split at hl
        · rename_i e he
          rw [he] at ih
          exact List.mem_cons_of_mem _ (ih hl)
        · split at hl
          · cases hl; exact List.mem_cons_self
          · cases hl
    exact (hv.ok c hm).2
  | none =>
    obtain ⟨t, ht, hf⟩ := hv.base
    dsimp only
    rw [hf n]
    cases hg : getL cmpN t.ents n with
    | none => exact Nat.zero_le _
    | some x =>
      dsimp only [Option.getD_some]
      have : ∃ e ∈ t.ents, e.2 = x := by
        revert hg
        generalize t.ents = es
        intro hg
        induction es with
        | nil => simp [getL] at hg
        | cons d es ih =>
          simp only [getL] at hg
          split at hg
          · cases hg; exact ⟨d, List.mem_cons_self, rfl⟩
          · obtain ⟨e, he, hx⟩ := ih hg
            exact ⟨e, List.mem_cons_of_mem _ he, hx⟩
      obtain ⟨e, he, rfl⟩ := this
      exact ht.vals e he
/-- The view's own Get. -/
theorem qmVGet (n : NameT) (hn : NameOk n) : Calls Tryz.prog 28 #[.pointer (some ⟨b, 0, none⟩), nameV n] w (QMP w0 b M (avSeen V n) G w (.tuple #[.string (avGet V n).1, .bool (avGet V n).2])) := by
  obtain ⟨⟨h, hv, hb, rfl, h2, h4⟩, h5⟩ := s
  refine (vGet_any h V n w hv hn).mono ?_
  rintro r w' ⟨rfl, hp⟩
  obtain ⟨h', hp⟩ := hp.vq
  exact ⟨rfl, qm_post hv hb rfl h2 h4 h5 (avSeen_base _ _) hp⟩
theorem qmVHas (n : NameT) (hn : NameOk n) : Calls Tryz.prog 31 #[.pointer (some ⟨b, 0, none⟩), nameV n] w (QMP w0 b M (avSeen V n) G w (.bool (avGet V n).2)) := by
  obtain ⟨⟨h, hv, hb, rfl, h2, h4⟩, h5⟩ := s
  refine (vHas_any h V n w hv hn).mono ?_
  rintro r w' ⟨rfl, hp⟩
  obtain ⟨h', hp⟩ := hp.vq
  exact ⟨rfl, qm_post hv hb rfl h2 h4 h5 (avSeen_base _ _) hp⟩
theorem qmVSet (n : NameT) (hn : NameOk n) (x : ByteArray) (hx : x.size ≤ 65536) (hlen : V.calls.length < 1000000) : Calls Tryz.prog 62 #[.pointer (some ⟨b, 0, none⟩), nameV n, .string x] w (QMP w0 b M ⟨V.base, V.reads, V.calls ++ [⟨n, x, false⟩]⟩ G w (.int .i64 0)) := by
  obtain ⟨⟨h, hv, hb, rfl, h2, h4⟩, h5⟩ := s
  refine (vSet_any h V n x w hv hn hx hlen).mono ?_
  rintro r w' ⟨rfl, hp⟩
  obtain ⟨h', hp⟩ := hp.vq
  exact ⟨rfl, qm_post hv hb rfl h2 h4 h5 rfl hp⟩
theorem qmVDel (n : NameT) (hn : NameOk n) (hlen : V.calls.length < 1000000) : Calls Tryz.prog 30 #[.pointer (some ⟨b, 0, none⟩), nameV n] w (QMP w0 b M ⟨V.base, V.reads, V.calls ++ [⟨n, ⟨#[]⟩, true⟩]⟩ G w (.int .i64 0)) := by
  obtain ⟨⟨h, hv, hb, rfl, h2, h4⟩, h5⟩ := s
  refine (vDel_any h V n w hv hn hlen).mono ?_
  rintro r w' ⟨rfl, hp⟩
  obtain ⟨h', hp⟩ := hp.vq
  exact ⟨rfl, qm_post hv hb rfl h2 h4 h5 rfl hp⟩
end
end Go.Proofs.YtfchfjipkggnkaaGreatDoor


namespace Go.Proofs.YtfchfjipkggnkaaGreatDoor
open Go.RowKit

/-- A type whose cells are neither of a state's nor of a view's blocks. -/
def Apart (T : TypeId) : Prop := T ≠ 129 ∧ T ≠ 97 ∧ T ≠ 78 ∧ T ≠ 61
section
variable {w w' w0 : World} {R : Nat} {cs : Array Value} {T : TypeId} {fr : Nat × Nat}
theorem apart_ne (hR : w.heap[R]? = some (.cells cs T fr)) {k : Nat} {o : Obj} (hk : w.heap[k]? = some o) (hd : ∀ c f, o ≠ .cells c T f) : k ≠ R := fun e => by
  subst e
  rw [hR] at hk
  exact hd cs fr (Option.some.inj hk).symm
theorem TreeAt.box (hR : w.heap[R]? = some (.cells cs T fr)) (hT : Apart T) (hg : w.grownBy w' (some R)) {t : Tree} (h : TreeAt w t) : TreeAt w' t := by
  induction t with
  | nil => trivial
  | node p l n v r h1 h2 =>
    obtain ⟨a1, a2, a3⟩ := h
    have hne := apart_ne hR a1 (fun _ _ e => hT.1 (Obj.cells.inj e).2.1.symm)
    exact ⟨(hg.block p (lt_of_heap a1) (fun e => hne (Option.some.inj e))).trans a1, h1 a2, h2 a3⟩
theorem StateIn.box (hR : w.heap[R]? = some (.cells cs T fr)) (hT : Apart T) (hg : w.grownBy w' (some R)) {B sp : Nat} {t : Tree} (h : StateIn B w sp t) : StateIn B w' sp t :=
  ⟨(hg.block sp (lt_of_heap h.cell) (fun e => apart_ne hR h.cell (fun _ _ e => hT.2.1 (Obj.cells.inj e).2.1.symm) (Option.some.inj e))).trans h.cell, h.lt, h.at_.box hR hT hg, h.all, h.good, h.vals, h.sz⟩
theorem BaseN.box (hR : w.heap[R]? = some (.cells cs T fr)) (hT : Apart T) (hg : w.grownBy w' (some R)) {N B sp : Nat} {f : NameT → Option ByteArray} (h : BaseN N B w sp f) : BaseN N B w' sp f := by
  obtain ⟨t, h1, h2⟩ := h
  exact ⟨t, h1.box hR hT hg, h2⟩
theorem BaseOk.box (hR : w.heap[R]? = some (.cells cs T fr)) (hT : Apart T) (hg : w.grownBy w' (some R)) {B sp : Nat} {f : NameT → Option ByteArray} (h : BaseOk B w sp f) : BaseOk B w' sp f := by
  obtain ⟨t, h1, h2⟩ := h
  exact ⟨t, h1.box hR hT hg, h2⟩
theorem below_box {B : Nat} (hg : w.grownBy w' (some R)) (hB : B ≤ R) (hR : R < w.heap.size) : Below B w w' := ⟨hg.os, hg.tape, hg.output, hg.size, fun k hk => hg.block k (by omega) (fun e => by cases e; omega)⟩
theorem ViewAt.nfp (hR : w.heap[R]? = some (.cells cs T fr)) (hT : Apart T) {h : VH} {V : AV} (v : ViewAt w h V) {k : Nat} (hf : h.fp k) : k ≠ R := by
  rcases hf with rfl | rfl | rfl | hf
  · exact apart_ne hR v.heap (fun _ _ e => hT.2.2.1 (Obj.cells.inj e).2.1.symm)
  · obtain ⟨es, clock, hb, _⟩ := v.reads
    exact apart_ne hR hb (fun _ _ e => by cases e)
  · obtain ⟨es, clock, hb, _⟩ := v.last
    exact apart_ne hR hb (fun _ _ e => by cases e)
  · rcases v.calls.2 with ⟨h1, _⟩ | ⟨g, cap, cur, h1, h2, h3, _⟩
    · rw [h1] at hf; cases hf
    · rw [h1] at hf
      simp [Value.ownBlock] at hf
      subst hf
      exact apart_ne hR h3 (fun _ _ e => hT.2.2.2 (Obj.cells.inj e).2.1.symm)
theorem ViewAt.box (hR : w.heap[R]? = some (.cells cs T fr)) (hT : Apart T) (h0 : 0 < R) (hg : w.grownBy w' (some R)) {h : VH} {V : AV} (v : ViewAt w h V) : ViewAt w' h V := by
  have hk : ∀ k, h.fp k → w'.heap[k]? = w.heap[k]? := fun k hf => hg.block k (v.fp_lt hf) (fun e => v.nfp hR hT hf (Option.some.inj e))
  exact
  { heap := (hk _ (.inl rfl)).trans v.heap
    reads := v.reads.kept (hk _ (.inr (.inl rfl)))
    last := v.last.kept (hk _ (.inr (.inr (.inl rfl))))
    calls := row_kept v.calls (fun g hg => hk g (.inr (.inr (.inr hg))))
    apart := v.apart
    usages := v.usages.below (below_box (B := 1) hg h0 (lt_of_heap hR)) (by decide)
    base := v.base.box hR hT hg
    lo := v.lo
    pos := v.pos
    top := Nat.le_trans v.top hg.size
    len := v.len
    ok := v.ok
    rdk := v.rdk }
theorem QM.box (hR : w.heap[R]? = some (.cells cs T fr)) (hT : Apart T) (h0 : 0 < R) (hw0 : w0.heap.size ≤ R) (hg : w.grownBy w' (some R)) {b M : Nat} {V : AV} {G : Nat → Prop} (s : QM w0 w b M V G) : QM w0 w' b M V G := by
  obtain ⟨⟨h, hv, hn, h1, h2, h4⟩, h5⟩ := s
  exact ⟨⟨h, hv.box hR hT h0 hg, hn.box hR hT hg, h1, h2, fun k hk => ⟨(h4 k hk).1, Nat.lt_of_lt_of_le (h4 k hk).2.1 hg.size, (h4 k hk).2.2⟩⟩, h5.trans (below_box hg hw0 (lt_of_heap hR))⟩
theorem QM.from {w1 : World} {b M : Nat} {V : AV} {G : Nat → Prop} (s : QM w1 w b M V G) (hb : Below w0.heap.size w0 w1) : QM w0 w b M V G := by
  obtain ⟨⟨h, hv, hn, h1, h2, h4⟩, h5⟩ := s
  exact ⟨⟨h, hv, hn, h1, Nat.le_trans hb.size h2, h4⟩, hb.trans (h5.mono hb.size)⟩
end
end Go.Proofs.YtfchfjipkggnkaaGreatDoor

namespace Go.Proofs.YtfchfjipkggnkaaGreatDoor
open Go.RowKit

structure QI (w0 w : World) (b M : Nat) (V : AV) (G E : Nat → Prop) (W : World) : Prop where
  s : QM w0 W b M V (fun k => G k ∨ E k)
  g : ∀ k, G k → W.heap[k]? = w.heap[k]?
  ap : ∀ k, G k → ¬ E k
section
variable {w0 w W W' : World} {b M : Nat} {V V' : AV} {G E E' : Nat → Prop}
theorem QM.qi (s : QM w0 w b M V G) (hb : Below w.heap.size w W) (hE : ∀ k, E k → w.heap.size ≤ k ∧ k < W.heap.size) : QI w0 w b M V G E W :=
  ⟨s.fresh hb (fun k hk => hk.imp id (hE k)), fun k hk => hb.block k (s.glt hk), fun k hk he => by have := s.glt hk; have := (hE k he).1; omega⟩
theorem QM.qi0 (s : QM w0 w b M V G) (hb : Below w.heap.size w W) : QI w0 w b M V G (fun _ => False) W := s.qi hb (fun _ h => h.elim)
theorem QI.later (q : QI w0 w b M V G E W) (hb : Below W.heap.size W W') : QI w0 w b M V G E W' :=
  ⟨q.s.later hb, fun k hk => (hb.block k (q.s.glt (.inl hk))).trans (q.g k hk), q.ap⟩
theorem QI.more (q : QI w0 w b M V G E W) (hb : Below W.heap.size W W') (hE : ∀ k, E' k → E k ∨ (W.heap.size ≤ k ∧ k < W'.heap.size)) : QI w0 w b M V G E' W' := by
  refine ⟨q.s.fresh hb (fun k hk => ?_), fun k hk => (hb.block k (q.s.glt (.inl hk))).trans (q.g k hk), fun k hk he => ?_⟩
  · rcases hk with h | h
    · exact .inl (.inl h)
    · exact (hE k h).imp .inr id
  · rcases hE k he with h | h
    · exact q.ap k hk h
    · have := q.s.glt (k := k) (.inl hk); omega
theorem QI.step (q : QI w0 w b M V G E W) (s : QM w0 W' b M V' (fun k => G k ∨ E k)) (hk : ∀ k, (G k ∨ E k) → W'.heap[k]? = W.heap[k]?) : QI w0 w b M V' G E W' :=
  ⟨s, fun k h => (hk k (.inl h)).trans (q.g k h), q.ap⟩
theorem QI.guarded (q : QI w0 w b M V G E W) (hk : Kept E W W') : QI w0 w b M V G E W' :=
  ⟨q.s.guarded (hk.mono (fun _ _ h => .inr h)) (fun _ h => .inl h), fun k h => (hk.block k (q.s.glt (.inl h)) (q.ap k h)).trans (q.g k h), q.ap⟩
theorem QI.set (q : QI w0 w b M V G E W) (X : Nat) (hX : E X) (i : Nat) (v : Value) : QI w0 w b M V G E (W.setCell ⟨X, i, none⟩ v) :=
  q.guarded (Kept.of_grown (grown_setCell W X i v) E (fun k hk => by cases hk; exact hX))
theorem QI.grown (q : QI w0 w b M V G E W) (X : Nat) (hX : E X) (hg : W.grownBy W' (some X)) : QI w0 w b M V G E W' :=
  q.guarded (Kept.of_grown hg E (fun k hk => by cases hk; exact hX))
theorem QI.drew (q : QI w0 w b M V G E W) : QI w0 w b M V G E W.drew := q.later (Below.refl _ _).drew
theorem QI.drop (q : QI w0 w b M V G E W) (hE : ∀ k, E' k → E k) : QI w0 w b M V G E' W :=
  ⟨q.s.fresh (Below.refl _ _) (fun k h => .inl (h.imp id (hE k))), q.g, fun k h he => q.ap k h (hE k he)⟩
theorem QI.done (q : QI w0 w b M V G E W) : QM w0 W b M V G ∧ ∀ k, G k → W.heap[k]? = w.heap[k]? :=
  ⟨q.s.fresh (Below.refl _ _) (fun _ h => .inl (.inl h)), q.g⟩
theorem QI.post (q : QI w0 w b M V G E W) (v : Value) : QMP w0 b M V G w v (.returned v) W := ⟨rfl, q.done⟩
end
end Go.Proofs.YtfchfjipkggnkaaGreatDoor
