/- A view, its value known, its base a state of at most M objects; blocks G are not the view's. The pipe's functions upon it; the midst of law 32's do. -/
import Derived.Test.YtemmeopaihmlcaaGreatDoorPipN
import Derived.Test.YtemmeopaihmlcaaGreatDoorStaG
namespace Go.Proofs.YtemmeopaihmlcaaGreatDoor
open Go.RowKit

/-- The view at b, made after w0, is V, upon a state of at most M objects. -/
structure QM (w0 w : World) (b M : Nat) (V : AV) (G : Nat → Prop) : Prop where
  ex : ∃ h, ViewAt w h V ∧ BaseN M h.bs w h.sp V.base ∧ h.b = b ∧ w0.heap.size ≤ h.bs ∧ ∀ k, G k → ¬ h.fp k ∧ k < w.heap.size ∧ h.bs ≤ k
  below : Below w0.heap.size w0 w
section
variable {w0 w w' : World} {b M : Nat} {V V' : AV} {G G' : Nat → Prop}
def QMP (w0 : World) (b M : Nat) (V' : AV) (G : Nat → Prop) (w : World) (v : Value) (r : Ending) (w' : World) : Prop :=
  r = .returned v ∧ QM w0 w' b M V' G ∧ ∀ k, G k → w'.heap[k]? = w.heap[k]?
theorem qm_post {h h' : VH} (hv : ViewAt w h V) (hn : BaseN M h.bs w h.sp V.base) (hb : h.b = b) (hbs : w0.heap.size ≤ h.bs) (hG : ∀ k, G k → ¬ h.fp k ∧ k < w.heap.size ∧ h.bs ≤ k) (hlow : Below w0.heap.size w0 w) (hV : V'.base = V.base) (hp : VQ h (fun _ => False) w V' w' h') :
    QM w0 w' b M V' G ∧ ∀ k, G k → w'.heap[k]? = w.heap[k]? := by
  have hbel : Below h.bs w w' := hp.kept.below hv.top (fun k hk => by
    rcases hk with h1 | h1
    · exact hv.lo k h1
    · exact h1.elim)
  refine ⟨⟨⟨h', hp.at_, by rw [hp.bs, hp.sp, hV]; exact hn.later hbel, hp.b.trans hb, by rw [hp.bs]; exact hbs, fun k hk => ⟨fun hf => ?_, Nat.lt_of_lt_of_le (hG k hk).2.1 hp.kept.size, by rw [hp.bs]; exact (hG k hk).2.2⟩⟩, ?_⟩, fun k hk => hp.kept.block k (hG k hk).2.1 (fun hf => ?_)⟩
  · rcases hp.fp k hf with h1 | h1
    · exact (hG k hk).1 h1
    · have := (hG k hk).2.1; omega
  · exact hlow.trans (hbel.mono hbs)
  · rcases hf with h1 | h1
    · exact (hG k hk).1 h1
    · exact h1
theorem QM.later (s : QM w0 w b M V G) (hb : Below w.heap.size w w') : QM w0 w' b M V G := by
  obtain ⟨⟨h, hv, hn, h1, h2, h4⟩, h5⟩ := s
  exact ⟨⟨h, hv.later hb, hn.later (hb.mono hv.top), h1, h2, fun k hk => ⟨(h4 k hk).1, Nat.lt_of_lt_of_le (h4 k hk).2.1 hb.size, (h4 k hk).2.2⟩⟩, h5.trans (hb.mono h5.size)⟩
theorem QM.fresh (s : QM w0 w b M V G) (hb : Below w.heap.size w w') (hG : ∀ k, G' k → G k ∨ (w.heap.size ≤ k ∧ k < w'.heap.size)) : QM w0 w' b M V G' := by
  obtain ⟨⟨h, hv, hn, h1, h2, h4⟩, h5⟩ := s
  refine ⟨⟨h, hv.later hb, hn.later (hb.mono hv.top), h1, h2, fun k hk => ?_⟩, h5.trans (hb.mono h5.size)⟩
  rcases hG k hk with h | h
  · exact ⟨(h4 k h).1, Nat.lt_of_lt_of_le (h4 k h).2.1 hb.size, (h4 k h).2.2⟩
  · exact ⟨fun hf => by have := hv.fp_lt hf; omega, h.2, Nat.le_trans hv.top h.1⟩
theorem QM.guarded (s : QM w0 w b M V G) (hk : Kept G w w') (hG : ∀ k, G' k → G k ∨ (w.heap.size ≤ k ∧ k < w'.heap.size)) : QM w0 w' b M V G' := by
  obtain ⟨⟨h, hv, hn, h1, h2, h4⟩, h5⟩ := s
  have hbel : Below h.bs w w' := hk.below hv.top (fun k hs => (h4 k hs).2.2)
  refine ⟨⟨h, hv.kept hbel (fun k hf => hk.block k (hv.fp_lt hf) (fun hs => (h4 k hs).1 hf)), hn.later hbel, h1, h2, fun k hs => ?_⟩, h5.trans (hk.below h5.size (fun k hs => Nat.le_trans h2 (h4 k hs).2.2))⟩
  rcases hG k hs with h | h
  · exact ⟨(h4 k h).1, Nat.lt_of_lt_of_le (h4 k h).2.1 hk.size, (h4 k h).2.2⟩
  · exact ⟨fun hf => by have := hv.fp_lt hf; omega, h.2, Nat.le_trans hv.top h.1⟩
theorem QM.usages (s : QM w0 w b M V G) : Usages w := by
  obtain ⟨⟨h, hv, _⟩, h5⟩ := s
  exact hv.usages
theorem QM.len (s : QM w0 w b M V G) : V.calls.length ≤ 1000000 := by
  obtain ⟨⟨h, hv, _⟩, h5⟩ := s
  exact hv.len
theorem QM.glt (s : QM w0 w b M V G) {k : Nat} (hk : G k) : k < w.heap.size := by
  obtain ⟨⟨h, hv, hn, h1, h2, h4⟩, h5⟩ := s
  exact (h4 k hk).2.1
theorem qm_new {sp : Nat} {f : NameT → Option ByteArray} (hb : Below w0.heap.size w0 w) (hn : BaseN M w.heap.size w sp f) (hlow : Below w.heap.size w w') (hv : ViewAt w' ⟨w.heap.size + 2, w.heap.size, w.heap.size + 1, .slice none 0 0, sp, w.heap.size⟩ ⟨f, [], []⟩) : QM w0 w' (w.heap.size + 2) M ⟨f, [], []⟩ (fun _ => False) :=
  ⟨⟨_, hv, hn.later hlow, rfl, hb.size, fun _ hk => hk.elim⟩, hb.trans (hlow.mono hb.size)⟩
/-- A new view of a state. -/
theorem qmNew {sp : Nat} {f : NameT → Option ByteArray} (hu : Usages w) (hb : Below w0.heap.size w0 w) (hn : BaseN M w.heap.size w sp f) : Calls Tryz.prog 17 #[.pointer (some ⟨sp, 0, none⟩)] w (QMP w0 (w.heap.size + 2) M ⟨f, [], []⟩ (fun _ => False) w (.pointer (some ⟨w.heap.size + 2, 0, none⟩))) := by
  refine (viewNew_any sp f w hu hn.ok).mono ?_
  rintro r w' ⟨rfl, h1, h2⟩
  exact ⟨rfl, qm_new hb hn h1 h2, fun _ hk => hk.elim⟩
theorem avSeen_base (V : AV) (n : NameT) : (avSeen V n).base = V.base := by
  unfold avSeen
  split <;> rfl
theorem pSeen_base (V : AV) (m : ByteArray) (k e : Int) : (pSeen V m k e).base = V.base := by
  unfold pSeen
  split
  · rfl
  · exact avSeen_base _ _
theorem pChange_base (op : PipeT → PipeT × Nat) (V : AV) (m : ByteArray) (k e : Int) : (pChange op V m k e).1.base = V.base := by
  unfold pChange
  split
  · exact pSeen_base _ _ _ _
  split
  · exact pSeen_base _ _ _ _
  split
  · exact pSeen_base _ _ _ _
  split
  · exact pSeen_base _ _ _ _
  split
  · exact pSeen_base _ _ _ _
  · exact pSeen_base _ _ _ _
theorem pMake_base (V : AV) (m : ByteArray) (k e : Int) : (pMake V m k e).1.base = V.base := by
  unfold pMake
  split
  · rfl
  split
  · exact avSeen_base _ _
  · exact avSeen_base _ _
/-- What Get answers depends on the base and the calls. -/
theorem avGet_same {V V' : AV} (hb : V'.base = V.base) (hc : V'.calls = V.calls) (n : NameT) : avGet V' n = avGet V n := by
  unfold avGet
  rw [hb, hc]
end
section
variable {w0 w : World} {b M : Nat} {V V' : AV} {G : Nat → Prop} {e : Int} (s : QM w0 w b M V G)
include s
theorem qmGet' {ep re wr : Int} {by_ : ByteArray} {q : Nat} (hr : PReady V oneM 2) (hst : pGet V oneM 2 e = (⟨ep, re, wr, by_⟩, q)) (hse : pSeen V oneM 2 e = V') : Calls Tryz.prog 30 #[.pointer (some ⟨b, 0, none⟩), .agg #[.string ⟨#[51, 46, 49]⟩, .int .i64 2], .int .i64 e] w (QMP w0 b M V' G w (.tuple #[.agg #[.int .i64 ep, .int .i64 re, .int .i64 wr, .string by_], .int .i64 q])) := by
  obtain ⟨⟨h, hv, hn, rfl, h2, h4⟩, h5⟩ := s
  refine (pGet_any h V oneM 2 e w hv hr.mz hr.size).mono ?_
  rintro r w' ⟨h', rfl, hp⟩
  have hb := pSeen_base V oneM 2 e
  rw [hse] at hb hp
  rw [hst]
  exact ⟨rfl, qm_post hv hn rfl h2 h4 h5 hb hp⟩
theorem qmMake' {q : Nat} (hr : PReady V oneM 2) (hst : pMake V oneM 2 e = (V', q)) : Calls Tryz.prog 31 #[.pointer (some ⟨b, 0, none⟩), .agg #[.string ⟨#[51, 46, 49]⟩, .int .i64 2], .int .i64 e] w (QMP w0 b M V' G w (.int .i64 q)) := by
  obtain ⟨⟨h, hv, hn, rfl, h2, h4⟩, h5⟩ := s
  refine (pMake_any h V oneM 2 e w hv hr).mono ?_
  rintro r w' ⟨h', rfl, hp⟩
  have hb := pMake_base V oneM 2 e
  rw [hst] at hp hb ⊢
  exact ⟨rfl, qm_post hv hn rfl h2 h4 h5 hb hp⟩
theorem qmRead' {most : Int} {q : Nat} {x : ByteArray} (hr : PReady V oneM 2) (hm : most ≤ 9223372036854775807) (hst : pChange (opRead most) V oneM 2 e = (V', q)) (hx : pReadB most V oneM 2 e = x) : Calls Tryz.prog 32 #[.pointer (some ⟨b, 0, none⟩), .agg #[.string ⟨#[51, 46, 49]⟩, .int .i64 2], .int .i64 e, .int .i64 most] w (QMP w0 b M V' G w (.tuple #[.string x, .int .i64 q])) := by
  obtain ⟨⟨h, hv, hn, rfl, h2, h4⟩, h5⟩ := s
  refine (pRead_any h V oneM 2 e most w hv hr hm).mono ?_
  rintro r w' ⟨h', rfl, hp⟩
  have hb := pChange_base (opRead most) V oneM 2 e
  rw [hst] at hp hb ⊢
  rw [hx]
  exact ⟨rfl, qm_post hv hn rfl h2 h4 h5 hb hp⟩
theorem qmWrite' {t : ByteArray} {q n : Nat} (hr : PReady V oneM 2) (hm : t.size ≤ 9223372036854775807) (hst : pChange (opWrite t) V oneM 2 e = (V', q)) (hx : pWriteN t V oneM 2 e = n) : Calls Tryz.prog 34 #[.pointer (some ⟨b, 0, none⟩), .agg #[.string ⟨#[51, 46, 49]⟩, .int .i64 2], .int .i64 e, .string t] w (QMP w0 b M V' G w (.tuple #[.int .i64 n, .int .i64 q])) := by
  obtain ⟨⟨h, hv, hn, rfl, h2, h4⟩, h5⟩ := s
  refine (pWrite_any h V oneM 2 e t w hv hr hm).mono ?_
  rintro r w' ⟨h', rfl, hp⟩
  have hb := pChange_base (opWrite t) V oneM 2 e
  rw [hst] at hp hb ⊢
  rw [hx]
  exact ⟨rfl, qm_post hv hn rfl h2 h4 h5 hb hp⟩
theorem qmJoin' {x : Bool} {q : Nat} (hr : PReady V oneM 2) (hst : pChange (opJoin x) V oneM 2 e = (V', q)) : Calls Tryz.prog 35 #[.pointer (some ⟨b, 0, none⟩), .agg #[.string ⟨#[51, 46, 49]⟩, .int .i64 2], .int .i64 e, .bool x] w (QMP w0 b M V' G w (.int .i64 q)) := by
  obtain ⟨⟨h, hv, hn, rfl, h2, h4⟩, h5⟩ := s
  refine (pJoin_any h V oneM 2 e x w hv hr).mono ?_
  rintro r w' ⟨h', rfl, hp⟩
  have hb := pChange_base (opJoin x) V oneM 2 e
  rw [hst] at hp hb ⊢
  exact ⟨rfl, qm_post hv hn rfl h2 h4 h5 hb hp⟩
theorem qmLeave' {x : Bool} {q : Nat} (hr : PReady V oneM 2) (hst : pChange (opLeave x) V oneM 2 e = (V', q)) : Calls Tryz.prog 36 #[.pointer (some ⟨b, 0, none⟩), .agg #[.string ⟨#[51, 46, 49]⟩, .int .i64 2], .int .i64 e, .bool x] w (QMP w0 b M V' G w (.int .i64 q)) := by
  obtain ⟨⟨h, hv, hn, rfl, h2, h4⟩, h5⟩ := s
  refine (pLeave_any h V oneM 2 e x w hv hr).mono ?_
  rintro r w' ⟨h', rfl, hp⟩
  have hb := pChange_base (opLeave x) V oneM 2 e
  rw [hst] at hp hb ⊢
  exact ⟨rfl, qm_post hv hn rfl h2 h4 h5 hb hp⟩
/-- The view's own Get. -/
theorem qmVGet (n : NameT) (hn : NameOk n) : Calls Tryz.prog 57 #[.pointer (some ⟨b, 0, none⟩), nameV n] w (QMP w0 b M (avSeen V n) G w (.tuple #[.string (avGet V n).1, .bool (avGet V n).2])) := by
  obtain ⟨⟨h, hv, hb, rfl, h2, h4⟩, h5⟩ := s
  refine (vGet_any h V n w hv hn).mono ?_
  rintro r w' ⟨rfl, hp⟩
  obtain ⟨h', hp⟩ := hp.vq
  exact ⟨rfl, qm_post hv hb rfl h2 h4 h5 (avSeen_base _ _) hp⟩
end

/-- In the midst of do: its boxes from R on. -/
structure DovAt (w0 w W : World) (b M : Nat) (V : AV) (G : Nat → Prop) (R : Nat) (opc : Array Value) : Prop where
  op : W.heap[R]? = some (.cells opc 81 (0, 0))
  out : W.heap[R + 1]? = some (.cells zRes 83 (0, 0))
  res : W.heap[R + 1 + 1]? = some (.cells zRes 83 (0, 0))
  sp : QM w0 W b M V (fun k => G k ∨ k = R ∨ k = R + 1 ∨ k = R + 1 + 1)
  g : ∀ k, G k → W.heap[k]? = w.heap[k]?
theorem dov_start {w0 w : World} {b M : Nat} {V : AV} {G : Nat → Prop} {opc : Array Value} (s : QM w0 w b M V G) :
    DovAt w0 w (((w.alloc (.cells opc 81)).alloc (.cells zRes 83)).alloc (.cells zRes 83)) b M V G w.heap.size opc := by
  have hb : Below w.heap.size w (((w.alloc (.cells opc 81)).alloc (.cells zRes 83)).alloc (.cells zRes 83)) := (((Below.refl _ _).alloc (Nat.le_refl _) _).alloc (by simp) _).alloc (by simp; omega) _
  refine ⟨(Below.heap_alloc _ _ _ (by simp; omega)).trans ((Below.heap_alloc _ _ _ (by simp)).trans (World.alloc_heap_new w _)), ?_, ?_, s.fresh hb (fun k hk => ?_), fun k hk => ?_⟩
  · exact (Below.heap_alloc _ _ _ (by simp)).trans (second_new w _ _)
  · have := World.alloc_heap_new ((w.alloc (.cells opc 81)).alloc (.cells zRes 83)) (.cells zRes 83)
    rwa [World.size_alloc, World.size_alloc] at this
  · rcases hk with h | h | h | h
    · exact .inl h
    · exact .inr ⟨by omega, by simp; omega⟩
    · exact .inr ⟨by omega, by simp; omega⟩
    · exact .inr ⟨by omega, by simp; omega⟩
  · exact hb.block k (s.glt hk)
section
variable {w0 w W W' : World} {b M R : Nat} {V V' : AV} {G : Nat → Prop} {opc : Array Value}
theorem DovAt.later (d : DovAt w0 w W b M V G R opc) (hb : Below W.heap.size W W') : DovAt w0 w W' b M V G R opc := by
  have hs := d.sp
  refine ⟨(hb.block _ (lt_of_heap d.op)).trans d.op, (hb.block _ (lt_of_heap d.out)).trans d.out, (hb.block _ (lt_of_heap d.res)).trans d.res, hs.later hb, fun k hk => ?_⟩
  exact (hb.block k (hs.glt (.inl hk))).trans (d.g k hk)
theorem DovAt.drew (d : DovAt w0 w W b M V G R opc) : DovAt w0 w W.drew b M V G R opc := d.later (Below.drew (Below.refl _ _))
theorem DovAt.step (d : DovAt w0 w W b M V G R opc) (s : QM w0 W' b M V' (fun k => G k ∨ k = R ∨ k = R + 1 ∨ k = R + 1 + 1)) (hk : ∀ k, (G k ∨ k = R ∨ k = R + 1 ∨ k = R + 1 + 1) → W'.heap[k]? = W.heap[k]?) : DovAt w0 w W' b M V' G R opc :=
  ⟨(hk _ (.inr (.inl rfl))).trans d.op, (hk _ (.inr (.inr (.inl rfl)))).trans d.out, (hk _ (.inr (.inr (.inr rfl)))).trans d.res, s, fun k h => (hk k (.inl h)).trans (d.g k h)⟩
/-- Behind the stores into the result. -/
theorem DovAt.done (d : DovAt w0 w W b M V G R opc) (hR : ∀ k, G k → k ≠ R + 1 ∧ k ≠ R + 1 + 1) (hk : Kept (fun k => k = R + 1 ∨ k = R + 1 + 1) W W') : QM w0 W' b M V G ∧ ∀ k, G k → W'.heap[k]? = w.heap[k]? := by
  have hs := d.sp
  refine ⟨hs.guarded (hk.mono (fun i _ h => .inr (.inr h))) (fun k h => .inl (.inl h)), fun k h => ?_⟩
  exact (hk.block k (hs.glt (.inl h)) (fun e => by rcases e with e | e; exact (hR k h).1 e; exact (hR k h).2 e)).trans (d.g k h)
theorem qop_kept (d : DovAt w0 w W b M V G R opc) (hk : Kept (fun k => k = R + 1 ∨ k = R + 1 + 1) W W') : W'.heap[R]? = some (.cells opc 81 (0, 0)) := (hk.block R (lt_of_heap d.op) (fun h => by rcases h with h | h <;> omega)).trans d.op
theorem qop_cell {i : Nat} {v : Value} (d : DovAt w0 w W b M V G R opc) (hk : Kept (fun k => k = R + 1 ∨ k = R + 1 + 1) W W') (hi : opc[i]? = some v) : W'.cell? ⟨R, i, none⟩ = some v := (cell_of_heap (qop_kept d hk) i).trans hi
theorem kset {i : Nat} {v : Value} (h : Kept (fun k => k = R + 1 ∨ k = R + 1 + 1) W W') : Kept (fun k => k = R + 1 ∨ k = R + 1 + 1) W (W'.setCell ⟨R + 1 + 1, i, none⟩ v) := h.trans (Kept.of_grown (grown_setCell _ _ _ _) _ (fun k hk => by cases hk; exact .inr rfl)) (fun _ _ h => h)
end
theorem qguard_new {w0 w : World} {b M : Nat} {V : AV} {G : Nat → Prop} (s : QM w0 w b M V G) : ∀ k, G k → k ≠ w.heap.size + 1 ∧ k ≠ w.heap.size + 1 + 1 := fun k hk => by
  have := s.glt hk
  omega
/-- The end of do: the result lies in both boxes. -/
theorem dov_end {w0 w W W2 : World} {b M R : Nat} {V : AV} {G : Nat → Prop} {opc : Array Value} {r : ResT} (d : DovAt w0 w W b M V G R opc) (hR : ∀ k, G k → k ≠ R + 1 ∧ k ≠ R + 1 + 1) (hk : Kept (fun k => k = R + 1 ∨ k = R + 1 + 1) W W2)
    (a0 a1 a2 a3 a4 a5 a6 : Value) (hv : resV r = .agg #[a0, a1, a2, a3, a4, a5, a6]) :
    QMP w0 b M V G w (resV r) (.returned (.agg #[a0, a1, a2, a3, a4, a5, a6])) (((((((W2.setCell ⟨R + 1, 0, none⟩ a0).setCell ⟨R + 1, 1, none⟩ a1).setCell ⟨R + 1, 2, none⟩ a2).setCell ⟨R + 1, 3, none⟩ a3).setCell ⟨R + 1, 4, none⟩ a4).setCell ⟨R + 1, 5, none⟩ a5).setCell ⟨R + 1, 6, none⟩ a6) := by
  have k2 := hk.trans (Kept.of_grown (grown7 W2 (R + 1) a0 a1 a2 a3 a4 a5 a6) (fun k => k = R + 1 ∨ k = R + 1 + 1) (fun k hk => by cases hk; exact .inl rfl)) (fun _ _ h => h)
  obtain ⟨h1, h2⟩ := d.done hR k2
  exact ⟨by rw [hv], h1, h2⟩
end Go.Proofs.YtemmeopaihmlcaaGreatDoor
