/- Law 24: a view and a clone of it that plays on with rows of its own. Law 24: ViewClones. (printed by wip/gen_vcl.py) -/
import Derived.Test.YthghfhnicdoebaaGreatDoorVeqA
import Derived.Test.YthghfhnicdoebaaGreatDoorCloB
import Derived.Test.YthghfhnicdoebaaGreatDoorPvA
import Derived.Test.YthghfhnicdoebaaGreatDoorIsA
import Derived.Test.YthghfhnicdoebaaGreatDoorKnvA
import Derived.Deep.RegionHeld3
import Derived.Deep.RegionLaw
import Derived.Deep.DeepCutAuto
namespace Go.Proofs.YthghfhnicdoebaaGreatDoor
open Go.RowKit

theorem StateIn.blocks {B : Nat} {w w' : World} {sp : Nat} {t : Tree} (h : StateIn B w sp t) (hb : ∀ k, k < B → w'.heap[k]? = w.heap[k]?) : StateIn B w' sp t :=
  ⟨(hb sp h.lt).trans h.cell, h.lt, h.at_.kept fun k _ => by
    by_cases hk : k < B
    · exact .inr (hb k hk)
    · exact .inl (Tr.all_mono h.all fun p hp => by omega), h.all, h.good, h.vals, h.sz⟩
theorem BaseN.blocks {N B : Nat} {w w' : World} {sp : Nat} {f : NameT → Option ByteArray} (h : BaseN N B w sp f) (hb : ∀ k, k < B → w'.heap[k]? = w.heap[k]?) : BaseN N B w' sp f := by
  obtain ⟨t, h1, h2⟩ := h
  exact ⟨t, h1.blocks hb, h2⟩
theorem ViewAt.blocks {w w' : World} {h : VH} {V : AV} (v : ViewAt w h V) (hb : ∀ k, k < h.bs → w'.heap[k]? = w.heap[k]?) (hk : ∀ k, h.fp k → w'.heap[k]? = w.heap[k]?) (hu : Usages w') (ht : h.bs ≤ w'.heap.size) : ViewAt w' h V where
  heap := (hk _ (.inl rfl)).trans v.heap
  reads := v.reads.kept (hk _ (.inr (.inl rfl)))
  last := v.last.kept (hk _ (.inr (.inr (.inl rfl))))
  calls := row_kept v.calls (fun g hg => hk g (.inr (.inr (.inr hg))))
  apart := v.apart
  usages := hu
  base := by
    obtain ⟨t, h1, h2⟩ := v.base
    exact ⟨t, h1.blocks hb, h2⟩
  lo := v.lo
  pos := v.pos
  top := ht
  len := v.len
  ok := v.ok
  rdk := v.rdk
/-- A world's first blocks. -/
def cutW (w : World) (B : Nat) : World := { w with heap := w.heap.extract 0 B }
theorem cutW_size {w : World} {B : Nat} (h : B ≤ w.heap.size) : (cutW w B).heap.size = B := by
  show (w.heap.extract 0 B).size = B
  rw [Array.size_extract]; omega
theorem cutW_below {w : World} {B : Nat} (h : B ≤ w.heap.size) : Below B (cutW w B) w := by
  refine ⟨rfl, rfl, rfl, by rw [cutW_size h]; exact h, fun k hk => ?_⟩
  show _ = (w.heap.extract 0 B)[k]?
  rw [Array.getElem?_extract]
  simp only [Nat.zero_add, Nat.sub_zero]
  rw [if_pos (by omega)]
theorem below_cut {w0 w w' ws : World} {B : Nat} (h0 : Below w0.heap.size w0 w) (hs : Below B ws w) (hs' : Below B ws w') (hB : w0.heap.size ≤ B) (hz : B ≤ ws.heap.size) : Below w0.heap.size w0 w' :=
  ⟨(hs'.os.trans hs.os.symm).trans h0.os, (hs'.tape.trans hs.tape.symm).trans h0.tape, (hs'.output.trans hs.output.symm).trans h0.output, Nat.le_trans hB (Nat.le_trans hz hs'.size), fun k hk => ((hs'.block k (Nat.lt_of_lt_of_le hk hB)).trans (hs.block k (Nat.lt_of_lt_of_le hk hB)).symm).trans (h0.block k hk)⟩

/-- A view b with its reference's rows, and its clone c, which plays on with rows of its own. -/
structure Twin (w0 w : World) (b c : Nat) (l : List (NameT × ByteArray)) (G : Nat → Prop) (q z : List NameT × List ChangeT) (vb vr vc zr zc : Value) : Prop where
  ex : ∃ h ws, ViewAt w h (VOf l q.1 q.2) ∧ BaseN 12 h.bs w h.sp (getL cmpN l) ∧ h.b = b ∧ w0.heap.size ≤ h.bs ∧ (∀ k, own2 G vr vc k → ¬ h.fp k ∧ h.bs ≤ k) ∧ ws.heap.size = h.bs ∧ PVI ws w c l (own2 (fun k => h.fp k ∨ G k) vr vc) z vb zr zc
  below : Below w0.heap.size w0 w
  hr : RowK kN w vr q.1
  hc : RowK kC w vc q.2
  vl : ∀ k, vb.ownBlock = some k → k < w0.heap.size
section
variable {w0 w w' : World} {b c : Nat} {l : List (NameT × ByteArray)} {G G' : Nat → Prop} {q z z' : List NameT × List ChangeT} {vb vr vc zr zc zr' zc' : Value}
theorem Twin.glt (h : Twin w0 w b c l G q z vb vr vc zr zc) {k : Nat} (hk : own2 G vr vc k) : k < w.heap.size ∧ w0.heap.size ≤ k := by
  obtain ⟨⟨hd, ws, h1, h2, h3, h4, h5, h6, h7⟩, hb, hr, hc, vl⟩ := h
  refine ⟨h7.s.glt (k := k) (.inl ?_), Nat.le_trans h4 (h5 k hk).2⟩
  exact hk.imp .inr id
theorem Twin.zlt (h : Twin w0 w b c l G q z vb vr vc zr zc) {k : Nat} (hk : zr.ownBlock = some k ∨ zc.ownBlock = some k) : k < w.heap.size := by
  obtain ⟨⟨hd, ws, h1, h2, h3, h4, h5, h6, h7⟩, hb, hr, hc, vl⟩ := h
  exact h7.s.glt (k := k) (.inr hk)
/-- The first of the two, as a view that plays. -/
theorem Twin.one (h : Twin w0 w b c l G q z vb vr vc zr zc) : PVI w0 w b l (fun _ => False) q vb vr vc := by
  have hg := fun k hk => (h.glt (k := k) hk).1
  obtain ⟨⟨hd, ws, h1, h2, h3, h4, h5, h6, h7⟩, hb, hr, hc, vl⟩ := h
  refine ⟨⟨⟨hd, h1, h2, h3, h4, fun k hk => ?_⟩, hb⟩, h7.hb, hr, hc, vl⟩
  rcases hk with hk | hk
  · exact hk.elim
  · obtain ⟨a, b⟩ := h5 k (.inr hk)
    exact ⟨a, hg k (.inr hk), b⟩
/-- The clone, as a view that plays. -/
theorem Twin.two (h : Twin w0 w b c l G q z vb vr vc zr zc) : ∃ ws, PVI ws w c l G z vb zr zc := by
  obtain ⟨⟨hd, ws, h1, h2, h3, h4, h5, h6, h7⟩, -⟩ := h
  exact ⟨ws, h7.drop (fun k hk => .inl (.inr hk))⟩
theorem Twin.later (h : Twin w0 w b c l G q z vb vr vc zr zc) (hb : Below w.heap.size w w') : Twin w0 w' b c l G q z vb vr vc zr zc := by
  obtain ⟨⟨hd, ws, h1, h2, h3, h4, h5, h6, h7⟩, h8, hr, hc, vl⟩ := h
  exact ⟨⟨hd, ws, h1.later hb, h2.later (hb.mono h1.top), h3, h4, h5, h6, h7.later hb⟩, h8.trans (hb.mono h8.size), hr.later hb, hc.later hb, vl⟩
/-- New blocks to guard. -/
theorem Twin.more (h : Twin w0 w b c l G q z vb vr vc zr zc) (hb : Below w.heap.size w w') (hG : ∀ k, G' k → G k ∨ (w.heap.size ≤ k ∧ k < w'.heap.size)) : Twin w0 w' b c l G' q z vb vr vc zr zc := by
  obtain ⟨⟨hd, ws, h1, h2, h3, h4, h5, h6, h7⟩, h8, hr, hc, vl⟩ := h
  refine ⟨⟨hd, ws, h1.later hb, h2.later (hb.mono h1.top), h3, h4, fun k hk => ?_, h6, h7.more hb fun k hk => ?_⟩, h8.trans (hb.mono h8.size), hr.later hb, hc.later hb, vl⟩
  · rcases hk with hk | hk
    · rcases hG k hk with hk | hk
      · exact h5 k (.inl hk)
      · exact ⟨fun hf => by have := h1.fp_lt hf; omega, Nat.le_trans h1.top hk.1⟩
    · exact h5 k (.inr hk)
  · rcases hk with (hk | hk) | hk
    · exact .inl (.inl (.inl hk))
    · exact (hG k hk).imp (fun h => .inl (.inr h)) id
    · exact .inl (.inr hk)
/-- A store into a guarded block that is none of the rows. -/
theorem Twin.box (h : Twin w0 w b c l G q z vb vr vc zr zc) {P : Nat} (hP : G P) (e1 : ∀ k, vr.ownBlock = some k → k ≠ P) (e2 : ∀ k, vc.ownBlock = some k → k ≠ P) (e3 : ∀ k, zr.ownBlock = some k → k ≠ P) (e4 : ∀ k, zc.ownBlock = some k → k ≠ P) (hg : w.grownBy w' (some P)) : Twin w0 w' b c l G q z vb vr vc zr zc := by
  have ne : ∀ v : Value, (∀ k, v.ownBlock = some k → k ≠ P) → ∀ k, v.ownBlock = some k → some P ≠ some k := fun v h k hk e => h k hk (Option.some.inj e).symm
  obtain ⟨⟨hd, ws, h1, h2, h3, h4, h5, h6, h7⟩, h8, hr, hc, vl⟩ := h
  obtain ⟨p1, p2⟩ := h5 P (.inl hP)
  have hk : Kept (fun k => k = P) w w' := Kept.of_grown hg _ (fun k hk => by cases hk; rfl)
  have hbel : Below hd.bs w w' := hk.below h1.top (fun k hs => by subst hs; exact p2)
  refine ⟨⟨hd, ws, h1.kept hbel (fun k hf => hk.block k (h1.fp_lt hf) (fun hs => p1 (by rw [← hs]; exact hf))), h2.later hbel, h3, h4, h5, h6, ?_⟩, h8.trans (hbel.mono h4), hr.grown hg (ne _ e1), hc.grown hg (ne _ e2), vl⟩
  exact h7.box (.inl (.inr hP)) (fun k hk => by have := vl k hk; omega) e3 e4 hg
end
/-- Clone of a view that plays. -/
theorem twin_clone {w0 w : World} {b : Nat} {l : List (NameT × ByteArray)} {G : Nat → Prop} {q : List NameT × List ChangeT} {vb vr vc : Value} (h : PVI w0 w b l G q vb vr vc) :
    Calls Tryz.prog 26 #[.pointer (some ⟨b, 0, none⟩)] w fun r w' => ∃ c, r = .returned (.pointer (some ⟨c, 0, none⟩)) ∧ Twin w0 w' b c l G q q vb vr vc vr vc ∧ Below w.heap.size w w' := by
  obtain ⟨⟨⟨hd, hv, hn, rfl, hbs, hG⟩, h8⟩, hb, hr, hc, vl⟩ := h
  refine (vClone_any hd _ w hv).mono ?_
  rintro r w' ⟨h', rfl, hv', hbs', hsp', hlow, hge⟩
  refine ⟨h'.b, rfl, ⟨⟨hd, cutW w hd.bs, hv.later hlow, hn.later (hlow.mono hv.top), rfl, hbs, fun k hk => ?_, cutW_size hv.top, ?_⟩, h8.trans (hlow.mono h8.size), hr.later hlow, hc.later hlow, vl⟩, hlow⟩
  · obtain ⟨a, b, c⟩ := hG k hk
    exact ⟨a, c⟩
  have hlo : ∀ k, h'.fp k → w.heap.size ≤ k := fun k hk => by rw [← hbs']; exact hv'.lo k hk
  refine ⟨⟨⟨⟨h'.b, h'.rm, h'.lm, h'.cv, h'.sp, hd.bs⟩, ⟨hv'.heap, hv'.reads, hv'.last, hv'.calls, hv'.apart, hv'.usages, ?_, fun k hk => Nat.le_trans hv.top (hlo k hk), hv.pos, Nat.le_trans hv.top hlow.size, hv'.len, hv'.ok, hv'.rdk⟩, ?_, rfl, ?_, fun k hk => ?_⟩, ?_⟩, hb.later hlow, hr.later hlow, hc.later hlow, fun k hk => ?_⟩
  · show BaseOk hd.bs w' h'.sp _
    rw [hsp']
    exact hv.base.later (hlow.mono hv.top)
  · show BaseN 12 hd.bs w' h'.sp _
    rw [hsp']
    exact hn.later (hlow.mono hv.top)
  · rw [cutW_size hv.top]; exact Nat.le_refl _
  · have hk' : hd.fp k ∨ own2 G vr vc k := by
      rcases hk with (hk | hk) | hk
      · exact hk.imp id .inl
      · exact .inr (.inr hk)
      · exact .inr (.inr hk)
    have h9 : k < w.heap.size ∧ hd.bs ≤ k := by
      rcases hk' with hk | hk
      · exact ⟨hv.fp_lt hk, hv.lo k hk⟩
      · exact (hG k hk).2
    exact ⟨fun hf => by have := hlo k hf; omega, Nat.lt_of_lt_of_le h9.1 hlow.size, h9.2⟩
  · rw [cutW_size hv.top]
    exact (cutW_below hv.top).trans (hlow.mono hv.top)
  · rw [cutW_size hv.top]
    exact Nat.lt_of_lt_of_le (vl k hk) hbs
/-- Do, upon the clone. -/
theorem twin_do {w0 w : World} {b c k : Nat} {l : List (NameT × ByteArray)} {G : Nat → Prop} {q z : List NameT × List ChangeT} {vr vc : Value} {ab ar ac : Option Addr} {nb nr nc kb kr kc : Nat} (h : Twin w0 w b c l G q z (.slice ab nb kb) vr vc (.slice ar nr kr) (.slice ac nc kc)) (hl : LOk l 12) (hi : PInv z.1 z.2 k) (hk : k ≤ 60) (o : OpV) (hkd : o.kd ≤ 255) (h1 : o.c.name.owner.size ≤ 9223372036854775807) (h2 : o.c.name.text.size ≤ 9223372036854775807) (h3 : o.c.value.size ≤ 9223372036854775807) :
    Calls Tryz.prog 11 #[.pointer (some ⟨c, 0, none⟩), .agg #[.slice ab nb kb, .slice ar nr kr, .slice ac nc kc], .agg #[.int .u8 o.kd, .int .i64 o.c.name.kind, .string o.c.name.owner, .int .i64 o.c.name.number, .int .i64 o.c.name.index, .string o.c.name.text, .string o.c.value, .bool o.c.absent, .int .i64 o.n]] w fun r w' =>
      ∃ a1 n1 c1 a2 n2 c2, r = .returned (.tuple #[.agg #[.slice ab nb kb, .slice a1 n1 c1, .slice a2 n2 c2], .bool true]) ∧ Twin w0 w' b c l G q (stepR l z.1 z.2 (shortO o)) (.slice ab nb kb) vr vc (.slice a1 n1 c1) (.slice a2 n2 c2) ∧ (∀ k, G k → w'.heap[k]? = w.heap[k]?) ∧ (∀ k, (Value.slice a1 n1 c1).ownBlock = some k → (Value.slice ar nr kr).ownBlock = some k ∨ w.heap.size ≤ k) ∧ ∀ k, (Value.slice a2 n2 c2).ownBlock = some k → (Value.slice ac nc kc).ownBlock = some k ∨ w.heap.size ≤ k := by
  obtain ⟨⟨hd, ws, g1, g2, g3, g4, g5, g6, g7⟩, g8, hr, hc, vl⟩ := h
  refine (pvi_do g7 hl hi hk o hkd h1 h2 h3).mono ?_
  rintro r w' ⟨a1, n1, c1, a2, n2, c2, rfl, h6, hk6, f1, f2⟩
  have s1 : Below hd.bs ws w := by rw [← g6]; exact g7.s.below
  have s2 : Below hd.bs ws w' := by rw [← g6]; exact h6.s.below
  have hlow : ∀ k, k < hd.bs → w'.heap[k]? = w.heap[k]? := fun k hk => (s2.block k hk).trans (s1.block k hk).symm
  refine ⟨a1, n1, c1, a2, n2, c2, rfl, ⟨⟨hd, ws, g1.blocks hlow (fun k hk => hk6 k (.inl (.inl hk))) h6.s.usages (by rw [← g6]; exact h6.s.below.size), g2.blocks hlow, g3, g4, g5, g6, h6⟩, below_cut g8 s1 s2 g4 (by rw [g6]; exact Nat.le_refl _), hr.kept (fun k hk => hk6 k (.inr (.inl hk))), hc.kept (fun k hk => hk6 k (.inr (.inr hk))), vl⟩, fun k hk => hk6 k (.inl (.inr hk)), f1, f2⟩
/-- Equal of two views that play upon the same base. -/
theorem equal_pvi {w0 w1 w : World} {b c : Nat} {l : List (NameT × ByteArray)} {G G' : Nat → Prop} {q z : List NameT × List ChangeT} {vb vr vc vb' zr zc : Value} (h : PVI w0 w b l G q vb vr vc) (h' : PVI w1 w c l G' z vb' zr zc) (hl : LOk l 12) :
    Calls Tryz.prog 23 #[.pointer (some ⟨b, 0, none⟩), .pointer (some ⟨c, 0, none⟩)] w fun r w' => r = .returned (.bool (decide ((sortR q.1).map (rdc l) = (sortR z.1).map (rdc l)) && decide (q.2 = z.2))) ∧ Below w.heap.size w w' := by
  obtain ⟨⟨h1, v1, n1, rfl, -, -⟩, -⟩ := h.s
  obtain ⟨⟨h2, v2, n2, rfl, -, -⟩, -⟩ := h'.s
  obtain ⟨T, t1⟩ := stL_of n1 hl.s rfl
  obtain ⟨U, t2⟩ := stL_of n2 hl.s rfl
  refine (vEqual_any h1 h2 _ _ w w.heap.size l T U v1 v2 ⟨t1.i.up v1.top, t1.e⟩ ⟨t2.i.up v2.top, t2.e⟩ (Nat.le_refl _)).mono ?_
  rintro r w' ⟨rfl, hb⟩
  refine ⟨?_, hb⟩
  show Ending.returned (.bool (likeR (rd l q.1) (rd l z.1) && decide (q.2 = z.2))) = _
  rw [likeR_reads]
/-- Equal of two views of nothing. -/
theorem equal_none {w0 w1 w : World} {b c M M' : Nat} {G G' : Nat → Prop} {f g : NameT → Option ByteArray} (h : QM w0 w b M ⟨f, [], []⟩ G) (h' : QM w1 w c M' ⟨g, [], []⟩ G') (hf : f = getL cmpN []) (hg : g = getL cmpN []) :
    Calls Tryz.prog 23 #[.pointer (some ⟨b, 0, none⟩), .pointer (some ⟨c, 0, none⟩)] w fun r w' => r = .returned (.bool true) ∧ Below w.heap.size w w' := by
  obtain ⟨⟨h1, v1, n1, rfl, -, -⟩, -⟩ := h
  obtain ⟨⟨h2, v2, n2, rfl, -, -⟩, -⟩ := h'
  obtain ⟨T, t1⟩ := stL_of (l := []) n1 List.Pairwise.nil hf
  obtain ⟨U, t2⟩ := stL_of (l := []) n2 List.Pairwise.nil hg
  refine (vEqual_any h1 h2 _ _ w w.heap.size [] T U v1 v2 ⟨t1.i.up v1.top, t1.e⟩ ⟨t2.i.up v2.top, t2.e⟩ (Nat.le_refl _)).mono ?_
  rintro r w' ⟨rfl, hb⟩
  exact ⟨rfl, hb⟩
/-- What the reference has read and called after further operations. -/
def runZ (l : List (NameT × ByteArray)) (q : List NameT × List ChangeT) (fo : Nat → OpV) : Nat → List NameT × List ChangeT
  | 0 => q
  | k + 1 => stepR l (runZ l q fo k).1 (runZ l q fo k).2 (shortO (fo k))
theorem runZ_inv {l : List (NameT × ByteArray)} {q : List NameT × List ChangeT} {m : Nat} (h : PInv q.1 q.2 m) (fo : Nat → OpV) (k : Nat) : PInv (runZ l q fo k).1 (runZ l q fo k).2 (m + k) := by
  induction k with
  | zero => exact h
  | succ k ih => exact ih.step (fit_short _) (short_size _)
/-- Between two operations upon the clone: x lies in the block X, z in the block Z. -/
structure TwJ (w0 wr : World) (b c X Z : Nat) (l : List (NameT × ByteArray)) (q z : List NameT × List ChangeT) (vb vr vc zr zc : Value) : Prop where
  t : Twin w0 wr b c l (fun k => k = X ∨ k = Z) q z vb vr vc zr zc
  px : wr.heap[X]? = some (.cells #[vb, vr, vc] 33 (0, 0))
  pz : wr.heap[Z]? = some (.cells #[vb, zr, zc] 33 (0, 0))
  ne : X ≠ Z
  n1 : ∀ k, vr.ownBlock = some k → k ≠ Z
  n2 : ∀ k, vc.ownBlock = some k → k ≠ Z
  n3 : ∀ k, zr.ownBlock = some k → k ≠ Z
  n4 : ∀ k, zc.ownBlock = some k → k ≠ Z
section
variable {w0 wr w6 w' : World} {b c X Z : Nat} {l : List (NameT × ByteArray)} {q z z' : List NameT × List ChangeT} {vb vr vc zr zc zr' zc' : Value}
theorem TwJ.later (h : TwJ w0 wr b c X Z l q z vb vr vc zr zc) (hb : Below wr.heap.size wr w') : TwJ w0 w' b c X Z l q z vb vr vc zr zc :=
  ⟨h.t.later hb, (hb.block _ (lt_of_heap h.px)).trans h.px, (hb.block _ (lt_of_heap h.pz)).trans h.pz, h.ne, h.n1, h.n2, h.n3, h.n4⟩
theorem TwJ.start (h : Twin w0 wr b c l (fun k => k = X) q q vb vr vc vr vc) (hx : wr.heap[X]? = some (.cells #[vb, vr, vc] 33 (0, 0))) : TwJ w0 (wr.alloc (.cells #[vb, vr, vc] 33)) b c X wr.heap.size l q q vb vr vc vr vc := by
  have hb : Below wr.heap.size wr (wr.alloc (.cells #[vb, vr, vc] 33)) := (Below.refl _ _).alloc (Nat.le_refl _) _
  have hlt := lt_of_heap hx
  have h1 : ∀ k, vr.ownBlock = some k → k ≠ wr.heap.size := fun k hk => by have := (h.glt (k := k) (.inr (.inl hk))).1; omega
  have h2 : ∀ k, vc.ownBlock = some k → k ≠ wr.heap.size := fun k hk => by have := (h.glt (k := k) (.inr (.inr hk))).1; omega
  refine ⟨h.more hb (fun k hk => ?_), (hb.block _ hlt).trans hx, heap_alloc_new wr _, by omega, h1, h2, h1, h2⟩
  rcases hk with hk | hk
  · exact .inl hk
  · exact .inr ⟨Nat.le_of_eq hk.symm, by rw [World.size_alloc]; omega⟩
theorem TwJ.next (h : TwJ w0 wr b c X Z l q z vb vr vc zr zc) (h6 : Twin w0 w6 b c l (fun k => k = X ∨ k = Z) q z' vb vr vc zr' zc') (hk : ∀ k, (k = X ∨ k = Z) → w6.heap[k]? = wr.heap[k]?) (f1 : ∀ k, zr'.ownBlock = some k → zr.ownBlock = some k ∨ wr.heap.size ≤ k) (f2 : ∀ k, zc'.ownBlock = some k → zc.ownBlock = some k ∨ wr.heap.size ≤ k) :
    TwJ w0 (((w6.setCell ⟨Z, 0, none⟩ vb).setCell ⟨Z, 1, none⟩ zr').setCell ⟨Z, 2, none⟩ zc') b c X Z l q z' vb vr vc zr' zc' := by
  have hlt := lt_of_heap h.pz
  have m3 : ∀ k, zr'.ownBlock = some k → k ≠ Z := fun k hk => by
    rcases f1 k hk with h1 | h1
    · exact h.n3 k h1
    · omega
  have m4 : ∀ k, zc'.ownBlock = some k → k ≠ Z := fun k hk => by
    rcases f2 k hk with h1 | h1
    · exact h.n4 k h1
    · omega
  have hg := grown_set3 w6 Z vb zr' zc'
  have hx6 := (hk X (.inl rfl)).trans h.px
  exact ⟨h6.box (.inr rfl) h.n1 h.n2 m3 m4 hg, (hg.block _ (lt_of_heap hx6) (fun e => h.ne (Option.some.inj e))).trans hx6, set3 ((hk Z (.inr rfl)).trans h.pz) _ _ _, h.ne, h.n1, h.n2, m3, m4⟩
theorem TwJ.below (h : TwJ w0 wr b c X Z l q z vb vr vc zr zc) : Below w0.heap.size w0 wr := h.t.below
end
end Go.Proofs.YthghfhnicdoebaaGreatDoor

namespace Go.Proofs.YthghfhnicdoebaaGreatDoor
open Go.RowKit
attribute [local go_sem ↓] Go.wp_at_zero Go.wp_at_succ

set_option linter.unusedSimpArgs false in
set_option maxRecDepth 100000 in
set_option maxHeartbeats 12800000 in
theorem viewClones_any (a5 : Option Addr) (n5 c5 : Nat) (f5 : Nat → ChangeT) (a : Option Addr) (n c' : Nat) (fo : Nat → OpV) (a2 : Option Addr) (n2 c2' : Nat) (fo2 : Nat → OpV) (w : World) (hu : Usages w) (hn5 : n5 ≤ 9223372036854775807) (hl5 : C24Sl w a5 n5 f5) (hn : n ≤ 9223372036854775807) (hl : OpSlV w a n fo) (hn2 : n2 ≤ 9223372036854775807) (hl2 : OpSlV w a2 n2 fo2) :
    Calls Tryz.prog 6 #[.slice a5 n5 c5, .slice a n c', .slice a2 n2 c2'] w fun r w' => r = .returned (.bool true) ∧ Below w.heap.size w w' := by
  have HPl : Hid (∀ W, Below w.heap.size w W → Calls Tryz.prog 13 #[.slice a5 n5 c5, .slice a n c'] W (Play24Post (baseL f5 (min n5 12)) (runR (baseL f5 (min n5 12)) fo (min n 30)) W)) := fun W hW => play24_any a5 n5 c5 f5 a n c' fo W (hu.below hW hu.pos) hn5 (hl5.later hW) hn (hl.later hW)
  have HPm : Hid (∀ W, Below w.heap.size w W → Calls Tryz.prog 13 #[.slice a5 n5 c5, .slice a2 n2 c2'] W (Play24Post (baseL f5 (min n5 12)) (runR (baseL f5 (min n5 12)) fo2 (min n2 30)) W)) := fun W hW => play24_any a5 n5 c5 f5 a2 n2 c2' fo2 W (hu.below hW hu.pos) hn5 (hl5.later hW) hn2 (hl2.later hW)
  have HKn : Hid (Calls Tryz.prog 7 #[] w fun r w' => r = .returned (.bool true) ∧ Below w.heap.size w w') := known24_any w hu
  have HLk : Hid (LOk (baseL f5 (min n5 12)) 12) := (baseL_ok f5 _).more (by omega)
  have HRi : Hid (PInv (runR (baseL f5 (min n5 12)) fo (min n 30)).1 (runR (baseL f5 (min n5 12)) fo (min n 30)).2 30) := (runR_inv _ _ _).more (Nat.min_le_right _ _)
  have HUi : Hid (PInv (runR (baseL f5 (min n5 12)) fo2 (min n2 30)).1 (runR (baseL f5 (min n5 12)) fo2 (min n2 30)).2 30) := (runR_inv _ _ _).more (Nat.min_le_right _ _)
  have HUs : Hid (∀ W, Below w.heap.size w W → Usages W) := fun W hW => hu.below hW hu.pos
  have Hl := Lib.hid hl2
  clear hu hl hl5 hl2
  generalize runR (baseL f5 (min n5 12)) fo (min n 30) = q at *
  generalize runR (baseL f5 (min n5 12)) fo2 (min n2 30) = p at *
  generalize baseL f5 (min n5 12) = l at *
  go_enter Tryz.func6, Tryz.ntmps6
  go_wp2_with fail
  refine HKn.out.mono ?_
  rintro r w1 ⟨rfl, hb1⟩
  have HB1 := Lib.hid hb1
  clear hb1 HKn
  go_wp2_with fail
  refine (HPl.out _ HB1.out).mono ?_
  rintro r w2 ⟨wv, b, ab, nb, kb, ar, nr, kr, ac, nc, kc, rfl, hbv, hpv⟩
  have HBv : Hid (Below w.heap.size w wv) := HB1.out.trans (hbv.mono HB1.out.size)
  have HB2 : Hid (Below w.heap.size w w2) := HBv.out.trans (hpv.s.below.mono HBv.out.size)
  have HA2 : Hid (∀ o, Below w2.heap.size w2 (w2.alloc o)) := fun o => (Below.refl _ _).alloc (Nat.le_refl _) _
  have HX2 : Hid (∀ o, (w2.alloc o).heap[w2.heap.size]? = some o) := fun o => heap_alloc_new w2 o
  have HPx : Hid (∀ o, PVI wv (w2.alloc o) b l (fun k => k = w2.heap.size) q (.slice ab nb kb) (.slice ar nr kr) (.slice ac nc kc)) := fun o => hpv.more (HA2.out o) (fun k hk => .inr ⟨Nat.le_of_eq hk.symm, by rw [World.size_alloc]; omega⟩)
  have HB2a : Hid (∀ o, Below w.heap.size w (w2.alloc o)) := fun o => HB2.out.trans ((HA2.out o).mono HB2.out.size)
  clear hbv hpv HPl HB1
  go_wp2_with fail
  refine (HPm.out _ (HB2a.out _)).mono ?_
  rintro r w4 ⟨wu, u, ub, mb, jb, ur, mr, jr, uc, mc, jc, rfl, hbu, hpu⟩
  have hb4 : Below (w2.alloc (.cells #[.slice ab nb kb, .slice ar nr kr, .slice ac nc kc] 33)).heap.size (w2.alloc (.cells #[.slice ab nb kb, .slice ar nr kr, .slice ac nc kc] 33)) w4 := hbu.trans (hpu.s.below.mono hbu.size)
  have HP4 := Lib.hid ((HPx.out _).later hb4)
  have HX4 := Lib.hid ((hb4.block _ (lt_of_heap (HX2.out _))).trans (HX2.out _))
  have HB4 : Hid (Below w.heap.size w w4) := (HB2a.out _).trans (hb4.mono (HB2a.out _).size)
  have HU4 := Lib.hid hpu
  have HA4 : Hid (∀ o, Below w4.heap.size w4 (w4.alloc o)) := fun o => (Below.refl _ _).alloc (Nat.le_refl _) _
  have HY4 : Hid (∀ o, (w4.alloc o).heap[w4.heap.size]? = some o) := fun o => heap_alloc_new w4 o
  clear hb4 hbu hpu HPx HX2 HB2a HA2 HB2 HPm
  generalize w2.heap.size = X at *
  go_upto_region 5 with fail
  have HP5 := Lib.hid (HP4.out.later (HA4.out (.cells #[.slice ub mb jb, .slice ur mr jr, .slice uc mc jc] 33)))
  have HU5 := Lib.hid (HU4.out.later (HA4.out (.cells #[.slice ub mb jb, .slice ur mr jr, .slice uc mc jc] 33)))
  have HX5 := Lib.hid (((HA4.out (.cells #[.slice ub mb jb, .slice ur mr jr, .slice uc mc jc] 33)).block _ (lt_of_heap HX4.out)).trans HX4.out)
  have HY5 := Lib.hid (HY4.out (.cells #[.slice ub mb jb, .slice ur mr jr, .slice uc mc jc] 33))
  have HB5 : Hid (Below w.heap.size w _) := HB4.out.trans ((HA4.out (.cells #[.slice ub mb jb, .slice ur mr jr, .slice uc mc jc] 33)).mono HB4.out.size)
  clear HP4 HU4 HX4 HY4 HA4 HB4
  generalize w4.alloc (.cells #[.slice ub mb jb, .slice ur mr jr, .slice uc mc jc] 33) = W0 at *
  generalize w4.heap.size = Y at *
  go_cut [57] (fun gv wx => gv = .bool false ∧ Hid (Below W0.heap.size W0 wx))
  case first =>
    have HD0 : Hid (Below W0.heap.size W0 W0.drew) := (Below.refl _ _).drew
    have HSx : Hid (∀ W, Below W0.heap.size W0 W → W.cell? ⟨X, 0, none⟩ = some (.slice ab nb kb) ∧ W.cell? ⟨X, 1, none⟩ = some (.slice ar nr kr) ∧ W.cell? ⟨X, 2, none⟩ = some (.slice ac nc kc) ∧ W.cell? ⟨Y, 0, none⟩ = some (.slice ub mb jb) ∧ W.cell? ⟨Y, 1, none⟩ = some (.slice ur mr jr) ∧ W.cell? ⟨Y, 2, none⟩ = some (.slice uc mc jc)) := fun W hW => by
      have g1 := (hW.block _ (lt_of_heap HX5.out)).trans HX5.out
      have g2 := (hW.block _ (lt_of_heap HY5.out)).trans HY5.out
      exact ⟨cell_of_heap g1 0, cell_of_heap g1 1, cell_of_heap g1 2, cell_of_heap g2 0, cell_of_heap g2 1, cell_of_heap g2 2⟩
    have HEq : Hid (∀ W, Below W0.heap.size W0 W → Calls Tryz.prog 23 #[.pointer (some ⟨b, 0, none⟩), .pointer (some ⟨u, 0, none⟩)] W fun r w' => r = .returned (.bool (decide ((sortR q.1).map (rdc l) = (sortR p.1).map (rdc l)) && decide (q.2 = p.2))) ∧ Below W.heap.size W w') := fun W hW => equal_pvi (HP5.out.later hW) (HU5.out.later hW) HLk.out
    have HRx : Hid (∀ W, Below W0.heap.size W0 W → Calls Tryz.prog 25 #[.agg #[.slice ab nb kb, .slice ar nr kr, .slice ac nc kc]] W fun r w' => ∃ v, r = .returned v ∧ RowK kC w' v ((sortR q.1).map (rdc l)) ∧ Below W.heap.size W w') := fun W hW => rReads_any W ab ar ac nb nr nc kb kr kc l q.1 (HP5.out.hb.later hW) (HP5.out.hr.later hW) (fun n hn => (HRi.out.rf n hn).1) HLk.out.fit HLk.out.s (by have := HLk.out.n; omega) (by have := HRi.out.rl; omega)
    have HRy : Hid (∀ W, Below W0.heap.size W0 W → Calls Tryz.prog 25 #[.agg #[.slice ub mb jb, .slice ur mr jr, .slice uc mc jc]] W fun r w' => ∃ v, r = .returned v ∧ RowK kC w' v ((sortR p.1).map (rdc l)) ∧ Below W.heap.size W w') := fun W hW => rReads_any W ub ur uc mb mr mc jb jr jc l p.1 (HU5.out.hb.later hW) (HU5.out.hr.later hW) (fun n hn => (HUi.out.rf n hn).1) HLk.out.fit HLk.out.s (by have := HLk.out.n; omega) (by have := HUi.out.rl; omega)
    have hlr : ((sortR q.1).map (rdc l)).length ≤ 1000000 := by rw [List.length_map]; have := sortR_len q.1; have := HRi.out.rl; omega
    have HSr : Hid (∀ W v1 v2, Below W0.heap.size W0 W → RowK kC W v1 ((sortR q.1).map (rdc l)) → RowK kC W v2 ((sortR p.1).map (rdc l)) → Calls Tryz.prog 24 #[v1, v2] W fun r w' => r = .returned (.bool (decide ((sortR q.1).map (rdc l) = (sortR p.1).map (rdc l)))) ∧ Below W.heap.size W w') := fun W v1 v2 hW h1 h2 => rSame_any W v1 v2 _ _ h1 h2 hlr
    have HSc : Hid (∀ W, Below W0.heap.size W0 W → Calls Tryz.prog 24 #[.slice ac nc kc, .slice uc mc jc] W fun r w' => r = .returned (.bool (decide (q.2 = p.2))) ∧ Below W.heap.size W w') := fun W hW => rSame_any W _ _ _ _ (HP5.out.hc.later hW) (HU5.out.hc.later hW) (by have := HRi.out.cl; omega)
    clear hlr HP5 HU5 HX5 HY5 HB5 HLk HRi HUi HUs Hl HBv
    generalize (sortR q.1).map (rdc l) = rx at *
    generalize (sortR p.1).map (rdc l) = ry at *
    generalize decide (rx = ry) = eA at *
    generalize decide (q.2 = p.2) = eB at *
    cases eA
    · refine wp_region_held_drew (S := (fun W => W.cell? ⟨X, 0, none⟩ = some (.slice ab nb kb) ∧ W.cell? ⟨X, 1, none⟩ = some (.slice ar nr kr) ∧ W.cell? ⟨X, 2, none⟩ = some (.slice ac nc kc) ∧ W.cell? ⟨Y, 0, none⟩ = some (.slice ub mb jb) ∧ W.cell? ⟨Y, 1, none⟩ = some (.slice ur mr jr) ∧ W.cell? ⟨Y, 2, none⟩ = some (.slice uc mc jc))) (by kernel_rfl) (HSx.out _ HD0.out) (fun hHeld0 => ?_)
      refine wpAnyH_take (i := 0) (v := ?_) rfl (by kernel_rfl) (by kernel_rfl) (by kernel_rfl) (fun _ _ _ h => h) (Or.inl ⟨by rfl, ?_⟩) (by assumption) ?_
      rotate_left
      · (intro wx hSw; (try dsimp only at hSw); go_simp <;> with_reducible rfl)
      try simp only [Act.put, List.setIfInBounds_toArray, List.set_cons_zero, List.set_cons_succ, List.getElem_toArray, List.getElem_cons_zero, List.getElem_cons_succ]
      refine wpAnyH_take (i := 1) (v := ?_) rfl (by kernel_rfl) (by kernel_rfl) (by kernel_rfl) (fun _ _ _ h => h) (Or.inl ⟨by rfl, ?_⟩) (by assumption) ?_
      rotate_left
      · (intro wx hSw; (try dsimp only at hSw); go_simp <;> with_reducible rfl)
      try simp only [Act.put, List.setIfInBounds_toArray, List.set_cons_zero, List.set_cons_succ, List.getElem_toArray, List.getElem_cons_zero, List.getElem_cons_succ]
      refine wpAnyH_take (i := 2) (v := ?_) rfl (by kernel_rfl) (by kernel_rfl) (by kernel_rfl) (fun _ _ _ h => h) (Or.inl ⟨by rfl, ?_⟩) (by assumption) ?_
      rotate_left
      · (intro wx hSw; (try dsimp only at hSw); go_simp <;> with_reducible rfl)
      try simp only [Act.put, List.setIfInBounds_toArray, List.set_cons_zero, List.set_cons_succ, List.getElem_toArray, List.getElem_cons_zero, List.getElem_cons_succ]
      refine wpAnyH_take (i := 3) (v := ?_) rfl (by kernel_rfl) (by kernel_rfl) (by kernel_rfl) (fun _ _ _ h => h) (Or.inl ⟨by rfl, ?_⟩) (by assumption) ?_
      rotate_left
      · (intro wx hSw; (try dsimp only at hSw); go_simp <;> with_reducible rfl)
      try simp only [Act.put, List.setIfInBounds_toArray, List.set_cons_zero, List.set_cons_succ, List.getElem_toArray, List.getElem_cons_zero, List.getElem_cons_succ]
      refine wpAnyH_take (i := 4) (v := ?_) rfl (by kernel_rfl) (by kernel_rfl) (by kernel_rfl) (fun _ _ _ h => h) (Or.inl ⟨by rfl, ?_⟩) (by assumption) ?_
      rotate_left
      · (intro wx hSw; (try dsimp only at hSw); go_simp <;> with_reducible rfl)
      try simp only [Act.put, List.setIfInBounds_toArray, List.set_cons_zero, List.set_cons_succ, List.getElem_toArray, List.getElem_cons_zero, List.getElem_cons_succ]
      refine wpAnyH_take (i := 5) (v := ?_) rfl (by kernel_rfl) (by kernel_rfl) (by kernel_rfl) (fun _ _ _ h => h) (Or.inl ⟨by rfl, ?_⟩) (by assumption) ?_
      rotate_left
      · (intro wx hSw; (try dsimp only at hSw); go_simp <;> with_reducible rfl)
      try simp only [Act.put, List.setIfInBounds_toArray, List.set_cons_zero, List.set_cons_succ, List.getElem_toArray, List.getElem_cons_zero, List.getElem_cons_succ]
      refine wpAnyH_take (i := 6) (v := ?_) rfl (by kernel_rfl) (by kernel_rfl) (by kernel_rfl) (fun _ _ _ h => h) (Or.inl ⟨by rfl, ?_⟩) (by assumption) ?_
      rotate_left
      · (intro wx hSw; (try dsimp only at hSw); go_simp <;> with_reducible rfl)
      try simp only [Act.put, List.setIfInBounds_toArray, List.set_cons_zero, List.set_cons_succ, List.getElem_toArray, List.getElem_cons_zero, List.getElem_cons_succ]
      refine wpAnyH_take (i := 7) (v := ?_) rfl (by kernel_rfl) (by kernel_rfl) (by kernel_rfl) (fun _ _ _ h => h) (Or.inl ⟨by rfl, ?_⟩) (by assumption) ?_
      rotate_left
      · (intro wx hSw; (try dsimp only at hSw); go_simp <;> with_reducible rfl)
      try simp only [Act.put, List.setIfInBounds_toArray, List.set_cons_zero, List.set_cons_succ, List.getElem_toArray, List.getElem_cons_zero, List.getElem_cons_succ]
      refine wpAnyH_take (i := 8) (v := ?_) rfl (by kernel_rfl) (by kernel_rfl) (by kernel_rfl) (fun _ _ _ h => h) (Or.inl ⟨by rfl, ?_⟩) (by assumption) ?_
      rotate_left
      · (intro wx hSw; (try dsimp only at hSw); go_simp <;> with_reducible rfl)
      try simp only [Act.put, List.setIfInBounds_toArray, List.set_cons_zero, List.set_cons_succ, List.getElem_toArray, List.getElem_cons_zero, List.getElem_cons_succ]
      refine wpAnyH_take (i := 10) (v := ?_) rfl (by kernel_rfl) (by kernel_rfl) (by kernel_rfl) (fun _ _ _ h => h) (Or.inl ⟨by rfl, ?_⟩) (by assumption) ?_
      rotate_left
      · (intro wx hSw; (try dsimp only at hSw); go_simp <;> with_reducible rfl)
      try simp only [Act.put, List.setIfInBounds_toArray, List.set_cons_zero, List.set_cons_succ, List.getElem_toArray, List.getElem_cons_zero, List.getElem_cons_succ]
      refine wpAnyH_take (i := 12) (v := ?_) rfl (by kernel_rfl) (by kernel_rfl) (by kernel_rfl) (fun _ _ _ h => h) (Or.inl ⟨by rfl, ?_⟩) (by assumption) ?_
      rotate_left
      · (intro wx hSw; (try dsimp only at hSw); go_simp <;> with_reducible rfl)
      try simp only [Act.put, List.setIfInBounds_toArray, List.set_cons_zero, List.set_cons_succ, List.getElem_toArray, List.getElem_cons_zero, List.getElem_cons_succ]
      refine wpAnyH_ready (rs := [9]) (by kernel_rfl) (by simp) ?_
      refine AllReadyH.cons rfl (fun K hK => ?_) AllReadyH.nil
      go_simp
      go_at_call 23
      (with_reducible refine (HEq.out _ HD0.out).mono ?_)
      rintro r v1 ⟨rfl, hb⟩
      have B1 : Hid (Below W0.heap.size W0 v1) := HD0.out.trans (hb.mono HD0.out.size)
      clear hb
      go_wp2_with fail
      refine hK.out _ _ (HSx.out _ B1.out) (fun hHeld1 => ?_)
      clear hK K hHeld0
      try simp only [Act.put, List.setIfInBounds_toArray, List.set_cons_zero, List.set_cons_succ, List.getElem_toArray, List.getElem_cons_zero, List.getElem_cons_succ]
      refine wpAnyH_ready (rs := [11]) (by kernel_rfl) (by simp) ?_
      refine AllReadyH.cons rfl (fun K hK => ?_) AllReadyH.nil
      go_simp
      go_at_call 25
      (with_reducible refine (HRx.out _ B1.out).mono ?_)
      rintro r v2 ⟨y2, rfl, hr2, hb⟩
      have B2 : Hid (Below W0.heap.size W0 v2) := B1.out.trans (hb.mono B1.out.size)
      have R2 := Lib.hid hr2
      clear hr2
      clear hb
      go_wp2_with fail
      refine hK.out _ _ (HSx.out _ B2.out) (fun hHeld2 => ?_)
      clear hK K hHeld1
      try simp only [Act.put, List.setIfInBounds_toArray, List.set_cons_zero, List.set_cons_succ, List.getElem_toArray, List.getElem_cons_zero, List.getElem_cons_succ]
      refine wpAnyH_ready (rs := [13]) (by kernel_rfl) (by simp) ?_
      refine AllReadyH.cons rfl (fun K hK => ?_) AllReadyH.nil
      go_simp
      go_at_call 25
      (with_reducible refine (HRy.out _ B2.out).mono ?_)
      rintro r v3 ⟨y3, rfl, hr3, hb⟩
      have B3 : Hid (Below W0.heap.size W0 v3) := B2.out.trans (hb.mono B2.out.size)
      have R3 := Lib.hid hr3
      have R23 := Lib.hid (R2.out.later hb)
      clear hr3
      clear hb
      go_wp2_with fail
      refine hK.out _ _ (HSx.out _ B3.out) (fun hHeld3 => ?_)
      clear hK K hHeld2
      try simp only [Act.put, List.setIfInBounds_toArray, List.set_cons_zero, List.set_cons_succ, List.getElem_toArray, List.getElem_cons_zero, List.getElem_cons_succ]
      refine wpAnyH_ready (rs := [14]) (by kernel_rfl) (by simp) ?_
      refine AllReadyH.cons rfl (fun K hK => ?_) AllReadyH.nil
      go_simp
      go_at_call 24
      (with_reducible refine (HSr.out _ _ _ B3.out R23.out R3.out).mono ?_)
      rintro r v4 ⟨rfl, hb⟩
      have B4 : Hid (Below W0.heap.size W0 v4) := B3.out.trans (hb.mono B3.out.size)
      clear hb
      go_wp2_with fail
      refine hK.out _ _ (HSx.out _ B4.out) (fun hHeld4 => ?_)
      clear hK K hHeld3
      try simp only [Act.put, List.setIfInBounds_toArray, List.set_cons_zero, List.set_cons_succ, List.getElem_toArray, List.getElem_cons_zero, List.getElem_cons_succ]
      refine wpAnyH_take (i := 15) (v := ?_) rfl (by kernel_rfl) (by kernel_rfl) (by kernel_rfl) (fun _ _ _ h => h) (Or.inl ⟨by rfl, ?_⟩) (by assumption) ?_
      rotate_left
      · (intro wx hSw; (try dsimp only at hSw); go_simp <;> with_reducible rfl)
      try simp only [Act.put, List.setIfInBounds_toArray, List.set_cons_zero, List.set_cons_succ, List.getElem_toArray, List.getElem_cons_zero, List.getElem_cons_succ]
      refine wpAnyH_take (i := 16) (v := undef) rfl (by kernel_rfl) (by kernel_rfl) (by kernel_rfl) (fun _ _ _ h => h) (Or.inr ⟨by simp [Region.wanted, yielded], rfl⟩) (by assumption) ?_
      try simp only [Act.put, List.setIfInBounds_toArray, List.set_cons_zero, List.set_cons_succ, List.getElem_toArray, List.getElem_cons_zero, List.getElem_cons_succ]
      refine wpAnyH_take (i := 17) (v := undef) rfl (by kernel_rfl) (by kernel_rfl) (by kernel_rfl) (fun _ _ _ h => h) (Or.inr ⟨by simp [Region.wanted, yielded], rfl⟩) (by assumption) ?_
      try simp only [Act.put, List.setIfInBounds_toArray, List.set_cons_zero, List.set_cons_succ, List.getElem_toArray, List.getElem_cons_zero, List.getElem_cons_succ]
      refine wpAnyH_take (i := 18) (v := undef) rfl (by kernel_rfl) (by kernel_rfl) (by kernel_rfl) (fun _ _ _ h => h) (Or.inr ⟨by simp [Region.wanted, yielded], rfl⟩) (by assumption) ?_
      try simp only [Act.put, List.setIfInBounds_toArray, List.set_cons_zero, List.set_cons_succ, List.getElem_toArray, List.getElem_cons_zero, List.getElem_cons_succ]
      refine wpAnyH_take (i := 19) (v := undef) rfl (by kernel_rfl) (by kernel_rfl) (by kernel_rfl) (fun _ _ _ h => h) (Or.inr ⟨by simp [Region.wanted, yielded], rfl⟩) (by assumption) ?_
      try simp only [Act.put, List.setIfInBounds_toArray, List.set_cons_zero, List.set_cons_succ, List.getElem_toArray, List.getElem_cons_zero, List.getElem_cons_succ]
      refine wpAnyH_take (i := 20) (v := undef) rfl (by kernel_rfl) (by kernel_rfl) (by kernel_rfl) (fun _ _ _ h => h) (Or.inr ⟨by simp [Region.wanted, yielded], rfl⟩) (by assumption) ?_
      try simp only [Act.put, List.setIfInBounds_toArray, List.set_cons_zero, List.set_cons_succ, List.getElem_toArray, List.getElem_cons_zero, List.getElem_cons_succ]
      refine wpAnyH_take (i := 21) (v := ?_) rfl (by kernel_rfl) (by kernel_rfl) (by kernel_rfl) (fun _ _ _ h => h) (Or.inl ⟨by rfl, ?_⟩) (by assumption) ?_
      rotate_left
      · (intro wx hSw; (try dsimp only at hSw); go_simp <;> with_reducible rfl)
      try simp only [Act.put, List.setIfInBounds_toArray, List.set_cons_zero, List.set_cons_succ, List.getElem_toArray, List.getElem_cons_zero, List.getElem_cons_succ]
      refine wpAnyH_take (i := 22) (v := ?_) rfl (by kernel_rfl) (by kernel_rfl) (by kernel_rfl) (fun _ _ _ h => h) (Or.inl ⟨by rfl, ?_⟩) (by assumption) ?_
      rotate_left
      · (intro wx hSw; (try dsimp only at hSw); go_simp <;> with_reducible rfl)
      try simp only [Act.put, List.setIfInBounds_toArray, List.set_cons_zero, List.set_cons_succ, List.getElem_toArray, List.getElem_cons_zero, List.getElem_cons_succ]
      refine wpAnyH_take (i := 23) (v := ?_) rfl (by kernel_rfl) (by kernel_rfl) (by kernel_rfl) (fun _ _ _ h => h) (Or.inl ⟨by rfl, ?_⟩) (by assumption) ?_
      rotate_left
      · (intro wx hSw; (try dsimp only at hSw); go_simp <;> with_reducible rfl)
      try simp only [Act.put, List.setIfInBounds_toArray, List.set_cons_zero, List.set_cons_succ, List.getElem_toArray, List.getElem_cons_zero, List.getElem_cons_succ]
      refine wpAnyH_done (by kernel_rfl) ?_ _
      go_wp2
      go_meet
      exact ⟨rfl, B4.out⟩
    · cases eB
      all_goals
        refine wp_region_held_drew (S := (fun W => W.cell? ⟨X, 0, none⟩ = some (.slice ab nb kb) ∧ W.cell? ⟨X, 1, none⟩ = some (.slice ar nr kr) ∧ W.cell? ⟨X, 2, none⟩ = some (.slice ac nc kc) ∧ W.cell? ⟨Y, 0, none⟩ = some (.slice ub mb jb) ∧ W.cell? ⟨Y, 1, none⟩ = some (.slice ur mr jr) ∧ W.cell? ⟨Y, 2, none⟩ = some (.slice uc mc jc))) (by kernel_rfl) (HSx.out _ HD0.out) (fun hHeld0 => ?_)
        refine wpAnyH_take (i := 0) (v := ?_) rfl (by kernel_rfl) (by kernel_rfl) (by kernel_rfl) (fun _ _ _ h => h) (Or.inl ⟨by rfl, ?_⟩) (by assumption) ?_
        rotate_left
        · (intro wx hSw; (try dsimp only at hSw); go_simp <;> with_reducible rfl)
        try simp only [Act.put, List.setIfInBounds_toArray, List.set_cons_zero, List.set_cons_succ, List.getElem_toArray, List.getElem_cons_zero, List.getElem_cons_succ]
        refine wpAnyH_take (i := 1) (v := ?_) rfl (by kernel_rfl) (by kernel_rfl) (by kernel_rfl) (fun _ _ _ h => h) (Or.inl ⟨by rfl, ?_⟩) (by assumption) ?_
        rotate_left
        · (intro wx hSw; (try dsimp only at hSw); go_simp <;> with_reducible rfl)
        try simp only [Act.put, List.setIfInBounds_toArray, List.set_cons_zero, List.set_cons_succ, List.getElem_toArray, List.getElem_cons_zero, List.getElem_cons_succ]
        refine wpAnyH_take (i := 2) (v := ?_) rfl (by kernel_rfl) (by kernel_rfl) (by kernel_rfl) (fun _ _ _ h => h) (Or.inl ⟨by rfl, ?_⟩) (by assumption) ?_
        rotate_left
        · (intro wx hSw; (try dsimp only at hSw); go_simp <;> with_reducible rfl)
        try simp only [Act.put, List.setIfInBounds_toArray, List.set_cons_zero, List.set_cons_succ, List.getElem_toArray, List.getElem_cons_zero, List.getElem_cons_succ]
        refine wpAnyH_take (i := 3) (v := ?_) rfl (by kernel_rfl) (by kernel_rfl) (by kernel_rfl) (fun _ _ _ h => h) (Or.inl ⟨by rfl, ?_⟩) (by assumption) ?_
        rotate_left
        · (intro wx hSw; (try dsimp only at hSw); go_simp <;> with_reducible rfl)
        try simp only [Act.put, List.setIfInBounds_toArray, List.set_cons_zero, List.set_cons_succ, List.getElem_toArray, List.getElem_cons_zero, List.getElem_cons_succ]
        refine wpAnyH_take (i := 4) (v := ?_) rfl (by kernel_rfl) (by kernel_rfl) (by kernel_rfl) (fun _ _ _ h => h) (Or.inl ⟨by rfl, ?_⟩) (by assumption) ?_
        rotate_left
        · (intro wx hSw; (try dsimp only at hSw); go_simp <;> with_reducible rfl)
        try simp only [Act.put, List.setIfInBounds_toArray, List.set_cons_zero, List.set_cons_succ, List.getElem_toArray, List.getElem_cons_zero, List.getElem_cons_succ]
        refine wpAnyH_take (i := 5) (v := ?_) rfl (by kernel_rfl) (by kernel_rfl) (by kernel_rfl) (fun _ _ _ h => h) (Or.inl ⟨by rfl, ?_⟩) (by assumption) ?_
        rotate_left
        · (intro wx hSw; (try dsimp only at hSw); go_simp <;> with_reducible rfl)
        try simp only [Act.put, List.setIfInBounds_toArray, List.set_cons_zero, List.set_cons_succ, List.getElem_toArray, List.getElem_cons_zero, List.getElem_cons_succ]
        refine wpAnyH_take (i := 6) (v := ?_) rfl (by kernel_rfl) (by kernel_rfl) (by kernel_rfl) (fun _ _ _ h => h) (Or.inl ⟨by rfl, ?_⟩) (by assumption) ?_
        rotate_left
        · (intro wx hSw; (try dsimp only at hSw); go_simp <;> with_reducible rfl)
        try simp only [Act.put, List.setIfInBounds_toArray, List.set_cons_zero, List.set_cons_succ, List.getElem_toArray, List.getElem_cons_zero, List.getElem_cons_succ]
        refine wpAnyH_take (i := 7) (v := ?_) rfl (by kernel_rfl) (by kernel_rfl) (by kernel_rfl) (fun _ _ _ h => h) (Or.inl ⟨by rfl, ?_⟩) (by assumption) ?_
        rotate_left
        · (intro wx hSw; (try dsimp only at hSw); go_simp <;> with_reducible rfl)
        try simp only [Act.put, List.setIfInBounds_toArray, List.set_cons_zero, List.set_cons_succ, List.getElem_toArray, List.getElem_cons_zero, List.getElem_cons_succ]
        refine wpAnyH_take (i := 8) (v := ?_) rfl (by kernel_rfl) (by kernel_rfl) (by kernel_rfl) (fun _ _ _ h => h) (Or.inl ⟨by rfl, ?_⟩) (by assumption) ?_
        rotate_left
        · (intro wx hSw; (try dsimp only at hSw); go_simp <;> with_reducible rfl)
        try simp only [Act.put, List.setIfInBounds_toArray, List.set_cons_zero, List.set_cons_succ, List.getElem_toArray, List.getElem_cons_zero, List.getElem_cons_succ]
        refine wpAnyH_take (i := 10) (v := ?_) rfl (by kernel_rfl) (by kernel_rfl) (by kernel_rfl) (fun _ _ _ h => h) (Or.inl ⟨by rfl, ?_⟩) (by assumption) ?_
        rotate_left
        · (intro wx hSw; (try dsimp only at hSw); go_simp <;> with_reducible rfl)
        try simp only [Act.put, List.setIfInBounds_toArray, List.set_cons_zero, List.set_cons_succ, List.getElem_toArray, List.getElem_cons_zero, List.getElem_cons_succ]
        refine wpAnyH_take (i := 12) (v := ?_) rfl (by kernel_rfl) (by kernel_rfl) (by kernel_rfl) (fun _ _ _ h => h) (Or.inl ⟨by rfl, ?_⟩) (by assumption) ?_
        rotate_left
        · (intro wx hSw; (try dsimp only at hSw); go_simp <;> with_reducible rfl)
        try simp only [Act.put, List.setIfInBounds_toArray, List.set_cons_zero, List.set_cons_succ, List.getElem_toArray, List.getElem_cons_zero, List.getElem_cons_succ]
        refine wpAnyH_ready (rs := [9]) (by kernel_rfl) (by simp) ?_
        refine AllReadyH.cons rfl (fun K hK => ?_) AllReadyH.nil
        go_simp
        go_at_call 23
        (with_reducible refine (HEq.out _ HD0.out).mono ?_)
        rintro r v1 ⟨rfl, hb⟩
        have B1 : Hid (Below W0.heap.size W0 v1) := HD0.out.trans (hb.mono HD0.out.size)
        clear hb
        go_wp2_with fail
        refine hK.out _ _ (HSx.out _ B1.out) (fun hHeld1 => ?_)
        clear hK K hHeld0
        try simp only [Act.put, List.setIfInBounds_toArray, List.set_cons_zero, List.set_cons_succ, List.getElem_toArray, List.getElem_cons_zero, List.getElem_cons_succ]
        refine wpAnyH_ready (rs := [11]) (by kernel_rfl) (by simp) ?_
        refine AllReadyH.cons rfl (fun K hK => ?_) AllReadyH.nil
        go_simp
        go_at_call 25
        (with_reducible refine (HRx.out _ B1.out).mono ?_)
        rintro r v2 ⟨y2, rfl, hr2, hb⟩
        have B2 : Hid (Below W0.heap.size W0 v2) := B1.out.trans (hb.mono B1.out.size)
        have R2 := Lib.hid hr2
        clear hr2
        clear hb
        go_wp2_with fail
        refine hK.out _ _ (HSx.out _ B2.out) (fun hHeld2 => ?_)
        clear hK K hHeld1
        try simp only [Act.put, List.setIfInBounds_toArray, List.set_cons_zero, List.set_cons_succ, List.getElem_toArray, List.getElem_cons_zero, List.getElem_cons_succ]
        refine wpAnyH_ready (rs := [13]) (by kernel_rfl) (by simp) ?_
        refine AllReadyH.cons rfl (fun K hK => ?_) AllReadyH.nil
        go_simp
        go_at_call 25
        (with_reducible refine (HRy.out _ B2.out).mono ?_)
        rintro r v3 ⟨y3, rfl, hr3, hb⟩
        have B3 : Hid (Below W0.heap.size W0 v3) := B2.out.trans (hb.mono B2.out.size)
        have R3 := Lib.hid hr3
        have R23 := Lib.hid (R2.out.later hb)
        clear hr3
        clear hb
        go_wp2_with fail
        refine hK.out _ _ (HSx.out _ B3.out) (fun hHeld3 => ?_)
        clear hK K hHeld2
        try simp only [Act.put, List.setIfInBounds_toArray, List.set_cons_zero, List.set_cons_succ, List.getElem_toArray, List.getElem_cons_zero, List.getElem_cons_succ]
        refine wpAnyH_ready (rs := [14]) (by kernel_rfl) (by simp) ?_
        refine AllReadyH.cons rfl (fun K hK => ?_) AllReadyH.nil
        go_simp
        go_at_call 24
        (with_reducible refine (HSr.out _ _ _ B3.out R23.out R3.out).mono ?_)
        rintro r v4 ⟨rfl, hb⟩
        have B4 : Hid (Below W0.heap.size W0 v4) := B3.out.trans (hb.mono B3.out.size)
        clear hb
        go_wp2_with fail
        refine hK.out _ _ (HSx.out _ B4.out) (fun hHeld4 => ?_)
        clear hK K hHeld3
        try simp only [Act.put, List.setIfInBounds_toArray, List.set_cons_zero, List.set_cons_succ, List.getElem_toArray, List.getElem_cons_zero, List.getElem_cons_succ]
        refine wpAnyH_take (i := 15) (v := ?_) rfl (by kernel_rfl) (by kernel_rfl) (by kernel_rfl) (fun _ _ _ h => h) (Or.inl ⟨by rfl, ?_⟩) (by assumption) ?_
        rotate_left
        · (intro wx hSw; (try dsimp only at hSw); go_simp <;> with_reducible rfl)
        try simp only [Act.put, List.setIfInBounds_toArray, List.set_cons_zero, List.set_cons_succ, List.getElem_toArray, List.getElem_cons_zero, List.getElem_cons_succ]
        refine wpAnyH_take (i := 16) (v := ?_) rfl (by kernel_rfl) (by kernel_rfl) (by kernel_rfl) (fun _ _ _ h => h) (Or.inl ⟨by rfl, ?_⟩) (by assumption) ?_
        rotate_left
        · (intro wx hSw; (try dsimp only at hSw); go_simp <;> with_reducible rfl)
        try simp only [Act.put, List.setIfInBounds_toArray, List.set_cons_zero, List.set_cons_succ, List.getElem_toArray, List.getElem_cons_zero, List.getElem_cons_succ]
        refine wpAnyH_take (i := 17) (v := ?_) rfl (by kernel_rfl) (by kernel_rfl) (by kernel_rfl) (fun _ _ _ h => h) (Or.inl ⟨by rfl, ?_⟩) (by assumption) ?_
        rotate_left
        · (intro wx hSw; (try dsimp only at hSw); go_simp <;> with_reducible rfl)
        try simp only [Act.put, List.setIfInBounds_toArray, List.set_cons_zero, List.set_cons_succ, List.getElem_toArray, List.getElem_cons_zero, List.getElem_cons_succ]
        refine wpAnyH_take (i := 18) (v := ?_) rfl (by kernel_rfl) (by kernel_rfl) (by kernel_rfl) (fun _ _ _ h => h) (Or.inl ⟨by rfl, ?_⟩) (by assumption) ?_
        rotate_left
        · (intro wx hSw; (try dsimp only at hSw); go_simp <;> with_reducible rfl)
        try simp only [Act.put, List.setIfInBounds_toArray, List.set_cons_zero, List.set_cons_succ, List.getElem_toArray, List.getElem_cons_zero, List.getElem_cons_succ]
        refine wpAnyH_take (i := 19) (v := ?_) rfl (by kernel_rfl) (by kernel_rfl) (by kernel_rfl) (fun _ _ _ h => h) (Or.inl ⟨by rfl, ?_⟩) (by assumption) ?_
        rotate_left
        · (intro wx hSw; (try dsimp only at hSw); go_simp <;> with_reducible rfl)
        try simp only [Act.put, List.setIfInBounds_toArray, List.set_cons_zero, List.set_cons_succ, List.getElem_toArray, List.getElem_cons_zero, List.getElem_cons_succ]
        refine wpAnyH_ready (rs := [20]) (by kernel_rfl) (by simp) ?_
        refine AllReadyH.cons rfl (fun K hK => ?_) AllReadyH.nil
        go_simp
        go_at_call 24
        (with_reducible refine (HSc.out _ B4.out).mono ?_)
        rintro r v5 ⟨rfl, hb⟩
        have B5 : Hid (Below W0.heap.size W0 v5) := B4.out.trans (hb.mono B4.out.size)
        clear hb
        go_wp2_with fail
        refine hK.out _ _ (HSx.out _ B5.out) (fun hHeld5 => ?_)
        clear hK K hHeld4
        try simp only [Act.put, List.setIfInBounds_toArray, List.set_cons_zero, List.set_cons_succ, List.getElem_toArray, List.getElem_cons_zero, List.getElem_cons_succ]
        refine wpAnyH_take (i := 21) (v := ?_) rfl (by kernel_rfl) (by kernel_rfl) (by kernel_rfl) (fun _ _ _ h => h) (Or.inl ⟨by rfl, ?_⟩) (by assumption) ?_
        rotate_left
        · (intro wx hSw; (try dsimp only at hSw); go_simp <;> with_reducible rfl)
        try simp only [Act.put, List.setIfInBounds_toArray, List.set_cons_zero, List.set_cons_succ, List.getElem_toArray, List.getElem_cons_zero, List.getElem_cons_succ]
        refine wpAnyH_take (i := 22) (v := ?_) rfl (by kernel_rfl) (by kernel_rfl) (by kernel_rfl) (fun _ _ _ h => h) (Or.inl ⟨by rfl, ?_⟩) (by assumption) ?_
        rotate_left
        · (intro wx hSw; (try dsimp only at hSw); go_simp <;> with_reducible rfl)
        try simp only [Act.put, List.setIfInBounds_toArray, List.set_cons_zero, List.set_cons_succ, List.getElem_toArray, List.getElem_cons_zero, List.getElem_cons_succ]
        refine wpAnyH_take (i := 23) (v := ?_) rfl (by kernel_rfl) (by kernel_rfl) (by kernel_rfl) (fun _ _ _ h => h) (Or.inl ⟨by rfl, ?_⟩) (by assumption) ?_
        rotate_left
        · (intro wx hSw; (try dsimp only at hSw); go_simp <;> with_reducible rfl)
        try simp only [Act.put, List.setIfInBounds_toArray, List.set_cons_zero, List.set_cons_succ, List.getElem_toArray, List.getElem_cons_zero, List.getElem_cons_succ]
        refine wpAnyH_done (by kernel_rfl) ?_ _
        go_wp2
        go_meet
        exact ⟨rfl, B5.out⟩
  case rest =>
    obtain ⟨rfl, HB6⟩ := hcut
    have HP6 := Lib.hid (HP5.out.later HB6.out)
    have HX6 := Lib.hid ((HB6.out.block _ (lt_of_heap HX5.out)).trans HX5.out)
    clear HP5 HU5 HX5 HY5 HB5 HB6 HUi
    go_wp2_with fail
    refine (twin_clone HP6.out).mono ?_
    rintro r w7 ⟨c, rfl, ht7, hb7⟩
    have HX7 := Lib.hid ((hb7.block _ (lt_of_heap HX6.out)).trans HX6.out)
    have HT7 := Lib.hid ht7
    have HE7 : Hid (Calls Tryz.prog 23 #[.pointer (some ⟨c, 0, none⟩), .pointer (some ⟨b, 0, none⟩)] w7 fun r w' => r = .returned (.bool true) ∧ Below w7.heap.size w7 w') := by
      obtain ⟨ws, hz⟩ := ht7.two
      refine (equal_pvi hz ht7.one HLk.out).mono ?_
      rintro r w' ⟨rfl, hb⟩
      exact ⟨by simp, hb⟩
    clear ht7 hb7 HP6 HX6
    go_wp2_with fail
    refine HE7.out.mono ?_
    rintro r w8 ⟨rfl, hb8⟩
    have HJ0 := Lib.hid (TwJ.start (HT7.out.later hb8) ((hb8.block _ (lt_of_heap HX7.out)).trans HX7.out))
    have x0 : w8.cell? ⟨X, 0, none⟩ = some (.slice ab nb kb) := cell_of_heap ((hb8.block _ (lt_of_heap HX7.out)).trans HX7.out) 0
    have x1 : w8.cell? ⟨X, 1, none⟩ = some (.slice ar nr kr) := cell_of_heap ((hb8.block _ (lt_of_heap HX7.out)).trans HX7.out) 1
    have x2 : w8.cell? ⟨X, 2, none⟩ = some (.slice ac nc kc) := cell_of_heap ((hb8.block _ (lt_of_heap HX7.out)).trans HX7.out) 2
    clear hb8 HE7 HT7 HX7
    go_wp2_with fail
    clear x0 x1 x2
    generalize w8.alloc (.cells #[.slice ab nb kb, .slice ar nr kr, .slice ac nc kc] 33) = w9 at *
    generalize w8.heap.size = Z at *
    have HMin : Hid (∀ k, k ≤ n2 → k ≤ 30 → ¬ (k < n2 ∧ k < 30) → min n2 30 = k) := fun k h1 h2 h3 => by omega
    go_loopg [15] n2 (fun gk iv wr => ∃ (k : Nat) (zr zc : Option Addr) (sr tr sc tc : Nat), k + gk = n2 ∧ iv = .int .i64 k ∧ k ≤ 30 ∧ Hid (TwJ wv wr b c X Z l q (runZ l q fo2 k) (.slice ab nb kb) (.slice ar nr kr) (.slice ac nc kc) (.slice zr sr tr) (.slice zc sc tc)))
    case atStart => exact ⟨0, ar, ac, nr, kr, nc, kc, by omega, rfl, by omega, HJ0.out⟩
    case round =>
      clear HJ0
      obtain ⟨k, zr, zc, sr, tr, sc, tc, hk, rfl, hk30, HI⟩ := hrel
      have Hk := Lib.hid hk
      have hkn : k ≤ n2 := by omega
      clear hk
      have HBr : Hid (Below w.heap.size w wr) := HBv.out.trans (HI.out.below.mono HBv.out.size)
      by_cases hlt : k < n2 ∧ k < 30
      · obtain ⟨hlt, hlt30⟩ := hlt
        clear HMin
        obtain ⟨g, off, rfl, hc⟩ := Hl.out.later HBr.out (by omega)
        obtain ⟨c0, c1, c2, c3, c4, c5, c6, c7, c8, hkd, z1, z2, z3⟩ := hc k hlt
        clear hc
        have HDo : Hid (∀ W, Below wr.heap.size wr W → _) := fun W hW => twin_do (HI.out.t.later hW) HLk.out (runZ_inv HRi.out fo2 k) (by omega) (fo2 k) hkd z1 z2 z3
        have HRn : Hid (runZ l q fo2 (k + 1) = stepR l (runZ l q fo2 k).1 (runZ l q fo2 k).2 (shortO (fo2 k))) := rfl
        generalize shortO (fo2 k) = so at *
        generalize fo2 k = o at *
        obtain ⟨kd, ⟨⟨o1, o2, o3, o4, o5⟩, o6, o7⟩, o8⟩ := o
        dsimp only at *
        have v0 : wr.cell? ⟨Z, 0, none⟩ = some (.slice ab nb kb) := cell_of_heap HI.out.pz 0
        have v1 : wr.cell? ⟨Z, 1, none⟩ = some (.slice zr sr tr) := cell_of_heap HI.out.pz 1
        have v2 : wr.cell? ⟨Z, 2, none⟩ = some (.slice zc sc tc) := cell_of_heap HI.out.pz 2
        clear z1 z2 z3
        go_wp2_with fail
        go_region_with (first
          | (go_at_call 11; refine (HDo.out _ (by first | exact (Below.refl _ _).drew | exact Below.refl _ _)).mono ?_; rintro r w6 ⟨a1, m1, e1, a3, m3, e3, rfl, h6, hk6, f1, f2⟩; have HI6 := Lib.hid (HI.out.next h6 hk6 f1 f2); have nf : ∀ i, w6.frozen? ⟨Z, i, none⟩ = false := fun i => frozen_of_heap ((hk6 Z (.inr rfl)).trans HI.out.pz) i; have x0 : w6.cell? ⟨Z, 0, none⟩ = some (.slice ab nb kb) := (cell_of_heap ((hk6 Z (.inr rfl)).trans HI.out.pz) 0); have x1 : w6.cell? ⟨Z, 1, none⟩ = some (.slice zr sr tr) := (cell_of_heap ((hk6 Z (.inr rfl)).trans HI.out.pz) 1); have x2 : w6.cell? ⟨Z, 2, none⟩ = some (.slice zc sc tc) := (cell_of_heap ((hk6 Z (.inr rfl)).trans HI.out.pz) 2); clear h6 hk6 f1 f2)
          | fail)
        all_goals
          rw [← HRn.out] at HI6
          clear HI HDo HRn nf x0 x1 x2 v0 v1 v2
          go_wp2
          go_roundg (n2 - (k + 1))
          case measure => have := Hk.out; omega
          case rel => exact ⟨k + 1, a1, a3, m1, e1, m3, e3, by have := Hk.out; omega, by go_num, by omega, HI6⟩
      · have hways : ¬ k < n2 ∨ (k < n2 ∧ ¬ k < 30) := by omega
        clear hlt HMin Hk
        have HZi : Hid (PInv (runZ l q fo2 k).1 (runZ l q fo2 k).2 60) := (runZ_inv HRi.out fo2 k).more (by omega)
        generalize runZ l q fo2 k = z at *
        have HBn : Hid (∀ W, Below w.heap.size w W → Calls Tryz.prog 8 #[.slice none 0 0] W (BaseRow [] W)) := fun W hW => (base24_any none 0 0 (fun _ => ⟨⟨0, ⟨#[]⟩, 0, 0, ⟨#[]⟩⟩, ⟨#[]⟩, false⟩) W (HUs.out W hW) (by omega) (fun h => absurd h (Nat.lt_irrefl _))).mono (fun _ _ h => base_row h)
        clear Hl
        rcases hways with h5 | ⟨h5, h5'⟩
        all_goals
          go_wp2_with fail
          refine (HBn.out _ HBr.out).mono ?_
          rintro r W0 ⟨so, ao, no, co, rfl, hb0, hbn0, -, -⟩
          have HJ := Lib.hid (HI.out.later hb0)
          have HB0 : Hid (Below w.heap.size w W0) := HBr.out.trans (hb0.mono HBr.out.size)
          have HN0 := Lib.hid hbn0
          clear hb0 hbn0 HI HBr HBn
          go_upto_region 16 with fail
          have HD0 : Hid (Below W0.heap.size W0 W0.drew) := (Below.refl _ _).drew
          have HSx : Hid (∀ W, Below W0.heap.size W0 W → W.cell? ⟨X, 0, none⟩ = some (.slice ab nb kb) ∧ W.cell? ⟨X, 1, none⟩ = some (.slice ar nr kr) ∧ W.cell? ⟨X, 2, none⟩ = some (.slice ac nc kc) ∧ W.cell? ⟨Z, 0, none⟩ = some (.slice ab nb kb) ∧ W.cell? ⟨Z, 1, none⟩ = some (.slice zr sr tr) ∧ W.cell? ⟨Z, 2, none⟩ = some (.slice zc sc tc)) := fun W hW => by
            have g1 := (hW.block _ (lt_of_heap HJ.out.px)).trans HJ.out.px
            have g2 := (hW.block _ (lt_of_heap HJ.out.pz)).trans HJ.out.pz
            exact ⟨cell_of_heap g1 0, cell_of_heap g1 1, cell_of_heap g1 2, cell_of_heap g2 0, cell_of_heap g2 1, cell_of_heap g2 2⟩
          have HI1 : Hid (∀ W, Below W0.heap.size W0 W → Calls Tryz.prog 10 #[.pointer (some ⟨b, 0, none⟩), .agg #[.slice ab nb kb, .slice ar nr kr, .slice ac nc kc]] W fun r w' => r = .returned (.bool true) ∧ Below W.heap.size W w') := fun W hW => is24_any (HJ.out.t.later hW).one HLk.out HRi.out (by omega)
          have HI2 : Hid (∀ W, Below W0.heap.size W0 W → Calls Tryz.prog 10 #[.pointer (some ⟨c, 0, none⟩), .agg #[.slice ab nb kb, .slice zr sr tr, .slice zc sc tc]] W fun r w' => r = .returned (.bool true) ∧ Below W.heap.size W w') := fun W hW => by
            obtain ⟨ws, hz⟩ := (HJ.out.t.later hW).two
            exact is24_any hz HLk.out HZi.out (by omega)
          have HEq : Hid (∀ W, Below W0.heap.size W0 W → Calls Tryz.prog 23 #[.pointer (some ⟨c, 0, none⟩), .pointer (some ⟨b, 0, none⟩)] W fun r w' => r = .returned (.bool (decide ((sortR q.1).map (rdc l) = (sortR z.1).map (rdc l)) && decide (q.2 = z.2))) ∧ Below W.heap.size W w') := fun W hW => by
            obtain ⟨ws, hz⟩ := (HJ.out.t.later hW).two
            rw [decide_eq_decide.2 (eq_comm (a := (sortR q.1).map (rdc l))), decide_eq_decide.2 (eq_comm (a := q.2))]
            exact equal_pvi hz (HJ.out.t.later hW).one HLk.out
          have HRx : Hid (∀ W, Below W0.heap.size W0 W → Calls Tryz.prog 25 #[.agg #[.slice ab nb kb, .slice ar nr kr, .slice ac nc kc]] W fun r w' => ∃ v, r = .returned v ∧ RowK kC w' v ((sortR q.1).map (rdc l)) ∧ Below W.heap.size W w') := fun W hW => rReads_any W ab ar ac nb nr nc kb kr kc l q.1 (HJ.out.t.later hW).one.hb (HJ.out.t.later hW).hr (fun n hn => (HRi.out.rf n hn).1) HLk.out.fit HLk.out.s (by have := HLk.out.n; omega) (by have := HRi.out.rl; omega)
          have HRy : Hid (∀ W, Below W0.heap.size W0 W → Calls Tryz.prog 25 #[.agg #[.slice ab nb kb, .slice zr sr tr, .slice zc sc tc]] W fun r w' => ∃ v, r = .returned v ∧ RowK kC w' v ((sortR z.1).map (rdc l)) ∧ Below W.heap.size W w') := fun W hW => by
            obtain ⟨ws, hz⟩ := (HJ.out.t.later hW).two
            exact rReads_any W ab zr zc nb sr sc kb tr tc l z.1 hz.hb hz.hr (fun n hn => (HZi.out.rf n hn).1) HLk.out.fit HLk.out.s (by have := HLk.out.n; omega) (by have := HZi.out.rl; omega)
          have hlr : ((sortR q.1).map (rdc l)).length ≤ 1000000 := by rw [List.length_map]; have := sortR_len q.1; have := HRi.out.rl; omega
          have HSr : Hid (∀ W v1 v2, Below W0.heap.size W0 W → RowK kC W v1 ((sortR q.1).map (rdc l)) → RowK kC W v2 ((sortR z.1).map (rdc l)) → Calls Tryz.prog 24 #[v1, v2] W fun r w' => r = .returned (.bool (decide ((sortR q.1).map (rdc l) = (sortR z.1).map (rdc l)))) ∧ Below W.heap.size W w') := fun W v1 v2 hW h1 h2 => rSame_any W v1 v2 _ _ h1 h2 hlr
          have HSc : Hid (∀ W, Below W0.heap.size W0 W → Calls Tryz.prog 24 #[.slice ac nc kc, .slice zc sc tc] W fun r w' => r = .returned (.bool (decide (q.2 = z.2))) ∧ Below W.heap.size W w') := fun W hW => by
            obtain ⟨ws, hz⟩ := (HJ.out.t.later hW).two
            exact rSame_any W _ _ _ _ (HJ.out.t.later hW).hc hz.hc (by have := HRi.out.cl; omega)
          have HN1 : Hid (∀ W, Below W0.heap.size W0 W → Calls Tryz.prog 9 #[.pointer (some ⟨so, 0, none⟩)] W fun r w' => r = .returned (.pointer (some ⟨W.heap.size + 2, 0, none⟩)) ∧ QM W w' (W.heap.size + 2) 12 ⟨getL cmpN [], [], []⟩ (fun _ => False) ∧ Below W.heap.size W w') := fun W hW => (qmNew (w0 := W) (HUs.out W (HB0.out.trans (hW.mono HB0.out.size))) (Below.refl _ _) ((HN0.out.later hW).up hW.size)).mono (fun r w' h => ⟨h.1, h.2.1, h.2.1.below⟩)
          have HN2 : Hid (∀ W, Below W0.heap.size W0 W → Calls Tryz.prog 27 #[] W fun r w' => BaseN 0 w'.heap.size w' W.heap.size (fun _ => none) ∧ r = .returned (.pointer (some ⟨W.heap.size, 0, none⟩)) ∧ Below W.heap.size W w') := fun W hW => (stateNew_any W).mono (fun r w' h => by
            obtain ⟨rfl, rfl⟩ := h
            exact ⟨baseN_empty W, rfl, (Below.refl _ _).alloc (Nat.le_refl _) _⟩)
          have HN3 : Hid (∀ W s0, Below W0.heap.size W0 W → BaseN 0 W.heap.size W s0 (fun _ => none) → Calls Tryz.prog 9 #[.pointer (some ⟨s0, 0, none⟩)] W fun r w' => r = .returned (.pointer (some ⟨W.heap.size + 2, 0, none⟩)) ∧ QM W w' (W.heap.size + 2) 0 ⟨fun _ => none, [], []⟩ (fun _ => False) ∧ Below W.heap.size W w') := fun W s0 hW hs => (qmNew (w0 := W) (HUs.out W (HB0.out.trans (hW.mono HB0.out.size))) (Below.refl _ _) hs).mono (fun r w' h => ⟨h.1, h.2.1, h.2.1.below⟩)
          have HEn : Hid (∀ (W wa wb : World) (b1 b2 : Nat), QM wa W b1 12 ⟨getL cmpN [], [], []⟩ (fun _ => False) → QM wb W b2 0 ⟨fun _ => none, [], []⟩ (fun _ => False) → Calls Tryz.prog 23 #[.pointer (some ⟨b1, 0, none⟩), .pointer (some ⟨b2, 0, none⟩)] W fun r w' => r = .returned (.bool true) ∧ Below W.heap.size W w') := fun W wa wb b1 b2 h1 h2 => equal_none h1 h2 rfl (by funext x; rfl)
          clear hlr HJ HLk HRi HZi HUs HN0 HBv
          generalize (sortR q.1).map (rdc l) = rx at *
          generalize (sortR z.1).map (rdc l) = ry at *
          generalize decide (rx = ry) = eA at *
          generalize decide (q.2 = z.2) = eB at *
          cases eA
          · refine wp_region_held_drew (S := (fun W => W.cell? ⟨X, 0, none⟩ = some (.slice ab nb kb) ∧ W.cell? ⟨X, 1, none⟩ = some (.slice ar nr kr) ∧ W.cell? ⟨X, 2, none⟩ = some (.slice ac nc kc) ∧ W.cell? ⟨Z, 0, none⟩ = some (.slice ab nb kb) ∧ W.cell? ⟨Z, 1, none⟩ = some (.slice zr sr tr) ∧ W.cell? ⟨Z, 2, none⟩ = some (.slice zc sc tc))) (by kernel_rfl) (HSx.out _ HD0.out) (fun hHeld0 => ?_)
            refine wpAnyH_take (i := 0) (v := ?_) rfl (by kernel_rfl) (by kernel_rfl) (by kernel_rfl) (fun _ _ _ h => h) (Or.inl ⟨by rfl, ?_⟩) (by assumption) ?_
            rotate_left
            · (intro wx hSw; (try dsimp only at hSw); go_simp <;> with_reducible rfl)
            try simp only [Act.put, List.setIfInBounds_toArray, List.set_cons_zero, List.set_cons_succ, List.getElem_toArray, List.getElem_cons_zero, List.getElem_cons_succ]
            refine wpAnyH_take (i := 1) (v := ?_) rfl (by kernel_rfl) (by kernel_rfl) (by kernel_rfl) (fun _ _ _ h => h) (Or.inl ⟨by rfl, ?_⟩) (by assumption) ?_
            rotate_left
            · (intro wx hSw; (try dsimp only at hSw); go_simp <;> with_reducible rfl)
            try simp only [Act.put, List.setIfInBounds_toArray, List.set_cons_zero, List.set_cons_succ, List.getElem_toArray, List.getElem_cons_zero, List.getElem_cons_succ]
            refine wpAnyH_ready (rs := [2]) (by kernel_rfl) (by simp) ?_
            refine AllReadyH.cons rfl (fun K hK => ?_) AllReadyH.nil
            go_simp
            go_at_call 10
            (with_reducible refine (HI1.out _ HD0.out).mono ?_)
            rintro r v1 ⟨rfl, hb⟩
            have B1 : Hid (Below W0.heap.size W0 v1) := HD0.out.trans (hb.mono HD0.out.size)
            clear hb
            go_wp2_with fail
            refine hK.out _ _ (HSx.out _ B1.out) (fun hHeld1 => ?_)
            clear hK K hHeld0
            try simp only [Act.put, List.setIfInBounds_toArray, List.set_cons_zero, List.set_cons_succ, List.getElem_toArray, List.getElem_cons_zero, List.getElem_cons_succ]
            refine wpAnyH_take (i := 3) (v := ?_) rfl (by kernel_rfl) (by kernel_rfl) (by kernel_rfl) (fun _ _ _ h => h) (Or.inl ⟨by rfl, ?_⟩) (by assumption) ?_
            rotate_left
            · (intro wx hSw; (try dsimp only at hSw); go_simp <;> with_reducible rfl)
            try simp only [Act.put, List.setIfInBounds_toArray, List.set_cons_zero, List.set_cons_succ, List.getElem_toArray, List.getElem_cons_zero, List.getElem_cons_succ]
            refine wpAnyH_take (i := 4) (v := ?_) rfl (by kernel_rfl) (by kernel_rfl) (by kernel_rfl) (fun _ _ _ h => h) (Or.inl ⟨by rfl, ?_⟩) (by assumption) ?_
            rotate_left
            · (intro wx hSw; (try dsimp only at hSw); go_simp <;> with_reducible rfl)
            try simp only [Act.put, List.setIfInBounds_toArray, List.set_cons_zero, List.set_cons_succ, List.getElem_toArray, List.getElem_cons_zero, List.getElem_cons_succ]
            refine wpAnyH_take (i := 5) (v := ?_) rfl (by kernel_rfl) (by kernel_rfl) (by kernel_rfl) (fun _ _ _ h => h) (Or.inl ⟨by rfl, ?_⟩) (by assumption) ?_
            rotate_left
            · (intro wx hSw; (try dsimp only at hSw); go_simp <;> with_reducible rfl)
            try simp only [Act.put, List.setIfInBounds_toArray, List.set_cons_zero, List.set_cons_succ, List.getElem_toArray, List.getElem_cons_zero, List.getElem_cons_succ]
            refine wpAnyH_ready (rs := [6]) (by kernel_rfl) (by simp) ?_
            refine AllReadyH.cons rfl (fun K hK => ?_) AllReadyH.nil
            go_simp
            go_at_call 10
            (with_reducible refine (HI2.out _ B1.out).mono ?_)
            rintro r v2 ⟨rfl, hb⟩
            have B2 : Hid (Below W0.heap.size W0 v2) := B1.out.trans (hb.mono B1.out.size)
            clear hb
            go_wp2_with fail
            refine hK.out _ _ (HSx.out _ B2.out) (fun hHeld2 => ?_)
            clear hK K hHeld1
            try simp only [Act.put, List.setIfInBounds_toArray, List.set_cons_zero, List.set_cons_succ, List.getElem_toArray, List.getElem_cons_zero, List.getElem_cons_succ]
            refine wpAnyH_take (i := 7) (v := ?_) rfl (by kernel_rfl) (by kernel_rfl) (by kernel_rfl) (fun _ _ _ h => h) (Or.inl ⟨by rfl, ?_⟩) (by assumption) ?_
            rotate_left
            · (intro wx hSw; (try dsimp only at hSw); go_simp <;> with_reducible rfl)
            try simp only [Act.put, List.setIfInBounds_toArray, List.set_cons_zero, List.set_cons_succ, List.getElem_toArray, List.getElem_cons_zero, List.getElem_cons_succ]
            refine wpAnyH_take (i := 8) (v := ?_) rfl (by kernel_rfl) (by kernel_rfl) (by kernel_rfl) (fun _ _ _ h => h) (Or.inl ⟨by rfl, ?_⟩) (by assumption) ?_
            rotate_left
            · (intro wx hSw; (try dsimp only at hSw); go_simp <;> with_reducible rfl)
            try simp only [Act.put, List.setIfInBounds_toArray, List.set_cons_zero, List.set_cons_succ, List.getElem_toArray, List.getElem_cons_zero, List.getElem_cons_succ]
            refine wpAnyH_take (i := 9) (v := ?_) rfl (by kernel_rfl) (by kernel_rfl) (by kernel_rfl) (fun _ _ _ h => h) (Or.inl ⟨by rfl, ?_⟩) (by assumption) ?_
            rotate_left
            · (intro wx hSw; (try dsimp only at hSw); go_simp <;> with_reducible rfl)
            try simp only [Act.put, List.setIfInBounds_toArray, List.set_cons_zero, List.set_cons_succ, List.getElem_toArray, List.getElem_cons_zero, List.getElem_cons_succ]
            refine wpAnyH_take (i := 10) (v := ?_) rfl (by kernel_rfl) (by kernel_rfl) (by kernel_rfl) (fun _ _ _ h => h) (Or.inl ⟨by rfl, ?_⟩) (by assumption) ?_
            rotate_left
            · (intro wx hSw; (try dsimp only at hSw); go_simp <;> with_reducible rfl)
            try simp only [Act.put, List.setIfInBounds_toArray, List.set_cons_zero, List.set_cons_succ, List.getElem_toArray, List.getElem_cons_zero, List.getElem_cons_succ]
            refine wpAnyH_take (i := 12) (v := ?_) rfl (by kernel_rfl) (by kernel_rfl) (by kernel_rfl) (fun _ _ _ h => h) (Or.inl ⟨by rfl, ?_⟩) (by assumption) ?_
            rotate_left
            · (intro wx hSw; (try dsimp only at hSw); go_simp <;> with_reducible rfl)
            try simp only [Act.put, List.setIfInBounds_toArray, List.set_cons_zero, List.set_cons_succ, List.getElem_toArray, List.getElem_cons_zero, List.getElem_cons_succ]
            refine wpAnyH_take (i := 14) (v := ?_) rfl (by kernel_rfl) (by kernel_rfl) (by kernel_rfl) (fun _ _ _ h => h) (Or.inl ⟨by rfl, ?_⟩) (by assumption) ?_
            rotate_left
            · (intro wx hSw; (try dsimp only at hSw); go_simp <;> with_reducible rfl)
            try simp only [Act.put, List.setIfInBounds_toArray, List.set_cons_zero, List.set_cons_succ, List.getElem_toArray, List.getElem_cons_zero, List.getElem_cons_succ]
            refine wpAnyH_ready (rs := [11]) (by kernel_rfl) (by simp) ?_
            refine AllReadyH.cons rfl (fun K hK => ?_) AllReadyH.nil
            go_simp
            go_at_call 23
            (with_reducible refine (HEq.out _ B2.out).mono ?_)
            rintro r v3 ⟨rfl, hb⟩
            have B3 : Hid (Below W0.heap.size W0 v3) := B2.out.trans (hb.mono B2.out.size)
            clear hb
            go_wp2_with fail
            refine hK.out _ _ (HSx.out _ B3.out) (fun hHeld3 => ?_)
            clear hK K hHeld2
            try simp only [Act.put, List.setIfInBounds_toArray, List.set_cons_zero, List.set_cons_succ, List.getElem_toArray, List.getElem_cons_zero, List.getElem_cons_succ]
            refine wpAnyH_ready (rs := [13]) (by kernel_rfl) (by simp) ?_
            refine AllReadyH.cons rfl (fun K hK => ?_) AllReadyH.nil
            go_simp
            go_at_call 25
            (with_reducible refine (HRx.out _ B3.out).mono ?_)
            rintro r v4 ⟨y4, rfl, hr4, hb⟩
            have B4 : Hid (Below W0.heap.size W0 v4) := B3.out.trans (hb.mono B3.out.size)
            have R4 := Lib.hid hr4
            clear hr4
            clear hb
            go_wp2_with fail
            refine hK.out _ _ (HSx.out _ B4.out) (fun hHeld4 => ?_)
            clear hK K hHeld3
            try simp only [Act.put, List.setIfInBounds_toArray, List.set_cons_zero, List.set_cons_succ, List.getElem_toArray, List.getElem_cons_zero, List.getElem_cons_succ]
            refine wpAnyH_ready (rs := [15]) (by kernel_rfl) (by simp) ?_
            refine AllReadyH.cons rfl (fun K hK => ?_) AllReadyH.nil
            go_simp
            go_at_call 25
            (with_reducible refine (HRy.out _ B4.out).mono ?_)
            rintro r v5 ⟨y5, rfl, hr5, hb⟩
            have B5 : Hid (Below W0.heap.size W0 v5) := B4.out.trans (hb.mono B4.out.size)
            have R5 := Lib.hid hr5
            have R45 := Lib.hid (R4.out.later hb)
            clear hr5
            clear hb
            go_wp2_with fail
            refine hK.out _ _ (HSx.out _ B5.out) (fun hHeld5 => ?_)
            clear hK K hHeld4
            try simp only [Act.put, List.setIfInBounds_toArray, List.set_cons_zero, List.set_cons_succ, List.getElem_toArray, List.getElem_cons_zero, List.getElem_cons_succ]
            refine wpAnyH_ready (rs := [16]) (by kernel_rfl) (by simp) ?_
            refine AllReadyH.cons rfl (fun K hK => ?_) AllReadyH.nil
            go_simp
            go_at_call 24
            (with_reducible refine (HSr.out _ _ _ B5.out R45.out R5.out).mono ?_)
            rintro r v6 ⟨rfl, hb⟩
            have B6 : Hid (Below W0.heap.size W0 v6) := B5.out.trans (hb.mono B5.out.size)
            clear hb
            go_wp2_with fail
            refine hK.out _ _ (HSx.out _ B6.out) (fun hHeld6 => ?_)
            clear hK K hHeld5
            try simp only [Act.put, List.setIfInBounds_toArray, List.set_cons_zero, List.set_cons_succ, List.getElem_toArray, List.getElem_cons_zero, List.getElem_cons_succ]
            refine wpAnyH_take (i := 17) (v := ?_) rfl (by kernel_rfl) (by kernel_rfl) (by kernel_rfl) (fun _ _ _ h => h) (Or.inl ⟨by rfl, ?_⟩) (by assumption) ?_
            rotate_left
            · (intro wx hSw; (try dsimp only at hSw); go_simp <;> with_reducible rfl)
            try simp only [Act.put, List.setIfInBounds_toArray, List.set_cons_zero, List.set_cons_succ, List.getElem_toArray, List.getElem_cons_zero, List.getElem_cons_succ]
            refine wpAnyH_take (i := 18) (v := undef) rfl (by kernel_rfl) (by kernel_rfl) (by kernel_rfl) (fun _ _ _ h => h) (Or.inr ⟨by simp [Region.wanted, yielded], rfl⟩) (by assumption) ?_
            try simp only [Act.put, List.setIfInBounds_toArray, List.set_cons_zero, List.set_cons_succ, List.getElem_toArray, List.getElem_cons_zero, List.getElem_cons_succ]
            refine wpAnyH_take (i := 19) (v := undef) rfl (by kernel_rfl) (by kernel_rfl) (by kernel_rfl) (fun _ _ _ h => h) (Or.inr ⟨by simp [Region.wanted, yielded], rfl⟩) (by assumption) ?_
            try simp only [Act.put, List.setIfInBounds_toArray, List.set_cons_zero, List.set_cons_succ, List.getElem_toArray, List.getElem_cons_zero, List.getElem_cons_succ]
            refine wpAnyH_take (i := 20) (v := undef) rfl (by kernel_rfl) (by kernel_rfl) (by kernel_rfl) (fun _ _ _ h => h) (Or.inr ⟨by simp [Region.wanted, yielded], rfl⟩) (by assumption) ?_
            try simp only [Act.put, List.setIfInBounds_toArray, List.set_cons_zero, List.set_cons_succ, List.getElem_toArray, List.getElem_cons_zero, List.getElem_cons_succ]
            refine wpAnyH_take (i := 21) (v := undef) rfl (by kernel_rfl) (by kernel_rfl) (by kernel_rfl) (fun _ _ _ h => h) (Or.inr ⟨by simp [Region.wanted, yielded], rfl⟩) (by assumption) ?_
            try simp only [Act.put, List.setIfInBounds_toArray, List.set_cons_zero, List.set_cons_succ, List.getElem_toArray, List.getElem_cons_zero, List.getElem_cons_succ]
            refine wpAnyH_take (i := 22) (v := undef) rfl (by kernel_rfl) (by kernel_rfl) (by kernel_rfl) (fun _ _ _ h => h) (Or.inr ⟨by simp [Region.wanted, yielded], rfl⟩) (by assumption) ?_
            try simp only [Act.put, List.setIfInBounds_toArray, List.set_cons_zero, List.set_cons_succ, List.getElem_toArray, List.getElem_cons_zero, List.getElem_cons_succ]
            refine wpAnyH_take (i := 23) (v := ?_) rfl (by kernel_rfl) (by kernel_rfl) (by kernel_rfl) (fun _ _ _ h => h) (Or.inl ⟨by rfl, ?_⟩) (by assumption) ?_
            rotate_left
            · (intro wx hSw; (try dsimp only at hSw); go_simp <;> with_reducible rfl)
            try simp only [Act.put, List.setIfInBounds_toArray, List.set_cons_zero, List.set_cons_succ, List.getElem_toArray, List.getElem_cons_zero, List.getElem_cons_succ]
            refine wpAnyH_take (i := 24) (v := ?_) rfl (by kernel_rfl) (by kernel_rfl) (by kernel_rfl) (fun _ _ _ h => h) (Or.inl ⟨by rfl, ?_⟩) (by assumption) ?_
            rotate_left
            · (intro wx hSw; (try dsimp only at hSw); go_simp <;> with_reducible rfl)
            try simp only [Act.put, List.setIfInBounds_toArray, List.set_cons_zero, List.set_cons_succ, List.getElem_toArray, List.getElem_cons_zero, List.getElem_cons_succ]
            refine wpAnyH_take (i := 25) (v := ?_) rfl (by kernel_rfl) (by kernel_rfl) (by kernel_rfl) (fun _ _ _ h => h) (Or.inl ⟨by rfl, ?_⟩) (by assumption) ?_
            rotate_left
            · (intro wx hSw; (try dsimp only at hSw); go_simp <;> with_reducible rfl)
            try simp only [Act.put, List.setIfInBounds_toArray, List.set_cons_zero, List.set_cons_succ, List.getElem_toArray, List.getElem_cons_zero, List.getElem_cons_succ]
            refine wpAnyH_take (i := 26) (v := ?_) rfl (by kernel_rfl) (by kernel_rfl) (by kernel_rfl) (fun _ _ _ h => h) (Or.inl ⟨by rfl, ?_⟩) (by assumption) ?_
            rotate_left
            · (intro wx hSw; (try dsimp only at hSw); go_simp <;> with_reducible rfl)
            try simp only [Act.put, List.setIfInBounds_toArray, List.set_cons_zero, List.set_cons_succ, List.getElem_toArray, List.getElem_cons_zero, List.getElem_cons_succ]
            refine wpAnyH_take (i := 27) (v := ?_) rfl (by kernel_rfl) (by kernel_rfl) (by kernel_rfl) (fun _ _ _ h => h) (Or.inl ⟨by rfl, ?_⟩) (by assumption) ?_
            rotate_left
            · (intro wx hSw; (try dsimp only at hSw); go_simp <;> with_reducible rfl)
            try simp only [Act.put, List.setIfInBounds_toArray, List.set_cons_zero, List.set_cons_succ, List.getElem_toArray, List.getElem_cons_zero, List.getElem_cons_succ]
            refine wpAnyH_ready (rs := [28]) (by kernel_rfl) (by simp) ?_
            refine AllReadyH.cons rfl (fun K hK => ?_) AllReadyH.nil
            go_simp
            go_at_call 9
            (with_reducible refine (HN1.out _ B6.out).mono ?_)
            rintro r v8 ⟨rfl, hq8, hb⟩
            have B8 : Hid (Below W0.heap.size W0 v8) := B6.out.trans (hb.mono B6.out.size)
            have Q8 := Lib.hid hq8
            clear hq8
            clear hb
            go_wp2_with fail
            refine hK.out _ _ (HSx.out _ B8.out) (fun hHeld7 => ?_)
            clear hK K hHeld6
            try simp only [Act.put, List.setIfInBounds_toArray, List.set_cons_zero, List.set_cons_succ, List.getElem_toArray, List.getElem_cons_zero, List.getElem_cons_succ]
            refine wpAnyH_ready (rs := [29]) (by kernel_rfl) (by simp) ?_
            refine AllReadyH.cons rfl (fun K hK => ?_) AllReadyH.nil
            go_simp
            go_at_call 27
            (with_reducible refine (HN2.out _ B8.out).mono ?_)
            rintro r v9 ⟨hbn9, rfl, hb⟩
            have B9 : Hid (Below W0.heap.size W0 v9) := B8.out.trans (hb.mono B8.out.size)
            have N9 := Lib.hid hbn9
            have Q89 := Lib.hid (Q8.out.later hb)
            clear hbn9
            clear hb
            go_wp2_with fail
            refine hK.out _ _ (HSx.out _ B9.out) (fun hHeld8 => ?_)
            clear hK K hHeld7
            try simp only [Act.put, List.setIfInBounds_toArray, List.set_cons_zero, List.set_cons_succ, List.getElem_toArray, List.getElem_cons_zero, List.getElem_cons_succ]
            refine wpAnyH_ready (rs := [30]) (by kernel_rfl) (by simp) ?_
            refine AllReadyH.cons rfl (fun K hK => ?_) AllReadyH.nil
            go_simp
            go_at_call 9
            (with_reducible refine (HN3.out _ _ B9.out N9.out).mono ?_)
            rintro r va ⟨rfl, hqa, hb⟩
            have Ba : Hid (Below W0.heap.size W0 va) := B9.out.trans (hb.mono B9.out.size)
            have Qa := Lib.hid hqa
            have Q8a := Lib.hid (Q89.out.later hb)
            clear hqa
            clear hb
            go_wp2_with fail
            refine hK.out _ _ (HSx.out _ Ba.out) (fun hHeld9 => ?_)
            clear hK K hHeld8
            try simp only [Act.put, List.setIfInBounds_toArray, List.set_cons_zero, List.set_cons_succ, List.getElem_toArray, List.getElem_cons_zero, List.getElem_cons_succ]
            refine wpAnyH_ready (rs := [31]) (by kernel_rfl) (by simp) ?_
            refine AllReadyH.cons rfl (fun K hK => ?_) AllReadyH.nil
            go_simp
            go_at_call 23
            (with_reducible refine (HEn.out _ _ _ _ _ Q8a.out Qa.out).mono ?_)
            rintro r vb ⟨rfl, hb⟩
            have Bb : Hid (Below W0.heap.size W0 vb) := Ba.out.trans (hb.mono Ba.out.size)
            clear hb
            go_wp2_with fail
            refine hK.out _ _ (HSx.out _ Bb.out) (fun hHeld10 => ?_)
            clear hK K hHeld9
            try simp only [Act.put, List.setIfInBounds_toArray, List.set_cons_zero, List.set_cons_succ, List.getElem_toArray, List.getElem_cons_zero, List.getElem_cons_succ]
            refine wpAnyH_take (i := 32) (v := ?_) rfl (by kernel_rfl) (by kernel_rfl) (by kernel_rfl) (fun _ _ _ h => h) (Or.inl ⟨by rfl, ?_⟩) (by assumption) ?_
            rotate_left
            · (intro wx hSw; (try dsimp only at hSw); go_simp <;> with_reducible rfl)
            try simp only [Act.put, List.setIfInBounds_toArray, List.set_cons_zero, List.set_cons_succ, List.getElem_toArray, List.getElem_cons_zero, List.getElem_cons_succ]
            refine wpAnyH_take (i := 33) (v := ?_) rfl (by kernel_rfl) (by kernel_rfl) (by kernel_rfl) (fun _ _ _ h => h) (Or.inl ⟨by rfl, ?_⟩) (by assumption) ?_
            rotate_left
            · (intro wx hSw; (try dsimp only at hSw); go_simp <;> with_reducible rfl)
            try simp only [Act.put, List.setIfInBounds_toArray, List.set_cons_zero, List.set_cons_succ, List.getElem_toArray, List.getElem_cons_zero, List.getElem_cons_succ]
            refine wpAnyH_done (by kernel_rfl) ?_ _
            go_wp2
            refine bodyPost_ret (v := .bool true) (by simp [results, Tryz.results6, go_sem]) rfl ?_
            exact ⟨rfl, HB0.out.trans (Bb.out.mono HB0.out.size)⟩
          · cases eB
            all_goals
              refine wp_region_held_drew (S := (fun W => W.cell? ⟨X, 0, none⟩ = some (.slice ab nb kb) ∧ W.cell? ⟨X, 1, none⟩ = some (.slice ar nr kr) ∧ W.cell? ⟨X, 2, none⟩ = some (.slice ac nc kc) ∧ W.cell? ⟨Z, 0, none⟩ = some (.slice ab nb kb) ∧ W.cell? ⟨Z, 1, none⟩ = some (.slice zr sr tr) ∧ W.cell? ⟨Z, 2, none⟩ = some (.slice zc sc tc))) (by kernel_rfl) (HSx.out _ HD0.out) (fun hHeld0 => ?_)
              refine wpAnyH_take (i := 0) (v := ?_) rfl (by kernel_rfl) (by kernel_rfl) (by kernel_rfl) (fun _ _ _ h => h) (Or.inl ⟨by rfl, ?_⟩) (by assumption) ?_
              rotate_left
              · (intro wx hSw; (try dsimp only at hSw); go_simp <;> with_reducible rfl)
              try simp only [Act.put, List.setIfInBounds_toArray, List.set_cons_zero, List.set_cons_succ, List.getElem_toArray, List.getElem_cons_zero, List.getElem_cons_succ]
              refine wpAnyH_take (i := 1) (v := ?_) rfl (by kernel_rfl) (by kernel_rfl) (by kernel_rfl) (fun _ _ _ h => h) (Or.inl ⟨by rfl, ?_⟩) (by assumption) ?_
              rotate_left
              · (intro wx hSw; (try dsimp only at hSw); go_simp <;> with_reducible rfl)
              try simp only [Act.put, List.setIfInBounds_toArray, List.set_cons_zero, List.set_cons_succ, List.getElem_toArray, List.getElem_cons_zero, List.getElem_cons_succ]
              refine wpAnyH_ready (rs := [2]) (by kernel_rfl) (by simp) ?_
              refine AllReadyH.cons rfl (fun K hK => ?_) AllReadyH.nil
              go_simp
              go_at_call 10
              (with_reducible refine (HI1.out _ HD0.out).mono ?_)
              rintro r v1 ⟨rfl, hb⟩
              have B1 : Hid (Below W0.heap.size W0 v1) := HD0.out.trans (hb.mono HD0.out.size)
              clear hb
              go_wp2_with fail
              refine hK.out _ _ (HSx.out _ B1.out) (fun hHeld1 => ?_)
              clear hK K hHeld0
              try simp only [Act.put, List.setIfInBounds_toArray, List.set_cons_zero, List.set_cons_succ, List.getElem_toArray, List.getElem_cons_zero, List.getElem_cons_succ]
              refine wpAnyH_take (i := 3) (v := ?_) rfl (by kernel_rfl) (by kernel_rfl) (by kernel_rfl) (fun _ _ _ h => h) (Or.inl ⟨by rfl, ?_⟩) (by assumption) ?_
              rotate_left
              · (intro wx hSw; (try dsimp only at hSw); go_simp <;> with_reducible rfl)
              try simp only [Act.put, List.setIfInBounds_toArray, List.set_cons_zero, List.set_cons_succ, List.getElem_toArray, List.getElem_cons_zero, List.getElem_cons_succ]
              refine wpAnyH_take (i := 4) (v := ?_) rfl (by kernel_rfl) (by kernel_rfl) (by kernel_rfl) (fun _ _ _ h => h) (Or.inl ⟨by rfl, ?_⟩) (by assumption) ?_
              rotate_left
              · (intro wx hSw; (try dsimp only at hSw); go_simp <;> with_reducible rfl)
              try simp only [Act.put, List.setIfInBounds_toArray, List.set_cons_zero, List.set_cons_succ, List.getElem_toArray, List.getElem_cons_zero, List.getElem_cons_succ]
              refine wpAnyH_take (i := 5) (v := ?_) rfl (by kernel_rfl) (by kernel_rfl) (by kernel_rfl) (fun _ _ _ h => h) (Or.inl ⟨by rfl, ?_⟩) (by assumption) ?_
              rotate_left
              · (intro wx hSw; (try dsimp only at hSw); go_simp <;> with_reducible rfl)
              try simp only [Act.put, List.setIfInBounds_toArray, List.set_cons_zero, List.set_cons_succ, List.getElem_toArray, List.getElem_cons_zero, List.getElem_cons_succ]
              refine wpAnyH_ready (rs := [6]) (by kernel_rfl) (by simp) ?_
              refine AllReadyH.cons rfl (fun K hK => ?_) AllReadyH.nil
              go_simp
              go_at_call 10
              (with_reducible refine (HI2.out _ B1.out).mono ?_)
              rintro r v2 ⟨rfl, hb⟩
              have B2 : Hid (Below W0.heap.size W0 v2) := B1.out.trans (hb.mono B1.out.size)
              clear hb
              go_wp2_with fail
              refine hK.out _ _ (HSx.out _ B2.out) (fun hHeld2 => ?_)
              clear hK K hHeld1
              try simp only [Act.put, List.setIfInBounds_toArray, List.set_cons_zero, List.set_cons_succ, List.getElem_toArray, List.getElem_cons_zero, List.getElem_cons_succ]
              refine wpAnyH_take (i := 7) (v := ?_) rfl (by kernel_rfl) (by kernel_rfl) (by kernel_rfl) (fun _ _ _ h => h) (Or.inl ⟨by rfl, ?_⟩) (by assumption) ?_
              rotate_left
              · (intro wx hSw; (try dsimp only at hSw); go_simp <;> with_reducible rfl)
              try simp only [Act.put, List.setIfInBounds_toArray, List.set_cons_zero, List.set_cons_succ, List.getElem_toArray, List.getElem_cons_zero, List.getElem_cons_succ]
              refine wpAnyH_take (i := 8) (v := ?_) rfl (by kernel_rfl) (by kernel_rfl) (by kernel_rfl) (fun _ _ _ h => h) (Or.inl ⟨by rfl, ?_⟩) (by assumption) ?_
              rotate_left
              · (intro wx hSw; (try dsimp only at hSw); go_simp <;> with_reducible rfl)
              try simp only [Act.put, List.setIfInBounds_toArray, List.set_cons_zero, List.set_cons_succ, List.getElem_toArray, List.getElem_cons_zero, List.getElem_cons_succ]
              refine wpAnyH_take (i := 9) (v := ?_) rfl (by kernel_rfl) (by kernel_rfl) (by kernel_rfl) (fun _ _ _ h => h) (Or.inl ⟨by rfl, ?_⟩) (by assumption) ?_
              rotate_left
              · (intro wx hSw; (try dsimp only at hSw); go_simp <;> with_reducible rfl)
              try simp only [Act.put, List.setIfInBounds_toArray, List.set_cons_zero, List.set_cons_succ, List.getElem_toArray, List.getElem_cons_zero, List.getElem_cons_succ]
              refine wpAnyH_take (i := 10) (v := ?_) rfl (by kernel_rfl) (by kernel_rfl) (by kernel_rfl) (fun _ _ _ h => h) (Or.inl ⟨by rfl, ?_⟩) (by assumption) ?_
              rotate_left
              · (intro wx hSw; (try dsimp only at hSw); go_simp <;> with_reducible rfl)
              try simp only [Act.put, List.setIfInBounds_toArray, List.set_cons_zero, List.set_cons_succ, List.getElem_toArray, List.getElem_cons_zero, List.getElem_cons_succ]
              refine wpAnyH_take (i := 12) (v := ?_) rfl (by kernel_rfl) (by kernel_rfl) (by kernel_rfl) (fun _ _ _ h => h) (Or.inl ⟨by rfl, ?_⟩) (by assumption) ?_
              rotate_left
              · (intro wx hSw; (try dsimp only at hSw); go_simp <;> with_reducible rfl)
              try simp only [Act.put, List.setIfInBounds_toArray, List.set_cons_zero, List.set_cons_succ, List.getElem_toArray, List.getElem_cons_zero, List.getElem_cons_succ]
              refine wpAnyH_take (i := 14) (v := ?_) rfl (by kernel_rfl) (by kernel_rfl) (by kernel_rfl) (fun _ _ _ h => h) (Or.inl ⟨by rfl, ?_⟩) (by assumption) ?_
              rotate_left
              · (intro wx hSw; (try dsimp only at hSw); go_simp <;> with_reducible rfl)
              try simp only [Act.put, List.setIfInBounds_toArray, List.set_cons_zero, List.set_cons_succ, List.getElem_toArray, List.getElem_cons_zero, List.getElem_cons_succ]
              refine wpAnyH_ready (rs := [11]) (by kernel_rfl) (by simp) ?_
              refine AllReadyH.cons rfl (fun K hK => ?_) AllReadyH.nil
              go_simp
              go_at_call 23
              (with_reducible refine (HEq.out _ B2.out).mono ?_)
              rintro r v3 ⟨rfl, hb⟩
              have B3 : Hid (Below W0.heap.size W0 v3) := B2.out.trans (hb.mono B2.out.size)
              clear hb
              go_wp2_with fail
              refine hK.out _ _ (HSx.out _ B3.out) (fun hHeld3 => ?_)
              clear hK K hHeld2
              try simp only [Act.put, List.setIfInBounds_toArray, List.set_cons_zero, List.set_cons_succ, List.getElem_toArray, List.getElem_cons_zero, List.getElem_cons_succ]
              refine wpAnyH_ready (rs := [13]) (by kernel_rfl) (by simp) ?_
              refine AllReadyH.cons rfl (fun K hK => ?_) AllReadyH.nil
              go_simp
              go_at_call 25
              (with_reducible refine (HRx.out _ B3.out).mono ?_)
              rintro r v4 ⟨y4, rfl, hr4, hb⟩
              have B4 : Hid (Below W0.heap.size W0 v4) := B3.out.trans (hb.mono B3.out.size)
              have R4 := Lib.hid hr4
              clear hr4
              clear hb
              go_wp2_with fail
              refine hK.out _ _ (HSx.out _ B4.out) (fun hHeld4 => ?_)
              clear hK K hHeld3
              try simp only [Act.put, List.setIfInBounds_toArray, List.set_cons_zero, List.set_cons_succ, List.getElem_toArray, List.getElem_cons_zero, List.getElem_cons_succ]
              refine wpAnyH_ready (rs := [15]) (by kernel_rfl) (by simp) ?_
              refine AllReadyH.cons rfl (fun K hK => ?_) AllReadyH.nil
              go_simp
              go_at_call 25
              (with_reducible refine (HRy.out _ B4.out).mono ?_)
              rintro r v5 ⟨y5, rfl, hr5, hb⟩
              have B5 : Hid (Below W0.heap.size W0 v5) := B4.out.trans (hb.mono B4.out.size)
              have R5 := Lib.hid hr5
              have R45 := Lib.hid (R4.out.later hb)
              clear hr5
              clear hb
              go_wp2_with fail
              refine hK.out _ _ (HSx.out _ B5.out) (fun hHeld5 => ?_)
              clear hK K hHeld4
              try simp only [Act.put, List.setIfInBounds_toArray, List.set_cons_zero, List.set_cons_succ, List.getElem_toArray, List.getElem_cons_zero, List.getElem_cons_succ]
              refine wpAnyH_ready (rs := [16]) (by kernel_rfl) (by simp) ?_
              refine AllReadyH.cons rfl (fun K hK => ?_) AllReadyH.nil
              go_simp
              go_at_call 24
              (with_reducible refine (HSr.out _ _ _ B5.out R45.out R5.out).mono ?_)
              rintro r v6 ⟨rfl, hb⟩
              have B6 : Hid (Below W0.heap.size W0 v6) := B5.out.trans (hb.mono B5.out.size)
              clear hb
              go_wp2_with fail
              refine hK.out _ _ (HSx.out _ B6.out) (fun hHeld6 => ?_)
              clear hK K hHeld5
              try simp only [Act.put, List.setIfInBounds_toArray, List.set_cons_zero, List.set_cons_succ, List.getElem_toArray, List.getElem_cons_zero, List.getElem_cons_succ]
              refine wpAnyH_take (i := 17) (v := ?_) rfl (by kernel_rfl) (by kernel_rfl) (by kernel_rfl) (fun _ _ _ h => h) (Or.inl ⟨by rfl, ?_⟩) (by assumption) ?_
              rotate_left
              · (intro wx hSw; (try dsimp only at hSw); go_simp <;> with_reducible rfl)
              try simp only [Act.put, List.setIfInBounds_toArray, List.set_cons_zero, List.set_cons_succ, List.getElem_toArray, List.getElem_cons_zero, List.getElem_cons_succ]
              refine wpAnyH_take (i := 18) (v := ?_) rfl (by kernel_rfl) (by kernel_rfl) (by kernel_rfl) (fun _ _ _ h => h) (Or.inl ⟨by rfl, ?_⟩) (by assumption) ?_
              rotate_left
              · (intro wx hSw; (try dsimp only at hSw); go_simp <;> with_reducible rfl)
              try simp only [Act.put, List.setIfInBounds_toArray, List.set_cons_zero, List.set_cons_succ, List.getElem_toArray, List.getElem_cons_zero, List.getElem_cons_succ]
              refine wpAnyH_take (i := 19) (v := ?_) rfl (by kernel_rfl) (by kernel_rfl) (by kernel_rfl) (fun _ _ _ h => h) (Or.inl ⟨by rfl, ?_⟩) (by assumption) ?_
              rotate_left
              · (intro wx hSw; (try dsimp only at hSw); go_simp <;> with_reducible rfl)
              try simp only [Act.put, List.setIfInBounds_toArray, List.set_cons_zero, List.set_cons_succ, List.getElem_toArray, List.getElem_cons_zero, List.getElem_cons_succ]
              refine wpAnyH_take (i := 20) (v := ?_) rfl (by kernel_rfl) (by kernel_rfl) (by kernel_rfl) (fun _ _ _ h => h) (Or.inl ⟨by rfl, ?_⟩) (by assumption) ?_
              rotate_left
              · (intro wx hSw; (try dsimp only at hSw); go_simp <;> with_reducible rfl)
              try simp only [Act.put, List.setIfInBounds_toArray, List.set_cons_zero, List.set_cons_succ, List.getElem_toArray, List.getElem_cons_zero, List.getElem_cons_succ]
              refine wpAnyH_take (i := 21) (v := ?_) rfl (by kernel_rfl) (by kernel_rfl) (by kernel_rfl) (fun _ _ _ h => h) (Or.inl ⟨by rfl, ?_⟩) (by assumption) ?_
              rotate_left
              · (intro wx hSw; (try dsimp only at hSw); go_simp <;> with_reducible rfl)
              try simp only [Act.put, List.setIfInBounds_toArray, List.set_cons_zero, List.set_cons_succ, List.getElem_toArray, List.getElem_cons_zero, List.getElem_cons_succ]
              refine wpAnyH_ready (rs := [22]) (by kernel_rfl) (by simp) ?_
              refine AllReadyH.cons rfl (fun K hK => ?_) AllReadyH.nil
              go_simp
              go_at_call 24
              (with_reducible refine (HSc.out _ B6.out).mono ?_)
              rintro r v7 ⟨rfl, hb⟩
              have B7 : Hid (Below W0.heap.size W0 v7) := B6.out.trans (hb.mono B6.out.size)
              clear hb
              go_wp2_with fail
              refine hK.out _ _ (HSx.out _ B7.out) (fun hHeld7 => ?_)
              clear hK K hHeld6
              try simp only [Act.put, List.setIfInBounds_toArray, List.set_cons_zero, List.set_cons_succ, List.getElem_toArray, List.getElem_cons_zero, List.getElem_cons_succ]
              refine wpAnyH_take (i := 23) (v := ?_) rfl (by kernel_rfl) (by kernel_rfl) (by kernel_rfl) (fun _ _ _ h => h) (Or.inl ⟨by rfl, ?_⟩) (by assumption) ?_
              rotate_left
              · (intro wx hSw; (try dsimp only at hSw); go_simp <;> with_reducible rfl)
              try simp only [Act.put, List.setIfInBounds_toArray, List.set_cons_zero, List.set_cons_succ, List.getElem_toArray, List.getElem_cons_zero, List.getElem_cons_succ]
              refine wpAnyH_take (i := 24) (v := ?_) rfl (by kernel_rfl) (by kernel_rfl) (by kernel_rfl) (fun _ _ _ h => h) (Or.inl ⟨by rfl, ?_⟩) (by assumption) ?_
              rotate_left
              · (intro wx hSw; (try dsimp only at hSw); go_simp <;> with_reducible rfl)
              try simp only [Act.put, List.setIfInBounds_toArray, List.set_cons_zero, List.set_cons_succ, List.getElem_toArray, List.getElem_cons_zero, List.getElem_cons_succ]
              refine wpAnyH_take (i := 25) (v := ?_) rfl (by kernel_rfl) (by kernel_rfl) (by kernel_rfl) (fun _ _ _ h => h) (Or.inl ⟨by rfl, ?_⟩) (by assumption) ?_
              rotate_left
              · (intro wx hSw; (try dsimp only at hSw); go_simp <;> with_reducible rfl)
              try simp only [Act.put, List.setIfInBounds_toArray, List.set_cons_zero, List.set_cons_succ, List.getElem_toArray, List.getElem_cons_zero, List.getElem_cons_succ]
              refine wpAnyH_take (i := 26) (v := ?_) rfl (by kernel_rfl) (by kernel_rfl) (by kernel_rfl) (fun _ _ _ h => h) (Or.inl ⟨by rfl, ?_⟩) (by assumption) ?_
              rotate_left
              · (intro wx hSw; (try dsimp only at hSw); go_simp <;> with_reducible rfl)
              try simp only [Act.put, List.setIfInBounds_toArray, List.set_cons_zero, List.set_cons_succ, List.getElem_toArray, List.getElem_cons_zero, List.getElem_cons_succ]
              refine wpAnyH_take (i := 27) (v := ?_) rfl (by kernel_rfl) (by kernel_rfl) (by kernel_rfl) (fun _ _ _ h => h) (Or.inl ⟨by rfl, ?_⟩) (by assumption) ?_
              rotate_left
              · (intro wx hSw; (try dsimp only at hSw); go_simp <;> with_reducible rfl)
              try simp only [Act.put, List.setIfInBounds_toArray, List.set_cons_zero, List.set_cons_succ, List.getElem_toArray, List.getElem_cons_zero, List.getElem_cons_succ]
              refine wpAnyH_ready (rs := [28]) (by kernel_rfl) (by simp) ?_
              refine AllReadyH.cons rfl (fun K hK => ?_) AllReadyH.nil
              go_simp
              go_at_call 9
              (with_reducible refine (HN1.out _ B7.out).mono ?_)
              rintro r v8 ⟨rfl, hq8, hb⟩
              have B8 : Hid (Below W0.heap.size W0 v8) := B7.out.trans (hb.mono B7.out.size)
              have Q8 := Lib.hid hq8
              clear hq8
              clear hb
              go_wp2_with fail
              refine hK.out _ _ (HSx.out _ B8.out) (fun hHeld8 => ?_)
              clear hK K hHeld7
              try simp only [Act.put, List.setIfInBounds_toArray, List.set_cons_zero, List.set_cons_succ, List.getElem_toArray, List.getElem_cons_zero, List.getElem_cons_succ]
              refine wpAnyH_ready (rs := [29]) (by kernel_rfl) (by simp) ?_
              refine AllReadyH.cons rfl (fun K hK => ?_) AllReadyH.nil
              go_simp
              go_at_call 27
              (with_reducible refine (HN2.out _ B8.out).mono ?_)
              rintro r v9 ⟨hbn9, rfl, hb⟩
              have B9 : Hid (Below W0.heap.size W0 v9) := B8.out.trans (hb.mono B8.out.size)
              have N9 := Lib.hid hbn9
              have Q89 := Lib.hid (Q8.out.later hb)
              clear hbn9
              clear hb
              go_wp2_with fail
              refine hK.out _ _ (HSx.out _ B9.out) (fun hHeld9 => ?_)
              clear hK K hHeld8
              try simp only [Act.put, List.setIfInBounds_toArray, List.set_cons_zero, List.set_cons_succ, List.getElem_toArray, List.getElem_cons_zero, List.getElem_cons_succ]
              refine wpAnyH_ready (rs := [30]) (by kernel_rfl) (by simp) ?_
              refine AllReadyH.cons rfl (fun K hK => ?_) AllReadyH.nil
              go_simp
              go_at_call 9
              (with_reducible refine (HN3.out _ _ B9.out N9.out).mono ?_)
              rintro r va ⟨rfl, hqa, hb⟩
              have Ba : Hid (Below W0.heap.size W0 va) := B9.out.trans (hb.mono B9.out.size)
              have Qa := Lib.hid hqa
              have Q8a := Lib.hid (Q89.out.later hb)
              clear hqa
              clear hb
              go_wp2_with fail
              refine hK.out _ _ (HSx.out _ Ba.out) (fun hHeld10 => ?_)
              clear hK K hHeld9
              try simp only [Act.put, List.setIfInBounds_toArray, List.set_cons_zero, List.set_cons_succ, List.getElem_toArray, List.getElem_cons_zero, List.getElem_cons_succ]
              refine wpAnyH_ready (rs := [31]) (by kernel_rfl) (by simp) ?_
              refine AllReadyH.cons rfl (fun K hK => ?_) AllReadyH.nil
              go_simp
              go_at_call 23
              (with_reducible refine (HEn.out _ _ _ _ _ Q8a.out Qa.out).mono ?_)
              rintro r vb ⟨rfl, hb⟩
              have Bb : Hid (Below W0.heap.size W0 vb) := Ba.out.trans (hb.mono Ba.out.size)
              clear hb
              go_wp2_with fail
              refine hK.out _ _ (HSx.out _ Bb.out) (fun hHeld11 => ?_)
              clear hK K hHeld10
              try simp only [Act.put, List.setIfInBounds_toArray, List.set_cons_zero, List.set_cons_succ, List.getElem_toArray, List.getElem_cons_zero, List.getElem_cons_succ]
              refine wpAnyH_take (i := 32) (v := ?_) rfl (by kernel_rfl) (by kernel_rfl) (by kernel_rfl) (fun _ _ _ h => h) (Or.inl ⟨by rfl, ?_⟩) (by assumption) ?_
              rotate_left
              · (intro wx hSw; (try dsimp only at hSw); go_simp <;> with_reducible rfl)
              try simp only [Act.put, List.setIfInBounds_toArray, List.set_cons_zero, List.set_cons_succ, List.getElem_toArray, List.getElem_cons_zero, List.getElem_cons_succ]
              refine wpAnyH_take (i := 33) (v := ?_) rfl (by kernel_rfl) (by kernel_rfl) (by kernel_rfl) (fun _ _ _ h => h) (Or.inl ⟨by rfl, ?_⟩) (by assumption) ?_
              rotate_left
              · (intro wx hSw; (try dsimp only at hSw); go_simp <;> with_reducible rfl)
              try simp only [Act.put, List.setIfInBounds_toArray, List.set_cons_zero, List.set_cons_succ, List.getElem_toArray, List.getElem_cons_zero, List.getElem_cons_succ]
              refine wpAnyH_done (by kernel_rfl) ?_ _
              go_wp2
              refine bodyPost_ret (v := .bool true) (by simp [results, Tryz.results6, go_sem]) rfl ?_
              exact ⟨rfl, HB0.out.trans (Bb.out.mono HB0.out.size)⟩
end Go.Proofs.YthghfhnicdoebaaGreatDoor
