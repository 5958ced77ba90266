/- Law 24: ViewPlays. (printed by wip/gen_vps.py) -/
import Derived.Test.YthghfhnicdoebaaGreatDoorIsA
import Derived.Test.YthghfhnicdoebaaGreatDoorKnvA
import Derived.Deep.RegionLaw
import Derived.Deep.DeepCutAuto
namespace Go.Proofs.YthghfhnicdoebaaGreatDoor
open Go.RowKit
attribute [local go_sem ↓] Go.wp_at_zero Go.wp_at_succ

/-- Between two operations: x stands in the block P. -/
structure PlJ (w0 wr : World) (b M : Nat) (V : AV) (P : Nat) (l : List (NameT × ByteArray)) (q : List NameT × List ChangeT) (vb vr vc : Value) : Prop where
  s : PVU w0 wr b M V l (fun k => k = P) q vb vr vc
  p : wr.heap[P]? = some (.cells #[vb, vr, vc] 33 (0, 0))
  ge : w0.heap.size ≤ P
  n2 : ∀ k, vr.ownBlock = some k → k ≠ P
  n3 : ∀ k, vc.ownBlock = some k → k ≠ P
/-- Behind the operation: next stands in the block B. -/
structure PlK (w0 wx : World) (b M : Nat) (V : AV) (P B : Nat) (l : List (NameT × ByteArray)) (q : List NameT × List ChangeT) (vb vr vc vr' vc' : Value) : Prop where
  s : PVU w0 wx b M V l (fun k => k = P ∨ k = B) q vb vr' vc'
  p : wx.heap[P]? = some (.cells #[vb, vr, vc] 33 (0, 0))
  pb : wx.heap[B]? = some (.cells #[vb, vr', vc'] 33 (0, 0))
  ge : w0.heap.size ≤ P
  gb : P < B
  n2 : ∀ k, vr'.ownBlock = some k → k ≠ P ∧ k ≠ B
  n3 : ∀ k, vc'.ownBlock = some k → k ≠ P ∧ k ≠ B
section
variable {w0 wr w6 w' : World} {b M P B : Nat} {V V' : AV} {l : List (NameT × ByteArray)} {q q' : List NameT × List ChangeT} {vb vr vc vr' vc' : Value}
theorem PlJ.later (h : PlJ w0 wr b M V P l q vb vr vc) (hb : Below wr.heap.size wr w') : PlJ w0 w' b M V P l q vb vr vc :=
  ⟨h.s.later hb, (hb.block _ (lt_of_heap h.p)).trans h.p, h.ge, h.n2, h.n3⟩
theorem PlK.later (h : PlK w0 wr b M V P B l q vb vr vc vr' vc') (hb : Below wr.heap.size wr w') : PlK w0 w' b M V P B l q vb vr vc vr' vc' :=
  ⟨h.s.later hb, (hb.block _ (lt_of_heap h.p)).trans h.p, (hb.block _ (lt_of_heap h.pb)).trans h.pb, h.ge, h.gb, h.n2, h.n3⟩
theorem PlJ.wayA (h : PlJ w0 wr b M V P l q vb vr vc) (h6 : PVU w0 w6 b M V' l (fun k => k = P) q' vb vr' vc') (hk : ∀ k, k = P → w6.heap[k]? = wr.heap[k]?) (f1 : ∀ k, vr'.ownBlock = some k → vr.ownBlock = some k ∨ wr.heap.size ≤ k) (f2 : ∀ k, vc'.ownBlock = some k → vc.ownBlock = some k ∨ wr.heap.size ≤ k) :
    PlK w0 (w6.alloc (.cells #[vb, vr', vc'] 33)) b M V' P w6.heap.size l q' vb vr vc vr' vc' := by
  have hp := lt_of_heap h.p
  have hP6 := (hk P rfl).trans h.p
  have hb : Below w6.heap.size w6 (w6.alloc (.cells #[vb, vr', vc'] 33)) := (Below.refl _ _).alloc (Nat.le_refl _) _
  refine ⟨h6.more hb (fun k hk => ?_), (hb.block _ (lt_of_heap hP6)).trans hP6, heap_alloc_new w6 _, h.ge, lt_of_heap hP6, fun k hk => ⟨?_, ?_⟩, fun k hk => ⟨?_, ?_⟩⟩
  · rcases hk with hk | hk
    · exact .inl hk
    · exact .inr ⟨Nat.le_of_eq hk.symm, by rw [World.size_alloc]; omega⟩
  · rcases f1 k hk with h1 | h1
    · exact h.n2 k h1
    · omega
  · have := h6.s.glt (k := k) (.inr (.inl hk)); omega
  · rcases f2 k hk with h1 | h1
    · exact h.n3 k h1
    · omega
  · have := h6.s.glt (k := k) (.inr (.inr hk)); omega
theorem PlJ.wayB {o : Obj} {W : World} (h : PlJ w0 wr b M V P l q vb vr vc) (hW : ∀ k : Nat, W.heap[k]? = (wr.alloc o).heap[k]?) (ho : o = .cells #[.slice none 0 0, .slice none 0 0, .slice none 0 0] 33) (h6 : PVU w0 w6 b M V' l (fun k => k = P ∨ k = wr.heap.size) q' vb vr' vc') (hk : ∀ k, (k = P ∨ k = wr.heap.size) → w6.heap[k]? = W.heap[k]?) (f1 : ∀ k, vr'.ownBlock = some k → vr.ownBlock = some k ∨ wr.heap.size + 1 ≤ k) (f2 : ∀ k, vc'.ownBlock = some k → vc.ownBlock = some k ∨ wr.heap.size + 1 ≤ k) :
    PlK w0 (((w6.setCell ⟨wr.heap.size, 0, none⟩ vb).setCell ⟨wr.heap.size, 1, none⟩ vr').setCell ⟨wr.heap.size, 2, none⟩ vc') b M V' P wr.heap.size l q' vb vr vc vr' vc' := by
  have hp := lt_of_heap h.p
  have hP6 : w6.heap[P]? = _ := ((hk P (.inl rfl)).trans ((hW P).trans (Below.heap_alloc _ _ _ hp))).trans h.p
  have hB6 : w6.heap[wr.heap.size]? = some o := (hk _ (.inr rfl)).trans ((hW _).trans (heap_alloc_new wr o))
  subst ho
  have hg := grown_set3 w6 wr.heap.size vb vr' vc'
  have m2 : ∀ k, vr'.ownBlock = some k → k ≠ P ∧ k ≠ wr.heap.size := fun k hk => by
    rcases f1 k hk with h1 | h1
    · exact ⟨h.n2 k h1, Nat.ne_of_lt (h.s.s.glt (k := k) (.inr (.inl h1)))⟩
    · omega
  have m3 : ∀ k, vc'.ownBlock = some k → k ≠ P ∧ k ≠ wr.heap.size := fun k hk => by
    rcases f2 k hk with h1 | h1
    · exact ⟨h.n3 k h1, Nat.ne_of_lt (h.s.s.glt (k := k) (.inr (.inr h1)))⟩
    · omega
  exact ⟨h6.box (.inr rfl) (fun k hk => by have := h6.vl k hk; have := h.ge; omega) (fun k hk => (m2 k hk).2) (fun k hk => (m3 k hk).2) hg, (hg.block _ (lt_of_heap hP6) (fun e => by have := Option.some.inj e; omega)).trans hP6, set3 hB6 _ _ _, h.ge, hp, m2, m3⟩
/-- x := next. -/
theorem PlK.back (h : PlK w0 wr b M V P B l q vb vr vc vr' vc') : PlJ w0 (((wr.setCell ⟨P, 0, none⟩ vb).setCell ⟨P, 1, none⟩ vr').setCell ⟨P, 2, none⟩ vc') b M V P l q vb vr' vc' := by
  have hg := grown_set3 wr P vb vr' vc'
  exact ⟨(h.s.box (.inl rfl) (fun k hk => by have := h.s.vl k hk; have := h.ge; omega) (fun k hk => (h.n2 k hk).1) (fun k hk => (h.n3 k hk).1) hg).drop (fun k hk => .inl hk), set3 h.p _ _ _, h.ge, fun k hk => (h.n2 k hk).1, fun k hk => (h.n3 k hk).1⟩
end

theorem PlJ.start {w2 w3 : World} {b M : Nat} {V : AV} {l : List (NameT × ByteArray)} {ab : Option Addr} {nb kb : Nat} (hrow : RowK kE w2 (.slice ab nb kb) l) (hvl : ∀ k, (Value.slice ab nb kb).ownBlock = some k → k < w2.heap.size) (s3 : QM w2 w3 b M V (fun _ => False)) :
    PlJ w2 (w3.alloc (.cells #[.slice ab nb kb, .slice none 0 0, .slice none 0 0] 33)) b M V w3.heap.size l ([], []) (.slice ab nb kb) (.slice none 0 0) (.slice none 0 0) := by
  have h3 : Below w3.heap.size w3 (w3.alloc (.cells #[.slice ab nb kb, .slice none 0 0, .slice none 0 0] 33)) := (Below.refl _ _).alloc (Nat.le_refl _) _
  have hall := s3.below.trans (h3.mono s3.below.size)
  have s4 : QM w2 (w3.alloc (.cells #[.slice ab nb kb, .slice none 0 0, .slice none 0 0] 33)) b M V (own2 (fun k => k = w3.heap.size) (.slice none 0 0) (.slice none 0 0)) := s3.fresh h3 (fun k hk => by
    rcases hk with hk | hk | hk
    · subst hk; exact .inr ⟨Nat.le_refl _, by rw [World.size_alloc]; omega⟩
    · cases hk
    · cases hk)
  exact ⟨⟨s4, hrow.later hall, RowK.nil _, RowK.nil _, hvl⟩, heap_alloc_new w3 _, s3.below.size, (fun k hk => by cases hk), (fun k hk => by cases hk)⟩
set_option maxRecDepth 100000 in
set_option maxHeartbeats 6400000 in
theorem viewPlays_any (a5 : Option Addr) (n5 c5 : Nat) (f5 : Nat → ChangeT) (a : Option Addr) (n c : Nat) (fo : Nat → OpV) (w : World) (hu : Usages w) (hn5 : n5 ≤ 9223372036854775807) (hl5 : C24Sl w a5 n5 f5) (hn : n ≤ 9223372036854775807) (hl : OpSlV w a n fo) :
    Calls Tryz.prog 3 #[.slice a5 n5 c5, .slice a n c] w fun r w' => r = .returned (.bool true) ∧ Below w.heap.size w w' := by
  have HLk : Hid (LOk (baseL f5 (min n5 12)) 12) := (baseL_ok f5 _).more (by omega)
  have HBs : Hid (∀ W, Below w.heap.size w W → Calls Tryz.prog 8 #[.slice a5 n5 c5] W (BaseRow (baseL f5 (min n5 12)) W)) := fun W hW => (base24_any a5 n5 c5 f5 W (hu.below hW hu.pos) hn5 (hl5.later hW)).mono (fun _ _ h => base_row h)
  have HUs : Hid (∀ W, Below w.heap.size w W → Usages W) := fun W hW => hu.below hW hu.pos
  have Hl := Lib.hid hl
  have HKn : Hid (Calls Tryz.prog 7 #[] w fun r w' => r = .returned (.bool true) ∧ Below w.heap.size w w') := known24_any w hu
  clear hl hu hl5
  generalize baseL f5 (min n5 12) = l at *
  go_enter Tryz.func3, Tryz.ntmps3
  go_wp2_with fail
  refine HKn.out.mono ?_
  rintro r w1 ⟨rfl, hb1⟩
  have HB1 := Lib.hid hb1
  clear hb1 HKn
  go_wp2_with fail
  refine (HBs.out _ HB1.out).mono ?_
  rintro r w0 ⟨sp, ab, nb, kb, rfl, hb2, hbn, hrow, hne⟩
  have HLow : Hid (Below w.heap.size w w0) := HB1.out.trans (hb2.mono HB1.out.size)
  have HBn := Lib.hid hbn
  have HRow := Lib.hid hrow
  have HNe := Lib.hid hne
  clear hb2 hbn hrow hne HB1 HBs
  go_wp2_with fail
  refine (qmNew (w0 := w0) (HUs.out _ HLow.out) (Below.refl _ _) HBn.out).mono ?_
  rintro r w3 ⟨rfl, s3, -⟩
  have HI0 := Lib.hid (PlJ.start (V := VOf l [] []) HRow.out (rowE_lt HRow.out HNe.out) s3)
  clear s3 HBn HRow HNe HUs
  go_upto_region 5 with fail
  generalize (w3.alloc (.cells #[.slice ab nb kb, .slice none 0 0, .slice none 0 0] 33)) = w4 at *
  generalize w3.heap.size = P at *
  generalize w0.heap.size + 2 = b at *
  have v0 : w4.cell? ⟨P, 0, none⟩ = some (.slice ab nb kb) := cell_of_heap HI0.out.p 0
  have v1 : w4.cell? ⟨P, 1, none⟩ = some (.slice none 0 0) := cell_of_heap HI0.out.p 1
  have v2 : w4.cell? ⟨P, 2, none⟩ = some (.slice none 0 0) := cell_of_heap HI0.out.p 2
  go_wp2_with fail
  refine (is24_any (k := 0) (q := ([], [])) HI0.out.s HLk.out (PInv.nil 0) (by omega)).mono ?_
  rintro r w5 ⟨rfl, hb5⟩
  have HI1 := Lib.hid (HI0.out.later hb5)
  clear hb5 HI0 v0 v1 v2
  go_wp2_with fail
  go_loopg [9] n (fun gk iv wr => ∃ (k : Nat) (ar ac : Option Addr) (nr kr nc kc : Nat), k + gk = n ∧ iv = .int .i64 k ∧ k ≤ 30 ∧ Hid (PlJ w0 wr b 12 (VOf l (runR l fo k).1 (runR l fo k).2) P l (runR l fo k) (.slice ab nb kb) (.slice ar nr kr) (.slice ac nc kc)))
  case atStart => exact ⟨0, none, none, 0, 0, 0, 0, by omega, rfl, by omega, HI1.out⟩
  case round =>
    clear HI1
    obtain ⟨k, ar, ac, nr, kr, nc, kc, hk, rfl, hk30, HI⟩ := hrel
    have Hk := Lib.hid hk
    have hkn : k ≤ n := by omega
    clear hk
    have HBw : Hid (Below w.heap.size w wr) := HLow.out.trans (HI.out.s.s.below.mono HLow.out.size)
    by_cases hlt : k < n ∧ k < 30
    · obtain ⟨hlt, hlt30⟩ := hlt
      have HRi : Hid (PInv (runR l fo (k + 1)).1 (runR l fo (k + 1)).2 (k + 1)) := runR_inv l fo (k + 1)
      obtain ⟨g, off, rfl, hc⟩ := Hl.out (by omega)
      have HMk : Hid (∀ W, Below w.heap.size w W → W.heap[P]? = some (.cells #[.slice ab nb kb, .slice ar nr kr, .slice ac nc kc] 33 (0, 0)) → W.cell? ⟨P, 0, none⟩ = some (.slice ab nb kb) ∧ W.cell? ⟨P, 1, none⟩ = some (.slice ar nr kr) ∧ W.cell? ⟨P, 2, none⟩ = some (.slice ac nc kc) ∧ W.cell? ⟨g, off + k * 9, none⟩ = some (.int .u8 (fo k).kd) ∧ W.cell? ⟨g, off + k * 9 + 1, none⟩ = some (.int .i64 (fo k).c.name.kind) ∧ W.cell? ⟨g, off + k * 9 + 2, none⟩ = some (.string (fo k).c.name.owner) ∧ W.cell? ⟨g, off + k * 9 + 3, none⟩ = some (.int .i64 (fo k).c.name.number) ∧ W.cell? ⟨g, off + k * 9 + 4, none⟩ = some (.int .i64 (fo k).c.name.index) ∧ W.cell? ⟨g, off + k * 9 + 5, none⟩ = some (.string (fo k).c.name.text) ∧ W.cell? ⟨g, off + k * 9 + 6, none⟩ = some (.string (fo k).c.value) ∧ W.cell? ⟨g, off + k * 9 + 7, none⟩ = some (.bool (fo k).c.absent) ∧ W.cell? ⟨g, off + k * 9 + 8, none⟩ = some (.int .i64 (fo k).n)) := fun W hb hp => by
        obtain ⟨c0, c1, c2, c3, c4, c5, c6, c7, c8, -⟩ := hc k hlt
        have hg := World.block_lt_of_cell? w _ c0
        exact ⟨cell_of_heap hp 0, cell_of_heap hp 1, cell_of_heap hp 2, ((bcell hb).1 _ _ hg).trans c0, ((bcell hb).1 _ _ hg).trans c1, ((bcell hb).1 _ _ hg).trans c2, ((bcell hb).1 _ _ hg).trans c3, ((bcell hb).1 _ _ hg).trans c4, ((bcell hb).1 _ _ hg).trans c5, ((bcell hb).1 _ _ hg).trans c6, ((bcell hb).1 _ _ hg).trans c7, ((bcell hb).1 _ _ hg).trans c8⟩
      obtain ⟨cc0, -, -, -, -, -, -, -, -, hkd, z1, z2, z3⟩ := hc k hlt
      have hgc : g < w.heap.size := World.block_lt_of_cell? w _ cc0
      have Hg : Hid (g < wr.heap.size) := Nat.lt_of_lt_of_le hgc HBw.out.size
      clear cc0 hc
      have HDo : Hid (∀ G W, PVI w0 W b l G (runR l fo k) (.slice ab nb kb) (.slice ar nr kr) (.slice ac nc kc) → Calls Tryz.prog 11 #[.pointer (some ⟨b, 0, none⟩), .agg #[.slice ab nb kb, .slice ar nr kr, .slice ac nc kc], .agg #[.int .u8 (fo k).kd, .int .i64 (fo k).c.name.kind, .string (fo k).c.name.owner, .int .i64 (fo k).c.name.number, .int .i64 (fo k).c.name.index, .string (fo k).c.name.text, .string (fo k).c.value, .bool (fo k).c.absent, .int .i64 (fo k).n]] W fun r w' => ∃ a1 n1 c1 a2 n2 c2, r = .returned (.tuple #[.agg #[.slice ab nb kb, .slice a1 n1 c1, .slice a2 n2 c2], .bool true]) ∧ PVI w0 w' b l G (runR l fo (k + 1)) (.slice ab nb kb) (.slice a1 n1 c1) (.slice a2 n2 c2) ∧ (∀ k, G k → w'.heap[k]? = W.heap[k]?) ∧ (∀ k, (Value.slice a1 n1 c1).ownBlock = some k → (Value.slice ar nr kr).ownBlock = some k ∨ W.heap.size ≤ k) ∧ ∀ k, (Value.slice a2 n2 c2).ownBlock = some k → (Value.slice ac nc kc).ownBlock = some k ∨ W.heap.size ≤ k) := fun G W hs => pvi_do hs HLk.out (runR_inv l fo k) (by omega) (fo k) hkd z1 z2 z3
      generalize fo k = o at *
      obtain ⟨kd, ⟨⟨o1, o2, o3, o4, o5⟩, o6, o7⟩, o8⟩ := o
      dsimp only at *
      clear z1 z2 z3
      go_upto_region 10 with fail
      go_cut [10, 11] (fun nv okv wx => okv = .bool true ∧ ∃ B a1 n1 c1 a2 n2 c2, nv = .pointer (some ⟨B, 0, none⟩) ∧ Hid (PlK w0 wx b 12 (VOf l (runR l fo (k + 1)).1 (runR l fo (k + 1)).2) P B l (runR l fo (k + 1)) (.slice ab nb kb) (.slice ar nr kr) (.slice ac nc kc) (.slice a1 n1 c1) (.slice a2 n2 c2)))
      case first =>
        have HB0 : Hid (Below w.heap.size w wr.drew) := HBw.out.drew
        have HP0 : Hid (wr.drew.heap[P]? = some (.cells #[.slice ab nb kb, .slice ar nr kr, .slice ac nc kc] 33 (0, 0))) := HI.out.p
        have HB0a : Hid (∀ o, Below w.heap.size w (wr.alloc o).drew) := fun o => (HBw.out.alloc HBw.out.size _).drew
        have HP0a : Hid (∀ o, (wr.alloc o).drew.heap[P]? = some (.cells #[.slice ab nb kb, .slice ar nr kr, .slice ac nc kc] 33 (0, 0))) := fun o => (Below.heap_alloc _ _ _ (lt_of_heap HI.out.p)).trans HI.out.p
        have HMo : Hid (∀ o, PVU w0 (wr.alloc o).drew b 12 (VOf l (runR l fo k).1 (runR l fo k).2) l (fun k => k = P ∨ k = wr.heap.size) (runR l fo k) (.slice ab nb kb) (.slice ar nr kr) (.slice ac nc kc)) := fun o => HI.out.s.more ((Below.refl _ _).alloc (Nat.le_refl _) _).drew (fun k hk => hk.imp id (fun e => by subst e; exact ⟨Nat.le_refl _, by show _ < (wr.alloc o).heap.size; rw [World.size_alloc]; omega⟩))
        have hPn : ¬ P = wr.heap.size := Nat.ne_of_lt (lt_of_heap HI.out.p)
        have hgn : ¬ g = wr.heap.size := Nat.ne_of_lt Hg.out
        go_region_held3 (fun W => W.cell? ⟨P, 0, none⟩ = some (.slice ab nb kb) ∧ W.cell? ⟨P, 1, none⟩ = some (.slice ar nr kr) ∧ W.cell? ⟨P, 2, none⟩ = some (.slice ac nc kc) ∧ W.cell? ⟨g, off + k * 9, none⟩ = some (.int .u8 kd) ∧ W.cell? ⟨g, off + k * 9 + 1, none⟩ = some (.int .i64 o1) ∧ W.cell? ⟨g, off + k * 9 + 2, none⟩ = some (.string o2) ∧ W.cell? ⟨g, off + k * 9 + 3, none⟩ = some (.int .i64 o3) ∧ W.cell? ⟨g, off + k * 9 + 4, none⟩ = some (.int .i64 o4) ∧ W.cell? ⟨g, off + k * 9 + 5, none⟩ = some (.string o5) ∧ W.cell? ⟨g, off + k * 9 + 6, none⟩ = some (.string o6) ∧ W.cell? ⟨g, off + k * 9 + 7, none⟩ = some (.bool o7) ∧ W.cell? ⟨g, off + k * 9 + 8, none⟩ = some (.int .i64 o8)) (first | with_reducible exact HMk.out _ HB0.out HP0.out | with_reducible exact HMk.out _ (HB0a.out _) (HP0a.out _) | with_reducible exact HMk.out _ HB6.out HP6.out | with_reducible exact HMk.out _ (HB6a.out _) (HP6a.out _) | with_reducible exact HMk.out _ HB7.out HP7.out | go_keep)
          (first
            | (go_at_call 11; (with_reducible refine (HDo.out _ _ (HI.out.s.later (Below.refl _ _).drew)).mono ?_); rintro r w6 ⟨a1, n1, c1, a2, n2, c2, rfl, h6, hk6, f1, f2⟩; have HK := Lib.hid (HI.out.wayA h6 hk6 f1 f2); have HB6 : Hid (Below w.heap.size w w6) := HLow.out.trans (h6.s.below.mono HLow.out.size); have HP6 : Hid (w6.heap[P]? = some (.cells #[.slice ab nb kb, .slice ar nr kr, .slice ac nc kc] 33 (0, 0))) := (hk6 P rfl).trans HI.out.p; have HB6a : Hid (∀ o, Below w.heap.size w (w6.alloc o)) := (fun o => HB6.out.alloc HB6.out.size _); have HP6a : Hid (∀ o, (w6.alloc o).heap[P]? = some (.cells #[.slice ab nb kb, .slice ar nr kr, .slice ac nc kc] 33 (0, 0))) := (fun o => (Below.heap_alloc _ _ _ (lt_of_heap HP6.out)).trans HP6.out); clear h6 hk6 f1 f2)
            | (go_at_call 11; (with_reducible refine (HDo.out _ _ (HMo.out _)).mono ?_); rintro r w6 ⟨a1, n1, c1, a2, n2, c2, rfl, h6, hk6, f1, f2⟩; have hB6 : w6.heap[wr.heap.size]? = some (.cells #[.slice none 0 0, .slice none 0 0, .slice none 0 0] 33 (0, 0)) := (hk6 _ (.inr rfl)).trans (heap_alloc_new wr _); have HK := Lib.hid (HI.out.wayB (W := (wr.alloc (.cells #[.slice none 0 0, .slice none 0 0, .slice none 0 0] 33)).drew) (fun _ => rfl) rfl h6 hk6 (fun k hk => (f1 k hk).imp id (fun e => by have e : (wr.alloc _).heap.size ≤ k := e; rwa [World.size_alloc] at e)) (fun k hk => (f2 k hk).imp id (fun e => by have e : (wr.alloc _).heap.size ≤ k := e; rwa [World.size_alloc] at e))); have HB6 : Hid (Below w.heap.size w w6) := HLow.out.trans (h6.s.below.mono HLow.out.size); have HP6 : Hid (w6.heap[P]? = some (.cells #[.slice ab nb kb, .slice ar nr kr, .slice ac nc kc] 33 (0, 0))) := (hk6 P (.inl rfl)).trans (HP0a.out _); have HB7 : Hid (Below w.heap.size w (((w6.setCell ⟨wr.heap.size, 0, none⟩ (.slice ab nb kb)).setCell ⟨wr.heap.size, 1, none⟩ (.slice a1 n1 c1)).setCell ⟨wr.heap.size, 2, none⟩ (.slice a2 n2 c2))) := below_grow HB6.out (grown_set3 _ _ _ _ _) (Nat.le_refl _) (fun k hk => by cases hk; exact HBw.out.size); have HP7 : Hid ((((w6.setCell ⟨wr.heap.size, 0, none⟩ (.slice ab nb kb)).setCell ⟨wr.heap.size, 1, none⟩ (.slice a1 n1 c1)).setCell ⟨wr.heap.size, 2, none⟩ (.slice a2 n2 c2)).heap[P]? = some (.cells #[.slice ab nb kb, .slice ar nr kr, .slice ac nc kc] 33 (0, 0))) := HK.out.p; have nf : ∀ i, w6.frozen? ⟨wr.heap.size, i, none⟩ = false := (fun i => frozen_of_heap hB6 i); have z0 := cell_of_heap hB6 0; have z1 := cell_of_heap hB6 1; have z2 := cell_of_heap hB6 2; clear h6 hk6 f1 f2 hB6)
            | fail)
        all_goals
          go_wp2
          go_meet
          exact ⟨rfl, _, a1, n1, c1, a2, n2, c2, rfl, HK.out⟩
      case rest =>
        obtain ⟨rfl, B, a1, n1, c1, a2, n2, c2, rfl, HK⟩ := hcut
        clear HI HDo HMk Hg hgc
        have v0 : wc.cell? ⟨B, 0, none⟩ = some (.slice ab nb kb) := cell_of_heap HK.out.pb 0
        have v1 : wc.cell? ⟨B, 1, none⟩ = some (.slice a1 n1 c1) := cell_of_heap HK.out.pb 1
        have v2 : wc.cell? ⟨B, 2, none⟩ = some (.slice a2 n2 c2) := cell_of_heap HK.out.pb 2
        have HIs : Hid (∀ W, Below wc.heap.size wc W → Calls Tryz.prog 10 #[.pointer (some ⟨b, 0, none⟩), .agg #[.slice ab nb kb, .slice a1 n1 c1, .slice a2 n2 c2]] W fun r w' => r = .returned (.bool true) ∧ Below W.heap.size W w') := fun W hW => is24_any (HK.out.s.later hW) HLk.out HRi.out (by omega)
        have HMa : Hid (∀ W, Below wc.heap.size wc W → Calls Tryz.prog 12 #[.pointer (some ⟨b, 0, none⟩)] W fun r w' => r = .returned (.int .i64 n2) ∧ W = w') := fun W hW => by
          have h := qmMark (HK.out.s.later hW).s
          have e : (runR l fo (k + 1)).2.length = n2 := HK.out.s.hc.len
          have e2 : ((VOf l (runR l fo (k + 1)).1 (runR l fo (k + 1)).2).calls.length : Int) = (n2 : Int) := by rw [← e]; rfl
          rw [e2] at h
          exact h
        have HD0 : Hid (Below wc.heap.size wc wc.drew) := (Below.refl _ _).drew
        have HSb : Hid (∀ W, Below wc.heap.size wc W → W.cell? ⟨B, 0, none⟩ = some (.slice ab nb kb) ∧ W.cell? ⟨B, 1, none⟩ = some (.slice a1 n1 c1) ∧ W.cell? ⟨B, 2, none⟩ = some (.slice a2 n2 c2)) := fun W hW => by
          have h := (hW.block _ (lt_of_heap HK.out.pb)).trans HK.out.pb
          exact ⟨cell_of_heap h 0, cell_of_heap h 1, cell_of_heap h 2⟩
        go_upto_region 11 with fail
        go_region_held3 (fun W => W.cell? ⟨B, 0, none⟩ = some (.slice ab nb kb) ∧ W.cell? ⟨B, 1, none⟩ = some (.slice a1 n1 c1) ∧ W.cell? ⟨B, 2, none⟩ = some (.slice a2 n2 c2)) (first | with_reducible exact HSb.out _ HD0.out | with_reducible exact HSb.out _ Ba.out | with_reducible exact HSb.out _ Bm.out | go_keep)
          (first
            | (go_at_call 10; (with_reducible refine (HIs.out _ HD0.out).mono ?_); rintro r wa ⟨rfl, hb⟩; have Ba : Hid (Below wc.heap.size wc wa) := HD0.out.trans (hb.mono HD0.out.size); clear hb)
            | (go_at_call 12; (with_reducible refine (HMa.out _ Ba.out).mono ?_); rintro r wm ⟨rfl, rfl⟩)
            | (go_at_call 12; (with_reducible refine (HMa.out _ HD0.out).mono ?_); rintro r wm ⟨rfl, rfl⟩)
            | fail)
        all_goals
          have HK2 := Lib.hid (HK.out.later Ba.out)
          have HJ := Lib.hid HK2.out.back
          clear HK HIs HMa HD0 HSb v0 v1 v2
          have v0 : wa.cell? ⟨B, 0, none⟩ = some (.slice ab nb kb) := cell_of_heap HK2.out.pb 0
          have v1 : wa.cell? ⟨B, 1, none⟩ = some (.slice a1 n1 c1) := cell_of_heap HK2.out.pb 1
          have v2 : wa.cell? ⟨B, 2, none⟩ = some (.slice a2 n2 c2) := cell_of_heap HK2.out.pb 2
          have y0 : wa.cell? ⟨P, 0, none⟩ = some (.slice ab nb kb) := cell_of_heap HK2.out.p 0
          have y1 : wa.cell? ⟨P, 1, none⟩ = some (.slice ar nr kr) := cell_of_heap HK2.out.p 1
          have y2 : wa.cell? ⟨P, 2, none⟩ = some (.slice ac nc kc) := cell_of_heap HK2.out.p 2
          have nf : ∀ i, wa.frozen? ⟨P, i, none⟩ = false := fun i => frozen_of_heap HK2.out.p i
          go_wp2
          go_roundg (n - (k + 1))
          case measure => have := Hk.out; omega
          case rel => exact ⟨k + 1, a1, a2, n1, c1, n2, c2, by have := Hk.out; omega, by go_num, by omega, HJ.out⟩
    · have hways : ¬ k < n ∨ (k < n ∧ ¬ k < 30) := by omega
      clear hlt
      rcases hways with h5 | ⟨h5, h5'⟩
      all_goals
        go_wp2
        go_ret
        exact ⟨rfl, HBw.out⟩
end Go.Proofs.YthghfhnicdoebaaGreatDoor
