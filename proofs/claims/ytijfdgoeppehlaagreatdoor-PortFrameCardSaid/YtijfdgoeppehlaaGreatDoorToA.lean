/- Law 24: short; law 4: To. Law 5: To. -/
import Derived.Test.YtijfdgoeppehlaaGreatDoorViewH
import Derived.Test.YtijfdgoeppehlaaGreatDoorRdsE
import Derived.BigRegion
import Derived.Deep.LoopGhost
import Derived.Deep.RegionHeld3
namespace Go.Proofs.YtijfdgoeppehlaaGreatDoor
open Go.RowKit

set_option maxRecDepth 100000 in
set_option maxHeartbeats 1000000 in
theorem to04b_any (k : Int) (o : ByteArray) (nu ix : Int) (t : ByteArray) (w : World) :
    Calls Tryz.prog 54 #[.agg #[.int .i64 k, .string o, .int .i64 nu, .int .i64 ix, .string t]] w fun r w' => r = .returned (.agg #[.int .i64 k, .string o, .int .i64 nu, .int .i64 ix, .string t]) ∧ Below w.heap.size w w' := by
  go_enter Tryz.func54, Tryz.ntmps54
  go_wp2
  refine bodyPost_ret (v := .agg #[.int .i64 k, .string o, .int .i64 nu, .int .i64 ix, .string t]) (by simp [results, Tryz.results54, go_sem]) rfl ⟨rfl, ?_⟩
  exact ((Below.refl _ _).alloc (Nat.le_refl _) _).alloc (by simp) _
end Go.Proofs.YtijfdgoeppehlaaGreatDoor

namespace Go.Proofs.YtijfdgoeppehlaaGreatDoor
open Go.RowKit
attribute [local go_sem ↓] Go.wp_at_zero Go.wp_at_succ

/-- The first k bytes of a text. -/
def cutX (s : ByteArray) (k : Nat) : ByteArray := s.extract 0 (min s.size k)
theorem cutX_size (s : ByteArray) (k : Nat) : (cutX s k).size ≤ k := by
  unfold cutX
  simp [ByteArray.size_extract]
  omega
def cutC5 (c : ChangeT) : ChangeT := ⟨⟨c.name.kind, cutX c.name.owner 100, c.name.number, c.name.index, cutX c.name.text 100⟩, cutX c.value 200, c.absent⟩
/-- A slice of the reference's changes that can be read. -/
def C05Sl (w : World) (a : Option Addr) (n : Nat) (f : Nat → ChangeT) : Prop :=
  0 < n → ∃ g off, a = some ⟨g, off, none⟩ ∧ ∀ j, j < n → w.cell? ⟨g, off + j * 7, none⟩ = some (.int .i64 (f j).name.kind) ∧ w.cell? ⟨g, off + j * 7 + 1, none⟩ = some (.string (f j).name.owner) ∧ w.cell? ⟨g, off + j * 7 + 2, none⟩ = some (.int .i64 (f j).name.number) ∧
    w.cell? ⟨g, off + j * 7 + 3, none⟩ = some (.int .i64 (f j).name.index) ∧ w.cell? ⟨g, off + j * 7 + 4, none⟩ = some (.string (f j).name.text) ∧ w.cell? ⟨g, off + j * 7 + 5, none⟩ = some (.string (f j).value) ∧ w.cell? ⟨g, off + j * 7 + 6, none⟩ = some (.bool (f j).absent) ∧
    (f j).name.owner.size ≤ 9223372036854775807 ∧ (f j).name.text.size ≤ 9223372036854775807 ∧ (f j).value.size ≤ 9223372036854775807
theorem C05Sl.later {w w' : World} {a : Option Addr} {n : Nat} {f : Nat → ChangeT} (h : C05Sl w a n f) (hb : Below w.heap.size w w') : C05Sl w' a n f := fun h0 => by
  obtain ⟨g, off, rfl, hc⟩ := h h0
  have hg : g < w.heap.size := World.block_lt_of_cell? w _ (hc 0 h0).1
  refine ⟨g, off, rfl, fun j hj => ?_⟩
  obtain ⟨c0, c1, c2, c3, c4, c5, c6, c7⟩ := hc j hj
  exact ⟨((bcell hb).1 _ _ hg).trans c0, ((bcell hb).1 _ _ hg).trans c1, ((bcell hb).1 _ _ hg).trans c2, ((bcell hb).1 _ _ hg).trans c3, ((bcell hb).1 _ _ hg).trans c4, ((bcell hb).1 _ _ hg).trans c5, ((bcell hb).1 _ _ hg).trans c6, c7⟩
theorem Tryz.infoC05 : (Tryz.prog.info? 124).map (fun i => (i.zero, i.size, i.bytes)) = some (some changeZ, 7, 80) := by kernel_rfl
/-- Changes of which law 5's To makes lists. -/
def FitC (c : ChangeT) : Prop := FitN c.name ∧ c.value.size ≤ 200
theorem fit_cut (c : ChangeT) : FitC (cutC5 c) :=
  ⟨⟨Nat.le_trans (cutX_size _ 100) (by decide), Nat.le_trans (cutX_size _ 100) (by decide)⟩, cutX_size _ 200⟩
/-- Between two rounds. -/
structure To5I (w wr : World) (ov wv : Value) (k : Nat) : Prop where
  below : Below w.heap.size w wr
  out : ∃ cs : List ChangeT, cs.length = k ∧ (∀ c ∈ cs, FitC c) ∧ OwnC w.heap.size wr ov cs
  own : ∃ xs : List Value, wr.ownsRow w.heap.size 124 7 wv k xs
def To5Post (w : World) (r : Ending) (w' : World) : Prop :=
  ∃ v1 v2 cs, r = .returned (.tuple #[v1, v2]) ∧ Below w.heap.size w w' ∧ cs.length ≤ 24 ∧ (∀ c ∈ cs, FitC c) ∧ OwnC w.heap.size w' v1 cs

theorem own_later {base : Nat} {w w' : World} {e : TypeId} {size : Nat} {v : Value} {n : Nat} {xs : List Value} (h : w.ownsRow base e size v n xs) (hb : Below w.heap.size w w') : w'.ownsRow base e size v n xs := by
  obtain ⟨h1, h2⟩ := h
  refine ⟨h1, ?_⟩
  rcases h2 with h2 | ⟨g, cap, cur, hv, hg, hh, r⟩
  · exact .inl h2
  · exact .inr ⟨g, cap, cur, hv, hg, (hb.block g (lt_of_heap hh)).trans hh, r⟩
theorem own_lt {base : Nat} {w : World} {e : TypeId} {size : Nat} {v : Value} {n : Nat} {xs : List Value} (h : w.ownsRow base e size v n xs) : ∀ g, v.ownBlock = some g → g < w.heap.size := fun g hg => by
  rcases h.2 with ⟨hv, _⟩ | ⟨g', cap, cur, hv, _, hh, _⟩
  · rw [hv] at hg; cases hg
  · rw [hv] at hg
    have : g' = g := by simpa [Value.ownBlock] using hg
    subst this
    exact lt_of_heap hh
theorem own_apart {b1 b2 : Nat} {w w' : World} {e1 e2 : TypeId} {s1 s2 : Nat} {v1 v2 : Value} {n1 n2 : Nat} {x1 x2 : List Value} (h : w.ownsRow b1 e1 s1 v1 n1 x1) (h2 : w.ownsRow b2 e2 s2 v2 n2 x2) (hne : e1 ≠ e2) (hg : w.grownBy w' v2.ownBlock) : w'.ownsRow b1 e1 s1 v1 n1 x1 := by
  obtain ⟨a1, a2⟩ := h
  refine ⟨a1, ?_⟩
  rcases a2 with a2 | ⟨g, cap, cur, hv, hb, hh, r⟩
  · exact .inl a2
  · refine .inr ⟨g, cap, cur, hv, hb, (hg.block g (lt_of_heap hh) (fun e => ?_)).trans hh, r⟩
    rcases h2.2 with ⟨hv2, _⟩ | ⟨g2, cap2, cur2, hv2, _, hh2, _⟩
    · rw [hv2] at e; cases e
    · rw [hv2] at e
      have : g = g2 := by simpa [Value.ownBlock] using e
      subst this
      rw [hh] at hh2
      exact hne (Obj.cells.inj (Option.some.inj hh2)).2.1
theorem own_block {b1 : Nat} {w w' : World} {e1 : TypeId} {s1 : Nat} {v1 : Value} {n1 : Nat} {x1 : List Value} (h : w.ownsRow b1 e1 s1 v1 n1 x1) (hg : w.grownBy w' v1.ownBlock) {k : Nat} {c : Array Value} {T : TypeId} {fr : Nat × Nat} (hk : w.heap[k]? = some (.cells c T fr)) (hT : T ≠ e1) : w'.heap[k]? = some (.cells c T fr) := by
  refine (hg.block k (lt_of_heap hk) (fun e => ?_)).trans hk
  rcases h.2 with ⟨hv, _⟩ | ⟨g, cap, cur, hv, _, hh, _⟩
  · rw [hv] at e; cases e
  · rw [hv] at e
    have : k = g := by simpa [Value.ownBlock] using e
    subst this
    rw [hk] at hh
    exact hT (Obj.cells.inj (Option.some.inj hh)).2.1
theorem own_below {b1 : Nat} {w w' : World} {e1 : TypeId} {s1 : Nat} {v1 : Value} {n1 : Nat} {x1 : List Value} (h : w.ownsRow b1 e1 s1 v1 n1 x1) (hg : w.grownBy w' v1.ownBlock) (hb : b1 ≤ w.heap.size) : Below b1 w w' := by
  refine ⟨hg.os, hg.tape, hg.output, hg.size, fun k hk => hg.block k (Nat.lt_of_lt_of_le hk hb) (fun e => ?_)⟩
  rcases h.2 with ⟨hv, _⟩ | ⟨g, cap, cur, hv, hg2, _, _⟩
  · rw [hv] at e; cases e
  · rw [hv] at e
    have : k = g := by simpa [Value.ownBlock] using e
    omega
/-- The fields of the change that a round makes. -/
abbrev ToS (X : Nat) (c0 : Int) (c1 : ByteArray) (c2 c3 : Int) (c4 c5 : ByteArray) (c6 : Bool) (w : World) : Prop :=
  w.cell? ⟨X, 0, none⟩ = some (.int .i64 c0) ∧ w.cell? ⟨X, 1, none⟩ = some (.string c1) ∧ w.cell? ⟨X, 2, none⟩ = some (.int .i64 c2) ∧ w.cell? ⟨X, 3, none⟩ = some (.int .i64 c3) ∧ w.cell? ⟨X, 4, none⟩ = some (.string c4) ∧ w.cell? ⟨X, 5, none⟩ = some (.string c5) ∧ w.cell? ⟨X, 6, none⟩ = some (.bool c6)
theorem ToS.of {X : Nat} {c0 : Int} {c1 : ByteArray} {c2 c3 : Int} {c4 c5 : ByteArray} {c6 : Bool} {w : World} {T : TypeId} (h : w.heap[X]? = some (.cells #[.int .i64 c0, .string c1, .int .i64 c2, .int .i64 c3, .string c4, .string c5, .bool c6] T (0, 0))) : ToS X c0 c1 c2 c3 c4 c5 c6 w :=
  ⟨cell_of_heap h 0, cell_of_heap h 1, cell_of_heap h 2, cell_of_heap h 3, cell_of_heap h 4, cell_of_heap h 5, cell_of_heap h 6⟩
/-- The end of a round. -/
theorem to_next {w w4 : World} {u4 v9 : Value} {k : Nat} {cs : List ChangeT} {c : ChangeT} {ys : List Value} {g cap : Nat} {wb : World} (hb : Below w.heap.size w wb) (hcl : cs.length = k) (hcf : ∀ c ∈ cs, FitC c) (hc : FitC c) (hu : wb.ownsRow w.heap.size 53 7 u4 cs.length (cs.flatMap changeCells))
    (h9 : wb.ownsRow w.heap.size 124 7 v9 (k + 1) ys) (hg : wb.grownBy w4 u4.ownBlock) (ho : w4.ownsRow w.heap.size 53 7 (.slice (some ⟨g, 0, none⟩) (cs.length + 1) cap) (cs.length + 1) (cs.flatMap changeCells ++ changeCells c)) :
    To5I w w4 (.slice (some ⟨g, 0, none⟩) (cs.length + 1) cap) v9 (k + 1) := by
  refine ⟨hb.trans (own_below hu hg hb.size), ⟨cs ++ [c], by rw [List.length_append]; simp [hcl], fun d hd => ?_, ?_⟩, ⟨ys, own_apart h9 hu (by decide) hg⟩⟩
  · rcases List.mem_append.1 hd with h | h
    · exact hcf d h
    · simp at h; rw [h]; exact hc
  · unfold OwnC
    rw [List.length_append, List.flatMap_append]
    simpa using ho

set_option maxRecDepth 100000 in
set_option maxHeartbeats 1600000 in
theorem to05_any (a : Option Addr) (n c : Nat) (f : Nat → ChangeT) (w : World) (hn : n ≤ 9223372036854775807) (hl : C05Sl w a n f) :
    Calls Tryz.prog 30 #[.slice a n c] w (To5Post w) := by
  have Hl := Lib.hid hl; clear hl
  have HI0 : Hid (To5I w w (.slice none 0 0) (.slice none 0 0) 0) := ⟨Below.refl _ _, ⟨[], rfl, fun c hc => (by cases hc), World.ownsRow_nil _ _ _ _⟩, ⟨[], World.ownsRow_nil _ _ _ _⟩⟩
  go_enter Tryz.func30, Tryz.ntmps30
  go_wp2_with fail
  go_loopg [4, 5, 6] n (fun gk ov wv iv wr => ∃ (k : Nat), k + gk = n ∧ iv = .int .i64 k ∧ k ≤ 24 ∧ Hid (To5I w wr ov wv k))
  case atStart => exact ⟨0, by omega, rfl, by omega, HI0⟩
  case round =>
    clear HI0
    obtain ⟨k, hk, rfl, hk24, HI⟩ := hrel
    have Hk := Lib.hid hk
    have hkn : k ≤ n := by omega
    clear hk
    by_cases hlt : k < n ∧ k < 24
    · obtain ⟨hlt, hlt24⟩ := hlt
      obtain ⟨g, off, rfl, hc⟩ := Hl.out.later HI.out.below (by omega)
      obtain ⟨e0, e1, e2, e3, e4, e5, e6, z1, z2, z3⟩ := hc k hlt
      clear hc
      generalize f k = cc at *
      obtain ⟨⟨ck, co, cn, ci, ct⟩, cv, cb⟩ := cc
      dsimp only at *
      obtain ⟨mv, hmv0, hmv, hmv1⟩ : ∃ m : Nat, m = min cv.size 200 ∧ min (cv.size : Int) 200 = (m : Int) ∧ m ≤ cv.size := ⟨_, rfl, by omega, by omega⟩
      obtain ⟨mo, hmo0, hmo, hmo1⟩ : ∃ m : Nat, m = min co.size 100 ∧ min (co.size : Int) 100 = (m : Int) ∧ m ≤ co.size := ⟨_, rfl, by omega, by omega⟩
      obtain ⟨mt, hmt0, hmt, hmt1⟩ : ∃ m : Nat, m = min ct.size 100 ∧ min (ct.size : Int) 100 = (m : Int) ∧ m ≤ ct.size := ⟨_, rfl, by omega, by omega⟩
      have Hmv := Lib.hid hmv0
      have Hmo := Lib.hid hmo0
      have Hmt := Lib.hid hmt0
      clear hmv0 hmo0 hmt0
      go_upto_region 8 with fail
      have hW := heap_alloc_new wr (.cells #[.int .i64 ck, .string co, .int .i64 cn, .int .i64 ci, .string ct, .string (cv.extract 0 mv), .bool cb] 124)
      have HBW : Hid (Below wr.heap.size wr (wr.alloc (.cells #[.int .i64 ck, .string co, .int .i64 cn, .int .i64 ci, .string ct, .string (cv.extract 0 mv), .bool cb] 124))) := (Below.refl _ _).alloc (Nat.le_refl _) _
      generalize wr.alloc (.cells #[.int .i64 ck, .string co, .int .i64 cn, .int .i64 ci, .string ct, .string (cv.extract 0 mv), .bool cb] 124) = W at *
      have q1 : W.cell? ⟨wr.heap.size, 1, none⟩ = some (.string co) := cell_of_heap hW 1
      have q4 : W.cell? ⟨wr.heap.size, 4, none⟩ = some (.string ct) := cell_of_heap hW 4
      have y1 : W.frozen? ⟨wr.heap.size, 1, none⟩ = false := frozen_of_heap hW 1
      have y4 : W.frozen? ⟨wr.heap.size, 4, none⟩ = false := frozen_of_heap hW 4
      have HW := Lib.hid hW; clear hW
      clear e0 e1 e2 e3 e4 e5 e6
      go_region
      have HW2 : Hid ((((W.setCell ⟨wr.heap.size, 1, none⟩ (.string (co.extract 0 mo))).setCell ⟨wr.heap.size, 4, none⟩ (.string (ct.extract 0 mt))).drew).heap[wr.heap.size]? = some (.cells #[.int .i64 ck, .string (co.extract 0 mo), .int .i64 cn, .int .i64 ci, .string (ct.extract 0 mt), .string (cv.extract 0 mv), .bool cb] 124 (0, 0))) := heap_setCell_same (heap_setCell_same HW.out 1 _) 4 _
      have HB2 : Hid (Below wr.heap.size wr (((W.setCell ⟨wr.heap.size, 1, none⟩ (.string (co.extract 0 mo))).setCell ⟨wr.heap.size, 4, none⟩ (.string (ct.extract 0 mt))).drew)) := HBW.out.trans (Below.drew (Below.setCell (Below.setCell (Below.refl _ _) (p := ⟨wr.heap.size, 1, none⟩) (Nat.le_refl _) _) (p := ⟨wr.heap.size, 4, none⟩) (Nat.le_refl _) _))
      clear q1 q4 y1 y4 HW HBW
      generalize ((W.setCell ⟨wr.heap.size, 1, none⟩ (.string (co.extract 0 mo))).setCell ⟨wr.heap.size, 4, none⟩ (.string (ct.extract 0 mt))).drew = W2 at *
      clear W
      obtain ⟨hbel, ⟨cs, hcl, hcf, hco⟩, ⟨xs, hxs⟩⟩ := HI.out
      have Hbel := Lib.hid hbel
      have Hcl := Lib.hid hcl
      have Hcf := Lib.hid hcf
      have Hlt4 := Lib.hid (own_lt hco)
      have Hlt5 := Lib.hid (own_lt hxs)
      have Hco := Lib.hid (own_later hco HB2.out)
      have Hxs := Lib.hid (own_later hxs HB2.out)
      clear hbel hcl hcf hco hxs HI
      have Hsz : Hid (w.heap.size ≤ W2.heap.size) := Nat.le_trans Hbel.out.size HB2.out.size
      have p0 : W2.cell? ⟨wr.heap.size, 0, none⟩ = some (.int .i64 ck) := cell_of_heap HW2.out 0
      have p1 : W2.cell? ⟨wr.heap.size, 1, none⟩ = some (.string (co.extract 0 mo)) := cell_of_heap HW2.out 1
      have p2 : W2.cell? ⟨wr.heap.size, 2, none⟩ = some (.int .i64 cn) := cell_of_heap HW2.out 2
      have p3 : W2.cell? ⟨wr.heap.size, 3, none⟩ = some (.int .i64 ci) := cell_of_heap HW2.out 3
      have p4 : W2.cell? ⟨wr.heap.size, 4, none⟩ = some (.string (ct.extract 0 mt)) := cell_of_heap HW2.out 4
      have p5 : W2.cell? ⟨wr.heap.size, 5, none⟩ = some (.string (cv.extract 0 mv)) := cell_of_heap HW2.out 5
      have p6 : W2.cell? ⟨wr.heap.size, 6, none⟩ = some (.bool cb) := cell_of_heap HW2.out 6
      have HNB : Hid (∀ T, (W2.alloc (.cells #[.int .i64 ck, .string (co.extract 0 mo), .int .i64 cn, .int .i64 ci, .string (ct.extract 0 mt), .string (cv.extract 0 mv), .bool cb] T)).heap[W2.heap.size]? = some (.cells #[.int .i64 ck, .string (co.extract 0 mo), .int .i64 cn, .int .i64 ci, .string (ct.extract 0 mt), .string (cv.extract 0 mv), .bool cb] T (0, 0))) := fun T => World.alloc_heap_new W2 _
      obtain ⟨i0, hi, hz0, hz1, hz2⟩ := info_parts Tryz.infoC05
      go_wp2_with (first
        | (at_builtin; go_loud (refine wpList_append_own _ rfl _ _ 38 rfl w.heap.size 124 i0 changeZ 7 80 Tryz.underlying38 hi hz0 hz1 hz2 rfl (by decide) u5 k xs rfl (Hxs.out.alloc _) ⟨W2.heap.size, 0, none⟩ 1 1 (changeCells ⟨⟨ck, co.extract 0 mo, cn, ci, ct.extract 0 mt⟩, cv.extract 0 mv, cb⟩) rfl rfl (World.news_of_block (HNB.out _)) (by simp [changeCells, Value.oneCell']) (by unfold maxLen; omega) (by omega) (by have := Hsz.out; simp; omega) ?_; intro v9 W3 hown9 hg9 hnil9; have Hown9 := Lib.hid hown9; have Hg9 := Lib.hid hg9; clear hown9 hg9 hnil9))
        | fail)
      clear p0 p1 p2 p3 p4 p5 p6
      have HW3 : Hid (W3.heap[wr.heap.size]? = some (.cells #[.int .i64 ck, .string (co.extract 0 mo), .int .i64 cn, .int .i64 ci, .string (ct.extract 0 mt), .string (cv.extract 0 mv), .bool cb] 124 (0, 0))) :=
        (Hg9.out.block _ (Nat.lt_of_lt_of_le (lt_of_heap HW2.out) (by simp)) (fun e => Nat.lt_irrefl _ (Hlt5.out _ e.symm))).trans ((Below.heap_alloc W2 _ _ (lt_of_heap HW2.out)).trans HW2.out)
      have HB3 : Hid (Below w.heap.size w W3) :=
        ((Hbel.out.trans (HB2.out.mono Hbel.out.size)).alloc (Nat.le_trans Hbel.out.size HB2.out.size) _).trans (own_below (Hxs.out.alloc _) Hg9.out (Nat.le_trans Hsz.out (by simp)))
      have Hco3 : Hid (OwnC w.heap.size W3 u4 cs) := own_apart (World.ownsRow.alloc Hco.out _) (Hxs.out.alloc _) (by decide) Hg9.out
      have DA : Hid (ToS wr.heap.size ck (co.extract 0 mo) cn ci (ct.extract 0 mt) (cv.extract 0 mv) cb W3) := ToS.of HW3.out
      have Dd : Hid (ToS wr.heap.size ck (co.extract 0 mo) cn ci (ct.extract 0 mt) (cv.extract 0 mv) cb W3.drew) := ToS.of HW3.out
      obtain ⟨j0, hj, hjz0, hjz1, hjz2⟩ := info_parts Tryz.infoChange
      go_upto_region 10 with fail
      go_region_held3 (fun w' => w'.cell? ⟨wr.heap.size, 0, none⟩ = some (.int .i64 ck) ∧ w'.cell? ⟨wr.heap.size, 1, none⟩ = some (.string (co.extract 0 mo)) ∧ w'.cell? ⟨wr.heap.size, 2, none⟩ = some (.int .i64 cn) ∧ w'.cell? ⟨wr.heap.size, 3, none⟩ = some (.int .i64 ci) ∧ w'.cell? ⟨wr.heap.size, 4, none⟩ = some (.string (ct.extract 0 mt)) ∧ w'.cell? ⟨wr.heap.size, 5, none⟩ = some (.string (cv.extract 0 mv)) ∧ w'.cell? ⟨wr.heap.size, 6, none⟩ = some (.bool cb)) (first | with_reducible exact DA.out | with_reducible exact Dd.out | with_reducible exact D1.out | with_reducible exact D2.out | with_reducible exact D3.out | go_keep)
        (first
          | (go_at_call 54; refine (to04b_any _ _ _ _ _ _).mono ?_; rintro r wa ⟨rfl, hba⟩; have HWa := Lib.hid ((hba.block _ (lt_of_heap HW3.out)).trans HW3.out); have D1 : Hid (ToS wr.heap.size ck (co.extract 0 mo) cn ci (ct.extract 0 mt) (cv.extract 0 mv) cb wa) := ToS.of HWa.out; have Hba : Hid (Below W3.heap.size W3 wa) := (Below.drew (Below.refl _ _)).trans hba; have HNa : Hid (∀ T, (wa.alloc (.cells #[.int .i64 ck, .string (co.extract 0 mo), .int .i64 cn, .int .i64 ci, .string (ct.extract 0 mt), .string (cv.extract 0 mv), .bool cb] T)).heap[wa.heap.size]? = some (.cells #[.int .i64 ck, .string (co.extract 0 mo), .int .i64 cn, .int .i64 ci, .string (ct.extract 0 mt), .string (cv.extract 0 mv), .bool cb] T (0, 0))) := fun T => World.alloc_heap_new wa _; clear hba)
          | (refine step_append_lies _ (by rfl) _ _ 45 (by rfl) w.heap.size 53 j0 changeZ 7 80 Tryz.underlying45 hj hjz0 hjz1 hjz2 rfl (by decide) u4 cs.length (cs.flatMap changeCells) (by rfl) (World.ownsRow.alloc (own_later Hco3.out Hba.out) _) ⟨wa.heap.size, 0, none⟩ 1 1 (changeCells ⟨⟨ck, co.extract 0 mo, cn, ci, ct.extract 0 mt⟩, cv.extract 0 mv, cb⟩) (by rfl) rfl (World.news_of_block (HNa.out _)) (by simp [changeCells, Value.oneCell']) (by decide) (by have := Hcl.out; unfold maxLen; omega) (by have := Hcl.out; omega) (by have := Hba.out.size; have := HB3.out.size; simp; omega) _ rfl ?_; intro g4 cap4 w4 ho4 hg4 hl4 hlt4; have D3 : Hid (ToS wr.heap.size ck (co.extract 0 mo) cn ci (ct.extract 0 mt) (cv.extract 0 mv) cb w4) := ToS.of ((hg4.block _ (Nat.lt_of_lt_of_le (lt_of_heap HWa.out) (by simp)) (fun e => Nat.lt_irrefl _ (Hlt4.out _ e.symm))).trans ((Below.heap_alloc wa _ _ (lt_of_heap HWa.out)).trans HWa.out)); have Ho4 := Lib.hid ho4; have Hg4 := Lib.hid hg4; clear ho4 hg4 hl4 hlt4)
          | fail)
      have HBa : Hid (∀ o, Below w.heap.size w (wa.alloc o)) := fun o => (HB3.out.trans (Hba.out.mono HB3.out.size)).alloc (Nat.le_trans HB3.out.size Hba.out.size) o
      have HF : Hid (FitC ⟨⟨ck, co.extract 0 mo, cn, ci, ct.extract 0 mt⟩, cv.extract 0 mv, cb⟩) := by
        have h1 := Hmv.out
        have h2 := Hmo.out
        have h3 := Hmt.out
        refine ⟨⟨?_, ?_⟩, ?_⟩
        · show (co.extract 0 mo).size ≤ _
          rw [ByteArray.size_extract]; omega
        · show (ct.extract 0 mt).size ≤ _
          rw [ByteArray.size_extract]; omega
        · show (cv.extract 0 mv).size ≤ _
          rw [ByteArray.size_extract]; omega
      have HE : Hid (To5I w w4 (.slice (some ⟨g4, 0, none⟩) (cs.length + 1) cap4) v9 (k + 1)) :=
        to_next (HBa.out _) Hcl.out Hcf.out HF.out (World.ownsRow.alloc (own_later Hco3.out Hba.out) _) (World.ownsRow.alloc (own_later Hown9.out Hba.out) _) Hg4.out Ho4.out
      clear D1 D3 Dd DA HBa HF Ho4 Hg4 HWa HW3 HB3 Hco3 Hown9 Hg9 HW2 HB2
      go_wp2
      go_roundg (n - (k + 1))
      case measure => have := Hk.out; omega
      case rel => exact ⟨k + 1, by have := Hk.out; omega, by go_num, by omega, HE⟩
    · have hways : ¬ k < n ∨ (k < n ∧ ¬ k < 24) := by omega
      clear hlt
      have HP : Hid (To5Post w (.returned (.tuple #[u4, u5])) wr) := by
        obtain ⟨hb, ⟨cs, h1, h2, h3⟩, _⟩ := HI.out
        exact ⟨u4, u5, cs, rfl, hb, by omega, h2, h3⟩
      rcases hways with h5 | ⟨h5, h5'⟩
      all_goals
        go_wp2_with fail
        go_ret2
        exact HP.out
end Go.Proofs.YtijfdgoeppehlaaGreatDoor
