/- pipe: Write as an operation; Make, Read, Write, Join, Leave. pipe: Make; Decode of Encode. -/
import Derived.Test.YtemmeopaihmlcaaGreatDoorPipF
import Derived.Test.YtemmeopaihmlcaaGreatDoorViewH
import Derived.Test.YtemmeopaihmlcaaGreatDoorPlainN
namespace Go.Proofs.YtemmeopaihmlcaaGreatDoor
open Go.RowKit
attribute [local go_sem ↓] Go.wp_at_zero Go.wp_at_succ

/-- Behind the first store of Write. -/
structure WMid (W wx : World) (X sb nb : Nat) (p : PipeT) (s : ByteArray) (N : Nat) : Prop where
  x : wx.heap[X]? = some (.cells (pCells p) 66 (0, 0))
  s : wx.heap[sb]? = some (.cells #[.string s] 9 (0, 0))
  n : wx.heap[nb]? = some (.cells #[.int .i64 N] 3 (0, 0))
  k : Kept (fun k => k = X ∨ k = sb ∨ k = nb) W wx
theorem wmid {W W2 : World} {X sb nb : Nat} {p : PipeT} {s : ByteArray} {N : Nat} {v0 : Value} (hB : Below W.heap.size W W2) (hx : W2.heap[X]? = some (.cells (pCells p) 66 (0, 0))) (hs : W2.heap[sb]? = some (.cells #[.string s] 9 (0, 0))) (hn : W2.heap[nb]? = some (.cells #[v0] 3 (0, 0))) (h1 : X ≠ nb) (h2 : sb ≠ nb) : WMid W (W2.setCell ⟨nb, 0, none⟩ (.int .i64 N)).drew X sb nb p s N := by
  have k1 := (Kept.of_below hB (fun k => k = X ∨ k = sb ∨ k = nb)).trans (Kept.of_grown (grown_setCell W2 nb 0 (.int .i64 N)) (fun k => k = X ∨ k = sb ∨ k = nb) (fun k hk => by cases hk; exact .inr (.inr rfl))) (fun _ _ h => h)
  exact ⟨(Below.heap_setCell _ _ _ _ h1).trans hx, (Below.heap_setCell _ _ _ _ h2).trans hs, heap_setCell_same hn 0 _, ⟨k1.os, k1.tape, k1.output, k1.size, k1.block⟩⟩

theorem wend {W wc : World} {X sb nb : Nat} {p : PipeT} {s : ByteArray} {N : Nat} (m : WMid W wc X sb nb p s N) (hne : nb ≠ X) (u : Value) :
    Kept (fun k => k = X ∨ k = sb ∨ k = nb) W (wc.setCell ⟨X, 3, none⟩ u).drew ∧ (wc.setCell ⟨X, 3, none⟩ u).drew.heap[X]? = some (.cells ((pCells p).setIfInBounds 3 u) 66 (0, 0)) ∧ (wc.setCell ⟨X, 3, none⟩ u).drew.heap[nb]? = some (.cells #[.int .i64 N] 3 (0, 0)) := by
  have k1 := m.k.trans (Kept.of_grown (grown_setCell wc X 3 u) (fun k => k = X ∨ k = sb ∨ k = nb) (fun k hk => by cases hk; exact .inl rfl)) (fun _ _ h => h)
  exact ⟨⟨k1.os, k1.tape, k1.output, k1.size, k1.block⟩, heap_setCell_same m.x 3 u, (Below.heap_setCell _ _ _ _ hne).trans m.n⟩

set_option maxRecDepth 100000 in
set_option maxHeartbeats 1600000 in
theorem write_op (s : ByteArray) (sb nb : Nat) (w : World) (hne : sb ≠ nb) (hsb : Box w sb 9 (.string s)) (hnb : Box w nb 3 (.int .i64 0)) (hsz : s.size ≤ 9223372036854775807) :
    POp 90 #[.pointer (some ⟨sb, 0, none⟩), .pointer (some ⟨nb, 0, none⟩)] (opWrite s) (fun k => k = sb ∨ k = nb) w (fun p W => Box W nb 3 (.int .i64 (writeN s p))) := by
  intro W X p hck hX hnX hW
  have hsW : W.heap[sb]? = some (.cells #[.string s] 9 (0, 0)) := (hW sb (.inl rfl)).trans hsb
  have hs0 : W.cell? ⟨sb, 0, none⟩ = some (.string s) := cell_of_heap hsW 0
  have hbW : W.heap[nb]? = some (.cells #[.int .i64 0] 3 (0, 0)) := (hW nb (.inr rfl)).trans hnb
  have hb0 : W.cell? ⟨nb, 0, none⟩ = some (.int .i64 0) := cell_of_heap hbW 0
  have hbf : W.frozen? ⟨nb, 0, none⟩ = false := frozen_of_heap hbW 0
  obtain ⟨_, hre, hwr, _, hby⟩ := checkP_ok hck
  have hXb : X ≠ nb := fun e => hnX (.inr e)
  have hbX : nb ≠ X := Ne.symm hXb
  have hXm : X ≠ sb := fun e => hnX (.inl e)
  have hmX : sb ≠ X := Ne.symm hXm
  have hbm : nb ≠ sb := Ne.symm hne
  obtain ⟨ep, re, wr, by_⟩ := p
  dsimp only at *
  have c1 : W.cell? ⟨X, 1, none⟩ = some (.int .i64 re) := cell_of_heap hX 1
  have c3 : W.cell? ⟨X, 3, none⟩ = some (.string by_) := cell_of_heap hX 3
  have g3 : W.frozen? ⟨X, 3, none⟩ = false := frozen_of_heap hX 3
  have HX := Lib.hid hX; clear hX hck hsb hnb hW hnX
  have HbW := Lib.hid hbW; clear hbW
  have HsW := Lib.hid hsW; clear hsW
  show Calls Tryz.prog _ #[.pointer (some ⟨X, 0, none⟩), .pointer (some ⟨sb, 0, none⟩), .pointer (some ⟨nb, 0, none⟩)] W _
  by_cases h1 : s.size = 0
  · have he : Hid (opWrite s ⟨ep, re, wr, by_⟩ = (⟨ep, re, wr, by_⟩, 0)) := by show _ = _; simp [opWrite, h1]
    have hn : Hid (writeN s ⟨ep, re, wr, by_⟩ = 0) := by show _ = _; simp [writeN, h1]
    have h1' : s.toList.isEmpty = true := by rw [toList_empty]; simp [h1]
    clear h1
    go_enter Tryz.func90, Tryz.ntmps90
    go_wp2
    go_ret
    rw [he.out]
    exact ⟨rfl, Kept.refl _ _, fun _ => ⟨HX.out, by show _ = _; rw [hn.out]; exact HbW.out⟩⟩
  · have h1' : s.toList.isEmpty = false := by rw [toList_empty]; simp [h1]
    by_cases h2 : re = 0
    · have he : Hid (opWrite s ⟨ep, re, wr, by_⟩ = (⟨ep, re, wr, by_⟩, 20)) := by show _ = _; simp [opWrite, h1, h2]
      subst h2
      clear h1
      go_enter Tryz.func90, Tryz.ntmps90
      go_wp2
      go_ret
      rw [he.out]
      exact ⟨rfl, Kept.refl _ _, fun h => by cases h⟩
    · have h2' : (re == 0) = false := beq_eq_false_iff_ne.2 h2
      by_cases h3 : by_.size = 256
      · have he : Hid (opWrite s ⟨ep, re, wr, by_⟩ = (⟨ep, re, wr, by_⟩, 19)) := by show _ = _; simp [opWrite, h1, h2, h3]
        have h3' : ((by_.size : Int) == 256) = true := beq_iff_eq.2 (by omega)
        clear h1 h2 h3
        go_enter Tryz.func90, Tryz.ntmps90
        go_wp2
        go_ret
        rw [he.out]
        exact ⟨rfl, Kept.refl _ _, fun h => by cases h⟩
      · have hn : writeN s ⟨ep, re, wr, by_⟩ = min s.size (256 - by_.size) := by simp [writeN, h1]
        have he : Hid (opWrite s ⟨ep, re, wr, by_⟩ = (⟨ep, re, wr, by_ ++ s.extract 0 (min s.size (256 - by_.size))⟩, 0)) := by
          show _ = _
          unfold opWrite
          rw [if_neg h1, if_neg h2, if_neg h3, hn]
        have Hn := Lib.hid hn; clear hn
        have h3' : ((by_.size : Int) == 256) = false := beq_eq_false_iff_ne.2 (by omega)
        have hlt : by_.size < 256 := by omega
        clear h1 h2 h3
        go_enter Tryz.func90, Tryz.ntmps90
        go_upto_region 7 with fail
        go_cut [5] (fun _ wx => WMid W wx X sb nb ⟨ep, re, wr, by_⟩ s (min s.size (256 - by_.size)))
        case first =>
          by_cases h5 : s.size ≤ 256 - by_.size
          · have hmm : min s.size (256 - by_.size) = s.size := by omega
            have Hmm := Lib.hid hmm; clear hmm
            have h5' : (s.size : Int) ≤ 256 - by_.size := by omega
            go_region
            go_wp2
            all_goals
              go_meet
              rw [Hmm.out]
              exact wmid (Below.refl _ _) HX.out HsW.out HbW.out hXb hne
          · have hmm : min s.size (256 - by_.size) = 256 - by_.size := by omega
            have Hmm := Lib.hid hmm; clear hmm
            have h5' : ¬ (s.size : Int) ≤ 256 - by_.size := by omega
            go_region
            go_wp2
            all_goals
              go_meet
              rw [Hmm.out, show (256 - (by_.size : Int)) = ((256 - by_.size : Nat) : Int) by omega]
              exact wmid (Below.refl _ _) HX.out HsW.out HbW.out hXb hne
        case rest =>
          clear hs0 hb0 hbf c1 c3 g3
          have hs0 : wc.cell? ⟨sb, 0, none⟩ = some (.string s) := cell_of_heap hcut.s 0
          have hb0 : wc.cell? ⟨nb, 0, none⟩ = some (.int .i64 ((min s.size (256 - by_.size) : Nat) : Int)) := cell_of_heap hcut.n 0
          have c3 : wc.cell? ⟨X, 3, none⟩ = some (.string by_) := cell_of_heap hcut.x 3
          have g3 : wc.frozen? ⟨X, 3, none⟩ = false := frozen_of_heap hcut.x 3
          have Hcut := Lib.hid hcut; clear hcut
          have hM1 : min s.size (256 - by_.size) ≤ s.size := Nat.min_le_left _ _
          have hM2 : min s.size (256 - by_.size) ≤ 256 := by omega
          generalize hM : min s.size (256 - by_.size) = M at *
          have Hn2 : Hid (writeN s ⟨ep, re, wr, by_⟩ = M) := Hn.out
          clear hM
          have hz : (s.extract 0 M).size ≤ 256 := by simp; omega
          go_wp2
          go_region
          all_goals go_wp2
          all_goals go_ret
          all_goals
            rw [he.out]
            exact ⟨rfl, (wend Hcut.out hbX _).1, fun _ => ⟨(wend Hcut.out hbX _).2.1, by show _ = _; rw [Hn2.out]; exact (wend Hcut.out hbX _).2.2⟩⟩

theorem VQ.drop {h h' : VH} {ex : Nat → Prop} {w w1 w2 : World} {V : AV} (p : VQ h ex w1 V w2 h') (hb : Below w.heap.size w w1) (hx : ∀ k, ex k → w.heap.size ≤ k) : VQ h (fun _ => False) w V w2 h' :=
  ⟨p.at_, p.b, p.bs, p.sp, (Kept.of_below hb _).trans p.kept (fun i hi hs => by
    rcases hs with h2 | h2
    · exact .inl h2
    · have := hx i h2; omega), fun k hk => (p.fp k hk).imp id (fun h2 => Nat.le_trans hb.size h2)⟩
theorem pCallFunc {P : Program} {f : FuncId} {fn : Func} (hf : P.funcs[f]? = some fn) (hname : (fn.name == "runtime.NumGoroutine") = false) (hb : fn.body.isNone = false) (args : Array Value) (w : World) : (callFunc f args).run P w = .ok (.enter f args) w := by
  have h1 : fn.name ≠ "runtime.NumGoroutine" := by simpa using hname
  have h2 : fn.body ≠ none := fun e => by rw [e] at hb; cases hb
  simp [callFunc, hf, h1, h2]
/-- What an operation leaves: an error, and the view. -/
def PErr (h : VH) (w : World) (p : AV × Nat) (r : Ending) (w' : World) : Prop := ∃ h', r = .returned (.int .i64 p.2) ∧ VQ h (fun _ => False) w p.1 w' h'
def PVal (h : VH) (w : World) (p : AV × Nat) (v : Value) (r : Ending) (w' : World) : Prop := ∃ h', r = .returned (.tuple #[v, .int .i64 p.2]) ∧ VQ h (fun _ => False) w p.1 w' h'
/-- What the laws must hold ready. -/
structure PReady (V : AV) (m : ByteArray) (k : Int) : Prop where
  mz : m.size ≤ 70368744177664
  size : (avGet V (ofPipe m k)).1.size ≤ 35184372088832
  len : V.calls.length < 1000000

set_option maxRecDepth 100000 in
set_option maxHeartbeats 1000000 in
theorem pLeave_any (h : VH) (V : AV) (m : ByteArray) (k e : Int) (b : Bool) (w : World) (hv : ViewAt w h V) (hr : PReady V m k) :
    Calls Tryz.prog 36 #[.pointer (some ⟨h.b, 0, none⟩), .agg #[.string m, .int .i64 k], .int .i64 e, .bool b] w (PErr h w (pChange (opLeave b) V m k e)) := by
  have hmf : ∀ (fn : Fn) (first cap : Array Value) (w : World), (Instr.makeFunc fn first cap).run Tryz.prog w = .ok (.func fn first cap) w := fun _ _ _ _ => rfl
  have Hv := Lib.hid hv; clear hv
  have Hr := Lib.hid hr; clear hr
  have Hb : Hid (∀ o, Below w.heap.size w ((w.alloc o).alloc (.cells #[.bool b] 4))) := fun o => ((Below.refl _ _).alloc (Nat.le_refl _) _).alloc (by simp) _
  have Hop : Hid (∀ o, POp 93 #[.pointer (some ⟨w.heap.size + 1, 0, none⟩)] (opLeave b) (fun k => k = w.heap.size + 1) ((w.alloc o).alloc (.cells #[.bool b] 4)) (fun _ _ => True)) := fun o => leave_op b _ _ (second_new w o _)
  have Hex : Hid (∀ o, ∀ j, j = w.heap.size + 1 → h.bs ≤ j ∧ j < ((w.alloc o).alloc (.cells #[.bool b] 4)).heap.size ∧ ¬ h.fp j) := fun o j hj => by
    subst hj
    exact ⟨Nat.le_trans Hv.out.top (Nat.le_succ _), by simp, fun hf => by have := Hv.out.fp_lt hf; omega⟩
  go_enter Tryz.func36, Tryz.ntmps36
  go_wp2_with fail
  refine (pChange_any h V m k e _ _ (opLeave b) _ _ _ (Hv.out.later (Hb.out _)) Hr.out.mz Hr.out.size Hr.out.len (Hex.out _) (Hop.out _) (fun _ _ _ _ _ => trivial) (pCallFunc Tryz.func93 (by kernel_rfl) (by kernel_rfl))).mono ?_
  rintro r w1 ⟨h1, rfl, hq, -⟩
  have Hq := Lib.hid (hq.drop (Hb.out _) (fun j hj => by rw [hj]; exact Nat.le_succ _)); clear hq
  go_wp2
  go_ret
  exact ⟨h1, rfl, Hq.out⟩

set_option maxRecDepth 100000 in
set_option maxHeartbeats 1000000 in
theorem pJoin_any (h : VH) (V : AV) (m : ByteArray) (k e : Int) (b : Bool) (w : World) (hv : ViewAt w h V) (hr : PReady V m k) :
    Calls Tryz.prog 35 #[.pointer (some ⟨h.b, 0, none⟩), .agg #[.string m, .int .i64 k], .int .i64 e, .bool b] w (PErr h w (pChange (opJoin b) V m k e)) := by
  have hmf : ∀ (fn : Fn) (first cap : Array Value) (w : World), (Instr.makeFunc fn first cap).run Tryz.prog w = .ok (.func fn first cap) w := fun _ _ _ _ => rfl
  have Hv := Lib.hid hv; clear hv
  have Hr := Lib.hid hr; clear hr
  have Hb : Hid (∀ o, Below w.heap.size w ((w.alloc o).alloc (.cells #[.bool b] 4))) := fun o => ((Below.refl _ _).alloc (Nat.le_refl _) _).alloc (by simp) _
  have Hop : Hid (∀ o, POp 91 #[.pointer (some ⟨w.heap.size + 1, 0, none⟩)] (opJoin b) (fun k => k = w.heap.size + 1) ((w.alloc o).alloc (.cells #[.bool b] 4)) (fun _ _ => True)) := fun o => join_op b _ _ (second_new w o _)
  have Hex : Hid (∀ o, ∀ j, j = w.heap.size + 1 → h.bs ≤ j ∧ j < ((w.alloc o).alloc (.cells #[.bool b] 4)).heap.size ∧ ¬ h.fp j) := fun o j hj => by
    subst hj
    exact ⟨Nat.le_trans Hv.out.top (Nat.le_succ _), by simp, fun hf => by have := Hv.out.fp_lt hf; omega⟩
  go_enter Tryz.func35, Tryz.ntmps35
  go_wp2_with fail
  refine (pChange_any h V m k e _ _ (opJoin b) _ _ _ (Hv.out.later (Hb.out _)) Hr.out.mz Hr.out.size Hr.out.len (Hex.out _) (Hop.out _) (fun _ _ _ _ _ => trivial) (pCallFunc Tryz.func91 (by kernel_rfl) (by kernel_rfl))).mono ?_
  rintro r w1 ⟨h1, rfl, hq, -⟩
  have Hq := Lib.hid (hq.drop (Hb.out _) (fun j hj => by rw [hj]; exact Nat.le_succ _)); clear hq
  go_wp2
  go_ret
  exact ⟨h1, rfl, Hq.out⟩

theorem third_new (w : World) (o1 o2 o3 : Obj) : (((w.alloc o1).alloc o2).alloc o3).heap[w.heap.size + 2]? = some o3 := by
  have := World.alloc_heap_new ((w.alloc o1).alloc o2) o3
  rwa [World.size_alloc, World.size_alloc] at this
theorem third_second (w : World) (o1 o2 o3 : Obj) : (((w.alloc o1).alloc o2).alloc o3).heap[w.heap.size + 1]? = some o2 := (Below.heap_alloc _ _ _ (by simp)).trans (second_new w o1 o2)
/-- What Read answers beside its error. -/
def pReadB (most : Int) (V : AV) (m : ByteArray) (k e : Int) : ByteArray := if (pChange (opRead most) V m k e).2 = 0 then readB most (pGet V m k e).1 else ⟨#[]⟩
def pWriteN (s : ByteArray) (V : AV) (m : ByteArray) (k e : Int) : Nat := if (pChange (opWrite s) V m k e).2 = 0 then writeN s (pGet V m k e).1 else 0

set_option maxRecDepth 100000 in
set_option maxHeartbeats 1000000 in
theorem pRead_any (h : VH) (V : AV) (m : ByteArray) (k e most : Int) (w : World) (hv : ViewAt w h V) (hr : PReady V m k) (hmost : most ≤ 9223372036854775807) :
    Calls Tryz.prog 32 #[.pointer (some ⟨h.b, 0, none⟩), .agg #[.string m, .int .i64 k], .int .i64 e, .int .i64 most] w (PVal h w (pChange (opRead most) V m k e) (.string (pReadB most V m k e))) := by
  have hmf : ∀ (fn : Fn) (first cap : Array Value) (w : World), (Instr.makeFunc fn first cap).run Tryz.prog w = .ok (.func fn first cap) w := fun _ _ _ _ => rfl
  have Hv := Lib.hid hv; clear hv
  have Hr := Lib.hid hr; clear hr
  have Hb : Hid (∀ o, Below w.heap.size w (((w.alloc o).alloc (.cells #[.int .i64 most] 3)).alloc (.cells #[.string ⟨#[]⟩] 9))) := fun o => (((Below.refl _ _).alloc (Nat.le_refl _) _).alloc (by simp) _).alloc (by simp; omega) _
  have Hop : Hid (∀ o, POp 87 #[.pointer (some ⟨w.heap.size + 1, 0, none⟩), .pointer (some ⟨w.heap.size + 2, 0, none⟩)] (opRead most) (fun k => k = w.heap.size + 1 ∨ k = w.heap.size + 2) (((w.alloc o).alloc (.cells #[.int .i64 most] 3)).alloc (.cells #[.string ⟨#[]⟩] 9)) (fun p W => Box W (w.heap.size + 2) 9 (.string (readB most p)))) := fun o =>
    read_op most _ _ _ (by omega) (third_second w o _ _) (third_new w o _ _) hmost
  have Hex : Hid (∀ o, ∀ j, (j = w.heap.size + 1 ∨ j = w.heap.size + 2) → h.bs ≤ j ∧ j < (((w.alloc o).alloc (.cells #[.int .i64 most] 3)).alloc (.cells #[.string ⟨#[]⟩] 9)).heap.size ∧ ¬ h.fp j) := fun o j hj => by
    have htop := Hv.out.top
    exact ⟨by rcases hj with rfl | rfl <;> omega, by rcases hj with rfl | rfl <;> simp, fun hf => by have := Hv.out.fp_lt hf; omega⟩
  go_enter Tryz.func32, Tryz.ntmps32
  go_wp2_with fail
  refine (pChange_any h V m k e _ _ (opRead most) _ _ _ (Hv.out.later (Hb.out _)) Hr.out.mz Hr.out.size Hr.out.len (Hex.out _) (Hop.out _) (fun t W W' h1 h2 => (h2 _ (.inr rfl)).trans h1) (pCallFunc Tryz.func87 (by kernel_rfl) (by kernel_rfl))).mono ?_
  rintro r w1 ⟨h1, rfl, hq, hQ⟩
  have Hq := Lib.hid (hq.drop (Hb.out _) (fun j hj => by omega)); clear hq
  have Hrb : Hid (pReadB most V m k e = if (pChange (opRead most) V m k e).2 = 0 then readB most (pGet V m k e).1 else ⟨#[]⟩) := rfl
  generalize pChange (opRead most) V m k e = pc at *
  obtain ⟨V', q⟩ := pc
  dsimp only at *
  by_cases h0 : q = 0
  · subst h0
    have hh := hQ rfl
    have c0 : w1.cell? ⟨w.heap.size + 2, 0, none⟩ = some (.string (readB most (pGet V m k e).1)) := cell_of_heap hh 0
    have he : Hid (pReadB most V m k e = readB most (pGet V m k e).1) := Hrb.out.trans (if_pos rfl)
    clear hh hQ Hrb
    generalize readB most (pGet V m k e).1 = x at *
    go_wp2
    go_ret2
    rw [he.out]
    exact ⟨h1, rfl, Hq.out⟩
  · have h0' : ((q : Int) != 0) = true := bne_iff_ne.2 (by omega)
    have he : Hid (pReadB most V m k e = ⟨#[]⟩) := Hrb.out.trans (if_neg h0)
    clear hQ Hrb h0
    go_wp2
    go_ret2
    rw [he.out]
    exact ⟨h1, rfl, Hq.out⟩

set_option maxRecDepth 100000 in
set_option maxHeartbeats 1000000 in
theorem pWrite_any (h : VH) (V : AV) (m : ByteArray) (k e : Int) (s : ByteArray) (w : World) (hv : ViewAt w h V) (hr : PReady V m k) (hs : s.size ≤ 9223372036854775807) :
    Calls Tryz.prog 34 #[.pointer (some ⟨h.b, 0, none⟩), .agg #[.string m, .int .i64 k], .int .i64 e, .string s] w (PVal h w (pChange (opWrite s) V m k e) (.int .i64 (pWriteN s V m k e))) := by
  have hmf : ∀ (fn : Fn) (first cap : Array Value) (w : World), (Instr.makeFunc fn first cap).run Tryz.prog w = .ok (.func fn first cap) w := fun _ _ _ _ => rfl
  have Hv := Lib.hid hv; clear hv
  have Hr := Lib.hid hr; clear hr
  have Hb : Hid (∀ o, Below w.heap.size w (((w.alloc o).alloc (.cells #[.string s] 9)).alloc (.cells #[.int .i64 0] 3))) := fun o => (((Below.refl _ _).alloc (Nat.le_refl _) _).alloc (by simp) _).alloc (by simp; omega) _
  have Hop : Hid (∀ o, POp 90 #[.pointer (some ⟨w.heap.size + 1, 0, none⟩), .pointer (some ⟨w.heap.size + 2, 0, none⟩)] (opWrite s) (fun k => k = w.heap.size + 1 ∨ k = w.heap.size + 2) (((w.alloc o).alloc (.cells #[.string s] 9)).alloc (.cells #[.int .i64 0] 3)) (fun p W => Box W (w.heap.size + 2) 3 (.int .i64 (writeN s p)))) := fun o =>
    write_op s _ _ _ (by omega) (third_second w o _ _) (third_new w o _ _) hs
  have Hex : Hid (∀ o, ∀ j, (j = w.heap.size + 1 ∨ j = w.heap.size + 2) → h.bs ≤ j ∧ j < (((w.alloc o).alloc (.cells #[.string s] 9)).alloc (.cells #[.int .i64 0] 3)).heap.size ∧ ¬ h.fp j) := fun o j hj => by
    have htop := Hv.out.top
    exact ⟨by rcases hj with rfl | rfl <;> omega, by rcases hj with rfl | rfl <;> simp, fun hf => by have := Hv.out.fp_lt hf; omega⟩
  go_enter Tryz.func34, Tryz.ntmps34
  go_wp2_with fail
  refine (pChange_any h V m k e _ _ (opWrite s) _ _ _ (Hv.out.later (Hb.out _)) Hr.out.mz Hr.out.size Hr.out.len (Hex.out _) (Hop.out _) (fun t W W' h1 h2 => (h2 _ (.inr rfl)).trans h1) (pCallFunc Tryz.func90 (by kernel_rfl) (by kernel_rfl))).mono ?_
  rintro r w1 ⟨h1, rfl, hq, hQ⟩
  have Hq := Lib.hid (hq.drop (Hb.out _) (fun j hj => by omega)); clear hq
  have Hrb : Hid (pWriteN s V m k e = if (pChange (opWrite s) V m k e).2 = 0 then writeN s (pGet V m k e).1 else 0) := rfl
  generalize pChange (opWrite s) V m k e = pc at *
  obtain ⟨V', q⟩ := pc
  dsimp only at *
  by_cases h0 : q = 0
  · subst h0
    have hh := hQ rfl
    have c0 : w1.cell? ⟨w.heap.size + 2, 0, none⟩ = some (.int .i64 (writeN s (pGet V m k e).1)) := cell_of_heap hh 0
    have he : Hid (pWriteN s V m k e = writeN s (pGet V m k e).1) := Hrb.out.trans (if_pos rfl)
    clear hh hQ Hrb
    generalize writeN s (pGet V m k e).1 = x at *
    go_wp2
    go_ret2
    rw [he.out]
    exact ⟨h1, rfl, Hq.out⟩
  · have h0' : ((q : Int) != 0) = true := bne_iff_ne.2 (by omega)
    have he : Hid (pWriteN s V m k e = 0) := Hrb.out.trans (if_neg h0)
    clear hQ Hrb h0
    go_wp2
    go_ret2
    rw [he.out]
    exact ⟨h1, rfl, Hq.out⟩

end Go.Proofs.YtemmeopaihmlcaaGreatDoor

namespace Go.Proofs.YtemmeopaihmlcaaGreatDoor
open Go.RowKit
attribute [local go_sem ↓] Go.wp_at_zero Go.wp_at_succ

/-- What Make makes of a view. -/
def pMake (V : AV) (m : ByteArray) (k e : Int) : AV × Nat :=
  if pArgs m k e ≠ 0 then (V, pArgs m k e) else if (avGet V (ofPipe m k)).2 = true then (avSeen V (ofPipe m k), 13)
  else (⟨(avSeen V (ofPipe m k)).base, (avSeen V (ofPipe m k)).reads, (avSeen V (ofPipe m k)).calls ++ [⟨ofPipe m k, (encP ⟨e, 1, 1, ⟨#[]⟩⟩).1, false⟩]⟩, 0)
theorem make_ok {e : Int} (h : pEpochB e = true) : checkP ⟨e, 1, 1, ⟨#[]⟩⟩ = 0 := by
  unfold checkP
  rw [if_neg (by simp [h, pEndsB]), if_neg (by simp), if_neg (by show ¬ 256 < (⟨#[]⟩ : ByteArray).size; decide)]
theorem avSeen_calls (V : AV) (n : NameT) : (avSeen V n).calls = V.calls := by
  unfold avSeen
  split <;> rfl

set_option maxRecDepth 100000 in
set_option maxHeartbeats 1600000 in
theorem pMake_any (h : VH) (V : AV) (m : ByteArray) (k e : Int) (w : World) (hv : ViewAt w h V) (hr : PReady V m k) :
    Calls Tryz.prog 31 #[.pointer (some ⟨h.b, 0, none⟩), .agg #[.string m, .int .i64 k], .int .i64 e] w (PErr h w (pMake V m k e)) := by
  have Hv := Lib.hid hv; clear hv
  have Hr := Lib.hid hr; clear hr
  have Ha : Hid (∀ o, Below w.heap.size w (w.alloc o)) := fun o => (Below.refl _ _).alloc (Nat.le_refl _) _
  obtain ⟨q, hq⟩ : ∃ q, pArgs m k e = q := ⟨_, rfl⟩
  have Hq := Lib.hid hq; clear hq
  go_enter Tryz.func31, Tryz.ntmps31
  go_wp2_with fail
  refine (pArgs_any h.b m k e q Hq.out _ Hr.out.mz).mono ?_
  rintro r w1 ⟨rfl, hb1⟩
  have hB1 := (hb1.block w.heap.size (by simp)).trans (World.alloc_heap_new w _)
  have HB1 : Hid (Below w.heap.size w w1) := (Ha.out _).trans (hb1.mono (by simp))
  have b0 : w1.cell? ⟨w.heap.size, 0, none⟩ = some (.string m) := cell_of_heap hB1 0
  have b1 : w1.cell? ⟨w.heap.size, 1, none⟩ = some (.int .i64 k) := cell_of_heap hB1 1
  have HBx := Lib.hid hB1; clear hB1 hb1
  by_cases h0 : q = 0
  · subst h0
    have hao := pArgs_ok Hq.out
    have Hn : Hid (NameOk (ofPipe m k)) := nameOk_pipe hao.1 Hr.out.mz hao.2.1.1 hao.2.1.2
    have Hck : Hid (encP ⟨e, 1, 1, ⟨#[]⟩⟩ = (strOf (encPB ⟨e, 1, 1, ⟨#[]⟩⟩), 0)) := by show _ = _; unfold encP; rw [if_pos (make_ok hao.2.2)]
    clear hao
    have Hmk : Hid (pMake V m k e = if (avGet V (ofPipe m k)).2 = true then (avSeen V (ofPipe m k), 13) else (⟨(avSeen V (ofPipe m k)).base, (avSeen V (ofPipe m k)).reads, (avSeen V (ofPipe m k)).calls ++ [⟨ofPipe m k, (encP ⟨e, 1, 1, ⟨#[]⟩⟩).1, false⟩]⟩, 0)) := by
      show _ = _
      unfold pMake
      rw [Hq.out, if_neg (by simp)]
    go_wp2_with fail
    refine (ofPipe_any m k _).mono ?_
    rintro r w2 ⟨rfl, hb2⟩
    have HB2 : Hid (Below w.heap.size w w2) := HB1.out.trans (hb2.mono HB1.out.size)
    have HBx2 := Lib.hid ((hb2.block w.heap.size (lt_of_heap HBx.out)).trans HBx.out)
    clear hb2 b0 b1
    go_wp2_with fail
    refine (vHas_any h V (ofPipe m k) w2 (Hv.out.later HB2.out) Hn.out).mono ?_
    rintro r w3 ⟨rfl, hp⟩
    obtain ⟨h', hp⟩ := hp.vq
    have HP : Hid (VQ h (fun _ => False) w (avSeen V (ofPipe m k)) w3 h') := VQ.after HB2.out hp
    have hB3 := (hp.kept.block w.heap.size (lt_of_heap HBx2.out) (fun hh => by rcases hh with h1 | h1; exact absurd (Hv.out.fp_lt h1) (Nat.lt_irrefl _); exact h1)).trans HBx2.out
    have HBx3 := Lib.hid hB3; clear hB3 hp HBx2 HBx HB2
    cases hav : (avGet V (ofPipe m k)).2 with
    | true =>
      have he : Hid (pMake V m k e = (avSeen V (ofPipe m k), 13)) := by show _ = _; rw [Hmk.out, hav, if_pos rfl]
      clear Hmk hav
      go_wp2
      go_ret
      rw [he.out]
      exact ⟨h', rfl, HP.out⟩
    | false =>
      have he : Hid (pMake V m k e = (⟨(avSeen V (ofPipe m k)).base, (avSeen V (ofPipe m k)).reads, (avSeen V (ofPipe m k)).calls ++ [⟨ofPipe m k, strOf (encPB ⟨e, 1, 1, ⟨#[]⟩⟩), false⟩]⟩, 0)) := by show _ = _; rw [Hmk.out, hav, if_neg (by simp), Hck.out]
      have Hez : Hid ((strOf (encPB ⟨e, 1, 1, ⟨#[]⟩⟩)).size ≤ 65536) := by have := encP_size ⟨e, 1, 1, ⟨#[]⟩⟩; rw [Hck.out] at this; exact this
      have Hpe : Hid (∀ W, Calls Tryz.prog 84 #[.agg #[.int .i64 e, .int .i64 1, .int .i64 1, .string ⟨#[]⟩]] W fun r w' => r = .returned (.tuple #[.string (strOf (encPB ⟨e, 1, 1, ⟨#[]⟩⟩)), .int .i64 0]) ∧ Below W.heap.size W w') := fun W => by have := pEncode_any e 1 1 ⟨#[]⟩ W; rw [Hck.out] at this; exact this
      generalize strOf (encPB ⟨e, 1, 1, ⟨#[]⟩⟩) = sv at *
      clear Hmk hav Hck
      go_wp2_with fail
      refine (Hpe.out _).mono ?_
      rintro r w4 ⟨rfl, hb4⟩
      have HP4 := Lib.hid (HP.out.later hb4)
      have hB4 := (hb4.block w.heap.size (lt_of_heap HBx3.out)).trans HBx3.out
      have b0 : w4.cell? ⟨w.heap.size, 0, none⟩ = some (.string m) := cell_of_heap hB4 0
      have b1 : w4.cell? ⟨w.heap.size, 1, none⟩ = some (.int .i64 k) := cell_of_heap hB4 1
      clear hb4 hB4
      go_wp2_with fail
      refine (ofPipe_any m k _).mono ?_
      rintro r w5 ⟨rfl, hb5⟩
      have HP5 := Lib.hid (HP4.out.later hb5)
      clear hb5
      have hb1' : h.b = h'.b := HP5.out.b.symm
      rw [hb1']
      go_wp2_with fail
      refine (vSet_any h' (avSeen V (ofPipe m k)) (ofPipe m k) sv _ HP5.out.at_ Hn.out Hez.out (by rw [avSeen_calls]; exact Hr.out.len)).mono ?_
      rintro r w6 ⟨rfl, hp6⟩
      obtain ⟨h2, hp6⟩ := hp6.vq
      have Hp6 := Lib.hid hp6; clear hp6
      go_wp2
      go_ret
      rw [he.out]
      exact ⟨h2, rfl, HP5.out.trans Hp6.out⟩
  · have he : Hid (pMake V m k e = (V, q)) := by show _ = _; unfold pMake; rw [Hq.out, if_pos h0]
    have h0' : ((q : Int) != 0) = true := bne_iff_ne.2 (by omega)
    clear h0
    go_wp2
    go_ret
    rw [he.out]
    exact ⟨h, rfl, (VQ.refl Hv.out).later HB1.out⟩

theorem pdec_enc (p : PipeT) (h : checkP p = 0) : decP_ (strOf (encPB p)) = (p, 0) := by
  obtain ⟨h1, h2, h3, _, h5⟩ := checkP_ok h
  obtain ⟨ep, re, wr, by_⟩ := p
  dsimp only at *
  have e0 : (strOf (encPB ⟨ep, re, wr, by_⟩)).data.toList = natBytes ep.toNat ++ (natBytes re.toNat ++ (natBytes wr.toNat ++ (textB by_ ++ []))) := by
    simp [strOf, encPB, textB]
  have e1 : pr1 (strOf (encPB ⟨ep, re, wr, by_⟩)).data.toList = (ep.toNat, ⟨natBytes re.toNat ++ (natBytes wr.toNat ++ (textB by_ ++ [])), 0⟩) := by
    unfold pr1
    rw [e0]
    exact rdNum_nat 1073741824 _ _ (by omega) (by omega)
  have e2 : pr2 (strOf (encPB ⟨ep, re, wr, by_⟩)).data.toList = (re.toNat, ⟨natBytes wr.toNat ++ (textB by_ ++ []), 0⟩) := by
    unfold pr2
    rw [e1]
    exact rdNum_nat 64 _ _ (by omega) (by omega)
  have e3 : pr3 (strOf (encPB ⟨ep, re, wr, by_⟩)).data.toList = (wr.toNat, ⟨textB by_ ++ [], 0⟩) := by
    unfold pr3
    rw [e2]
    exact rdNum_nat 64 _ _ (by omega) (by omega)
  have e4 : pr4 (strOf (encPB ⟨ep, re, wr, by_⟩)).data.toList = (by_.data.toList, ⟨[], 0⟩) := by
    unfold pr4
    rw [e3]
    exact rdText_text 256 _ _ (by omega) (by decide)
  have ep0 : decPP (strOf (encPB ⟨ep, re, wr, by_⟩)).data.toList = ⟨ep, re, wr, by_⟩ := by
    unfold decPP
    rw [e1, e2, e3, e4]
    dsimp only
    rw [strOf_toList, show ((ep.toNat : Nat) : Int) = ep by omega, show ((re.toNat : Nat) : Int) = re by omega, show ((wr.toNat : Nat) : Int) = wr by omega]
  unfold decP_
  rw [e4, ep0, if_pos ⟨by simp [rdClose], h⟩]

end Go.Proofs.YtemmeopaihmlcaaGreatDoor
