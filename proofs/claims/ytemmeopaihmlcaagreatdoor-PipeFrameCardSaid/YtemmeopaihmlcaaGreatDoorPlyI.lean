/- Law 32: is; what Play leaves. Law 32: Play. -/
import Derived.Test.YtemmeopaihmlcaaGreatDoorSmeE
import Derived.Test.YtemmeopaihmlcaaGreatDoorPipN
import Derived.Test.YtemmeopaihmlcaaGreatDoorQmB
import Derived.Deep.QuietTactic
import Derived.Deep.CutRange
import Derived.Deep.RegionHeld3
namespace Go.Proofs.YtemmeopaihmlcaaGreatDoor
open Go.RowKit
attribute [local go_sem ↓] Go.wp_at_zero Go.wp_at_succ

theorem name_one : NameOk (ofPipe oneM 2) := nameOk_pipe one_valid one_size (by decide) (by decide)
/-- What is compares: the value in the view and the encoding of the reference's pipe. -/
theorem is_plain {V : AV} {N : Nat} {p : PipeT} (h : HoldsP V N (optP p)) : (avGet V (ofPipe oneM 2)).1 = (encP p).1 ∧ ((avGet V (ofPipe oneM 2)).2 = true ↔ (encP p).2 = 0) := by
  unfold encP
  by_cases hc : checkP p = 0
  · rw [optP_ok hc] at h
    obtain ⟨h1, _⟩ := h.yes p rfl
    rw [h1, if_pos hc]
    exact ⟨rfl, fun _ => rfl, fun _ => rfl⟩
  · rw [optP_bad hc] at h
    rw [h.no rfl, if_neg hc]
    exact ⟨rfl, (fun e => by cases e), fun e => absurd e hc⟩

set_option maxRecDepth 100000 in
set_option maxHeartbeats 1600000 in
theorem is_any (w0 w : World) (b M : Nat) (V : AV) (G : Nat → Prop) (N : Nat) (ep re wr : Int) (by_ : ByteArray) (s : QM w0 w b M V G) (h : HoldsP V N (optP ⟨ep, re, wr, by_⟩)) :
    Calls Tryz.prog 39 #[.pointer (some ⟨b, 0, none⟩), .agg #[.int .i64 ep, .int .i64 re, .int .i64 wr, .string by_]] w (QMP w0 b M (avSeen V (ofPipe oneM 2)) G w (.bool true)) := by
  have hp := is_plain h
  obtain ⟨x, hx⟩ : ∃ x, avGet V (ofPipe oneM 2) = x := ⟨_, rfl⟩
  obtain ⟨x1, x2⟩ := x
  obtain ⟨y, hy⟩ : ∃ y, encP ⟨ep, re, wr, by_⟩ = y := ⟨_, rfl⟩
  obtain ⟨y1, y2⟩ := y
  rw [hx, hy] at hp
  dsimp only at hp
  obtain ⟨rfl, hp2⟩ := hp
  have Hx := Lib.hid hx; clear hx
  have Hy := Lib.hid hy; clear hy
  have S1 : Hid (∀ o, QM w0 (w.alloc o) b M V (fun k => G k ∨ k = w.heap.size)) := fun o => s.fresh ((Below.refl _ _).alloc (Nat.le_refl _) _) (fun k hk => hk.imp id (fun e => by subst e; simp))
  have HX : Hid (∀ o, (w.alloc o).heap[w.heap.size]? = some o) := fun o => heap_alloc_new w o
  have HG : Hid (∀ o k, G k → (w.alloc o).heap[k]? = w.heap[k]?) := fun o k hk => Below.heap_alloc _ _ _ (s.glt hk)
  have Hok : Hid (NameOk (ofPipe oneM 2)) := name_one
  clear s h
  go_enter Tryz.func39, Tryz.ntmps39
  go_wp2_with fail
  refine (one_any _).mono ?_
  rintro r w1 ⟨rfl, hb⟩
  have S2 := Lib.hid ((S1.out _).later hb)
  have HX2 := Lib.hid ((hb.block _ (lt_of_heap (HX.out _))).trans (HX.out _))
  have HG2 : Hid (∀ k, G k → w1.heap[k]? = w.heap[k]?) := fun k hk => (hb.block k ((S1.out _).glt (.inl hk))).trans (HG.out _ k hk)
  clear hb S1 HX HG
  go_wp2_with fail
  refine (ofPipe_any _ _ w1).mono ?_
  rintro r w2 ⟨rfl, hb⟩
  have S3 := Lib.hid (S2.out.later hb)
  have HX3 := Lib.hid ((hb.block _ (lt_of_heap HX2.out)).trans HX2.out)
  have HG3 : Hid (∀ k, G k → w2.heap[k]? = w.heap[k]?) := fun k hk => (hb.block k (S2.out.glt (.inl hk))).trans (HG2.out k hk)
  clear hb S2 HX2 HG2
  go_wp2_with fail
  have hcall := qmVGet S3.out (ofPipe oneM 2) Hok.out
  rw [Hx.out] at hcall
  refine hcall.mono ?_
  rintro r w3 ⟨rfl, s4, hk⟩
  have S4 := Lib.hid s4
  have hX4 := (hk _ (.inr rfl)).trans HX3.out
  have HG4 : Hid (∀ k, G k → w3.heap[k]? = w.heap[k]?) := fun k h => (hk k (.inl h)).trans (HG3.out k h)
  have x0 : w3.cell? ⟨w.heap.size, 0, none⟩ = some (.int .i64 ep) := cell_of_heap hX4 0
  have x1' : w3.cell? ⟨w.heap.size, 1, none⟩ = some (.int .i64 re) := cell_of_heap hX4 1
  have x2' : w3.cell? ⟨w.heap.size, 2, none⟩ = some (.int .i64 wr) := cell_of_heap hX4 2
  have x3 : w3.cell? ⟨w.heap.size, 3, none⟩ = some (.string by_) := cell_of_heap hX4 3
  clear s4 hk hX4 HX3 HG3 S3
  go_wp2_with fail
  have hcall := rfEncode_any ep re wr by_ w3
  rw [Hy.out] at hcall
  refine hcall.mono ?_
  rintro r w4 ⟨rfl, hb⟩
  have S5 := Lib.hid (S4.out.later hb)
  have HG5 : Hid (∀ k, G k → w4.heap[k]? = w.heap[k]?) := fun k h => (hb.block k (S4.out.glt (.inl h))).trans (HG4.out k h)
  clear hb S4 HG4 x0 x1' x2' x3
  have hfin : Hid (QMP w0 b M (avSeen V (ofPipe oneM 2)) G w (.bool true) (.returned (.bool true)) w4) := ⟨rfl, S5.out.fresh (Below.refl _ _) (fun k h => .inl (.inl h)), HG5.out⟩
  by_cases h0 : y2 = 0
  · have ht : x2 = true := hp2.2 h0
    subst h0 ht
    clear hp2
    go_wp2
    go_ret
    exact hfin.out
  · have ht : x2 = false := by
      cases x2
      · rfl
      · exact absurd (hp2.1 rfl) h0
    have h0' : ((y2 : Int) == 0) = false := beq_eq_false_iff_ne.2 (by omega)
    subst ht
    clear hp2 h0
    go_wp2
    go_ret
    exact hfin.out
end Go.Proofs.YtemmeopaihmlcaaGreatDoor

namespace Go.Proofs.YtemmeopaihmlcaaGreatDoor
open Go.RowKit
attribute [local go_sem ↓] Go.wp_at_zero Go.wp_at_succ

theorem apart_P : Apart 63 := ⟨by decide, by decide, by decide, by decide⟩
theorem after_get (V : AV) (n : NameT) (h : (avGet V n).2 = true ∨ avGet V n = (⟨#[]⟩, false)) : avGet ⟨stOf V, [], []⟩ n = avGet V n := by
  have h1 : avGet ⟨stOf V, [], []⟩ n = ((stOf V n).getD ⟨#[]⟩, (stOf V n).isSome) := rfl
  rw [h1]
  unfold stOf
  rcases h with h | h
  · rw [if_pos h]
    generalize avGet V n = x at *
    obtain ⟨x1, x2⟩ := x
    dsimp only at h
    subst h
    rfl
  · rw [h]
    rfl
theorem HoldsP.after {V : AV} {N : Nat} {o : Option PipeT} (h : HoldsP V N o) : HoldsP ⟨stOf V, [], []⟩ 0 o := by
  have hg : avGet ⟨stOf V, [], []⟩ (ofPipe oneM 2) = avGet V (ofPipe oneM 2) := after_get V _ (by
    cases o with
    | none => exact .inr (h.no rfl)
    | some p => exact .inl (by rw [(h.yes p rfl).1]))
  exact ⟨rfl, by rw [hg]; exact h.size, fun e => by rw [hg]; exact h.no e, fun p e => by rw [hg]; exact h.yes p e⟩
theorem avSeen_other (V : AV) (n m : NameT) : avGet (avSeen V n) m = avGet V m := avGet_same (avSeen_base V n) (avSeen_calls V n) m
theorem call_other (V : AV) (n m : NameT) (hm : m ≠ n) (s : ByteArray) (a : Bool) : avGet ⟨(avSeen V n).base, (avSeen V n).reads, (avSeen V n).calls ++ [⟨n, s, a⟩]⟩ m = avGet V m := by
  rw [← avSeen_other V n m]
  unfold avGet
  dsimp only
  rw [lastCall_snoc, if_neg hm]
theorem pSeen_other (V : AV) (e : Int) (m : NameT) : avGet (pSeen V oneM 2 e) m = avGet V m := by
  unfold pSeen
  split
  · rfl
  · exact avSeen_other _ _ _
theorem pSeen_call_other (V : AV) (e : Int) (m : NameT) (hm : m ≠ ofPipe oneM 2) (s : ByteArray) (a : Bool) : avGet ⟨(pSeen V oneM 2 e).base, (pSeen V oneM 2 e).reads, (pSeen V oneM 2 e).calls ++ [⟨ofPipe oneM 2, s, a⟩]⟩ m = avGet V m := by
  rw [← pSeen_other V e m]
  unfold avGet
  dsimp only
  rw [lastCall_snoc, if_neg hm]
theorem pChange_other (op : PipeT → PipeT × Nat) (V : AV) (e : Int) (m : NameT) (hm : m ≠ ofPipe oneM 2) : avGet (pChange op V oneM 2 e).1 m = avGet V m := by
  unfold pChange
  split
  · exact pSeen_other _ _ _
  split
  · exact pSeen_other _ _ _
  split
  · exact pSeen_other _ _ _
  split
  · exact pSeen_call_other _ _ _ hm _ _
  split
  · exact pSeen_other _ _ _
  · exact pSeen_call_other _ _ _ hm _ _
theorem pMake_other (V : AV) (e : Int) (m : NameT) (hm : m ≠ ofPipe oneM 2) : avGet (pMake V oneM 2 e).1 m = avGet V m := by
  unfold pMake
  split
  · rfl
  split
  · exact avSeen_other _ _ _
  · exact call_other _ _ _ hm _ _
/-- do leaves the other objects alone. -/
theorem doV_other (V : AV) (kd : Nat) (e n : Int) (s : ByteArray) (x : Bool) (m : NameT) (hm : m ≠ ofPipe oneM 2) : avGet (doV V kd e n s x).1 m = avGet V m := by
  unfold doV
  split
  · exact pMake_other _ _ _ hm
  split
  · exact pChange_other _ _ _ _ hm
  split
  · exact pChange_other _ _ _ _ hm
  split
  · exact pChange_other _ _ _ _ hm
  split
  · exact pChange_other _ _ _ _ hm
  · exact pSeen_other _ _ _
/-- The reference's pipe is none or one that can be encoded. -/
theorem rOp_ok {op : PipeT → PipeT × Nat} (hg : GoodP op) {p : PipeT} (h : p = zeroP ∨ checkP p = 0) (e : Int) : (rOp op p e).1 = zeroP ∨ checkP (rOp op p e).1 = 0 := by
  unfold rOp
  split
  · exact h
  · rename_i hi
    have hc := (isPB_ok (by simpa using hi)).1
    split
    · exact h
    · rename_i h1
      split
      · exact .inl rfl
      · rename_i h2
        exact .inr (hg p hc (by simpa using h1) h2)
theorem smeR_ok (kd : Nat) (e n : Int) (s : ByteArray) (x : Bool) {p : PipeT} (h : p = zeroP ∨ checkP p = 0) : (smeR kd e n s x p).1 = zeroP ∨ checkP (smeR kd e n s x p).1 = 0 := by
  unfold smeR
  split
  · rename_i he
    unfold refR
    split
    · unfold rMake
      split
      · exact h
      · exact .inr (make_ok he)
    split
    · rw [rRead_is]; exact rOp_ok (good_read n) h e
    split
    · rw [rWrite_is]; exact rOp_ok (good_write _) h e
    split
    · rw [rJoin_is]; exact rOp_ok (good_join x) h e
    split
    · rw [rLeave_is]; exact rOp_ok (good_leave x) h e
    · exact h
  · exact h

/-- Between two rounds of Play. -/
structure PlInv (w wr : World) (k sp : Nat) (p : PipeT) (f : NameT → Option ByteArray) : Prop where
  low : Below w.heap.size w wr
  box : wr.heap[w.heap.size]? = some (.cells (pCells p) 63 (0, 0))
  base : BaseN k wr.heap.size wr sp f
  holds : HoldsP ⟨f, [], []⟩ 0 (optP p)
  pz : p = zeroP ∨ checkP p = 0
  only : ∀ n, n ≠ ofPipe oneM 2 → f n = none
  us : Usages wr
/-- What Play leaves. -/
def PlayPost (w : World) (r : Ending) (w' : World) : Prop :=
  ∃ sp p f, r = .returned (.tuple #[.pointer (some ⟨sp, 0, none⟩), .agg #[.int .i64 p.epoch, .int .i64 p.readers, .int .i64 p.writers, .string p.bytes], .bool true]) ∧ Below w.heap.size w w' ∧ BaseN 40 w'.heap.size w' sp f ∧ HoldsP ⟨f, [], []⟩ 0 (optP p) ∧ (p = zeroP ∨ checkP p = 0) ∧ (∀ n, n ≠ ofPipe oneM 2 → f n = none) ∧ Usages w'
theorem pl_next {w wr w2 w5 : World} {k sp sp' b d : Nat} {p nx : PipeT} {f : NameT → Option ByteArray} {kd : Nat} {e n : Int} {s : ByteArray} {x : Bool} (h : PlInv w wr k sp p f) (hs : QM w w2 b k (doV ⟨f, [], []⟩ kd e n s x).1 (fun _ => False)) (hbx : w2.heap[w.heap.size]? = some (.cells (pCells nx) 63 (0, 0)))
    (hd : d ≤ 1) (hh : HoldsP (doV ⟨f, [], []⟩ kd e n s x).1 (0 + d) (optP nx)) (hnx : (smeR kd e n s x p).1 = nx) (hb5 : Below w2.heap.size w2 w5) (hn : BaseN (k + (doV ⟨f, [], []⟩ kd e n s x).1.calls.length) w5.heap.size w5 sp' (stOf (doV ⟨f, [], []⟩ kd e n s x).1)) : PlInv w w5 (k + 1) sp' nx (stOf (doV ⟨f, [], []⟩ kd e n s x).1) where
  low := hs.below.trans (hb5.mono hs.below.size)
  box := (hb5.block _ (lt_of_heap hbx)).trans hbx
  base := hn.more (by rw [hh.len]; omega)
  holds := hh.after
  pz := by rw [← hnx]; exact smeR_ok _ _ _ _ _ h.pz
  only := fun m hm => by
    have h1 := doV_other ⟨f, [], []⟩ kd e n s x m hm
    have h2 : avGet ⟨f, [], []⟩ m = (⟨#[]⟩, false) := by
      show ((f m).getD ⟨#[]⟩, (f m).isSome) = _
      rw [h.only m hm]
      rfl
    unfold stOf
    rw [h1, h2]
    rfl
  us := hs.usages.below hb5 hs.usages.pos
end Go.Proofs.YtemmeopaihmlcaaGreatDoor
