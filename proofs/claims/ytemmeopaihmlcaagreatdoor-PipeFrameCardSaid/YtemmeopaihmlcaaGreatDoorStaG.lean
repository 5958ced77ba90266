/- state: Len, With. -/
import Derived.Test.YtemmeopaihmlcaaGreatDoorStaD
import Derived.Test.YtemmeopaihmlcaaGreatDoorViewB
import Derived.Deep.QuietTactic
namespace Go.Proofs.YtemmeopaihmlcaaGreatDoor
open Go.RowKit

theorem below_toDrewN {B : Nat} {w w1 : World} (h : Below B w w1) (k : Nat) : Below B w (w1.drewN k) := ⟨h.os, h.tape, h.output, h.size, h.block⟩
theorem stateLen_any (B sp : Nat) (t : Tree) (w : World) (hs : StateIn B w sp t) : Calls Tryz.prog 51 #[.pointer (some ⟨sp, 0, none⟩)] w fun e w' => e = .returned (.int .i64 t.sz) ∧ w = w' := by
  have hc : w.cell? ⟨sp, 0, none⟩ = some (.pointer (ptrA t)) := cell_of_heap hs.cell 0
  have hcon := sizeOf_any t w hs.at_
  have Hs := Lib.hid hs; clear hs
  have Hcon := Lib.hid hcon; clear hcon
  go_enter Tryz.func51, Tryz.ntmps51
  go_wp2_with fail
  refine Hcon.out.mono ?_
  rintro e w' ⟨rfl, rfl⟩
  go_wp2_with fail
  go_ret
  exact ⟨rfl, rfl⟩

theorem mid_fresh (W : World) (n : NameT) (v : ByteArray) : MidAt (W.alloc (.cells #[.pointer none, .pointer none, .int .i64 n.kind, .string n.owner, .int .i64 n.number, .int .i64 n.index, .string n.text, .string v, .int .i64 0, .int .i64 0, .int .i64 0] 122)) W.heap.size n v := ⟨_, _, _, _, _, World.alloc_heap_new W _⟩
theorem with_fresh {B : Nat} {w W : World} {o : Obj} (h : Below B w W) (hB : B ≤ w.heap.size) : Below B w (W.drew.alloc o) := (h.drew).alloc (Nat.le_trans hB h.size) _
/-- What With leaves. -/
def SWithPost (w : World) (t : Tree) (n : NameT) (v : ByteArray) (r : Ending) (w' : World) : Prop :=
  ∃ sp' t', r = .returned (.tuple #[.pointer (some ⟨sp', 0, none⟩), .int .i64 0]) ∧ Below w.heap.size w w' ∧ Put cmpN t n v t' ∧ w'.heap[sp']? = some (.cells #[.pointer (ptrA t')] 117 (0, 0)) ∧ TreeAt w' t'

theorem with_fin {w w2 w3 : World} {t t' : Tree} {n : NameT} {v : ByteArray} {r : Ending} (hr : r = .returned (.tuple #[.pointer (some ⟨w2.heap.size, 0, none⟩), .int .i64 0])) (hw : w3 = w2.alloc (.cells #[.pointer (ptrA t')] 117)) (hb : Below w.heap.size w w2) (ht : TreeAt w2 t') (hp : Put cmpN t n v t') : SWithPost w t n v r w3 := by
  subst hw
  have hb2 : Below w2.heap.size w2 (w2.alloc (.cells #[.pointer (ptrA t')] 117)) := (Below.refl _ _).alloc (Nat.le_refl _) _
  exact ⟨_, t', hr, hb.trans (hb2.mono hb.size), hp, World.alloc_heap_new w2 _, ht.below hb2⟩
set_option maxRecDepth 100000 in
set_option maxHeartbeats 3200000 in
theorem stateWith_ok (B sp : Nat) (t : Tree) (n : NameT) (v : ByteArray) (w : World) (hu : Usages w) (hs : StateIn B w sp t) (hn : NameOk n) (hv : v.size ≤ 65536) :
    Calls Tryz.prog 13 #[.pointer (some ⟨sp, 0, none⟩), nameV n, .string v] w (SWithPost w t n v) := by
  have hc : w.cell? ⟨sp, 0, none⟩ = some (.pointer (ptrA t)) := cell_of_heap hs.cell 0
  have hlt : sp < w.heap.size := lt_of_heap hs.cell
  have hlen : ∀ (W : World), Below w.heap.size w W → Calls Tryz.prog 51 #[.pointer (some ⟨sp, 0, none⟩)] W fun e w' => e = .returned (.int .i64 t.sz) ∧ W = w' := fun W hW =>
    stateLen_any w.heap.size sp t W ⟨(hW.block sp hlt).trans hs.cell, hlt, hs.at_.below hW, hs.at_.lt, hs.good, hs.vals, hs.sz⟩
  have hsz : decide ((65536 : Int) ≤ ((t.sz : Nat) : Int)) = false := by have := hs.sz; simp; omega
  have hvs : decide ((65536 : Int) < ((v.size : Nat) : Int)) = false := by simp; omega
  have hwith := fun (q : Nat) (W : World) (hW : Below w.heap.size w W) (hm : MidAt W q n v) => with_any n v hn.1 (by omega) q t W (hs.at_.below hW) hs.good (by have := hs.sz; omega) hm
  have Hs := Lib.hid hs; clear hs
  have Hu := Lib.hid hu; clear hu
  have Hn := Lib.hid hn; clear hn
  have Hv := Lib.hid hv; clear hv
  have Hwith := Lib.hid hwith; clear hwith
  have Hlen := Lib.hid hlen; clear hlen
  generalize hz : ((t.sz : Nat) : Int) = z at *
  clear hz
  obtain ⟨n1, n2, n3, n4, n5⟩ := n
  dsimp only [nameV] at *
  go_enter Tryz.func13, Tryz.ntmps13
  go_wp2_with fail
  refine (Hn.out.2 _ (Hu.out.below ((Below.refl _ _).alloc (Nat.le_refl _) _) Hu.out.pos)).mono ?_
  rintro e w1 ⟨rfl, hb1⟩
  have hb1' : Below w.heap.size w w1 := ((Below.refl _ _).alloc (Nat.le_refl _) _).trans (hb1.mono (by simp))
  have q : ∀ j, w1.cell? ⟨w.heap.size, j, none⟩ = (#[.int .i64 n1, .string n2, .int .i64 n3, .int .i64 n4, .string n5] : Array Value)[j]? := fun j => ((bcell hb1).1 _ _ (by simp)).trans (cell_of_heap (World.alloc_heap_new w _) j)
  have q0 := q 0
  have q1 := q 1
  have q2 := q 2
  have q3 := q 3
  have q4 := q 4
  have hlt1 : w.heap.size < w1.heap.size := by have := hb1.size; simp at this; omega
  have hlts : sp < w1.heap.size := Nat.lt_trans hlt hlt1
  have c0 : w1.cell? ⟨sp, 0, none⟩ = some (.pointer (ptrA t)) := ((bcell hb1').1 _ _ hlt).trans hc
  clear q hb1 hc
  dsimp at q0 q1 q2 q3 q4
  have Hb1 := Lib.hid hb1'; clear hb1'
  go_wp2_with fail
  go_quiet ((go_at_call 51; exact Calls.quiet_of_same ((Hlen.out (w1.drewN _) (below_toDrewN Hb1.out _)).mono fun _ _ h => ⟨h.1, h.2.symm⟩)))
  go_wp2_with fail
  have Hb2 : Hid (Below w.heap.size w (w1.drewN nq)) := below_toDrewN Hb1.out nq
  have p0 : (w1.drewN nq).cell? ⟨w.heap.size, 0, none⟩ = some (.int .i64 n1) := q0
  have p1 : (w1.drewN nq).cell? ⟨w.heap.size, 1, none⟩ = some (.string n2) := q1
  have p2 : (w1.drewN nq).cell? ⟨w.heap.size, 2, none⟩ = some (.int .i64 n3) := q2
  have p3 : (w1.drewN nq).cell? ⟨w.heap.size, 3, none⟩ = some (.int .i64 n4) := q3
  have p4 : (w1.drewN nq).cell? ⟨w.heap.size, 4, none⟩ = some (.string n5) := q4
  have d0 : (w1.drewN nq).cell? ⟨sp, 0, none⟩ = some (.pointer (ptrA t)) := c0
  have hltW : w.heap.size < (w1.drewN nq).heap.size := hlt1
  have hltS : sp < (w1.drewN nq).heap.size := hlts
  clear q0 q1 q2 q3 q4 c0 hlt1 hlts Hb1
  generalize w1.drewN nq = W at *
  clear w1
  go_region_held3 (fun w' => w'.cell? ⟨sp, 0, none⟩ = some (.pointer (ptrA t)) ∧ w'.cell? ⟨w.heap.size, 0, none⟩ = some (.int .i64 n1) ∧ w'.cell? ⟨w.heap.size, 1, none⟩ = some (.string n2) ∧ w'.cell? ⟨w.heap.size, 2, none⟩ = some (.int .i64 n3) ∧ w'.cell? ⟨w.heap.size, 3, none⟩ = some (.int .i64 n4) ∧ w'.cell? ⟨w.heap.size, 4, none⟩ = some (.string n5))
    (first | go_keep | (refine ⟨?_, ?_, ?_, ?_, ?_, ?_⟩ <;> (rw [(bcell hb).1 _ _ (by simp <;> omega)]; go_keep)))
    (first | (go_at_call 53; refine (Hwith.out _ _ (with_fresh Hb2.out (Nat.le_refl _)) (mid_fresh _ _ _)).mono ?_; rintro e w2 ⟨t', rfl, hb, ht, hp⟩) | fail)
  all_goals go_wp2_with fail
  all_goals go_ret2
  all_goals exact with_fin rfl rfl (Hb2.out.trans ((show Below W.heap.size W w2 from ⟨hb.os, hb.tape, hb.output, Nat.le_trans (by simp) hb.size, fun k hk => (hb.block k (by simp; omega)).trans (Below.heap_alloc W.drew _ k hk)⟩).mono (Nat.le_of_lt hltW))) ht hp

set_option maxRecDepth 100000 in
set_option maxHeartbeats 800000 in
/-- With of a name that Check refuses. -/
theorem stateWith_name (sp : Nat) (n : NameT) (v : ByteArray) (c : Int) (w : World) (hc0 : c ≠ 0) (hc : ∀ W, Below w.heap.size w W → Calls Tryz.prog 50 #[nameV n] W fun r w' => r = .returned (.int .i64 c) ∧ Below W.heap.size W w') :
    Calls Tryz.prog 13 #[.pointer (some ⟨sp, 0, none⟩), nameV n, .string v] w fun r w' => r = .returned (.tuple #[.pointer none, .int .i64 12]) ∧ Below w.heap.size w w' := by
  have Hc := Lib.hid hc; clear hc
  have h1 : (c == 0) = false := beq_eq_false_iff_ne.2 hc0
  have h2 : (c != 0) = true := bne_iff_ne.2 hc0
  clear hc0
  obtain ⟨n1, n2, n3, n4, n5⟩ := n
  dsimp only [nameV] at *
  go_enter Tryz.func13, Tryz.ntmps13
  go_wp2_with fail
  refine (Hc.out _ ((Below.refl _ _).alloc (Nat.le_refl _) _)).mono ?_
  rintro e w1 ⟨rfl, hb1⟩
  have Hb1 := Lib.hid hb1; clear hb1
  go_wp2_with fail
  go_ret2
  exact ⟨rfl, ((Below.refl _ _).alloc (Nat.le_refl _) _).trans (Hb1.out.mono (by simp))⟩

/-- The state at sp answers f, and has at most N objects. -/
def BaseN (N : Nat) (B : Nat) (w : World) (sp : Nat) (f : NameT → Option ByteArray) : Prop := ∃ t, StateIn B w sp t ∧ t.sz ≤ N ∧ ∀ n, f n = getL cmpN t.ents n
theorem BaseN.ok {N B : Nat} {w : World} {sp : Nat} {f : NameT → Option ByteArray} (h : BaseN N B w sp f) : BaseOk B w sp f := by
  obtain ⟨t, h1, _, h2⟩ := h; exact ⟨t, h1, h2⟩
theorem BaseN.later {N B : Nat} {w w1 : World} {sp : Nat} {f : NameT → Option ByteArray} (h : BaseN N B w sp f) (hb : Below B w w1) : BaseN N B w1 sp f := by
  obtain ⟨t, h1, h2⟩ := h
  exact ⟨t, h1.later hb, h2⟩
theorem BaseN.up {N B B' : Nat} {w : World} {sp : Nat} {f : NameT → Option ByteArray} (h : BaseN N B w sp f) (hB : B ≤ B') : BaseN N B' w sp f := by
  obtain ⟨t, h1, h2⟩ := h
  exact ⟨t, h1.up hB, h2⟩
theorem baseN_empty (w : World) : BaseN 0 (w.alloc (.cells #[.pointer none] 117)).heap.size (w.alloc (.cells #[.pointer none] 117)) w.heap.size (fun _ => none) :=
  ⟨.nil, ⟨World.alloc_heap_new w _, by simp, trivial, trivial, ⟨trivial, List.Pairwise.nil, fun e he => by simp [Tr.ents] at he, fun e he => by simp [Tr.ents] at he⟩, fun e he => by simp [Tr.ents] at he, Nat.zero_le _⟩, Nat.le_refl _, fun _ => rfl⟩

/-- A state with one more value. -/
def setF (f : NameT → Option ByteArray) (n : NameT) (v : ByteArray) : NameT → Option ByteArray := fun k => if k = n then some v else f k
def SWPost (N : Nat) (w : World) (f : NameT → Option ByteArray) (n : NameT) (v : ByteArray) (r : Ending) (w' : World) : Prop :=
  ∃ sp', r = .returned (.tuple #[.pointer (some ⟨sp', 0, none⟩), .int .i64 0]) ∧ Below w.heap.size w w' ∧ BaseN (N + 1) w'.heap.size w' sp' (setF f n v)
theorem put_vals {t t' : Tree} {n : NameT} {v : ByteArray} (h : ∀ e ∈ t.ents, e.2.size ≤ 65536) (hv : v.size ≤ 65536) (p : Put cmpN t n v t') : ∀ e ∈ t'.ents, e.2.size ≤ 65536 := by
  intro e he
  rw [p.ents] at he
  rcases putL_mem he with rfl | he
  · exact hv
  · exact h e he
theorem baseWith {N B : Nat} {sp : Nat} {f : NameT → Option ByteArray} {n : NameT} {v : ByteArray} {w : World} (hu : Usages w) (hb : BaseN N B w sp f) (hN : N < 60000) (hn : NameOk n) (hv : v.size ≤ 65536) :
    Calls Tryz.prog 13 #[.pointer (some ⟨sp, 0, none⟩), nameV n, .string v] w (SWPost N w f n v) := by
  obtain ⟨t, hs, hz, hf⟩ := hb
  refine (stateWith_ok B sp t n v w hu hs hn hv).mono ?_
  rintro r w' ⟨sp', t', rfl, hb', hp, hc, ht⟩
  refine ⟨sp', rfl, hb', t', ⟨hc, lt_of_heap hc, ht, ht.lt, hs.good.put hn.1 (by omega) hp, put_vals hs.vals hv hp, ?_⟩, ?_, fun k => ?_⟩
  · have := put_sz hp; omega
  · have := put_sz hp; omega
  · rw [hp.ents, get_put cmpN_ok hs.good.sort, setF]
    simp only [cmpN_ok.zero]
    rw [hf k]
end Go.Proofs.YtemmeopaihmlcaaGreatDoor
