/- state: balance in every case. state: with. state: Len, With. -/
import Derived.Test.YtfchfjipkggnkaaGreatDoorStaB
import Derived.Test.YtfchfjipkggnkaaGreatDoorStaF
import Derived.Test.YtfchfjipkggnkaaGreatDoorViewB
import Derived.Deep.QuietTactic
namespace Go.Proofs.YtfchfjipkggnkaaGreatDoor
open Go.RowKit

theorem balance_any (l r : Tree) (q : Nat) (n : NameT) (v : ByteArray) (w : World) (hl : TreeAt w l) (hr : TreeAt w r) (hm : MidAt w q n v) (j : JC l r v) (al : l.avl) (ar : r.avl) (h1 : l.ht ≤ r.ht + 2) (h2 : r.ht ≤ l.ht + 2)
    (sl : ∀ e ∈ l.ents, e.2.size ≤ 100000000) (sr : ∀ e ∈ r.ents, e.2.size ≤ 100000000) :
    Calls Tryz.prog 112 #[.pointer (ptrA l), .pointer (some ⟨q, 0, none⟩), .pointer (ptrA r)] w (BalPost w l n v r) := by
  by_cases x1 : l.ht ≤ r.ht + 1
  · by_cases x2 : r.ht ≤ l.ht + 1
    · exact balance_near l r q n v w hl hr hm j al ar x1 x2
    · cases r with
      | nil => simp only [Tr.ht] at x2; omega
      | node b rl m u rr =>
        have su : u.size ≤ 100000000 := sr (m, u) (by simp [Tr.ents])
        by_cases x3 : rl.ht ≤ rr.ht
        · exact balance_rr b rl m u rr l q n v w hl hr hm j su al ar (by omega) x3
        · cases rl with
          | nil => simp only [Tr.ht] at x3; omega
          | node d il i x ir => exact balance_rl b d rr il ir m i u x l q n v w hl hr hm j su (sr (i, x) (by simp [Tr.ents])) al ar (by omega) (by omega)
  · cases l with
    | nil => simp only [Tr.ht] at x1; omega
    | node b ll m u lr =>
      have su : u.size ≤ 100000000 := sl (m, u) (by simp [Tr.ents])
      by_cases x3 : lr.ht ≤ ll.ht
      · exact balance_ll b ll m u lr r q n v w hl hr hm j su al ar (by omega) x3
      · cases lr with
        | nil => simp only [Tr.ht] at x3; omega
        | node d il i x ir => exact balance_lr b d ll il ir m i u x r q n v w hl hr hm j su (sl (i, x) (by simp [Tr.ents])) al ar (by omega) (by omega)

end Go.Proofs.YtfchfjipkggnkaaGreatDoor

namespace Go.Proofs.YtfchfjipkggnkaaGreatDoor
open Go.RowKit

theorem Good.put {t t' : Tree} {n : NameT} {v : ByteArray} (h : Good t) (hn : FitN n) (hv : v.size ≤ 100000000) (p : Put cmpN t n v t') : Good t' := by
  refine ⟨p.avl, by rw [p.ents]; exact sort_put cmpN_ok h.sort n v, fun e he => ?_, fun e he => ?_⟩
  all_goals
    rw [p.ents] at he
    rcases putL_mem he with rfl | he
    · assumption
    · first | exact h.fit e he | exact h.val e he
theorem Good.bys {t : Tree} (h : Good t) : t.bys ≤ 100000000 * t.sz := Tr.by_le _ _ _ h.val
theorem jc_of {l r : Tree} {v : ByteArray} (hl : Good l) (hr : Good r) (hv : v.size ≤ 100000000) (hs : l.sz + r.sz ≤ 80000) : JC l r v := by
  have h1 := hl.bys
  have h2 := hr.bys
  exact ⟨by omega, by omega, hv⟩
theorem put_sz {t t' : Tree} {n : NameT} {v : ByteArray} (p : Put cmpN t n v t') : t'.sz ≤ t.sz + 1 := by
  rw [Tr.sz_ents, Tr.sz_ents, p.ents]; exact put_length n v

/-- What with leaves. -/
def WithPost (w : World) (t : Tree) (n : NameT) (v : ByteArray) (e : Ending) (w' : World) : Prop := ∃ t', e = .returned (.pointer (ptrA t')) ∧ Below w.heap.size w w' ∧ TreeAt w' t' ∧ Put cmpN t n v t'

set_option maxRecDepth 100000 in
set_option maxHeartbeats 3200000 in
theorem with_any (n : NameT) (v : ByteArray) (hn : FitN n) (hv : v.size ≤ 100000000) (q : Nat) (t : Tree) : ∀ (w : World), TreeAt w t → Good t → t.sz ≤ 70000 → MidAt w q n v →
    Calls Tryz.prog 74 #[.pointer (ptrA t), .pointer (some ⟨q, 0, none⟩)] w (WithPost w t n v) := by
  induction t with
  | nil =>
    intro w ht hg hz hm
    have hj := join_jb .nil .nil q n v w ht ht hm ⟨by decide, by decide, hv⟩
    have Hj := Lib.hid hj; clear hj
    clear ht hg hm
    unfold ptrA
    go_enter Tryz.func74, Tryz.ntmps74
    go_wp2_with fail
    refine (Hj.out).mono ?_
    rintro e w1 ⟨p, rfl, hb, ht⟩
    go_wp2_with fail
    go_ret
    exact ⟨.node p .nil n v .nil, rfl, hb, ht, put_nil _ _ _ _⟩
  | node b l m u r ihl ihr =>
    intro w ht hg hz hm
    obtain ⟨gl, gr, fm, hu⟩ := hg.parts
    have hzs : l.sz + r.sz + 1 ≤ 70000 := by simp only [Tr.sz] at hz; omega
    obtain ⟨l0, r0, h0, s0, b0, hq⟩ := hm
    have k0 : w.cell? ⟨b, 0, none⟩ = some (.pointer (ptrA l)) := cell_of_heap ht.1 0
    have k1 : w.cell? ⟨b, 1, none⟩ = some (.pointer (ptrA r)) := cell_of_heap ht.1 1
    have k2 : w.cell? ⟨b, 2, none⟩ = some (.int .i64 m.kind) := cell_of_heap ht.1 2
    have k3 : w.cell? ⟨b, 3, none⟩ = some (.string m.owner) := cell_of_heap ht.1 3
    have k4 : w.cell? ⟨b, 4, none⟩ = some (.int .i64 m.number) := cell_of_heap ht.1 4
    have k5 : w.cell? ⟨b, 5, none⟩ = some (.int .i64 m.index) := cell_of_heap ht.1 5
    have k6 : w.cell? ⟨b, 6, none⟩ = some (.string m.text) := cell_of_heap ht.1 6
    have c2 : w.cell? ⟨q, 2, none⟩ = some (.int .i64 n.kind) := cell_of_heap hq 2
    have c3 : w.cell? ⟨q, 3, none⟩ = some (.string n.owner) := cell_of_heap hq 3
    have c4 : w.cell? ⟨q, 4, none⟩ = some (.int .i64 n.number) := cell_of_heap hq 4
    have c5 : w.cell? ⟨q, 5, none⟩ = some (.int .i64 n.index) := cell_of_heap hq 5
    have c6 : w.cell? ⟨q, 6, none⟩ = some (.string n.text) := cell_of_heap hq 6
    have hlb : b < w.heap.size := lt_of_heap ht.1
    have hlq : q < w.heap.size := lt_of_heap hq
    have hcon := fun (W : World) => oCompare_any n m hn fm W
    have Hm : Hid (MidAt w q n v) := ⟨l0, r0, h0, s0, b0, hq⟩
    have Ht := Lib.hid ht; clear ht
    have Hg := Lib.hid hg; clear hg
    have Ihl := Lib.hid ihl; clear ihl
    have Ihr := Lib.hid ihr; clear ihr
    clear hq hz
    unfold nameV at hcon
    have Hc0 : Hid (∀ p, cmpN n m = 0 → Put cmpN (.node b l m u r) n v (.node p l n v r)) := fun p h => put_eq cmpN_ok p b Hg.out.sort Hg.out.avl h
    have Hc1 : Hid (∀ l' t', cmpN n m < 0 → Put cmpN l n v l' → Bal l' m u r t' → Put cmpN (.node b l m u r) n v t') := fun l' t' h => put_lo b Hg.out.avl h
    have Hc2 : Hid (∀ r' t', 0 < cmpN n m → Put cmpN r n v r' → Bal l m u r' t' → Put cmpN (.node b l m u r) n v t') := fun r' t' h => put_hi cmpN_ok b Hg.out.sort Hg.out.avl h
    dsimp only [ptrA]
    generalize cmpN n m = c at *
    go_enter Tryz.func74, Tryz.ntmps74
    go_wp2_with fail
    go_region_held3 (fun w' => w'.cell? ⟨b, 0, none⟩ = some (.pointer (ptrA l)) ∧ w'.cell? ⟨b, 1, none⟩ = some (.pointer (ptrA r)) ∧ w'.cell? ⟨b, 2, none⟩ = some (.int .i64 m.kind) ∧ w'.cell? ⟨b, 3, none⟩ = some (.string m.owner) ∧ w'.cell? ⟨b, 4, none⟩ = some (.int .i64 m.number) ∧ w'.cell? ⟨b, 5, none⟩ = some (.int .i64 m.index) ∧ w'.cell? ⟨b, 6, none⟩ = some (.string m.text) ∧ w'.cell? ⟨q, 2, none⟩ = some (.int .i64 n.kind) ∧ w'.cell? ⟨q, 3, none⟩ = some (.string n.owner) ∧ w'.cell? ⟨q, 4, none⟩ = some (.int .i64 n.number) ∧ w'.cell? ⟨q, 5, none⟩ = some (.int .i64 n.index) ∧ w'.cell? ⟨q, 6, none⟩ = some (.string n.text))
      (first | go_keep | (refine ⟨?_, ?_, ?_, ?_, ?_, ?_, ?_, ?_, ?_, ?_, ?_, ?_⟩ <;> (first | (rw [(bcell hb).1 _ _ hlb]; go_keep) | (rw [(bcell hb).1 _ _ hlq]; go_keep))))
      (first | (go_at_call 68; refine (hcon _).mono ?_; rintro e w1 ⟨rfl, hb⟩) | fail)
    have hb' : Below w.heap.size w w1 := ⟨hb.os, hb.tape, hb.output, hb.size, hb.block⟩
    have q0 : w1.cell? ⟨b, 0, none⟩ = some (.pointer (ptrA l)) := ((bcell hb).1 b 0 hlb).trans k0
    have q1 : w1.cell? ⟨b, 1, none⟩ = some (.pointer (ptrA r)) := ((bcell hb).1 b 1 hlb).trans k1
    have Tl := Lib.hid (Ht.out.2.1.below hb')
    have Tr_ := Lib.hid (Ht.out.2.2.below hb')
    have Tm := Lib.hid (Ht.out.mid.below hb')
    have Tq := Lib.hid (Hm.out.below hb')
    have hlb1 : b < w1.heap.size := Nat.lt_of_lt_of_le hlb hb'.size
    have Hb' := Lib.hid hb'; clear hb'
    clear hb k0 k1 k2 k3 k4 k5 k6 c2 c3 c4 c5 c6 hcon
    rcases Int.lt_trichotomy c 0 with hc | hc | hc
    · have c1 : (c == 0) = false := beq_eq_false_iff_ne.2 (by omega)
      have c2 : decide (c < 0) = true := by simpa using hc
      have He := Lib.hid hc; clear hc
      go_wp2_with fail
      go_region_held3 (fun w' => w'.cell? ⟨b, 0, none⟩ = some (.pointer (ptrA l)) ∧ w'.cell? ⟨b, 1, none⟩ = some (.pointer (ptrA r)))
        (first | go_keep | (refine ⟨?_, ?_⟩ <;> (rw [(bcell hb2).1 _ _ hlb1]; go_keep)) | (refine ⟨?_, ?_⟩ <;> (rw [(bcell hb3).1 _ _ (Nat.lt_of_lt_of_le hlb1 hb2.size), (bcell hb2).1 _ _ hlb1]; go_keep)))
        (first
          | (go_at_call 74; refine (Ihl.out w1.drew (Tl.out.same (w' := w1.drew) rfl) gl (by omega) (Tq.out.same (w' := w1.drew) rfl)).mono ?_; rintro e w2 ⟨l', rfl, hb2, ht2, hp2⟩)
          | (go_at_call 112; refine (balance_any l' r b m u w2 ht2 ((Tr_.out.same (w' := w1.drew) rfl).below hb2) ((Tm.out.same (w' := w1.drew) rfl).below hb2) (jc_of (gl.put hn hv hp2) gr hu (by have := put_sz hp2; omega)) hp2.avl gr.avl (put_near_lo Hg.out.avl hp2).1 (put_near_lo Hg.out.avl hp2).2 (gl.put hn hv hp2).val gr.val).mono ?_; rintro e w3 ⟨t', rfl, hb3, ht3, hba⟩)
          | fail)
      all_goals go_wp2_with fail
      all_goals go_ret
      all_goals exact ⟨t', rfl, (Hb'.out.trans ((show Below w1.heap.size w1 w2 from ⟨hb2.os, hb2.tape, hb2.output, hb2.size, hb2.block⟩).mono Hb'.out.size)).trans (hb3.mono (Nat.le_trans Hb'.out.size hb2.size)), ht3, Hc1.out l' t' He.out hp2 hba⟩
    · have Hp : Hid (∀ p, Put cmpN (.node b l m u r) n v (.node p l n v r)) := fun p => Hc0.out p hc
      clear Hc0 Hc1 Hc2
      subst hc
      go_wp2_with fail
      go_region_held3 (fun w' => w'.cell? ⟨b, 0, none⟩ = some (.pointer (ptrA l)) ∧ w'.cell? ⟨b, 1, none⟩ = some (.pointer (ptrA r)))
        (first | go_keep | (refine ⟨?_, ?_⟩ <;> (rw [(bcell hb2).1 _ _ hlb1]; go_keep)))
        (first
          | (go_at_call 114; refine (join_jb l r q n v w1.drew (Tl.out.same (w' := w1.drew) rfl) (Tr_.out.same (w' := w1.drew) rfl) (Tq.out.same (w' := w1.drew) rfl) (jc_of gl gr hv (by omega)).jb).mono ?_; rintro e w2 ⟨p, rfl, hb2, ht2⟩)
          | fail)
      all_goals go_wp2_with fail
      all_goals go_ret
      all_goals exact ⟨.node p l n v r, rfl, Hb'.out.trans ((show Below w1.heap.size w1 w2 from ⟨hb2.os, hb2.tape, hb2.output, hb2.size, hb2.block⟩).mono Hb'.out.size), ht2, Hp.out p⟩
    · have c1 : (c == 0) = false := beq_eq_false_iff_ne.2 (by omega)
      have c2 : decide (c < 0) = false := by simp; omega
      have c3 : decide (0 < c) = true := by simpa using hc
      have He := Lib.hid hc; clear hc
      go_wp2_with fail
      go_region_held3 (fun w' => w'.cell? ⟨b, 0, none⟩ = some (.pointer (ptrA l)) ∧ w'.cell? ⟨b, 1, none⟩ = some (.pointer (ptrA r)))
        (first | go_keep | (refine ⟨?_, ?_⟩ <;> (rw [(bcell hb2).1 _ _ hlb1]; go_keep)) | (refine ⟨?_, ?_⟩ <;> (rw [(bcell hb3).1 _ _ (Nat.lt_of_lt_of_le hlb1 hb2.size), (bcell hb2).1 _ _ hlb1]; go_keep)))
        (first
          | (go_at_call 74; refine (Ihr.out w1.drew (Tr_.out.same (w' := w1.drew) rfl) gr (by omega) (Tq.out.same (w' := w1.drew) rfl)).mono ?_; rintro e w2 ⟨r', rfl, hb2, ht2, hp2⟩)
          | (go_at_call 112; refine (balance_any l r' b m u w2 ((Tl.out.same (w' := w1.drew) rfl).below hb2) ht2 ((Tm.out.same (w' := w1.drew) rfl).below hb2) (jc_of gl (gr.put hn hv hp2) hu (by have := put_sz hp2; omega)) gl.avl hp2.avl (put_near_hi Hg.out.avl hp2).1 (put_near_hi Hg.out.avl hp2).2 gl.val (gr.put hn hv hp2).val).mono ?_; rintro e w3 ⟨t', rfl, hb3, ht3, hba⟩)
          | fail)
      all_goals go_wp2_with fail
      all_goals go_ret
      all_goals exact ⟨t', rfl, (Hb'.out.trans ((show Below w1.heap.size w1 w2 from ⟨hb2.os, hb2.tape, hb2.output, hb2.size, hb2.block⟩).mono Hb'.out.size)).trans (hb3.mono (Nat.le_trans Hb'.out.size hb2.size)), ht3, Hc2.out r' t' He.out hp2 hba⟩
end Go.Proofs.YtfchfjipkggnkaaGreatDoor

namespace Go.Proofs.YtfchfjipkggnkaaGreatDoor
open Go.RowKit

theorem below_toDrewN {B : Nat} {w w1 : World} (h : Below B w w1) (k : Nat) : Below B w (w1.drewN k) := ⟨h.os, h.tape, h.output, h.size, h.block⟩
theorem stateLen_any (B sp : Nat) (t : Tree) (w : World) (hs : StateIn B w sp t) : Calls Tryz.prog 73 #[.pointer (some ⟨sp, 0, none⟩)] w fun e w' => e = .returned (.int .i64 t.sz) ∧ w = w' := by
  have hc : w.cell? ⟨sp, 0, none⟩ = some (.pointer (ptrA t)) := cell_of_heap hs.cell 0
  have hcon := sizeOf_any t w hs.at_
  have Hs := Lib.hid hs; clear hs
  have Hcon := Lib.hid hcon; clear hcon
  go_enter Tryz.func73, Tryz.ntmps73
  go_wp2_with fail
  refine Hcon.out.mono ?_
  rintro e w' ⟨rfl, rfl⟩
  go_wp2_with fail
  go_ret
  exact ⟨rfl, rfl⟩

theorem mid_fresh (W : World) (n : NameT) (v : ByteArray) : MidAt (W.alloc (.cells #[.pointer none, .pointer none, .int .i64 n.kind, .string n.owner, .int .i64 n.number, .int .i64 n.index, .string n.text, .string v, .int .i64 0, .int .i64 0, .int .i64 0] 129)) W.heap.size n v := ⟨_, _, _, _, _, World.alloc_heap_new W _⟩
theorem with_fresh {B : Nat} {w W : World} {o : Obj} (h : Below B w W) (hB : B ≤ w.heap.size) : Below B w (W.drew.alloc o) := (h.drew).alloc (Nat.le_trans hB h.size) _
/-- What With leaves. -/
def SWithPost (w : World) (t : Tree) (n : NameT) (v : ByteArray) (r : Ending) (w' : World) : Prop :=
  ∃ sp' t', r = .returned (.tuple #[.pointer (some ⟨sp', 0, none⟩), .int .i64 0]) ∧ Below w.heap.size w w' ∧ Put cmpN t n v t' ∧ w'.heap[sp']? = some (.cells #[.pointer (ptrA t')] 97 (0, 0)) ∧ TreeAt w' t'

theorem with_fin {w w2 w3 : World} {t t' : Tree} {n : NameT} {v : ByteArray} {r : Ending} (hr : r = .returned (.tuple #[.pointer (some ⟨w2.heap.size, 0, none⟩), .int .i64 0])) (hw : w3 = w2.alloc (.cells #[.pointer (ptrA t')] 97)) (hb : Below w.heap.size w w2) (ht : TreeAt w2 t') (hp : Put cmpN t n v t') : SWithPost w t n v r w3 := by
  subst hw
  have hb2 : Below w2.heap.size w2 (w2.alloc (.cells #[.pointer (ptrA t')] 97)) := (Below.refl _ _).alloc (Nat.le_refl _) _
  exact ⟨_, t', hr, hb.trans (hb2.mono hb.size), hp, World.alloc_heap_new w2 _, ht.below hb2⟩
set_option maxRecDepth 100000 in
set_option maxHeartbeats 3200000 in
theorem stateWith_ok (B sp : Nat) (t : Tree) (n : NameT) (v : ByteArray) (w : World) (hu : Usages w) (hs : StateIn B w sp t) (hn : NameOk n) (hv : v.size ≤ 65536) :
    Calls Tryz.prog 43 #[.pointer (some ⟨sp, 0, none⟩), nameV n, .string v] w (SWithPost w t n v) := by
  have hc : w.cell? ⟨sp, 0, none⟩ = some (.pointer (ptrA t)) := cell_of_heap hs.cell 0
  have hlt : sp < w.heap.size := lt_of_heap hs.cell
  have hlen : ∀ (W : World), Below w.heap.size w W → Calls Tryz.prog 73 #[.pointer (some ⟨sp, 0, none⟩)] W fun e w' => e = .returned (.int .i64 t.sz) ∧ W = w' := fun W hW =>
    stateLen_any w.heap.size sp t W ⟨(hW.block sp hlt).trans hs.cell, hlt, hs.at_.below hW, hs.at_.lt, hs.good, hs.vals, hs.sz⟩
  have hsz : decide ((65536 : Int) ≤ ((t.sz : Nat) : Int)) = false := by have := hs.sz; simp; omega
  have hvs : decide ((65536 : Int) < ((v.size : Nat) : Int)) = false := by simp; omega
  have hwith := fun (q : Nat) (W : World) (hW : Below w.heap.size w W) (hm : MidAt W q n v) => with_any n v hn.1 (by omega) q t W (hs.at_.below hW) hs.good (by have := hs.sz; omega) hm
  have Hs := Lib.hid hs; clear hs
  have Hu := Lib.hid hu; clear hu
  have Hn := Lib.hid hn; clear hn
  have Hv := Lib.hid hv; clear hv
  have Hwith := Lib.hid hwith; clear hwith
  have Hlen := Lib.hid hlen; clear hlen
  generalize hz : ((t.sz : Nat) : Int) = z at *
  clear hz
  obtain ⟨n1, n2, n3, n4, n5⟩ := n
  dsimp only [nameV] at *
  go_enter Tryz.func43, Tryz.ntmps43
  go_wp2_with fail
  refine (Hn.out.2 _ (Hu.out.below ((Below.refl _ _).alloc (Nat.le_refl _) _) Hu.out.pos)).mono ?_
  rintro e w1 ⟨rfl, hb1⟩
  have hb1' : Below w.heap.size w w1 := ((Below.refl _ _).alloc (Nat.le_refl _) _).trans (hb1.mono (by simp))
  have q : ∀ j, w1.cell? ⟨w.heap.size, j, none⟩ = (#[.int .i64 n1, .string n2, .int .i64 n3, .int .i64 n4, .string n5] : Array Value)[j]? := fun j => ((bcell hb1).1 _ _ (by simp)).trans (cell_of_heap (World.alloc_heap_new w _) j)
  have q0 := q 0
  have q1 := q 1
  have q2 := q 2
  have q3 := q 3
  have q4 := q 4
  have hlt1 : w.heap.size < w1.heap.size := by have := hb1.size; simp at this; omega
  have hlts : sp < w1.heap.size := Nat.lt_trans hlt hlt1
  have c0 : w1.cell? ⟨sp, 0, none⟩ = some (.pointer (ptrA t)) := ((bcell hb1').1 _ _ hlt).trans hc
  clear q hb1 hc
  dsimp at q0 q1 q2 q3 q4
  have Hb1 := Lib.hid hb1'; clear hb1'
  go_wp2_with fail
  go_quiet ((go_at_call 73; exact Calls.quiet_of_same ((Hlen.out (w1.drewN _) (below_toDrewN Hb1.out _)).mono fun _ _ h => ⟨h.1, h.2.symm⟩)))
  go_wp2_with fail
  have Hb2 : Hid (Below w.heap.size w (w1.drewN nq)) := below_toDrewN Hb1.out nq
  have p0 : (w1.drewN nq).cell? ⟨w.heap.size, 0, none⟩ = some (.int .i64 n1) := q0
  have p1 : (w1.drewN nq).cell? ⟨w.heap.size, 1, none⟩ = some (.string n2) := q1
  have p2 : (w1.drewN nq).cell? ⟨w.heap.size, 2, none⟩ = some (.int .i64 n3) := q2
  have p3 : (w1.drewN nq).cell? ⟨w.heap.size, 3, none⟩ = some (.int .i64 n4) := q3
  have p4 : (w1.drewN nq).cell? ⟨w.heap.size, 4, none⟩ = some (.string n5) := q4
  have d0 : (w1.drewN nq).cell? ⟨sp, 0, none⟩ = some (.pointer (ptrA t)) := c0
  have hltW : w.heap.size < (w1.drewN nq).heap.size := hlt1
  have hltS : sp < (w1.drewN nq).heap.size := hlts
  clear q0 q1 q2 q3 q4 c0 hlt1 hlts Hb1
  generalize w1.drewN nq = W at *
  clear w1
  go_region_held3 (fun w' => w'.cell? ⟨sp, 0, none⟩ = some (.pointer (ptrA t)) ∧ w'.cell? ⟨w.heap.size, 0, none⟩ = some (.int .i64 n1) ∧ w'.cell? ⟨w.heap.size, 1, none⟩ = some (.string n2) ∧ w'.cell? ⟨w.heap.size, 2, none⟩ = some (.int .i64 n3) ∧ w'.cell? ⟨w.heap.size, 3, none⟩ = some (.int .i64 n4) ∧ w'.cell? ⟨w.heap.size, 4, none⟩ = some (.string n5))
    (first | go_keep | (refine ⟨?_, ?_, ?_, ?_, ?_, ?_⟩ <;> (rw [(bcell hb).1 _ _ (by simp <;> omega)]; go_keep)))
    (first | (go_at_call 74; refine (Hwith.out _ _ (with_fresh Hb2.out (Nat.le_refl _)) (mid_fresh _ _ _)).mono ?_; rintro e w2 ⟨t', rfl, hb, ht, hp⟩) | fail)
  all_goals go_wp2_with fail
  all_goals go_ret2
  all_goals exact with_fin rfl rfl (Hb2.out.trans ((show Below W.heap.size W w2 from ⟨hb.os, hb.tape, hb.output, Nat.le_trans (by simp) hb.size, fun k hk => (hb.block k (by simp; omega)).trans (Below.heap_alloc W.drew _ k hk)⟩).mono (Nat.le_of_lt hltW))) ht hp

/-- The state at sp answers f, and has at most N objects. -/
def BaseN (N : Nat) (B : Nat) (w : World) (sp : Nat) (f : NameT → Option ByteArray) : Prop := ∃ t, StateIn B w sp t ∧ t.sz ≤ N ∧ ∀ n, f n = getL cmpN t.ents n
theorem BaseN.ok {N B : Nat} {w : World} {sp : Nat} {f : NameT → Option ByteArray} (h : BaseN N B w sp f) : BaseOk B w sp f := by
  obtain ⟨t, h1, _, h2⟩ := h; exact ⟨t, h1, h2⟩
theorem BaseN.later {N B : Nat} {w w1 : World} {sp : Nat} {f : NameT → Option ByteArray} (h : BaseN N B w sp f) (hb : Below B w w1) : BaseN N B w1 sp f := by
  obtain ⟨t, h1, h2⟩ := h
  exact ⟨t, h1.later hb, h2⟩
theorem BaseN.up {N B B' : Nat} {w : World} {sp : Nat} {f : NameT → Option ByteArray} (h : BaseN N B w sp f) (hB : B ≤ B') : BaseN N B' w sp f := by
  obtain ⟨t, h1, h2⟩ := h
  exact ⟨t, h1.up hB, h2⟩
theorem baseN_empty (w : World) : BaseN 0 (w.alloc (.cells #[.pointer none] 97)).heap.size (w.alloc (.cells #[.pointer none] 97)) w.heap.size (fun _ => none) :=
  ⟨.nil, ⟨World.alloc_heap_new w _, by simp, trivial, trivial, ⟨trivial, List.Pairwise.nil, fun e he => by simp [Tr.ents] at he, fun e he => by simp [Tr.ents] at he⟩, fun e he => by simp [Tr.ents] at he, Nat.zero_le _⟩, Nat.le_refl _, fun _ => rfl⟩

/-- A state with one more value. -/
def setF (f : NameT → Option ByteArray) (n : NameT) (v : ByteArray) : NameT → Option ByteArray := fun k => if k = n then some v else f k
def SWPost (N : Nat) (w : World) (f : NameT → Option ByteArray) (n : NameT) (v : ByteArray) (r : Ending) (w' : World) : Prop :=
  ∃ sp', r = .returned (.tuple #[.pointer (some ⟨sp', 0, none⟩), .int .i64 0]) ∧ Below w.heap.size w w' ∧ BaseN (N + 1) w'.heap.size w' sp' (setF f n v)
theorem put_vals {t t' : Tree} {n : NameT} {v : ByteArray} (h : ∀ e ∈ t.ents, e.2.size ≤ 65536) (hv : v.size ≤ 65536) (p : Put cmpN t n v t') : ∀ e ∈ t'.ents, e.2.size ≤ 65536 := by
  intro e he
  rw [p.ents] at he
  rcases putL_mem he with rfl | he
  · exact hv
  · exact h e he
theorem baseWith {N B : Nat} {sp : Nat} {f : NameT → Option ByteArray} {n : NameT} {v : ByteArray} {w : World} (hu : Usages w) (hb : BaseN N B w sp f) (hN : N < 60000) (hn : NameOk n) (hv : v.size ≤ 65536) :
    Calls Tryz.prog 43 #[.pointer (some ⟨sp, 0, none⟩), nameV n, .string v] w (SWPost N w f n v) := by
  obtain ⟨t, hs, hz, hf⟩ := hb
  refine (stateWith_ok B sp t n v w hu hs hn hv).mono ?_
  rintro r w' ⟨sp', t', rfl, hb', hp, hc, ht⟩
  refine ⟨sp', rfl, hb', t', ⟨hc, lt_of_heap hc, ht, ht.lt, hs.good.put hn.1 (by omega) hp, put_vals hs.vals hv hp, ?_⟩, ?_, fun k => ?_⟩
  · have := put_sz hp; omega
  · have := put_sz hp; omega
  · rw [hp.ents, get_put cmpN_ok hs.good.sort, setF]
    simp only [cmpN_ok.zero]
    rw [hf k]
end Go.Proofs.YtfchfjipkggnkaaGreatDoor
