/- state: heightOf, sizeOf, bytesOf, join. state: balance. -/
import Derived.Test.YtfchfjipkggnkaaGreatDoorStaF
import Derived.Deep.RegionHeld3
import Derived.StillTailTactics
import Derived.IntWalk
import Derived.Deep.QuietTactic
import Derived.BigQuiet
namespace Go.Proofs.YtfchfjipkggnkaaGreatDoor
open Go.RowKit

theorem heightOf_any (t : Tree) (w : World) (h : TreeAt w t) : Calls Tryz.prog 130 #[ptrV t] w fun e w' => e = .returned (.int .i64 t.ht) ∧ w = w' := by
  cases t with
  | nil =>
    unfold ptrV ptrA
    go_enter Tryz.func130, Tryz.ntmps130
    go_wp2_with fail
    go_ret
    exact ⟨rfl, rfl⟩
  | node p l n v r =>
    have c := cell_of_heap h.1 8
    have c' : w.cell? ⟨p, 8, none⟩ = some (.int .i64 ((Tr.node p l n v r).ht : Nat)) := c
    clear c
    generalize (Tr.node p l n v r).ht = x at *
    unfold ptrV ptrA
    have H := Lib.hid h; clear h
    go_enter Tryz.func130, Tryz.ntmps130
    go_wp2_with fail
    go_ret
    exact ⟨rfl, rfl⟩
theorem sizeOf_any (t : Tree) (w : World) (h : TreeAt w t) : Calls Tryz.prog 113 #[ptrV t] w fun e w' => e = .returned (.int .i64 t.sz) ∧ w = w' := by
  cases t with
  | nil =>
    unfold ptrV ptrA
    go_enter Tryz.func113, Tryz.ntmps113
    go_wp2_with fail
    go_ret
    exact ⟨rfl, rfl⟩
  | node p l n v r =>
    have c := cell_of_heap h.1 9
    have c' : w.cell? ⟨p, 9, none⟩ = some (.int .i64 ((Tr.node p l n v r).sz : Nat)) := c
    clear c
    generalize (Tr.node p l n v r).sz = x at *
    unfold ptrV ptrA
    have H := Lib.hid h; clear h
    go_enter Tryz.func113, Tryz.ntmps113
    go_wp2_with fail
    go_ret
    exact ⟨rfl, rfl⟩
theorem bytesOf_any (t : Tree) (w : World) (h : TreeAt w t) : Calls Tryz.prog 131 #[ptrV t] w fun e w' => e = .returned (.int .i64 t.bys) ∧ w = w' := by
  cases t with
  | nil =>
    unfold ptrV ptrA
    go_enter Tryz.func131, Tryz.ntmps131
    go_wp2_with fail
    go_ret
    exact ⟨rfl, rfl⟩
  | node p l n v r =>
    have c := cell_of_heap h.1 10
    have c' : w.cell? ⟨p, 10, none⟩ = some (.int .i64 ((Tr.node p l n v r).bys : Nat)) := c
    clear c
    generalize (Tr.node p l n v r).bys = x at *
    unfold ptrV ptrA
    have H := Lib.hid h; clear h
    go_enter Tryz.func131, Tryz.ntmps131
    go_wp2_with fail
    go_ret
    exact ⟨rfl, rfl⟩

/-- What join leaves. -/
def JoinPost (w : World) (l : Tree) (n : NameT) (v : ByteArray) (r : Tree) (e : Ending) (w' : World) : Prop := ∃ p, e = .returned (.pointer (some ⟨p, 0, none⟩)) ∧ Below w.heap.size w w' ∧ TreeAt w' (.node p l n v r)

theorem join_fin {l r : Tree} {n : NameT} {v : ByteArray} {w w' : World} {H S B : Int} {e : Ending} {a : Nat}
    (hw : w' = (w.drew.alloc (.cells #[.pointer (ptrA l), .pointer (ptrA r), .int .i64 n.kind, .string n.owner, .int .i64 n.number, .int .i64 n.index, .string n.text, .string v, .int .i64 H, .int .i64 S, .int .i64 B] 129)))
    (hl : TreeAt w l) (hr : TreeAt w r) (he : e = .returned (.pointer (some ⟨a, 0, none⟩))) (ha : a = w.heap.size) (h1 : H = ((Tr.node w.heap.size l n v r).ht : Nat)) (h2 : S = ((Tr.node w.heap.size l n v r).sz : Nat)) (h3 : B = ((Tr.node w.heap.size l n v r).bys : Nat)) : JoinPost w l n v r e w' := by
  subst hw he ha
  have hb : Below w.heap.size w (w.drew.alloc (.cells #[.pointer (ptrA l), .pointer (ptrA r), .int .i64 n.kind, .string n.owner, .int .i64 n.number, .int .i64 n.index, .string n.text, .string v, .int .i64 H, .int .i64 S, .int .i64 B] 129)) := ((Below.refl _ w).drew).alloc (Nat.le_refl _) _
  refine ⟨w.heap.size, rfl, hb, ?_, hl.below hb, hr.below hb⟩
  have := World.alloc_heap_new w.drew (.cells #[.pointer (ptrA l), .pointer (ptrA r), .int .i64 n.kind, .string n.owner, .int .i64 n.number, .int .i64 n.index, .string n.text, .string v, .int .i64 H, .int .i64 S, .int .i64 B] 129)
  rw [h1, h2, h3] at this ⊢
  exact this
set_option maxRecDepth 100000 in
set_option maxHeartbeats 1600000 in
theorem join_any (l r : Tree) (q : Nat) (n : NameT) (v : ByteArray) (w : World) (hl : TreeAt w l) (hr : TreeAt w r) (hm : MidAt w q n v)
    (h1 : l.ht ≤ 100000000) (h2 : r.ht ≤ 100000000) (s1 : l.sz ≤ 100000000) (s2 : r.sz ≤ 100000000) (b1 : l.bys ≤ 100000000000000) (b2 : r.bys ≤ 100000000000000) (hv : v.size ≤ 100000000) :
    Calls Tryz.prog 114 #[ptrV l, .pointer (some ⟨q, 0, none⟩), ptrV r] w (JoinPost w l n v r) := by
  obtain ⟨x0, x1, x8, x9, x10, hq⟩ := hm
  have c2 : w.cell? ⟨q, 2, none⟩ = some (.int .i64 n.kind) := cell_of_heap hq 2
  have c3 : w.cell? ⟨q, 3, none⟩ = some (.string n.owner) := cell_of_heap hq 3
  have c4 : w.cell? ⟨q, 4, none⟩ = some (.int .i64 n.number) := cell_of_heap hq 4
  have c5 : w.cell? ⟨q, 5, none⟩ = some (.int .i64 n.index) := cell_of_heap hq 5
  have c6 : w.cell? ⟨q, 6, none⟩ = some (.string n.text) := cell_of_heap hq 6
  have c7 : w.cell? ⟨q, 7, none⟩ = some (.string v) := cell_of_heap hq 7
  have Hl := Lib.hid hl; clear hl
  have Hr := Lib.hid hr; clear hr
  have Hq := Lib.hid hq; clear hq
  have e3 : IntKind.i64.wrap (1 + ((l.sz : Nat) : Int)) = 1 + ((l.sz : Nat) : Int) := IntWalk.i64_in _ (by omega)
  have e4 : IntKind.i64.wrap (1 + ((l.sz : Nat) : Int) + ((r.sz : Nat) : Int)) = 1 + ((l.sz : Nat) : Int) + ((r.sz : Nat) : Int) := IntWalk.i64_in _ (by omega)
  have e5 : IntKind.i64.wrap (((v.size : Nat) : Int) + ((l.bys : Nat) : Int)) = ((v.size : Nat) : Int) + ((l.bys : Nat) : Int) := IntWalk.i64_in _ (by omega)
  have e6 : IntKind.i64.wrap (((v.size : Nat) : Int) + ((l.bys : Nat) : Int) + ((r.bys : Nat) : Int)) = ((v.size : Nat) : Int) + ((l.bys : Nat) : Int) + ((r.bys : Nat) : Int) := IntWalk.i64_in _ (by omega)
  have E1 : Hid (IntKind.i64.wrap (1 + ((l.ht : Nat) : Int)) = 1 + ((l.ht : Nat) : Int)) := IntWalk.i64_in _ (by omega)
  have E2 : Hid (IntKind.i64.wrap (1 + ((r.ht : Nat) : Int)) = 1 + ((r.ht : Nat) : Int)) := IntWalk.i64_in _ (by omega)
  rcases Nat.lt_or_ge l.ht r.ht with hm | hm
  all_goals
    have hmI := Int.ofNat_le.2 hm
    have hmB : decide (((l.ht : Nat) : Int) < ((r.ht : Nat) : Int)) = decide (l.ht < r.ht) := by simp
    have e1 := E1.out
    have e2 := E2.out
    go_enter Tryz.func114, Tryz.ntmps114
    go_wp2_with fail
    refine wp_region_still_tail 34 (by kernel_rfl) (by kernel_rfl) ?_
    simp only [List.take_succ_cons, List.take_zero, List.drop_succ_cons, List.drop_zero]
    iterate 11 still_step
    still_call ((heightOf_any l { w with drawn := w.drawn + 1 } Hl.out.drew).mono fun _ _ h => ⟨h.1, h.2.symm⟩)
    still_step
    still_call ((heightOf_any r { w with drawn := w.drawn + 1 } Hr.out.drew).mono fun _ _ h => ⟨h.1, h.2.symm⟩)
    iterate 3 still_step
    still_call ((sizeOf_any l { w with drawn := w.drawn + 1 } Hl.out.drew).mono fun _ _ h => ⟨h.1, h.2.symm⟩)
    iterate 2 still_step
    still_call ((sizeOf_any r { w with drawn := w.drawn + 1 } Hr.out.drew).mono fun _ _ h => ⟨h.1, h.2.symm⟩)
    iterate 7 still_step
    still_call ((bytesOf_any l { w with drawn := w.drawn + 1 } Hl.out.drew).mono fun _ _ h => ⟨h.1, h.2.symm⟩)
    iterate 2 still_step
    still_call ((bytesOf_any r { w with drawn := w.drawn + 1 } Hr.out.drew).mono fun _ _ h => ⟨h.1, h.2.symm⟩)
    iterate 2 still_step
    refine wpStill_nil ?_
    change wpList _ _ _ _ _ w.drew
    go_wp2
    go_ret
    exact join_fin rfl Hl.out Hr.out rfl rfl (by simp only [Tr.ht]; omega) (by simp only [Tr.sz]; omega) (by simp only [Tr.bys, Tr.by_]; omega)
end Go.Proofs.YtfchfjipkggnkaaGreatDoor

namespace Go.Proofs.YtfchfjipkggnkaaGreatDoor
open Go.RowKit

/-- What join asks of sizes. -/
structure JB (l r : Tree) (v : ByteArray) : Prop where
  sz : l.sz + r.sz ≤ 100000000
  bys : l.bys + r.bys ≤ 100000000000000
  val : v.size ≤ 100000000
structure JC (l r : Tree) (v : ByteArray) : Prop where
  sz : l.sz + r.sz ≤ 10000000
  bys : l.bys + r.bys ≤ 10000000000000
  val : v.size ≤ 100000000
theorem JC.jb {l r : Tree} {v : ByteArray} (j : JC l r v) : JB l r v := ⟨Nat.le_trans j.sz (by decide), Nat.le_trans j.bys (by decide), j.val⟩
theorem join_jb (l r : Tree) (q : Nat) (n : NameT) (v : ByteArray) (w : World) (hl : TreeAt w l) (hr : TreeAt w r) (hm : MidAt w q n v) (j : JB l r v) :
    Calls Tryz.prog 114 #[.pointer (ptrA l), .pointer (some ⟨q, 0, none⟩), .pointer (ptrA r)] w (JoinPost w l n v r) := by
  have h1 := Tr.ht_sz l
  have h2 := Tr.ht_sz r
  have := j.sz
  have := j.bys
  exact join_any l r q n v w hl hr hm (by omega) (by omega) (by omega) (by omega) (by omega) (by omega) j.val

/-- What balance leaves. -/
def BalPost (w : World) (l : Tree) (n : NameT) (v : ByteArray) (r : Tree) (e : Ending) (w' : World) : Prop := ∃ t, e = .returned (.pointer (ptrA t)) ∧ Below w.heap.size w w' ∧ TreeAt w' t ∧ Bal l n v r t

theorem below_drewN {w w1 : World} {k : Nat} (h : Below (w.drewN k).heap.size (w.drewN k) w1) : Below w.heap.size w w1 := ⟨h.os, h.tape, h.output, h.size, h.block⟩
theorem quiet_add_left {P : Program} {f : FuncId} {args : Array Value} {w : World} {a n : Nat} {v : Value}
    (h : Calls P f args (w.drewN (a + n)) fun e w' => e = .returned v ∧ w.drewN (a + n) = w') :
    Calls P f args (w.drewN (a + n)) fun e w'' => e = .returned v ∧ ∃ m, w'' = w.drewN (a + m) :=
  h.mono fun _ _ ⟨he, hm⟩ => ⟨he, n, hm.symm⟩
theorem below_X {w w1 : World} {k : Nat} (h : Below (w.drewN k).drew.heap.size (w.drewN k).drew w1) : Below w.heap.size w w1 := ⟨h.os, h.tape, h.output, h.size, h.block⟩
set_option maxRecDepth 100000 in
set_option maxHeartbeats 1600000 in
theorem balance_near (l r : Tree) (q : Nat) (n : NameT) (v : ByteArray) (w : World) (hl : TreeAt w l) (hr : TreeAt w r) (hm : MidAt w q n v) (j : JC l r v) (al : l.avl) (ar : r.avl) (h1 : l.ht ≤ r.ht + 1) (h2 : r.ht ≤ l.ht + 1) :
    Calls Tryz.prog 112 #[.pointer (ptrA l), .pointer (some ⟨q, 0, none⟩), .pointer (ptrA r)] w (BalPost w l n v r) := by
  have e1 : IntKind.i64.wrap (((l.ht : Nat) : Int) - ((r.ht : Nat) : Int)) = ((l.ht : Nat) : Int) - ((r.ht : Nat) : Int) := IntWalk.i64_in _ (by omega)
  have d1 : decide (1 < ((l.ht : Nat) : Int) - ((r.ht : Nat) : Int)) = false := by simp; omega
  have d2 : decide (((l.ht : Nat) : Int) - ((r.ht : Nat) : Int) < -1) = false := by simp; omega
  have hc1 := fun (W : World) (h : W.heap = w.heap) => heightOf_any l W (hl.same h)
  have hc2 := fun (W : World) (h : W.heap = w.heap) => heightOf_any r W (hr.same h)
  have Hl := Lib.hid hl; clear hl
  have Hr := Lib.hid hr; clear hr
  have Hm := Lib.hid hm; clear hm
  have H1 := Lib.hid h1; clear h1
  have H2 := Lib.hid h2; clear h2
  have Al := Lib.hid al; clear al
  have Ar := Lib.hid ar; clear ar
  generalize hx : ((l.ht : Nat) : Int) = x at *
  generalize hy : ((r.ht : Nat) : Int) = y at *
  clear hx hy
  go_enter Tryz.func112, Tryz.ntmps112
  go_wp2_with fail
  refine (hc1 _ rfl).mono ?_
  rintro e w1 ⟨rfl, rfl⟩
  go_wp2_with fail
  refine (hc2 _ rfl).mono ?_
  rintro e w1 ⟨rfl, rfl⟩
  go_wp2_with fail
  go_quiet (fail)
  go_wp2_with fail
  go_quiet (fail)
  go_wp2_with fail
  refine (join_jb l r q n v (w.drewN _) (Hl.out.same rfl) (Hr.out.same rfl) (Hm.out.same rfl) j.jb).mono ?_
  rintro e w1 ⟨p, rfl, hb, ht⟩
  go_wp2_with fail
  go_ret
  exact ⟨.node p l n v r, rfl, below_drewN hb, ht, bal_join p n v Al.out Ar.out H1.out H2.out⟩

set_option maxRecDepth 100000 in
set_option maxHeartbeats 3200000 in
theorem balance_ll (b : Nat) (ll : Tree) (m : NameT) (u : ByteArray) (lr r : Tree) (q : Nat) (n : NameT) (v : ByteArray) (w : World) (hl : TreeAt w (.node b ll m u lr)) (hr : TreeAt w r) (hm : MidAt w q n v) (j : JC (.node b ll m u lr) r v) (hu : u.size ≤ 100000000)
    (al : (Tr.node b ll m u lr).avl) (ar : r.avl) (h1 : (Tr.node b ll m u lr).ht = r.ht + 2) (h2 : lr.ht ≤ ll.ht) :
    Calls Tryz.prog 112 #[.pointer (some ⟨b, 0, none⟩), .pointer (some ⟨q, 0, none⟩), .pointer (ptrA r)] w (BalPost w (.node b ll m u lr) n v r) := by
  have hz := Tr.ht_sz (Tr.node b ll m u lr)
  have hz2 := Tr.ht_sz r
  have j1 := j.sz
  have j2 := j.bys
  have hk := h1
  simp only [Tr.ht, Tr.sz, Tr.bys, Tr.by_] at hz hk j1 j2
  have e1 : IntKind.i64.wrap ((((Tr.node b ll m u lr).ht : Nat) : Int) - ((r.ht : Nat) : Int)) = 2 := by rw [h1]; exact (IntWalk.i64_in _ (by omega)).trans (by omega)
  have d3 : decide (((lr.ht : Nat) : Int) ≤ ((ll.ht : Nat) : Int)) = true := by simpa using h2
  have hc1 := fun (W : World) (h : W.heap = w.heap) => heightOf_any (.node b ll m u lr) W (hl.same h)
  have hc2 := fun (W : World) (h : W.heap = w.heap) => heightOf_any r W (hr.same h)
  have hc3 := fun (W : World) (h : W.heap = w.heap) => heightOf_any ll W (hl.2.1.same h)
  have hc4 := fun (W : World) (h : W.heap = w.heap) => heightOf_any lr W (hl.2.2.same h)
  have jb1 : JB lr r v := ⟨by omega, by simp only [Tr.bys]; omega, j.val⟩
  have jb2 : Hid (∀ p, JB ll (.node p lr n v r) u) := fun p => ⟨by simp only [Tr.sz]; omega, by have := j.val; simp only [Tr.bys, Tr.by_]; omega, hu⟩
  have c0 : w.cell? ⟨b, 0, none⟩ = some (.pointer (ptrA ll)) := cell_of_heap hl.1 0
  have c1 : w.cell? ⟨b, 1, none⟩ = some (.pointer (ptrA lr)) := cell_of_heap hl.1 1
  have hfin := fun p p' => bal_ll p p' b m n u v al ar h1 h2
  have Hfin := Lib.hid hfin; clear hfin
  have hlb : b < w.heap.size := lt_of_heap hl.1
  clear hk hz hz2 j1 j2 h1 h2 al ar
  have Hll := Lib.hid hl.2.1
  have Hlr := Lib.hid hl.2.2
  have Hbm := Lib.hid hl.mid; clear hl
  have Hr := Lib.hid hr; clear hr
  have Hm := Lib.hid hm; clear hm
  generalize hx : (((Tr.node b ll m u lr).ht : Nat) : Int) = x at *
  generalize hy : ((r.ht : Nat) : Int) = y at *
  generalize hs : ((ll.ht : Nat) : Int) = s at *
  generalize ht : ((lr.ht : Nat) : Int) = t at *
  clear hx hy hs ht
  have tok : True := trivial
  go_enter Tryz.func112, Tryz.ntmps112
  go_wp2_with fail
  refine (hc1 _ rfl).mono ?_
  rintro e w1 ⟨rfl, rfl⟩
  go_wp2_with fail
  refine (hc2 _ rfl).mono ?_
  rintro e w1 ⟨rfl, rfl⟩
  go_wp2_with fail
  go_quiet ((first | (go_at_call 130; with_reducible exact Calls.quiet_of_same ((hc3 (w.drewN _) rfl).mono fun _ _ h => ⟨h.1, h.2.symm⟩)) | (go_at_call 130; with_reducible exact Calls.quiet_of_same ((hc4 (w.drewN _) rfl).mono fun _ _ h => ⟨h.1, h.2.symm⟩))))
  go_wp2_with fail
  go_region_held3 (fun w' => w'.cell? ⟨b, 0, none⟩ = some (.pointer (ptrA ll)) ∧ w'.cell? ⟨b, 1, none⟩ = some (.pointer (ptrA lr))) (first | go_keep | (refine ⟨?_, ?_⟩ <;> (rw [(bcell hb1).1 _ _ hlb]; go_keep)) | (refine ⟨?_, ?_⟩ <;> (rw [(bcell hb2).1 _ _ (Nat.lt_of_lt_of_le hlb hb1.size), (bcell hb1).1 _ _ hlb]; go_keep)))
    (first
      | (go_at_call 114; have _g := tok; clear _g; refine (join_jb lr r q n v (w.drewN _).drew (Hlr.out.same (w' := (w.drewN _).drew) rfl) (Hr.out.same (w' := (w.drewN _).drew) rfl) (Hm.out.same (w' := (w.drewN _).drew) rfl) jb1).mono ?_; rintro e w1 ⟨p1, rfl, hb1, ht1⟩; clear tok)
      | (go_at_call 114; refine (join_jb ll (.node p1 lr n v r) b m u w1 ((Hll.out.same (w' := (w.drewN _).drew) rfl).below hb1) ht1 ((Hbm.out.same (w' := (w.drewN _).drew) rfl).below hb1) (jb2.out p1)).mono ?_; rintro e w2 ⟨p2, rfl, hb2, ht2⟩)
      | fail)
  all_goals go_wp2_with fail
  all_goals go_ret
  all_goals exact ⟨.node p2 ll m u (.node p1 lr n v r), rfl, (below_X hb1).trans (hb2.mono hb1.size), ht2, Hfin.out p2 p1⟩

set_option maxRecDepth 100000 in
set_option maxHeartbeats 3200000 in
theorem balance_rr (b : Nat) (rl : Tree) (m : NameT) (u : ByteArray) (rr l : Tree) (q : Nat) (n : NameT) (v : ByteArray) (w : World) (hl : TreeAt w l) (hr : TreeAt w (.node b rl m u rr)) (hm : MidAt w q n v) (j : JC l (.node b rl m u rr) v) (hu : u.size ≤ 100000000)
    (al : l.avl) (ar : (Tr.node b rl m u rr).avl) (h1 : (Tr.node b rl m u rr).ht = l.ht + 2) (h2 : rl.ht ≤ rr.ht) :
    Calls Tryz.prog 112 #[.pointer (ptrA l), .pointer (some ⟨q, 0, none⟩), .pointer (some ⟨b, 0, none⟩)] w (BalPost w l n v (.node b rl m u rr)) := by
  have hz := Tr.ht_sz (Tr.node b rl m u rr)
  have hz2 := Tr.ht_sz l
  have j1 := j.sz
  have j2 := j.bys
  have hk := h1
  simp only [Tr.ht, Tr.sz, Tr.bys, Tr.by_] at hz hk j1 j2
  have e1 : IntKind.i64.wrap (((l.ht : Nat) : Int) - (((Tr.node b rl m u rr).ht : Nat) : Int)) = -2 := by rw [h1]; exact (IntWalk.i64_in _ (by omega)).trans (by omega)
  have d3 : decide (((rl.ht : Nat) : Int) ≤ ((rr.ht : Nat) : Int)) = true := by simpa using h2
  have hc1 := fun (W : World) (h : W.heap = w.heap) => heightOf_any l W (hl.same h)
  have hc2 := fun (W : World) (h : W.heap = w.heap) => heightOf_any (.node b rl m u rr) W (hr.same h)
  have hc3 := fun (W : World) (h : W.heap = w.heap) => heightOf_any rr W (hr.2.2.same h)
  have hc4 := fun (W : World) (h : W.heap = w.heap) => heightOf_any rl W (hr.2.1.same h)
  have jb1 : JB l rl v := ⟨by omega, by simp only [Tr.bys]; omega, j.val⟩
  have jb2 : Hid (∀ p, JB (.node p l n v rl) rr u) := fun p => ⟨by simp only [Tr.sz]; omega, by have := j.val; simp only [Tr.bys, Tr.by_]; omega, hu⟩
  have c0 : w.cell? ⟨b, 0, none⟩ = some (.pointer (ptrA rl)) := cell_of_heap hr.1 0
  have c1 : w.cell? ⟨b, 1, none⟩ = some (.pointer (ptrA rr)) := cell_of_heap hr.1 1
  have hfin := fun p p' => bal_rr p p' b m n u v ar al h1 h2
  have Hfin := Lib.hid hfin; clear hfin
  have hlb : b < w.heap.size := lt_of_heap hr.1
  clear hk hz hz2 j1 j2 h1 h2 al ar
  have Hrl := Lib.hid hr.2.1
  have Hrr := Lib.hid hr.2.2
  have Hbm := Lib.hid hr.mid; clear hr
  have Hl := Lib.hid hl; clear hl
  have Hm := Lib.hid hm; clear hm
  generalize hx : ((l.ht : Nat) : Int) = x at *
  generalize hy : (((Tr.node b rl m u rr).ht : Nat) : Int) = y at *
  generalize hs : ((rr.ht : Nat) : Int) = s at *
  generalize ht : ((rl.ht : Nat) : Int) = t at *
  clear hx hy hs ht
  have tok : True := trivial
  go_enter Tryz.func112, Tryz.ntmps112
  go_wp2_with fail
  refine (hc1 _ rfl).mono ?_
  rintro e w1 ⟨rfl, rfl⟩
  go_wp2_with fail
  refine (hc2 _ rfl).mono ?_
  rintro e w1 ⟨rfl, rfl⟩
  go_wp2_with fail
  go_quiet (fail)
  go_wp2_with fail
  go_quiet ((first | (go_at_call 130; with_reducible exact quiet_add_left (hc3 (w.drewN (_ + _)) rfl)) | (go_at_call 130; with_reducible exact quiet_add_left (hc4 (w.drewN (_ + _)) rfl))))
  go_wp2_with fail
  go_region_held3 (fun w' => w'.cell? ⟨b, 0, none⟩ = some (.pointer (ptrA rl)) ∧ w'.cell? ⟨b, 1, none⟩ = some (.pointer (ptrA rr))) (first | go_keep | (refine ⟨?_, ?_⟩ <;> (rw [(bcell hb1).1 _ _ hlb]; go_keep)) | (refine ⟨?_, ?_⟩ <;> (rw [(bcell hb2).1 _ _ (Nat.lt_of_lt_of_le hlb hb1.size), (bcell hb1).1 _ _ hlb]; go_keep)))
    (first
      | (go_at_call 114; have _g := tok; clear _g; refine (join_jb l rl q n v (w.drewN _).drew (Hl.out.same (w' := (w.drewN _).drew) rfl) (Hrl.out.same (w' := (w.drewN _).drew) rfl) (Hm.out.same (w' := (w.drewN _).drew) rfl) jb1).mono ?_; rintro e w1 ⟨p1, rfl, hb1, ht1⟩; clear tok)
      | (go_at_call 114; refine (join_jb (.node p1 l n v rl) rr b m u w1 ht1 ((Hrr.out.same (w' := (w.drewN _).drew) rfl).below hb1) ((Hbm.out.same (w' := (w.drewN _).drew) rfl).below hb1) (jb2.out p1)).mono ?_; rintro e w2 ⟨p2, rfl, hb2, ht2⟩)
      | fail)
  all_goals go_wp2_with fail
  all_goals go_ret
  all_goals exact ⟨.node p2 (.node p1 l n v rl) m u rr, rfl, (below_X hb1).trans (hb2.mono hb1.size), ht2, Hfin.out p2 p1⟩

set_option maxRecDepth 100000 in
set_option maxHeartbeats 3200000 in
theorem balance_lr (b d : Nat) (ll il ir : Tree) (m i : NameT) (u x : ByteArray) (r : Tree) (q : Nat) (n : NameT) (v : ByteArray) (w : World) (hl : TreeAt w (.node b ll m u (.node d il i x ir))) (hr : TreeAt w r) (hm : MidAt w q n v) (j : JC (.node b ll m u (.node d il i x ir)) r v) (hu : u.size ≤ 100000000) (hxs : x.size ≤ 100000000)
    (al : (Tr.node b ll m u (.node d il i x ir)).avl) (ar : r.avl) (h1 : (Tr.node b ll m u (.node d il i x ir)).ht = r.ht + 2) (h2 : ll.ht < (Tr.node d il i x ir).ht) :
    Calls Tryz.prog 112 #[.pointer (some ⟨b, 0, none⟩), .pointer (some ⟨q, 0, none⟩), .pointer (ptrA r)] w (BalPost w (.node b ll m u (.node d il i x ir)) n v r) := by
  have hz := Tr.ht_sz (Tr.node b ll m u (.node d il i x ir))
  have hz2 := Tr.ht_sz (r)
  have j1 := j.sz
  have j2 := j.bys
  have hk := h1
  have hk2 := h2
  simp only [Tr.ht, Tr.sz, Tr.bys, Tr.by_] at hz hk hk2 j1 j2
  have e1 : IntKind.i64.wrap ((((Tr.node b ll m u (.node d il i x ir)).ht : Nat) : Int) - ((r.ht : Nat) : Int)) = 2 := by rw [h1]; exact (IntWalk.i64_in _ (by omega)).trans (by omega)
  have d3 : decide ((((Tr.node d il i x ir).ht : Nat) : Int) ≤ ((ll.ht : Nat) : Int)) = false := by simpa using h2
  have hc1 := fun (W : World) (h : W.heap = w.heap) => heightOf_any (.node b ll m u (.node d il i x ir)) W (hl.same h)
  have hc2 := fun (W : World) (h : W.heap = w.heap) => heightOf_any r W (hr.same h)
  have hc3 := fun (W : World) (h : W.heap = w.heap) => heightOf_any ll W (hl.2.1.same h)
  have hc4 : ∀ (W : World), W.heap = w.heap → Calls Tryz.prog 130 #[.pointer (some ⟨d, 0, none⟩)] W fun e w' => e = .returned (.int .i64 ((Tr.node d il i x ir).ht : Nat)) ∧ W = w' := fun (W : World) (h : W.heap = w.heap) => heightOf_any (.node d il i x ir) W (hl.2.2.same h)
  have jb1 : JB ll il u := ⟨by omega, by simp only [Tr.bys]; omega, hu⟩
  have jb2 : JB ir r v := ⟨by omega, by simp only [Tr.bys]; omega, j.val⟩
  have jb3 : Hid (∀ p p', JB (.node p ll m u il) (.node p' ir n v r) x) := fun p p' => ⟨by simp only [Tr.sz]; omega, by have := j.val; simp only [Tr.bys, Tr.by_]; omega, hxs⟩
  have c1 : w.cell? ⟨b, 0, none⟩ = some (.pointer (ptrA ll)) := cell_of_heap hl.1 0
  have c1' : w.cell? ⟨b, 1, none⟩ = some (.pointer (some ⟨d, 0, none⟩)) := cell_of_heap hl.1 1
  have c2 : w.cell? ⟨d, 0, none⟩ = some (.pointer (ptrA il)) := cell_of_heap hl.2.2.1 0
  have c3 : w.cell? ⟨d, 1, none⟩ = some (.pointer (ptrA ir)) := cell_of_heap hl.2.2.1 1
  have hfin := fun p p' p'' => bal_lr p p' p'' b d m i n u x v al ar h1 h2
  have Hfin := Lib.hid hfin; clear hfin
  have hlb : b < w.heap.size := lt_of_heap hl.1
  have hld : d < w.heap.size := lt_of_heap hl.2.2.1
  clear hk hk2 hz hz2 j1 j2 h1 h2 al ar
  have Hll := Lib.hid hl.2.1
  have Hil := Lib.hid hl.2.2.2.1
  have Hir := Lib.hid hl.2.2.2.2
  have Hdm := Lib.hid hl.2.2.mid
  have Hbm := Lib.hid hl.mid; clear hl
  have Hr := Lib.hid hr; clear hr
  have Hm := Lib.hid hm; clear hm
  generalize hx : (((Tr.node b ll m u (.node d il i x ir)).ht : Nat) : Int) = x1 at *
  generalize hy : ((r.ht : Nat) : Int) = y1 at *
  generalize hs : ((ll.ht : Nat) : Int) = s1 at *
  generalize ht : (((Tr.node d il i x ir).ht : Nat) : Int) = t1 at *
  clear hx hy hs ht
  have tok : True := trivial
  have tok2 : True := trivial
  go_enter Tryz.func112, Tryz.ntmps112
  go_wp2_with fail
  refine (hc1 _ rfl).mono ?_
  rintro e w1 ⟨rfl, rfl⟩
  go_wp2_with fail
  refine (hc2 _ rfl).mono ?_
  rintro e w1 ⟨rfl, rfl⟩
  go_wp2_with fail
  go_quiet ((first | (go_at_call 130; with_reducible exact Calls.quiet_of_same ((hc3 (w.drewN _) rfl).mono fun _ _ h => ⟨h.1, h.2.symm⟩)) | (go_at_call 130; with_reducible exact Calls.quiet_of_same ((hc4 (w.drewN _) rfl).mono fun _ _ h => ⟨h.1, h.2.symm⟩))))
  go_wp2_with fail
  go_region_held3 (fun w' => w'.cell? ⟨b, 0, none⟩ = some (.pointer (ptrA ll)) ∧ w'.cell? ⟨d, 0, none⟩ = some (.pointer (ptrA il)) ∧ w'.cell? ⟨d, 1, none⟩ = some (.pointer (ptrA ir))) (first | go_keep | (refine ⟨?_, ?_, ?_⟩ <;> (first | (rw [(bcell hb1).1 _ _ hlb]; go_keep) | (rw [(bcell hb1).1 _ _ hld]; go_keep))) | (refine ⟨?_, ?_, ?_⟩ <;> (first | (rw [(bcell hb2).1 _ _ (Nat.lt_of_lt_of_le hlb hb1.size), (bcell hb1).1 _ _ hlb]; go_keep) | (rw [(bcell hb2).1 _ _ (Nat.lt_of_lt_of_le hld hb1.size), (bcell hb1).1 _ _ hld]; go_keep))) | (refine ⟨?_, ?_, ?_⟩ <;> (first | (rw [(bcell hb3).1 _ _ (Nat.lt_of_lt_of_le hlb (Nat.le_trans hb1.size hb2.size)), (bcell hb2).1 _ _ (Nat.lt_of_lt_of_le hlb hb1.size), (bcell hb1).1 _ _ hlb]; go_keep) | (rw [(bcell hb3).1 _ _ (Nat.lt_of_lt_of_le hld (Nat.le_trans hb1.size hb2.size)), (bcell hb2).1 _ _ (Nat.lt_of_lt_of_le hld hb1.size), (bcell hb1).1 _ _ hld]; go_keep))))
    (first
      | (go_at_call 114; have _g := tok; clear _g; refine (join_jb ll il b m u (w.drewN _).drew (Hll.out.same (w' := (w.drewN _).drew) rfl) (Hil.out.same (w' := (w.drewN _).drew) rfl) (Hbm.out.same (w' := (w.drewN _).drew) rfl) jb1).mono ?_; rintro e w1 ⟨p1, rfl, hb1, ht1⟩; clear tok)
      | (go_at_call 114; have _g := tok2; clear _g; refine (join_jb ir r q n v w1 ((Hir.out.same (w' := (w.drewN _).drew) rfl).below hb1) ((Hr.out.same (w' := (w.drewN _).drew) rfl).below hb1) ((Hm.out.same (w' := (w.drewN _).drew) rfl).below hb1) jb2).mono ?_; rintro e w2 ⟨p2, rfl, hb2, ht2⟩; clear tok2)
      | (go_at_call 114; refine (join_jb (.node p1 ll m u il) (.node p2 ir n v r) d i x w2 (ht1.below hb2) ht2 (((Hdm.out.same (w' := (w.drewN _).drew) rfl).below hb1).below hb2) (jb3.out p1 p2)).mono ?_; rintro e w3 ⟨p3, rfl, hb3, ht3⟩)
      | fail)
  all_goals go_wp2_with fail
  all_goals go_ret
  all_goals exact ⟨.node p3 (.node p1 ll m u il) i x (.node p2 ir n v r), rfl, ((below_X hb1).trans (hb2.mono hb1.size)).trans (hb3.mono (Nat.le_trans hb1.size hb2.size)), ht3, Hfin.out p3 p1 p2⟩

set_option maxRecDepth 100000 in
set_option maxHeartbeats 3200000 in
theorem balance_rl (b d : Nat) (rr il ir : Tree) (m i : NameT) (u x : ByteArray) (l : Tree) (q : Nat) (n : NameT) (v : ByteArray) (w : World) (hl : TreeAt w l) (hr : TreeAt w (.node b (.node d il i x ir) m u rr)) (hm : MidAt w q n v) (j : JC l (.node b (.node d il i x ir) m u rr) v) (hu : u.size ≤ 100000000) (hxs : x.size ≤ 100000000)
    (al : l.avl) (ar : (Tr.node b (.node d il i x ir) m u rr).avl) (h1 : (Tr.node b (.node d il i x ir) m u rr).ht = l.ht + 2) (h2 : rr.ht < (Tr.node d il i x ir).ht) :
    Calls Tryz.prog 112 #[.pointer (ptrA l), .pointer (some ⟨q, 0, none⟩), .pointer (some ⟨b, 0, none⟩)] w (BalPost w l n v (.node b (.node d il i x ir) m u rr)) := by
  have hz := Tr.ht_sz (Tr.node b (.node d il i x ir) m u rr)
  have hz2 := Tr.ht_sz (l)
  have j1 := j.sz
  have j2 := j.bys
  have hk := h1
  have hk2 := h2
  simp only [Tr.ht, Tr.sz, Tr.bys, Tr.by_] at hz hk hk2 j1 j2
  have e1 : IntKind.i64.wrap (((l.ht : Nat) : Int) - (((Tr.node b (.node d il i x ir) m u rr).ht : Nat) : Int)) = -2 := by rw [h1]; exact (IntWalk.i64_in _ (by omega)).trans (by omega)
  have d3 : decide ((((Tr.node d il i x ir).ht : Nat) : Int) ≤ ((rr.ht : Nat) : Int)) = false := by simpa using h2
  have hc1 := fun (W : World) (h : W.heap = w.heap) => heightOf_any l W (hl.same h)
  have hc2 := fun (W : World) (h : W.heap = w.heap) => heightOf_any (.node b (.node d il i x ir) m u rr) W (hr.same h)
  have hc3 := fun (W : World) (h : W.heap = w.heap) => heightOf_any rr W (hr.2.2.same h)
  have hc4 : ∀ (W : World), W.heap = w.heap → Calls Tryz.prog 130 #[.pointer (some ⟨d, 0, none⟩)] W fun e w' => e = .returned (.int .i64 ((Tr.node d il i x ir).ht : Nat)) ∧ W = w' := fun (W : World) (h : W.heap = w.heap) => heightOf_any (.node d il i x ir) W (hr.2.1.same h)
  have jb1 : JB l il v := ⟨by omega, by simp only [Tr.bys]; omega, j.val⟩
  have jb2 : JB ir rr u := ⟨by omega, by simp only [Tr.bys]; omega, hu⟩
  have jb3 : Hid (∀ p p', JB (.node p l n v il) (.node p' ir m u rr) x) := fun p p' => ⟨by simp only [Tr.sz]; omega, by have := j.val; simp only [Tr.bys, Tr.by_]; omega, hxs⟩
  have c1 : w.cell? ⟨b, 1, none⟩ = some (.pointer (ptrA rr)) := cell_of_heap hr.1 1
  have c1' : w.cell? ⟨b, 0, none⟩ = some (.pointer (some ⟨d, 0, none⟩)) := cell_of_heap hr.1 0
  have c2 : w.cell? ⟨d, 0, none⟩ = some (.pointer (ptrA il)) := cell_of_heap hr.2.1.1 0
  have c3 : w.cell? ⟨d, 1, none⟩ = some (.pointer (ptrA ir)) := cell_of_heap hr.2.1.1 1
  have hfin := fun p p' p'' => bal_rl p p' p'' b d m i n u x v ar al h1 h2
  have Hfin := Lib.hid hfin; clear hfin
  have hlb : b < w.heap.size := lt_of_heap hr.1
  have hld : d < w.heap.size := lt_of_heap hr.2.1.1
  clear hk hk2 hz hz2 j1 j2 h1 h2 al ar
  have Hrr := Lib.hid hr.2.2
  have Hil := Lib.hid hr.2.1.2.1
  have Hir := Lib.hid hr.2.1.2.2
  have Hdm := Lib.hid hr.2.1.mid
  have Hbm := Lib.hid hr.mid; clear hr
  have Hl := Lib.hid hl; clear hl
  have Hm := Lib.hid hm; clear hm
  generalize hx : ((l.ht : Nat) : Int) = x1 at *
  generalize hy : (((Tr.node b (.node d il i x ir) m u rr).ht : Nat) : Int) = y1 at *
  generalize hs : ((rr.ht : Nat) : Int) = s1 at *
  generalize ht : (((Tr.node d il i x ir).ht : Nat) : Int) = t1 at *
  clear hx hy hs ht
  have tok : True := trivial
  have tok2 : True := trivial
  go_enter Tryz.func112, Tryz.ntmps112
  go_wp2_with fail
  refine (hc1 _ rfl).mono ?_
  rintro e w1 ⟨rfl, rfl⟩
  go_wp2_with fail
  refine (hc2 _ rfl).mono ?_
  rintro e w1 ⟨rfl, rfl⟩
  go_wp2_with fail
  go_quiet (fail)
  go_wp2_with fail
  go_quiet ((first | (go_at_call 130; with_reducible exact quiet_add_left (hc3 (w.drewN (_ + _)) rfl)) | (go_at_call 130; with_reducible exact quiet_add_left (hc4 (w.drewN (_ + _)) rfl))))
  go_wp2_with fail
  go_region_held3 (fun w' => w'.cell? ⟨b, 1, none⟩ = some (.pointer (ptrA rr)) ∧ w'.cell? ⟨d, 0, none⟩ = some (.pointer (ptrA il)) ∧ w'.cell? ⟨d, 1, none⟩ = some (.pointer (ptrA ir))) (first | go_keep | (refine ⟨?_, ?_, ?_⟩ <;> (first | (rw [(bcell hb1).1 _ _ hlb]; go_keep) | (rw [(bcell hb1).1 _ _ hld]; go_keep))) | (refine ⟨?_, ?_, ?_⟩ <;> (first | (rw [(bcell hb2).1 _ _ (Nat.lt_of_lt_of_le hlb hb1.size), (bcell hb1).1 _ _ hlb]; go_keep) | (rw [(bcell hb2).1 _ _ (Nat.lt_of_lt_of_le hld hb1.size), (bcell hb1).1 _ _ hld]; go_keep))) | (refine ⟨?_, ?_, ?_⟩ <;> (first | (rw [(bcell hb3).1 _ _ (Nat.lt_of_lt_of_le hlb (Nat.le_trans hb1.size hb2.size)), (bcell hb2).1 _ _ (Nat.lt_of_lt_of_le hlb hb1.size), (bcell hb1).1 _ _ hlb]; go_keep) | (rw [(bcell hb3).1 _ _ (Nat.lt_of_lt_of_le hld (Nat.le_trans hb1.size hb2.size)), (bcell hb2).1 _ _ (Nat.lt_of_lt_of_le hld hb1.size), (bcell hb1).1 _ _ hld]; go_keep))))
    (first
      | (go_at_call 114; have _g := tok; clear _g; refine (join_jb l il q n v (w.drewN _).drew (Hl.out.same (w' := (w.drewN _).drew) rfl) (Hil.out.same (w' := (w.drewN _).drew) rfl) (Hm.out.same (w' := (w.drewN _).drew) rfl) jb1).mono ?_; rintro e w1 ⟨p1, rfl, hb1, ht1⟩; clear tok)
      | (go_at_call 114; have _g := tok2; clear _g; refine (join_jb ir rr b m u w1 ((Hir.out.same (w' := (w.drewN _).drew) rfl).below hb1) ((Hrr.out.same (w' := (w.drewN _).drew) rfl).below hb1) ((Hbm.out.same (w' := (w.drewN _).drew) rfl).below hb1) jb2).mono ?_; rintro e w2 ⟨p2, rfl, hb2, ht2⟩; clear tok2)
      | (go_at_call 114; refine (join_jb (.node p1 l n v il) (.node p2 ir m u rr) d i x w2 (ht1.below hb2) ht2 (((Hdm.out.same (w' := (w.drewN _).drew) rfl).below hb1).below hb2) (jb3.out p1 p2)).mono ?_; rintro e w3 ⟨p3, rfl, hb3, ht3⟩)
      | fail)
  all_goals go_wp2_with fail
  all_goals go_ret
  all_goals exact ⟨.node p3 (.node p1 l n v il) i x (.node p2 ir m u rr), rfl, ((below_X hb1).trans (hb2.mono hb1.size)).trans (hb3.mono (Nat.le_trans hb1.size hb2.size)), ht3, Hfin.out p3 p1 p2⟩
end Go.Proofs.YtfchfjipkggnkaaGreatDoor
