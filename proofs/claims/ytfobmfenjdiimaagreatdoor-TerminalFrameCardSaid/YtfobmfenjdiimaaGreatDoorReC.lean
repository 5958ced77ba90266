/- Reference 36: In, Begin, End, Show. (printed by wip/gen_rea.py) Reference 36: Show, Type. (printed by wip/gen_reb.py) Reference 36: Type. -/
import Derived.Test.YtfobmfenjdiimaaGreatDoorRtC
import Derived.Test.YtfobmfenjdiimaaGreatDoorTqB
import Derived.Test.YtfobmfenjdiimaaGreatDoorKndA
import Derived.Deep.RegionLaw
namespace Go.Proofs.YtfobmfenjdiimaaGreatDoor
open Go.RowKit
attribute [local go_sem ↓] Go.wp_at_zero Go.wp_at_succ

/-- What an operation of the reference leaves: a terminal whose row is the argument's or a new one. -/
def RefPost (w : World) (v : Value) (p : TermT × Nat) (r : Ending) (w' : World) : Prop :=
  ∃ a n c, r = .returned (.tuple #[.agg #[.int .i64 p.1.epoch, .string p.1.session, .slice a n c, .string p.1.screen], .int .i64 p.2]) ∧ RowK kStr w' (.slice a n c) p.1.typed ∧ (∀ k, (Value.slice a n c).ownBlock = some k → v.ownBlock = some k ∨ (w.heap.size ≤ k ∧ k < w'.heap.size)) ∧ Below w.heap.size w w'
theorem ref_same {w w' : World} {a : Option Addr} {n c e : Nat} {ep : Int} {se sc : ByteArray} {ls : List ByteArray} {p : TermT × Nat} (hp : p = (⟨ep, se, ls, sc⟩, e)) (hs : RowK kStr w (.slice a n c) ls) (hb : Below w.heap.size w w') : RefPost w (.slice a n c) p (.returned (.tuple #[.agg #[.int .i64 ep, .string se, .slice a n c, .string sc], .int .i64 e])) w' := by
  subst hp
  exact ⟨a, n, c, rfl, hs.later hb, fun k hk => .inl hk, hb⟩
theorem ref_none {w w' : World} {v : Value} {e : Nat} {ep : Int} {se sc : ByteArray} {p : TermT × Nat} (hp : p = (⟨ep, se, [], sc⟩, e)) (hb : Below w.heap.size w w') : RefPost w v p (.returned (.tuple #[.agg #[.int .i64 ep, .string se, .slice none 0 0, .string sc], .int .i64 e])) w' := by
  subst hp
  exact ⟨none, 0, 0, rfl, RowK.nil _, fun k hk => (by cases hk), hb⟩
theorem below_grow36 {w w1 w2 : World} {R : Nat} (h : Below w.heap.size w w1) (hg : w1.grownBy w2 (some R)) (hR : w.heap.size ≤ R) : Below w.heap.size w w2 := Below.grownRow h hg (Nat.le_refl _) (fun k hk => by cases hk; exact hR)
set_option maxRecDepth 100000 in
set_option maxHeartbeats 1600000 in
theorem in36_any (ep : Int) (se sc : ByteArray) (a : Option Addr) (n c : Nat) (ls : List ByteArray) (e : Int) (w : World) (hs : RowK kStr w (.slice a n c) ls) :
    Calls Tryz.prog 73 #[.agg #[.int .i64 ep, .string se, .slice a n c, .string sc], .int .i64 e] w (fun r w' => RefPost w (.slice a n c) (inT ⟨ep, se, ls, sc⟩ e, 0) (match r with | .returned v => .returned (.tuple #[v, .int .i64 0]) | x => x) w') := by
  have HB : Hid (∀ o1 o2, Below w.heap.size w ((w.alloc o1).alloc o2)) := fun o1 o2 => ((Below.refl _ _).alloc (Nat.le_refl _) o1).alloc (by simp) o2
  by_cases h : ep = e
  · have hp : (inT ⟨ep, se, ls, sc⟩ e, 0) = ((⟨ep, se, ls, sc⟩ : TermT), 0) := by unfold inT; rw [if_pos h]
    subst h
    go_enter Tryz.func73, Tryz.ntmps73
    go_wp2
    refine bodyPost_ret (v := .agg #[.int .i64 ep, .string se, .slice a n c, .string sc]) (by simp [results, Tryz.results73, go_sem]) rfl ?_
    refine ref_same hp hs ?_
    first | exact HB.out _ _ | exact below_grow36 (HB.out _ _) (grown_set4 _ _ _ _ _ _) (by first | exact Nat.le_refl _ | omega)
  · have hp : (inT ⟨ep, se, ls, sc⟩ e, 0) = ((⟨e, ⟨#[]⟩, [], ⟨#[]⟩⟩ : TermT), 0) := by unfold inT; rw [if_neg h]; rfl
    have hx : (ep == e) = false := beq_eq_false_iff_ne.2 h
    go_enter Tryz.func73, Tryz.ntmps73
    go_wp2
    refine bodyPost_ret (v := .agg #[.int .i64 e, .string ⟨#[]⟩, .slice none 0 0, .string ⟨#[]⟩]) (by simp [results, Tryz.results73, go_sem]) rfl ?_
    refine ref_none hp ?_
    first | exact HB.out _ _ | exact below_grow36 (HB.out _ _) (grown_set4 _ _ _ _ _ _) (by first | exact Nat.le_refl _ | omega)
set_option maxRecDepth 100000 in
set_option maxHeartbeats 1600000 in
theorem end36_any (ep : Int) (se sc : ByteArray) (a : Option Addr) (n c : Nat) (ls : List ByteArray) (l : ByteArray) (w : World) (hs : RowK kStr w (.slice a n c) ls) :
    Calls Tryz.prog 75 #[.agg #[.int .i64 ep, .string se, .slice a n c, .string sc], .string l] w (RefPost w (.slice a n c) (opEnd l ⟨ep, se, ls, sc⟩)) := by
  have HB : Hid (∀ o1 o2, Below w.heap.size w ((w.alloc o1).alloc o2)) := fun o1 o2 => ((Below.refl _ _).alloc (Nat.le_refl _) o1).alloc (by simp) o2
  by_cases h0 : l.size = 0
  · have hp : opEnd l ⟨ep, se, ls, sc⟩ = (⟨ep, se, ls, sc⟩, 10) := if_pos (.inl h0)
    have he := empty_of h0
    clear h0
    go_enter Tryz.func75, Tryz.ntmps75
    go_wp2
    refine bodyPost_ret (v := .tuple #[.agg #[.int .i64 ep, .string se, .slice a n c, .string sc], .int .i64 10]) (by simp [results, Tryz.results75, go_sem]) rfl ?_
    refine ref_same hp hs ?_
    first | exact HB.out _ _ | exact below_grow36 (HB.out _ _) (grown_set4 _ _ _ _ _ _) (by first | exact Nat.le_refl _ | omega)
  have he := nonempty_of h0
  by_cases h1 : se = l
  · have hp : opEnd l ⟨ep, se, ls, sc⟩ = (⟨ep, ⟨#[]⟩, [], sc⟩, 0) := if_neg (fun h => h.elim h0 (fun h => h h1))
    subst h1
    have hx : (se.toList != se.toList) = false := by simp
    clear h0
    go_enter Tryz.func75, Tryz.ntmps75
    go_wp2
    refine bodyPost_ret (v := .tuple #[.agg #[.int .i64 ep, .string ⟨#[]⟩, .slice none 0 0, .string sc], .int .i64 0]) (by simp [results, Tryz.results75, go_sem]) rfl ?_
    refine ref_none hp ?_
    first | exact HB.out _ _ | exact below_grow36 (HB.out _ _) (grown_set4 _ _ _ _ _ _) (by first | exact Nat.le_refl _ | omega)
  · have hp : opEnd l ⟨ep, se, ls, sc⟩ = (⟨ep, se, ls, sc⟩, 10) := if_pos (.inr h1)
    have hx : (se.toList == l.toList) = false := by rw [str_beq]; exact decide_eq_false h1
    clear h0 h1
    go_enter Tryz.func75, Tryz.ntmps75
    go_wp2
    refine bodyPost_ret (v := .tuple #[.agg #[.int .i64 ep, .string se, .slice a n c, .string sc], .int .i64 10]) (by simp [results, Tryz.results75, go_sem]) rfl ?_
    refine ref_same hp hs ?_
    first | exact HB.out _ _ | exact below_grow36 (HB.out _ _) (grown_set4 _ _ _ _ _ _) (by first | exact Nat.le_refl _ | omega)
set_option maxRecDepth 100000 in
set_option maxHeartbeats 1600000 in
theorem begin36_any (ep : Int) (se sc : ByteArray) (a : Option Addr) (n c : Nat) (ls : List ByteArray) (l : ByteArray) (w : World) (hs : RowK kStr w (.slice a n c) ls) (hl : l.size ≤ 70368744177664) :
    Calls Tryz.prog 74 #[.agg #[.int .i64 ep, .string se, .slice a n c, .string sc], .string l] w (RefPost w (.slice a n c) (opBegin l ⟨ep, se, ls, sc⟩)) := by
  have HB : Hid (∀ o1 o2, Below w.heap.size w ((w.alloc o1).alloc o2)) := fun o1 o2 => ((Below.refl _ _).alloc (Nat.le_refl _) o1).alloc (by simp) o2
  by_cases h0 : l.size = 0
  · have hp : opBegin l ⟨ep, se, ls, sc⟩ = (⟨ep, se, ls, sc⟩, 12) := if_pos (.inl h0)
    have he := empty_of h0
    clear h0
    go_enter Tryz.func74, Tryz.ntmps74
    go_wp2
    refine bodyPost_ret (v := .tuple #[.agg #[.int .i64 ep, .string se, .slice a n c, .string sc], .int .i64 12]) (by simp [results, Tryz.results74, go_sem]) rfl ?_
    refine ref_same hp hs ?_
    first | exact HB.out _ _ | exact below_grow36 (HB.out _ _) (grown_set4 _ _ _ _ _ _) (by first | exact Nat.le_refl _ | omega)
  have he := nonempty_of h0
  have HX : Hid (∀ o1 o2 : Obj, ((w.alloc o1).alloc o2).heap[w.heap.size]? = some o1 ∧ ((w.alloc o1).alloc o2).heap[w.heap.size + 1]? = some o2) := fun o1 o2 => ⟨(Below.heap_alloc _ _ _ (by simp)).trans (World.alloc_heap_new w _), by have := World.alloc_heap_new (w.alloc o1) o2; rw [World.size_alloc] at this; exact this⟩
  have HS := Lib.hid hs
  clear hs
  cases hv : validB l
  case false =>
    have hp : opBegin l ⟨ep, se, ls, sc⟩ = (⟨ep, se, ls, sc⟩, 12) := if_pos (.inr hv)
    go_enter Tryz.func74, Tryz.ntmps74
    go_wp2_with fail
    refine (rValid_is l _ hv hl _).mono ?_
    rintro r w1 ⟨rfl, hb⟩
    have HB1 : Hid (Below w.heap.size w w1) := (HB.out _ _).trans (hb.mono (HB.out _ _).size)
    have hX1 := (hb.block _ (lt_of_heap (HX.out _ _).1)).trans (HX.out _ _).1
    have hX2 := (hb.block _ (lt_of_heap (HX.out _ _).2)).trans (HX.out _ _).2
    have t0 : w1.cell? ⟨w.heap.size, 0, none⟩ = some (.int .i64 ep) := cell_of_heap hX1 0
    have t1 : w1.cell? ⟨w.heap.size, 1, none⟩ = some (.string se) := cell_of_heap hX1 1
    have t2 : w1.cell? ⟨w.heap.size, 2, none⟩ = some (.slice a n c) := cell_of_heap hX1 2
    have t3 : w1.cell? ⟨w.heap.size, 3, none⟩ = some (.string sc) := cell_of_heap hX1 3
    have r0 : w1.cell? ⟨w.heap.size + 1, 0, none⟩ = some (.int .i64 0) := cell_of_heap hX2 0
    have r1 : w1.cell? ⟨w.heap.size + 1, 1, none⟩ = some (.string ⟨#[]⟩) := cell_of_heap hX2 1
    have r2 : w1.cell? ⟨w.heap.size + 1, 2, none⟩ = some (.slice none 0 0) := cell_of_heap hX2 2
    have r3 : w1.cell? ⟨w.heap.size + 1, 3, none⟩ = some (.string ⟨#[]⟩) := cell_of_heap hX2 3
    have g0 := frozen_of_heap hX2 0
    have g1 := frozen_of_heap hX2 1
    have g2 := frozen_of_heap hX2 2
    have g3 := frozen_of_heap hX2 3
    clear hb hX1 hX2 HX HB
    go_wp2
    refine bodyPost_ret (v := .tuple #[.agg #[.int .i64 ep, .string se, .slice a n c, .string sc], .int .i64 12]) (by simp [results, Tryz.results74, go_sem, r0, r1, r2, r3]) rfl ?_
    refine ref_same hp HS.out ?_
    exact below_grow36 HB1.out (grown_set4 _ _ _ _ _ _) (by omega)
  case true =>
    go_enter Tryz.func74, Tryz.ntmps74
    go_wp2_with fail
    refine (rValid_is l _ hv hl _).mono ?_
    rintro r w1 ⟨rfl, hb⟩
    have HB1 : Hid (Below w.heap.size w w1) := (HB.out _ _).trans (hb.mono (HB.out _ _).size)
    have hX1 := (hb.block _ (lt_of_heap (HX.out _ _).1)).trans (HX.out _ _).1
    have hX2 := (hb.block _ (lt_of_heap (HX.out _ _).2)).trans (HX.out _ _).2
    have t0 : w1.cell? ⟨w.heap.size, 0, none⟩ = some (.int .i64 ep) := cell_of_heap hX1 0
    have t1 : w1.cell? ⟨w.heap.size, 1, none⟩ = some (.string se) := cell_of_heap hX1 1
    have t2 : w1.cell? ⟨w.heap.size, 2, none⟩ = some (.slice a n c) := cell_of_heap hX1 2
    have t3 : w1.cell? ⟨w.heap.size, 3, none⟩ = some (.string sc) := cell_of_heap hX1 3
    have r0 : w1.cell? ⟨w.heap.size + 1, 0, none⟩ = some (.int .i64 0) := cell_of_heap hX2 0
    have r1 : w1.cell? ⟨w.heap.size + 1, 1, none⟩ = some (.string ⟨#[]⟩) := cell_of_heap hX2 1
    have r2 : w1.cell? ⟨w.heap.size + 1, 2, none⟩ = some (.slice none 0 0) := cell_of_heap hX2 2
    have r3 : w1.cell? ⟨w.heap.size + 1, 3, none⟩ = some (.string ⟨#[]⟩) := cell_of_heap hX2 3
    have g0 := frozen_of_heap hX2 0
    have g1 := frozen_of_heap hX2 1
    have g2 := frozen_of_heap hX2 2
    have g3 := frozen_of_heap hX2 3
    clear hb hX1 hX2 HX HB
    by_cases h1 : se.size ≠ 0
    · have hp : opBegin l ⟨ep, se, ls, sc⟩ = (⟨ep, se, ls, sc⟩, 19) := by unfold opBegin; rw [if_neg (by rw [hv]; exact fun h => h.elim h0 (fun h => nomatch h)), if_pos h1]
      have he1 := nonempty_of h1
      clear h0 h1
      go_wp2
      refine bodyPost_ret (v := .tuple #[.agg #[.int .i64 ep, .string se, .slice a n c, .string sc], .int .i64 19]) (by simp [results, Tryz.results74, go_sem, r0, r1, r2, r3]) rfl ?_
      refine ref_same hp HS.out ?_
      exact below_grow36 HB1.out (grown_set4 _ _ _ _ _ _) (by omega)
    · have h1 : se.size = 0 := by omega
      have hp : opBegin l ⟨ep, se, ls, sc⟩ = (⟨ep, l, [], ⟨#[]⟩⟩, 0) := by unfold opBegin; rw [if_neg (by rw [hv]; exact fun h => h.elim h0 (fun h => nomatch h)), if_neg (by omega)]
      have he1 := empty_of h1
      clear h0 h1
      go_wp2
      refine bodyPost_ret (v := .tuple #[.agg #[.int .i64 ep, .string l, .slice none 0 0, .string ⟨#[]⟩], .int .i64 0]) (by simp [results, Tryz.results74, go_sem, r0, r1, r2, r3]) rfl ?_
      refine ref_none hp ?_
      exact below_grow36 HB1.out (grown_set4 _ _ _ _ _ _) (by omega)
end Go.Proofs.YtfobmfenjdiimaaGreatDoor

namespace Go.Proofs.YtfobmfenjdiimaaGreatDoor
open Go.RowKit
attribute [local go_sem ↓] Go.wp_at_zero Go.wp_at_succ

set_option maxRecDepth 100000 in
set_option maxHeartbeats 1600000 in
theorem show36_any (ep : Int) (se sc : ByteArray) (a : Option Addr) (n c : Nat) (ls : List ByteArray) (l : ByteArray) (w : World) (hs : RowK kStr w (.slice a n c) ls) (hl : l.size ≤ 70368744177664) (hsc : sc.size ≤ 70368744177664) :
    Calls Tryz.prog 78 #[.agg #[.int .i64 ep, .string se, .slice a n c, .string sc], .string l] w (RefPost w (.slice a n c) (opShow l ⟨ep, se, ls, sc⟩)) := by
  have HB : Hid (∀ o1 o2, Below w.heap.size w ((w.alloc o1).alloc o2)) := fun o1 o2 => ((Below.refl _ _).alloc (Nat.le_refl _) o1).alloc (by simp) o2
  by_cases h0 : 65536 < l.size
  · have hp : opShow l ⟨ep, se, ls, sc⟩ = (⟨ep, se, ls, sc⟩, 5) := if_pos h0
    go_enter Tryz.func78, Tryz.ntmps78
    go_wp2
    refine bodyPost_ret (v := .tuple #[.agg #[.int .i64 ep, .string se, .slice a n c, .string sc], .int .i64 5]) (by simp [results, Tryz.results78, go_sem]) rfl ?_
    refine ref_same hp hs ?_
    first | exact HB.out _ _ | exact below_grow36 (HB.out _ _) (grown_set4 _ _ _ _ _ _) (by first | exact Nat.le_refl _ | omega)
  · by_cases h1 : 2048 < sc.size + l.size
    · have he : showS sc l = (sc ++ l).extract (sc.size + l.size - 2048) (sc.size + l.size) := by unfold showS; rw [ByteArray.size_append, if_pos h1]
      have hp : opShow l ⟨ep, se, ls, sc⟩ = (⟨ep, se, ls, (sc ++ l).extract (sc.size + l.size - 2048) (sc.size + l.size)⟩, 0) := by unfold opShow; rw [if_neg h0, he]
      go_enter Tryz.func78, Tryz.ntmps78
      go_wp2
      refine bodyPost_ret (v := .tuple #[.agg #[.int .i64 ep, .string se, .slice a n c, .string ((sc ++ l).extract (sc.size + l.size - 2048) (sc.size + l.size))], .int .i64 0]) (by simp [results, Tryz.results78, go_sem]) rfl ?_
      refine ref_same hp hs ?_
      first | exact HB.out _ _ | exact below_grow36 (HB.out _ _) (grown_set4 _ _ _ _ _ _) (by first | exact Nat.le_refl _ | omega)
    · have he : showS sc l = sc ++ l := by unfold showS; rw [ByteArray.size_append, if_neg h1]
      have hp : opShow l ⟨ep, se, ls, sc⟩ = (⟨ep, se, ls, sc ++ l⟩, 0) := by unfold opShow; rw [if_neg h0, he]
      have hex : (sc ++ l).extract 0 (sc.size + l.size) = sc ++ l := by
        have h2 := strOf_left (sc.data.toList ++ l.data.toList) []
        rw [List.append_nil, List.length_append, size_toList, size_toList] at h2
        have h3 : strOf (sc.data.toList ++ l.data.toList) = sc ++ l := by
          unfold strOf
          apply ByteArray.ext
          apply Array.toList_inj.1
          simp
        rwa [h3] at h2
      go_enter Tryz.func78, Tryz.ntmps78
      go_wp2
      refine bodyPost_ret (v := .tuple #[.agg #[.int .i64 ep, .string se, .slice a n c, .string (sc ++ l)], .int .i64 0]) (by simp [results, Tryz.results78, go_sem]) rfl ?_
      refine ref_same hp hs ?_
      first | exact HB.out _ _ | exact below_grow36 (HB.out _ _) (grown_set4 _ _ _ _ _ _) (by first | exact Nat.le_refl _ | omega)
end Go.Proofs.YtfobmfenjdiimaaGreatDoor

namespace Go.Proofs.YtfobmfenjdiimaaGreatDoor
open Go.RowKit
attribute [local go_sem ↓] Go.wp_at_zero Go.wp_at_succ

theorem RowK.ssl {w : World} {a : Option Addr} {n c : Nat} {ls : List ByteArray} (h : RowK kStr w (.slice a n c) ls) : SSl w a n ls := by
  rcases h with ⟨e, rfl⟩ | ⟨g, off, c', e, hc, h⟩
  · cases e
    exact ⟨rfl, fun h => absurd h (Nat.lt_irrefl _)⟩
  · cases e
    refine ⟨rfl, fun _ => ⟨g, off, rfl, fun j hj => ?_⟩⟩
    have hx : ls[j]? = some ls[j] := List.getElem?_eq_getElem hj
    have h1 := h j _ hx 0 (.string ls[j]) rfl
    rw [List.getD_eq_getElem?_getD, hx]
    have e : off + j * kStr.S + 0 = off + j := by show off + j * 1 + 0 = _; omega
    rw [e] at h1
    exact h1
set_option maxRecDepth 100000 in
set_option maxHeartbeats 3200000 in
theorem type36_any (ep : Int) (se sc : ByteArray) (a : Option Addr) (n c : Nat) (ls : List ByteArray) (l : ByteArray) (w : World) (hs : RowK kStr w (.slice a n c) ls) (hl : l.size ≤ 35184372088832) (hsc : sc.size ≤ 35184372088832) (hn : n ≤ 100000) :
    Calls Tryz.prog 76 #[.agg #[.int .i64 ep, .string se, .slice a n c, .string sc], .string l] w (RefPost w (.slice a n c) (opAdd l ⟨ep, se, ls, sc⟩)) := by
  have HB : Hid (∀ o1 o2, Below w.heap.size w ((w.alloc o1).alloc o2)) := fun o1 o2 => ((Below.refl _ _).alloc (Nat.le_refl _) o1).alloc (by simp) o2
  have HBd : Hid (∀ o1 o2, Below w.heap.size w ((w.alloc o1).alloc o2).drew) := fun o1 o2 => (HB.out o1 o2).drew
  have hl' : l.size ≤ 9223372036854775807 := by omega
  by_cases h0 : lineE l ≠ 0
  · have hp : opAdd l ⟨ep, se, ls, sc⟩ = (⟨ep, se, ls, sc⟩, lineE l) := if_pos h0
    generalize hq : lineE l = q at *
    have Hq := Lib.hid hq
    clear hq
    have hx : ((q : Int) != 0) = true := bne_iff_ne.2 (by omega)
    clear h0
    go_enter Tryz.func76, Tryz.ntmps76
    go_wp2_with fail
    refine (rLine_is l q Hq.out _ hl').mono ?_
    rintro r w1 ⟨rfl, rfl⟩
    go_wp2_with fail
    go_region_with (first
      | (go_at_call 102; refine (rLine_is l q Hq.out _ hl').mono ?_; rintro r w2 ⟨rfl, rfl⟩)
      | fail)
    all_goals
      go_wp2
      refine bodyPost_ret (v := .tuple #[.agg #[.int .i64 ep, .string se, .slice a n c, .string sc], .int .i64 q]) (by simp [results, Tryz.results76, go_sem]) rfl ?_
      refine ref_same hp hs ?_
      first | exact HBd.out _ _ | exact (HB.out _ _) | exact below_grow36 (HBd.out _ _) (grown_set4 _ _ _ _ _ _) (by first | exact Nat.le_refl _ | omega) | exact (below_grow36 (HB.out _ _) (grown_set4 _ _ _ _ _ _) (by first | exact Nat.le_refl _ | omega)).drew
  have h0' : lineE l = 0 := by omega
  by_cases h1 : se.size = 0
  · have hp : opAdd l ⟨ep, se, ls, sc⟩ = (⟨ep, se, ls, sc⟩, 10) := by unfold opAdd; rw [if_neg h0, if_pos h1]
    have he := empty_of h1
    clear h1 h0
    go_enter Tryz.func76, Tryz.ntmps76
    go_wp2_with fail
    refine (rLine_is l 0 h0' _ hl').mono ?_
    rintro r w1 ⟨rfl, rfl⟩
    go_wp2
    refine bodyPost_ret (v := .tuple #[.agg #[.int .i64 ep, .string se, .slice a n c, .string sc], .int .i64 10]) (by simp [results, Tryz.results76, go_sem]) rfl ?_
    refine ref_same hp hs ?_
    first | exact HB.out _ _ | exact below_grow36 (HB.out _ _) (grown_set4 _ _ _ _ _ _) (by first | exact Nat.le_refl _ | omega)
  have he := nonempty_of h1
  have hnl : ls.length = n := hs.len
  by_cases h2 : 16 ≤ n
  · have hp : opAdd l ⟨ep, se, ls, sc⟩ = (⟨ep, se, ls, sc⟩, 9) := by unfold opAdd; rw [if_neg h0, if_neg h1, if_pos (by rw [← hnl] at h2; exact h2)]
    clear h1 h0
    go_enter Tryz.func76, Tryz.ntmps76
    go_wp2_with fail
    refine (rLine_is l 0 h0' _ hl').mono ?_
    rintro r w1 ⟨rfl, rfl⟩
    go_wp2
    refine bodyPost_ret (v := .tuple #[.agg #[.int .i64 ep, .string se, .slice a n c, .string sc], .int .i64 9]) (by simp [results, Tryz.results76, go_sem]) rfl ?_
    refine ref_same hp hs ?_
    first | exact HB.out _ _ | exact below_grow36 (HB.out _ _) (grown_set4 _ _ _ _ _ _) (by first | exact Nat.le_refl _ | omega)
  have hp : opAdd l ⟨ep, se, ls, sc⟩ = opShow (l ++ ⟨#[10]⟩) ⟨ep, se, ls ++ [l], sc⟩ := by
    have hsz : ¬ 65536 < (l ++ ⟨#[10]⟩ : ByteArray).size := by
      have := lineE_size h0'
      rw [ByteArray.size_append]
      show ¬ 65536 < l.size + 1
      omega
    unfold opAdd opShow
    rw [if_neg h0, if_neg h1, if_neg (by rw [← hnl] at h2; exact h2), if_neg hsz]
  have Hp := Lib.hid hp
  have HS := Lib.hid hs
  have Hnl := Lib.hid hnl
  have HX : Hid (∀ o1 o2 : Obj, ((w.alloc o1).alloc o2).heap[w.heap.size]? = some o1 ∧ ((w.alloc o1).alloc o2).heap[w.heap.size + 1]? = some o2) := fun o1 o2 => ⟨(Below.heap_alloc _ _ _ (by simp)).trans (World.alloc_heap_new w _), by have := World.alloc_heap_new (w.alloc o1) o2; rw [World.size_alloc] at this; exact this⟩
  clear h0 h1 hp hs hnl
  go_enter Tryz.func76, Tryz.ntmps76
  go_wp2_with fail
  refine (rLine_is l 0 h0' _ hl').mono ?_
  rintro r w1 ⟨rfl, hw1⟩
  have hX1 := (HX.out (.cells #[.int .i64 ep, .string se, .slice a n c, .string sc] 42) (.cells #[.int .i64 0, .string ⟨#[]⟩, .slice none 0 0, .string ⟨#[]⟩] 42)).1
  have hX2 := (HX.out (.cells #[.int .i64 ep, .string se, .slice a n c, .string sc] 42) (.cells #[.int .i64 0, .string ⟨#[]⟩, .slice none 0 0, .string ⟨#[]⟩] 42)).2
  have HB1 := Lib.hid (HB.out (.cells #[.int .i64 ep, .string se, .slice a n c, .string sc] 42) (.cells #[.int .i64 0, .string ⟨#[]⟩, .slice none 0 0, .string ⟨#[]⟩] 42))
  subst hw1
  generalize (w.alloc (.cells #[.int .i64 ep, .string se, .slice a n c, .string sc] 42)).alloc (.cells #[.int .i64 0, .string ⟨#[]⟩, .slice none 0 0, .string ⟨#[]⟩] 42) = w1 at *
  have HX1 := Lib.hid hX1
  have HX2 := Lib.hid hX2
  have t0 : w1.cell? ⟨w.heap.size, 0, none⟩ = some (.int .i64 ep) := cell_of_heap hX1 0
  have t1 : w1.cell? ⟨w.heap.size, 1, none⟩ = some (.string se) := cell_of_heap hX1 1
  have t2 : w1.cell? ⟨w.heap.size, 2, none⟩ = some (.slice a n c) := cell_of_heap hX1 2
  have t3 : w1.cell? ⟨w.heap.size, 3, none⟩ = some (.string sc) := cell_of_heap hX1 3
  have hlt := lt_of_heap hX2
  have hne2 := World.new_ne w1 ⟨w.heap.size, 2, none⟩ t2
  have hlt0 : w.heap.size < w1.heap.size := by omega
  clear hX1 hX2 HX HB HBd
  have Hhl : Hid (l.size ≤ 35184372088832) := hl
  have Hhn : Hid (n ≤ 100000) := hn
  have HB1a : Hid (∀ o, Below w1.heap.size w1 (w1.alloc o)) := fun o => (Below.refl _ _).alloc (Nat.le_refl _) o
  have HX1a : Hid (∀ o, (w1.alloc o).heap[w1.heap.size]? = some o) := fun o => heap_alloc_new w1 o
  have HC1 : Hid (∀ W, Below w1.heap.size w1 W → W.heap[w.heap.size]? = some (.cells #[.int .i64 ep, .string se, .slice a n c, .string sc] 42 (0, 0)) ∧ W.heap[w.heap.size + 1]? = some (.cells #[.int .i64 0, .string ⟨#[]⟩, .slice none 0 0, .string ⟨#[]⟩] 42 (0, 0))) := fun W hW => ⟨(hW.block _ hlt0).trans HX1.out, (hW.block _ hlt).trans HX2.out⟩
  have Hsc : Hid (sc.size ≤ 35184372088832) := hsc
  have HLl : Hid (ls.length + 1 ≤ 1000000) := by show _ ≤ _; have := Hnl.out; have := Hhn.out; omega
  have Hll : Hid ((ls ++ [l]).length = ls.length + 1) := by show _ = _; simp
  clear t0 t3
  go_wp2_with (first
    | (at_builtin; refine wpList_append_K (K := kStr) rfl _ _ rfl (w1.heap.size) (.slice (some ⟨w1.heap.size, 0, none⟩) 0 0) [] rfl (OwnK.empty (HX1a.out _) (Nat.le_refl _)) (.slice a n c) ls rfl (HS.out.later (HB1.out.trans ((HB1a.out _).mono HB1.out.size))) (by have := HLl.out; show 0 + ls.length ≤ 1000000; omega) (by simp) ?_; intro v2 w2 o2 g2 l2; have HB2 : Hid (Below w1.heap.size w1 w2) := OwnK.below (K := kStr) (OwnK.empty (HX1a.out _) (Nat.le_refl _)) g2 (HB1a.out _) (Nat.le_refl _); obtain ⟨a2, c2, e2, -⟩ := o2.row.form; subst e2; rw [List.nil_append] at o2; have O2 := Lib.hid o2; have HB2a : Hid (∀ o, Below w1.heap.size w1 (w2.alloc o)) := fun o => HB2.out.alloc HB2.out.size o; have hsz2 : w1.heap.size ≤ w2.heap.size := HB2.out.size; rw [List.nil_append]; clear o2 g2 l2 t1 t2 hne2)
    | (at_builtin; refine wpList_append_K (K := kStr) rfl _ _ rfl (w1.heap.size) (.slice a2 ls.length c2) ls rfl (OwnK.later O2.out ((Below.refl _ _).alloc (Nat.le_refl _) _)) (.slice (some ⟨w2.heap.size, 0, none⟩) 1 1) [l] rfl (RowK.one (K := kStr) (heap_alloc_new w2 _) rfl) HLl.out (HB2a.out _).size ?_; intro v3 w3 o3 g3 l3; have HB3 : Hid (Below w1.heap.size w1 w3) := OwnK.below (K := kStr) (OwnK.later O2.out ((Below.refl _ _).alloc (Nat.le_refl _) _)) g3 (HB2a.out _) (Nat.le_refl _); obtain ⟨a3, c3, e3, -⟩ := o3.row.form; rw [Hll.out] at e3; subst e3; have O3 := Lib.hid o3; obtain ⟨hc1, hc2⟩ := HC1.out _ HB3.out; have y0 : w3.cell? ⟨w.heap.size, 0, none⟩ = some (.int .i64 ep) := cell_of_heap hc1 0; have y1 : w3.cell? ⟨w.heap.size, 1, none⟩ = some (.string se) := cell_of_heap hc1 1; have y2 : w3.cell? ⟨w.heap.size, 2, none⟩ = some (.slice a n c) := cell_of_heap hc1 2; have y3 : w3.cell? ⟨w.heap.size, 3, none⟩ = some (.string sc) := cell_of_heap hc1 3; have yf := frozen_of_heap hc1 2; clear o3 g3 l3 hc1 hc2))
  have HR4 : Hid (RowK kStr (w3.setCell ⟨w.heap.size, 2, none⟩ (.slice a3 (ls.length + 1) c3)) (.slice a3 (ls.length + 1) c3) (ls ++ [l])) := O3.out.row.grown (grown_setCell _ _ _ _) (fun k hk e => by have h1 := (World.ownsRow.lt O3.out k hk).1; cases e; omega)
  have HB4 : Hid (Below w.heap.size w (w3.setCell ⟨w.heap.size, 2, none⟩ (.slice a3 (ls.length + 1) c3))) := (HB1.out.trans (HB3.out.mono HB1.out.size)).setCell (p := ⟨w.heap.size, 2, none⟩) (Nat.le_refl _) _
  have HX4 : Hid ((w3.setCell ⟨w.heap.size, 2, none⟩ (.slice a3 (ls.length + 1) c3)).heap[w.heap.size + 1]? = some (.cells #[.int .i64 0, .string ⟨#[]⟩, .slice none 0 0, .string ⟨#[]⟩] 42 (0, 0))) := (Below.heap_setCell _ _ _ _ (by show w.heap.size + 1 ≠ w.heap.size; omega)).trans (HC1.out _ HB3.out).2
  have HO4 : Hid (∀ k, (Value.slice a3 (ls.length + 1) c3).ownBlock = some k → w.heap.size ≤ k ∧ k ≠ w.heap.size + 1 ∧ k < (w3.setCell ⟨w.heap.size, 2, none⟩ (.slice a3 (ls.length + 1) c3)).heap.size) := fun k hk => by have := World.ownsRow.lt O3.out k hk; have h6 := (grown_setCell w3 w.heap.size 2 (.slice a3 (ls.length + 1) c3)).size; refine ⟨by omega, by omega, by omega⟩
  clear y0 y1 y2 y3 yf O3 HB3 HC1 HB2 HB2a O2
  generalize w3.setCell ⟨w.heap.size, 2, none⟩ (.slice a3 (ls.length + 1) c3) = W4 at *
  have Hlsz : Hid ((l ++ ⟨#[10]⟩ : ByteArray).size ≤ 70368744177664) := by
    show _ ≤ _
    have h1 : (⟨#[10]⟩ : ByteArray).size = 1 := rfl
    have h2 := Hhl.out
    rw [ByteArray.size_append, h1]
    omega
  with_reducible refine (show36_any ep se sc a3 (ls.length + 1) c3 (ls ++ [l]) (l ++ ⟨#[10]⟩) W4 HR4.out Hlsz.out (Nat.le_trans Hsc.out (by decide))).mono ?_
  rintro r w5 ⟨a5, n5, c5, rfl, hr5, ho5, hb5⟩
  rw [← Hp.out] at hr5 ⊢
  have HB5 : Hid (Below w.heap.size w w5) := HB4.out.trans (hb5.mono HB4.out.size)
  have hX5 := (hb5.block _ (lt_of_heap HX4.out)).trans HX4.out
  have HR5 := Lib.hid hr5
  have HO5 : Hid (∀ k, (Value.slice a5 n5 c5).ownBlock = some k → w.heap.size ≤ k ∧ k ≠ w.heap.size + 1 ∧ k < w5.heap.size) := fun k hk => by
    have h8 := hb5.size
    have h6 := lt_of_heap HX4.out
    rcases ho5 k hk with h | h
    · have := HO4.out k h
      refine ⟨this.1, this.2.1, by omega⟩
    · have := HB4.out.size
      refine ⟨by omega, by omega, h.2⟩
  clear hr5 ho5 hb5 HB4 HX4 HR4 HO4 Hp
  generalize opAdd l ⟨ep, se, ls, sc⟩ = q at *
  obtain ⟨⟨qe, qs, ql, qc⟩, qq⟩ := q
  dsimp only at HR5 ⊢
  have r0 : w5.cell? ⟨w.heap.size + 1, 0, none⟩ = some (.int .i64 0) := cell_of_heap hX5 0
  have r1 : w5.cell? ⟨w.heap.size + 1, 1, none⟩ = some (.string ⟨#[]⟩) := cell_of_heap hX5 1
  have r2 : w5.cell? ⟨w.heap.size + 1, 2, none⟩ = some (.slice none 0 0) := cell_of_heap hX5 2
  have r3 : w5.cell? ⟨w.heap.size + 1, 3, none⟩ = some (.string ⟨#[]⟩) := cell_of_heap hX5 3
  have f0 := frozen_of_heap hX5 0
  have f1 := frozen_of_heap hX5 1
  have f2 := frozen_of_heap hX5 2
  have f3 := frozen_of_heap hX5 3
  clear hX5
  go_wp2
  refine bodyPost_ret (v := .tuple #[.agg #[.int .i64 qe, .string qs, .slice a5 n5 c5, .string qc], .int .i64 qq]) (by simp [results, Tryz.results76, go_sem, r0, r1, r2, r3]) rfl ?_
  exact ⟨a5, n5, c5, rfl, HR5.out.grown (grown_set4 _ _ _ _ _ _) (fun k hk e => by cases e; exact (HO5.out _ hk).2.1 rfl), fun k hk => .inr ⟨(HO5.out k hk).1, Nat.lt_of_lt_of_le (HO5.out k hk).2.2 (grown_set4 _ _ _ _ _ _).size⟩, below_grow36 HB5.out (grown_set4 _ _ _ _ _ _) (by omega)⟩
end Go.Proofs.YtfobmfenjdiimaaGreatDoor
