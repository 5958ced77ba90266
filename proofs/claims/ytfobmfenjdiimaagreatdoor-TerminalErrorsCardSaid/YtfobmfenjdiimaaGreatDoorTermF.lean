/- terminal: begin, end, show, add. -/
import Derived.Test.YtfobmfenjdiimaaGreatDoorTermE
namespace Go.Proofs.YtfobmfenjdiimaaGreatDoor
open Go.RowKit
attribute [local go_sem ↓] Go.wp_at_zero Go.wp_at_succ

def showS (a b : ByteArray) : ByteArray := if 2048 < (a ++ b).size then (a ++ b).extract ((a ++ b).size - 2048) (a ++ b).size else a ++ b
def opBegin (l : ByteArray) (t : TermT) : TermT × Nat := if l.size = 0 ∨ validB l = false then (t, 12) else if t.session.size ≠ 0 then (t, 19) else (⟨t.epoch, l, [], ⟨#[]⟩⟩, 0)
def opEnd (l : ByteArray) (t : TermT) : TermT × Nat := if l.size = 0 ∨ t.session ≠ l then (t, 10) else (⟨t.epoch, ⟨#[]⟩, [], t.screen⟩, 0)
def opAdd (line : ByteArray) (t : TermT) : TermT × Nat := if lineE line ≠ 0 then (t, lineE line) else if t.session.size = 0 then (t, 10) else if 16 ≤ t.typed.length then (t, 9) else (⟨t.epoch, t.session, t.typed ++ [line], showS t.screen (line ++ ⟨#[10]⟩)⟩, 0)
def opShow (s : ByteArray) (t : TermT) : TermT × Nat := if 65536 < s.size then (t, 5) else (⟨t.epoch, t.session, t.typed, showS t.screen s⟩, 0)

/-- What an operation on the terminal at X leaves; S: the blocks that it may write. -/
def OpPost (X : Nat) (S : Nat → Prop) (w : World) (p : TermT × Nat) (r : Ending) (w' : World) : Prop :=
  r = .returned (.int .i64 p.2) ∧ Kept S w w' ∧ (p.2 = 0 → ∃ a n c, w'.heap[X]? = some (.cells #[.int .i64 p.1.epoch, .string p.1.session, .slice a n c, .string p.1.screen] 38 (0, 0)) ∧ SSl w' a n p.1.typed)

theorem op_fail {X : Nat} {S : Nat → Prop} {w w' : World} {t : TermT} {e : Nat} (he : e ≠ 0) (hb : Below w.heap.size w w') : OpPost X S w (t, e) (.returned (.int .i64 e)) w' :=
  ⟨rfl, Kept.of_below hb _, fun h => absurd h he⟩
theorem SSl.nil (w : World) : SSl w none 0 [] := ⟨rfl, fun h => absurd h (Nat.lt_irrefl _)⟩
theorem SSl.grown {w w' : World} {a : Option Addr} {n : Nat} {ls : List ByteArray} {row : Option Nat} (h : SSl w a n ls) (hb : w.grownBy w' row) (hr : ∀ g off, a = some ⟨g, off, none⟩ → row ≠ some g) : SSl w' a n ls := by
  refine ⟨h.1, fun h0 => ?_⟩
  obtain ⟨g, off, ha, hc⟩ := h.2 h0
  refine ⟨g, off, ha, fun j hj => ?_⟩
  have hlt := World.block_lt_of_cell? w ⟨g, off, none⟩ (hc 0 h0)
  exact (World.cell?_of_block (a := ⟨g, off + j, none⟩) (hb.block g hlt (fun e => hr g off ha e.symm))).trans (hc j hj)

theorem empty_of {s : ByteArray} (h : s.size = 0) : s.toList.isEmpty = true := by rw [toList_empty]; simp [h]
theorem nonempty_of {s : ByteArray} (h : s.size ≠ 0) : s.toList.isEmpty = false := by rw [toList_empty]; simp [h]

set_option maxRecDepth 100000 in
set_option maxHeartbeats 1000000 in
theorem begin_any (l : ByteArray) (X : Nat) (ep : Int) (se sc : ByteArray) (ls : List ByteArray) (tv : Value) (S : Nat → Prop) (hSX : S X) (w : World) (hl : l.size ≤ 70368744177664)
    (hX : w.heap[X]? = some (.cells #[.int .i64 ep, .string se, tv, .string sc] 38 (0, 0))) :
    Calls Tryz.prog 45 #[.string l, .pointer (some ⟨X, 0, none⟩)] w (OpPost X S w (opBegin l ⟨ep, se, ls, sc⟩)) := by
  have HX := Lib.hid hX; clear hX
  by_cases h1 : l.size = 0
  · have he : Hid (opBegin l ⟨ep, se, ls, sc⟩ = (⟨ep, se, ls, sc⟩, 12)) := by show _ = _; simp [opBegin, h1]
    have h1' := empty_of h1
    go_enter Tryz.func45, Tryz.ntmps45
    go_wp2
    go_ret
    rw [he.out]
    exact op_fail (by decide) (Below.refl _ _)
  · have h1' := nonempty_of h1
    cases h2 : validB l with
    | false =>
      have he : Hid (opBegin l ⟨ep, se, ls, sc⟩ = (⟨ep, se, ls, sc⟩, 12)) := by show _ = _; simp [opBegin, h2]
      go_enter Tryz.func45, Tryz.ntmps45
      go_wp2_with fail
      refine (valid_is l _ hl h2 _).mono ?_
      rintro e w1 ⟨rfl, hb1⟩
      go_wp2
      go_ret
      rw [he.out]
      exact op_fail (by decide) hb1
    | true =>
      go_enter Tryz.func45, Tryz.ntmps45
      go_wp2_with fail
      refine (valid_is l _ hl h2 _).mono ?_
      rintro e w1 ⟨rfl, hb1⟩
      have hX1 := (hb1.block X (lt_of_heap HX.out)).trans HX.out
      have c0 : w1.cell? ⟨X, 0, none⟩ = some (.int .i64 ep) := cell_of_heap hX1 0
      have c1 : w1.cell? ⟨X, 1, none⟩ = some (.string se) := cell_of_heap hX1 1
      have c2 : w1.cell? ⟨X, 2, none⟩ = some tv := cell_of_heap hX1 2
      have c3 : w1.cell? ⟨X, 3, none⟩ = some (.string sc) := cell_of_heap hX1 3
      have g0 : w1.frozen? ⟨X, 0, none⟩ = false := frozen_of_heap hX1 0
      have g1 : w1.frozen? ⟨X, 1, none⟩ = false := frozen_of_heap hX1 1
      have g2 : w1.frozen? ⟨X, 2, none⟩ = false := frozen_of_heap hX1 2
      have g3 : w1.frozen? ⟨X, 3, none⟩ = false := frozen_of_heap hX1 3
      have HX1 := Lib.hid hX1; clear hX1
      have Hb1 := Lib.hid hb1; clear hb1
      by_cases h3 : se.size = 0
      · have he : Hid (opBegin l ⟨ep, se, ls, sc⟩ = (⟨ep, l, [], ⟨#[]⟩⟩, 0)) := by show _ = _; simp [opBegin, h1, h2, h3]
        have h3' := empty_of h3
        go_wp2
        go_ret
        rw [he.out]
        refine ⟨rfl, (Kept.of_below Hb1.out _).trans (Kept.of_grown (grown_set4 _ _ _ _ _ _) S (fun k hk => by cases hk; exact hSX)) (fun _ _ h => h), fun _ => ⟨none, 0, 0, ?_, SSl.nil _⟩⟩
        exact heap_setCell_same (heap_setCell_same (heap_setCell_same (heap_setCell_same HX1.out 0 _) 1 _) 2 _) 3 _
      · have he : Hid (opBegin l ⟨ep, se, ls, sc⟩ = (⟨ep, se, ls, sc⟩, 19)) := by show _ = _; simp [opBegin, h1, h2, h3]
        have h3' := nonempty_of h3
        go_wp2
        go_ret
        rw [he.out]
        exact op_fail (by decide) Hb1.out

set_option maxRecDepth 100000 in
set_option maxHeartbeats 1000000 in
theorem end_any (l : ByteArray) (X : Nat) (ep : Int) (se sc : ByteArray) (ls : List ByteArray) (tv : Value) (S : Nat → Prop) (hSX : S X) (w : World)
    (hX : w.heap[X]? = some (.cells #[.int .i64 ep, .string se, tv, .string sc] 38 (0, 0))) :
    Calls Tryz.prog 64 #[.string l, .pointer (some ⟨X, 0, none⟩)] w (OpPost X S w (opEnd l ⟨ep, se, ls, sc⟩)) := by
  have c1 : w.cell? ⟨X, 1, none⟩ = some (.string se) := cell_of_heap hX 1
  have c2 : w.cell? ⟨X, 2, none⟩ = some tv := cell_of_heap hX 2
  have g1 : w.frozen? ⟨X, 1, none⟩ = false := frozen_of_heap hX 1
  have g2 : w.frozen? ⟨X, 2, none⟩ = false := frozen_of_heap hX 2
  have HX := Lib.hid hX; clear hX
  by_cases h1 : l.size = 0
  · have he : Hid (opEnd l ⟨ep, se, ls, sc⟩ = (⟨ep, se, ls, sc⟩, 10)) := by show _ = _; simp [opEnd, h1]
    have h1' := empty_of h1
    go_enter Tryz.func64, Tryz.ntmps64
    go_wp2
    go_ret
    rw [he.out]
    exact op_fail (by decide) (Below.refl _ _)
  · have h1' := nonempty_of h1
    by_cases h2 : se = l
    · have he : Hid (opEnd l ⟨ep, se, ls, sc⟩ = (⟨ep, ⟨#[]⟩, [], sc⟩, 0)) := by show _ = _; simp [opEnd, h1, h2]
      have h2' : (se.toList == l.toList) = true := by rw [h2]; simp
      clear h2
      go_enter Tryz.func64, Tryz.ntmps64
      go_wp2
      go_ret
      rw [he.out]
      refine ⟨rfl, Kept.of_grown (grown_trans (grown_setCell _ _ _ _) (grown_setCell _ _ _ _)) S (fun k hk => by cases hk; exact hSX), fun _ => ⟨none, 0, 0, ?_, SSl.nil _⟩⟩
      exact heap_setCell_same (heap_setCell_same HX.out 1 _) 2 _
    · have he : Hid (opEnd l ⟨ep, se, ls, sc⟩ = (⟨ep, se, ls, sc⟩, 10)) := by show _ = _; simp [opEnd, h2]
      have h2' : (se.toList == l.toList) = false := by rw [str_beq]; simp [h2]
      clear h2
      go_enter Tryz.func64, Tryz.ntmps64
      go_wp2
      go_ret
      rw [he.out]
      exact op_fail (by decide) (Below.refl _ _)

def ShowPost (X : Nat) (w : World) (p0 p1 p2 : Value) (s : ByteArray) (r : Ending) (w' : World) : Prop :=
  r = .returned (.tuple #[]) ∧ w'.heap[X]? = some (.cells #[p0, p1, p2, .string s] 38 (0, 0)) ∧ w.grownBy w' (some X)

set_option maxRecDepth 100000 in
set_option maxHeartbeats 1000000 in
theorem show_any (X : Nat) (p0 p1 p2 : Value) (sc b : ByteArray) (w : World) (hX : w.heap[X]? = some (.cells #[p0, p1, p2, .string sc] 38 (0, 0))) (hl : sc.size + b.size ≤ 70368744177664) :
    Calls Tryz.prog 72 #[.pointer (some ⟨X, 0, none⟩), .string b] w (ShowPost X w p0 p1 p2 (showS sc b)) := by
  have c3 : w.cell? ⟨X, 3, none⟩ = some (.string sc) := cell_of_heap hX 3
  have g3 : w.frozen? ⟨X, 3, none⟩ = false := frozen_of_heap hX 3
  have HX := Lib.hid hX; clear hX
  by_cases h1 : 2048 < sc.size + b.size
  · have he : Hid (showS sc b = (sc ++ b).extract (sc.size + b.size - 2048) (sc.size + b.size)) := by show _ = _; unfold showS; rw [ByteArray.size_append, if_pos h1]
    go_enter Tryz.func72, Tryz.ntmps72
    go_wp2
    go_end0
    rw [he.out]
    exact ⟨rfl, heap_setCell_same (heap_setCell_same HX.out 3 _) 3 _, grown_trans (grown_setCell _ _ _ _) (grown_setCell _ _ _ _)⟩
  · have he : Hid (showS sc b = sc ++ b) := by show _ = _; unfold showS; rw [ByteArray.size_append, if_neg h1]
    go_enter Tryz.func72, Tryz.ntmps72
    go_wp2
    go_end0
    rw [he.out]
    exact ⟨rfl, heap_setCell_same HX.out 3 _, grown_setCell _ _ _ _⟩

set_option maxRecDepth 100000 in
set_option maxHeartbeats 1000000 in
theorem shownAdd_any (b : ByteArray) (X : Nat) (ep : Int) (se sc : ByteArray) (ls : List ByteArray) (a : Option Addr) (n c : Nat) (S : Nat → Prop) (hSX : S X) (w : World) (hs : SSl w a n ls) (hne : ∀ g off, a = some ⟨g, off, none⟩ → g ≠ X) (hl : sc.size + b.size ≤ 70368744177664)
    (hX : w.heap[X]? = some (.cells #[.int .i64 ep, .string se, .slice a n c, .string sc] 38 (0, 0))) :
    Calls Tryz.prog 36 #[.string b, .pointer (some ⟨X, 0, none⟩)] w (OpPost X S w (opShow b ⟨ep, se, ls, sc⟩)) := by
  have HX := Lib.hid hX; clear hX
  have Hs := Lib.hid hs; clear hs
  by_cases h1 : 65536 < b.size
  · have he : Hid (opShow b ⟨ep, se, ls, sc⟩ = (⟨ep, se, ls, sc⟩, 5)) := by show _ = _; simp [opShow, h1]
    go_enter Tryz.func36, Tryz.ntmps36
    go_wp2
    go_ret
    rw [he.out]
    exact op_fail (by decide) (Below.refl _ _)
  · have he : Hid (opShow b ⟨ep, se, ls, sc⟩ = (⟨ep, se, ls, showS sc b⟩, 0)) := by show _ = _; simp [opShow, h1]
    go_enter Tryz.func36, Tryz.ntmps36
    go_wp2_with fail
    refine (show_any X _ _ _ sc b _ HX.out hl).mono ?_
    rintro e w1 ⟨rfl, hX1, hg⟩
    have HX1 := Lib.hid hX1; clear hX1
    have Hg := Lib.hid hg; clear hg
    go_wp2
    go_ret
    rw [he.out]
    exact ⟨rfl, Kept.of_grown Hg.out S (fun k hk => by cases hk; exact hSX), fun _ => ⟨a, n, c, HX1.out, Hs.out.grown Hg.out (fun g off ha e => by cases e; exact hne _ _ ha rfl)⟩⟩

theorem add_post {X : Nat} {S : Nat → Prop} {w w2 w3 : World} {o : Obj} {v : Value} {g m cap : Nat} {ep : Int} {se sc : ByteArray} {ls : List ByteArray} (hSX : S X) (hS : ∀ g, v.ownBlock = some g → S g) (hlt : X < w.heap.size) (hne : ∀ g, v.ownBlock = some g → g ≠ X)
    (hg2 : (w.alloc o).grownBy w2 v.ownBlock) (hrow : SRow w2 (.slice (some ⟨g, 0, none⟩) m cap) ls) (hat : v.ownBlock = some g ∨ g = (w.alloc o).heap.size)
    (hX3 : w3.heap[X]? = some (.cells #[.int .i64 ep, .string se, .slice (some ⟨g, 0, none⟩) m cap, .string sc] 38 (0, 0))) (hg3 : (w2.setCell ⟨X, 2, none⟩ (.slice (some ⟨g, 0, none⟩) m cap)).grownBy w3 (some X)) :
    OpPost X S w (⟨ep, se, ls, sc⟩, 0) (.returned (.int .i64 0)) w3 := by
  have hgX : g ≠ X := by
    rcases hat with h | h
    · exact hne g h
    · rw [h]; simp; omega
  have hg : w2.grownBy w3 (some X) := grown_trans (grown_setCell _ _ _ _) hg3
  refine ⟨rfl, ((Kept.of_below ((Below.refl _ _).alloc (Nat.le_refl _) _) S).trans (Kept.of_grown hg2 S (fun k hk => hS k hk)) (fun _ _ h => h)).trans (Kept.of_grown hg S (fun k hk => by cases hk; exact hSX)) (fun _ _ h => h), fun _ => ⟨_, _, _, hX3, hrow.sl.grown hg (fun g' off ha e => ?_)⟩⟩
  cases ha
  cases e
  exact hgX rfl

set_option maxRecDepth 100000 in
set_option maxHeartbeats 2000000 in
theorem typedAdd_any (l : ByteArray) (X : Nat) (ep : Int) (se sc : ByteArray) (ls : List ByteArray) (a : Option Addr) (n c : Nat) (S : Nat → Prop) (hSX : S X) (w : World) (hs : SRow w (.slice a n c) ls) (hne : ∀ g, (Value.slice a n c).ownBlock = some g → g ≠ X) (hS : ∀ g, (Value.slice a n c).ownBlock = some g → S g) (hl : l.size ≤ 9223372036854775807) (hsc : sc.size ≤ 65536)
    (hX : w.heap[X]? = some (.cells #[.int .i64 ep, .string se, .slice a n c, .string sc] 38 (0, 0))) :
    Calls Tryz.prog 46 #[.string l, .pointer (some ⟨X, 0, none⟩)] w (OpPost X S w (opAdd l ⟨ep, se, ls, sc⟩)) := by
  have c1 : w.cell? ⟨X, 1, none⟩ = some (.string se) := cell_of_heap hX 1
  have c2 : w.cell? ⟨X, 2, none⟩ = some (.slice a n c) := cell_of_heap hX 2
  have hlt := lt_of_heap hX
  have hnw := World.new_ne w ⟨X, 2, none⟩ c2
  have hn := hs.sl.1
  have HX := Lib.hid hX; clear hX
  have Hs := Lib.hid hs; clear hs
  have Hn := Lib.hid hn; clear hn
  generalize hq : lineE l = q at *
  have Hq := Lib.hid hq; clear hq
  by_cases h0 : q = 0
  · subst h0
    by_cases h1 : se.size = 0
    · have he : Hid (opAdd l ⟨ep, se, ls, sc⟩ = (⟨ep, se, ls, sc⟩, 10)) := by show _ = _; simp [opAdd, Hq.out, h1]
      have h1' := empty_of h1
      go_enter Tryz.func46, Tryz.ntmps46
      go_wp2_with fail
      refine (checkLine_is l _ Hq.out _ (by omega)).mono ?_
      rintro e w1 ⟨rfl, rfl⟩
      go_wp2
      go_ret
      rw [he.out]
      exact op_fail (by decide) (Below.refl _ _)
    · have h1' := nonempty_of h1
      by_cases h2 : 16 ≤ n
      · have he : Hid (opAdd l ⟨ep, se, ls, sc⟩ = (⟨ep, se, ls, sc⟩, 9)) := by show _ = _; simp [opAdd, Hq.out, h1, Hn.out, h2]
        go_enter Tryz.func46, Tryz.ntmps46
        go_wp2_with fail
        refine (checkLine_is l _ Hq.out _ (by omega)).mono ?_
        rintro e w1 ⟨rfl, rfl⟩
        go_wp2
        go_ret
        rw [he.out]
        exact op_fail (by decide) (Below.refl _ _)
      · have he : Hid (opAdd l ⟨ep, se, ls, sc⟩ = (⟨ep, se, ls ++ [l], showS sc (l ++ ⟨#[10]⟩)⟩, 0)) := by show _ = _; simp [opAdd, Hq.out, h1, Hn.out, h2]
        have Hl : Hid (ls.length ≤ 1000000) := by show _ ≤ _; rw [Hn.out]; omega
        have hl1024 : l.size ≤ 1024 := lineE_size Hq.out
        have Hl2 : Hid (sc.size + (l ++ (⟨#[10]⟩ : ByteArray)).size ≤ 70368744177664) := by
          show _ ≤ _
          rw [ByteArray.size_append]
          show sc.size + (l.size + 1) ≤ _
          omega
        go_enter Tryz.func46, Tryz.ntmps46
        go_wp2_with fail
        refine (checkLine_is l _ Hq.out _ (by omega)).mono ?_
        rintro e w1 ⟨rfl, rfl⟩
        have Hrow : Hid (∀ o, SRow (w.alloc o) (.slice a n c) ls) := fun o => World.ownsRow.alloc Hs.out o
        have HXa : Hid (∀ o, (w.alloc o).heap[X]? = some (.cells #[.int .i64 ep, .string se, .slice a n c, .string sc] 38 (0, 0))) := fun o => (Below.heap_alloc w o X hlt).trans HX.out
        have Hne := Lib.hid hne; clear hne
        go_wp2_with (at_builtin; refine wpList_append_string rfl _ _ rfl _ ls rfl (Hrow.out _) l w.heap.size rfl (heap_alloc_new w _) Hl.out ?_; intro g m cap w2 hrow2 hg2 hat2; have hh2 := (hg2.block X (by simp; omega) (fun e => Hne.out X e.symm rfl)).trans (HXa.out _); have d2 : w2.cell? ⟨X, 2, none⟩ = some (.slice a n c) := cell_of_heap hh2 2; have f2 : w2.frozen? ⟨X, 2, none⟩ = false := frozen_of_heap hh2 2; have Hrow2 := Lib.hid hrow2; clear hrow2; have Hg2 := Lib.hid hg2; clear hg2; have Hat2 := Lib.hid hat2; clear hat2; have Hh2 := Lib.hid hh2; clear hh2)
        refine (show_any X _ _ _ sc _ _ (heap_setCell_same Hh2.out 2 _) Hl2.out).mono ?_
        rintro e w3 ⟨rfl, hX3, hg3⟩
        have HX3 := Lib.hid hX3; clear hX3
        have Hg3 := Lib.hid hg3; clear hg3
        clear d2 f2
        go_wp2
        go_ret
        rw [he.out]
        exact add_post hSX hS hlt Hne.out Hg2.out Hrow2.out Hat2.out HX3.out Hg3.out
  · have he : Hid (opAdd l ⟨ep, se, ls, sc⟩ = (⟨ep, se, ls, sc⟩, q)) := by show _ = _; simp [opAdd, Hq.out, h0]
    have h0' : ((q : Int) != 0) = true := bne_iff_ne.2 (by omega)
    have H0 := Lib.hid h0; clear h0
    go_enter Tryz.func46, Tryz.ntmps46
    go_wp2_with fail
    refine (checkLine_is l _ Hq.out _ (by omega)).mono ?_
    rintro e w1 ⟨rfl, rfl⟩
    go_wp2
    go_ret
    rw [he.out]
    exact op_fail H0.out (Below.refl _ _)

end Go.Proofs.YtfobmfenjdiimaaGreatDoor
