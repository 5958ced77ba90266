/- state: a tree as it lies. state: New, Get of the empty state. state: find, Get. -/
import Derived.Test.YtfchfjipkggnkaaGreatDoorCmpD
import Derived.Test.YtfchfjipkggnkaaGreatDoorTree
import Derived.Test.YtfchfjipkggnkaaGreatDoorMaps
import Derived.Deep.RegionHeld3
import Derived.Deep.DrawnRows
import Derived.BigQuiet
import Derived.Deep.LoopGhost
namespace Go.Proofs.YtfchfjipkggnkaaGreatDoor
open Go.RowKit

abbrev Tree := Tr NameT ByteArray
def Tr.bys (t : Tree) : Nat := t.by_ ByteArray.size
def ptrA : Tree → Option Addr
  | .nil => none
  | .node p _ _ _ _ => some ⟨p, 0, none⟩
abbrev ptrV (t : Tree) : Value := .pointer (ptrA t)
def nodeCells (l r : Value) (n : NameT) (v : ByteArray) (h s b : Nat) : Array Value :=
  #[l, r, .int .i64 n.kind, .string n.owner, .int .i64 n.number, .int .i64 n.index, .string n.text, .string v, .int .i64 h, .int .i64 s, .int .i64 b]
/-- The nodes of a tree lie as they should. -/
def TreeAt (w : World) : Tree → Prop
  | .nil => True
  | .node p l n v r => w.heap[p]? = some (.cells (nodeCells (ptrV l) (ptrV r) n v (Tr.node p l n v r).ht (Tr.node p l n v r).sz (Tr.node p l n v r).bys) 129 (0, 0)) ∧ TreeAt w l ∧ TreeAt w r
theorem TreeAt.kept {w w' : World} {t : Tree} (h : TreeAt w t) (hk : ∀ k, k < w.heap.size → t.all (fun p => p ≠ k) ∨ w'.heap[k]? = w.heap[k]?) : TreeAt w' t := by
  induction t with
  | nil => trivial
  | node p l n v r h1 h2 =>
    obtain ⟨a1, a2, a3⟩ := h
    refine ⟨?_, h1 a2 fun k hk1 => ?_, h2 a3 fun k hk1 => ?_⟩
    · rcases hk p (lt_of_heap a1) with h | h
      · exact absurd rfl h.1
      · exact h.trans a1
    · exact (hk k hk1).imp (fun h => h.2.1) id
    · exact (hk k hk1).imp (fun h => h.2.2) id
theorem TreeAt.below {w w' : World} {t : Tree} (h : TreeAt w t) (hb : Below w.heap.size w w') : TreeAt w' t := h.kept fun k hk => .inr (hb.block k hk)
theorem TreeAt.drew {w : World} {t : Tree} (h : TreeAt w t) : TreeAt w.drew t := h.below ((Below.refl _ _).drew)
theorem TreeAt.lt {w : World} {t : Tree} (h : TreeAt w t) : t.all (fun p => p < w.heap.size) := by
  induction t with
  | nil => trivial
  | node p l n v r h1 h2 => exact ⟨lt_of_heap h.1, h1 h.2.1, h2 h.2.2⟩
theorem Tr.all_mono {t : Tree} {P Q : Nat → Prop} (h : t.all P) (hPQ : ∀ k, P k → Q k) : t.all Q := by
  induction t with
  | nil => trivial
  | node p l n v r h1 h2 => exact ⟨hPQ _ h.1, h1 h.2.1, h2 h.2.2⟩
theorem TreeAt.belowB {w w' : World} {t : Tree} {B : Nat} (h : TreeAt w t) (hl : t.all (fun p => p < B)) (hb : Below B w w') : TreeAt w' t := by
  refine h.kept fun k _ => ?_
  by_cases hk : k < B
  · exact .inr (hb.block k hk)
  · exact .inl (Tr.all_mono hl fun p hp => by omega)

/-- The block of a node, of which join reads the name and the value alone. -/
def MidAt (w : World) (q : Nat) (n : NameT) (v : ByteArray) : Prop := ∃ l r h s b, w.heap[q]? = some (.cells #[l, r, .int .i64 n.kind, .string n.owner, .int .i64 n.number, .int .i64 n.index, .string n.text, .string v, h, s, b] 129 (0, 0))
theorem MidAt.below {w w' : World} {q : Nat} {n : NameT} {v : ByteArray} (h : MidAt w q n v) (hb : Below w.heap.size w w') : MidAt w' q n v := by
  obtain ⟨l, r, h', s, b, e⟩ := h
  exact ⟨l, r, h', s, b, (hb.block q (lt_of_heap e)).trans e⟩
theorem TreeAt.mid {w : World} {p : Nat} {l r : Tree} {n : NameT} {v : ByteArray} (h : TreeAt w (.node p l n v r)) : MidAt w p n v := ⟨_, _, _, _, _, h.1⟩

theorem TreeAt.same {w w' : World} {t : Tree} (h : TreeAt w t) (hw : w'.heap = w.heap) : TreeAt w' t := h.kept fun k _ => .inr (by rw [hw])
theorem MidAt.same {w w' : World} {q : Nat} {n : NameT} {v : ByteArray} (h : MidAt w q n v) (hw : w'.heap = w.heap) : MidAt w' q n v := by
  obtain ⟨l, r, h', s, b, e⟩ := h
  exact ⟨l, r, h', s, b, by rw [hw]; exact e⟩

/-- What a state's tree is, besides lying. -/
structure Good (t : Tree) : Prop where
  avl : t.avl
  sort : SortL cmpN t.ents
  fit : ∀ e ∈ t.ents, FitN e.1
  val : ∀ e ∈ t.ents, e.2.size ≤ 100000000

theorem Good.parts {b : Nat} {l r : Tree} {m : NameT} {u : ByteArray} (h : Good (.node b l m u r)) : Good l ∧ Good r ∧ FitN m ∧ u.size ≤ 100000000 := by
  obtain ⟨a1, a2, a3, a4⟩ := h.avl
  obtain ⟨s1, s2, _, _⟩ := sort_mid (m := (m, u)) h.sort
  exact ⟨⟨a1, s1, fun e he => h.fit e (by simp [Tr.ents, he]), fun e he => h.val e (by simp [Tr.ents, he])⟩, ⟨a2, s2, fun e he => h.fit e (by simp [Tr.ents, he]), fun e he => h.val e (by simp [Tr.ents, he])⟩, h.fit (m, u) (by simp [Tr.ents]), h.val (m, u) (by simp [Tr.ents])⟩
end Go.Proofs.YtfchfjipkggnkaaGreatDoor

namespace Go.Proofs.YtfchfjipkggnkaaGreatDoor
open Go.RowKit
attribute [local go_sem ↓] Go.wp_at_zero Go.wp_at_succ

set_option maxHeartbeats 400000 in
theorem stateNew_any (w : World) : Calls Tryz.prog 19 #[] w fun r w' => r = .returned (.pointer (some ⟨w.heap.size, 0, none⟩)) ∧ w' = w.alloc (.cells #[.pointer none] 97) := by
  go_enter Tryz.func19, Tryz.ntmps19
  go_wp2
  go_ret
  exact ⟨rfl, rfl⟩

/-- What the state's Get answers. -/
def GetPost (w : World) (v : Option ByteArray) (r : Ending) (w' : World) : Prop := r = .returned (.tuple #[.string (v.getD ⟨#[]⟩), .bool v.isSome]) ∧ Below w.heap.size w w'

end Go.Proofs.YtfchfjipkggnkaaGreatDoor

namespace Go.Proofs.YtfchfjipkggnkaaGreatDoor
open Go.RowKit

/-- What find hands back: nil, or the node. -/
def FindPost (w : World) (t : Tree) (n : NameT) (e : Ending) (w' : World) : Prop :=
  ∃ a, e = .returned (.pointer a) ∧ Below w.heap.size w w' ∧ (a = none ∧ getL cmpN t.ents n = none ∨ ∃ p v, a = some ⟨p, 0, none⟩ ∧ getL cmpN t.ents n = some v ∧ MidAt w p n v)
theorem fit_parts {b : Nat} {l r : Tree} {m : NameT} {u : ByteArray} (h : ∀ e ∈ (Tr.node b l m u r).ents, FitN e.1) : (∀ e ∈ l.ents, FitN e.1) ∧ FitN m ∧ (∀ e ∈ r.ents, FitN e.1) :=
  ⟨fun e he => h e (by simp [Tr.ents, he]), h (m, u) (by simp [Tr.ents]), fun e he => h e (by simp [Tr.ents, he])⟩
theorem find_step {b : Nat} {l r : Tree} {m : NameT} {u : ByteArray} (h : SortL cmpN (Tr.node b l m u r).ents) (n : NameT) :
    getL cmpN (Tr.node b l m u r).ents n = if cmpN n m = 0 then some u else if cmpN n m < 0 then getL cmpN l.ents n else getL cmpN r.ents n := getL_mid (m := (m, u)) cmpN_ok h n

set_option maxRecDepth 100000 in
set_option maxHeartbeats 3200000 in
theorem find_any (t : Tree) (n : NameT) (w : World) (ht : TreeAt w t) (hs : SortL cmpN t.ents) (hf : ∀ e ∈ t.ents, FitN e.1) (hn : FitN n) :
    Calls Tryz.prog 71 #[.pointer (ptrA t), nameV n] w (FindPost w t n) := by
  obtain ⟨n1, n2, n3, n4, n5⟩ := n
  have hinv : Hid (∃ s : Tree, ptrA t = ptrA s ∧ s.ht ≤ t.ht ∧ TreeAt w s ∧ SortL cmpN s.ents ∧ (∀ e ∈ s.ents, FitN e.1) ∧ getL cmpN t.ents ⟨n1, n2, n3, n4, n5⟩ = getL cmpN s.ents ⟨n1, n2, n3, n4, n5⟩) := ⟨t, rfl, Nat.le_refl _, ht, hs, hf, rfl⟩
  have Hn := Lib.hid hn; clear hn
  clear ht hs hf
  unfold nameV
  generalize hg : t.ht = g at *
  clear hg
  dsimp only
  have Hg : Hid (∀ x, x = getL cmpN t.ents ⟨n1, n2, n3, n4, n5⟩ → x = getL cmpN t.ents ⟨n1, n2, n3, n4, n5⟩) := fun _ h => h
  clear Hg
  go_enter Tryz.func71, Tryz.ntmps71
  go_wp2_with fail
  go_loopg [0] g (fun gk a wr => ∃ s : Tree, a = .pointer (ptrA s) ∧ Hid (s.ht ≤ gk) ∧ Hid (TreeAt w s ∧ SortL cmpN s.ents ∧ (∀ e ∈ s.ents, FitN e.1) ∧ getL cmpN t.ents ⟨n1, n2, n3, n4, n5⟩ = getL cmpN s.ents ⟨n1, n2, n3, n4, n5⟩) ∧ Hid (Below w.heap.size w wr) ∧ Hid (wr.heap[w.heap.size]? = some (.cells #[.int .i64 n1, .string n2, .int .i64 n3, .int .i64 n4, .string n5] 56 (0, 0))))
  case atStart =>
    obtain ⟨s, h1, h2, h3, h4, h5, h6⟩ := hinv.out
    exact ⟨s, by rw [h1], h2, ⟨h3, h4, h5, h6⟩, (Below.refl _ _).alloc (Nat.le_refl _) _, World.alloc_heap_new w _⟩
  case round =>
    clear hinv
    obtain ⟨s, rfl, Hht, Hs, Hb, Hc⟩ := hrel
    cases s with
    | nil =>
      have hgn : Hid (getL cmpN t.ents ⟨n1, n2, n3, n4, n5⟩ = none) := Hs.out.2.2.2
      clear Hs Hht
      unfold ptrA
      go_wp2_with fail
      go_ret
      exact ⟨none, rfl, Hb.out, .inl ⟨rfl, hgn.out⟩⟩
    | node p l m u r =>
      obtain ⟨ta, so, fi, ge⟩ := Hs.out
      obtain ⟨f1, f2, f3⟩ := fit_parts fi
      have hst := find_step so ⟨n1, n2, n3, n4, n5⟩
      obtain ⟨m1, m2, m3, m4, m5⟩ := m
      have hp : wr.heap[p]? = w.heap[p]? := Hb.out.block p (lt_of_heap ta.1)
      have k0 : wr.cell? ⟨p, 0, none⟩ = some (.pointer (ptrA l)) := cell_of_heap (hp.trans ta.1) 0
      have k1 : wr.cell? ⟨p, 1, none⟩ = some (.pointer (ptrA r)) := cell_of_heap (hp.trans ta.1) 1
      have k2 : wr.cell? ⟨p, 2, none⟩ = some (.int .i64 m1) := cell_of_heap (hp.trans ta.1) 2
      have k3 : wr.cell? ⟨p, 3, none⟩ = some (.string m2) := cell_of_heap (hp.trans ta.1) 3
      have k4 : wr.cell? ⟨p, 4, none⟩ = some (.int .i64 m3) := cell_of_heap (hp.trans ta.1) 4
      have k5 : wr.cell? ⟨p, 5, none⟩ = some (.int .i64 m4) := cell_of_heap (hp.trans ta.1) 5
      have k6 : wr.cell? ⟨p, 6, none⟩ = some (.string m5) := cell_of_heap (hp.trans ta.1) 6
      have b0 : wr.cell? ⟨w.heap.size, 0, none⟩ = some (.int .i64 n1) := cell_of_heap Hc.out 0
      have b1 : wr.cell? ⟨w.heap.size, 1, none⟩ = some (.string n2) := cell_of_heap Hc.out 1
      have b2 : wr.cell? ⟨w.heap.size, 2, none⟩ = some (.int .i64 n3) := cell_of_heap Hc.out 2
      have b3 : wr.cell? ⟨w.heap.size, 3, none⟩ = some (.int .i64 n4) := cell_of_heap Hc.out 3
      have b4 : wr.cell? ⟨w.heap.size, 4, none⟩ = some (.string n5) := cell_of_heap Hc.out 4
      have hlp : p < wr.heap.size := lt_of_heap (hp.trans ta.1)
      have hlb : w.heap.size < wr.heap.size := lt_of_heap Hc.out
      have hcon := fun (W : World) => oCompare_any ⟨n1, n2, n3, n4, n5⟩ ⟨m1, m2, m3, m4, m5⟩ Hn.out f2 W
      have Hmid := Lib.hid ta.mid
      have hl : Hid (l.ht ≤ gk - 1 ∧ r.ht ≤ gk - 1 ∧ gk - 1 < gk) := by have := Hht.out; simp only [Tr.ht] at this; exact ⟨by omega, by omega, by omega⟩
      have Ta := Lib.hid ta; have So := Lib.hid (sort_mid so); have F1 := Lib.hid f1; have F3 := Lib.hid f3; have Ge := Lib.hid (ge.trans hst)
      have Hce : Hid (cmpN ⟨n1, n2, n3, n4, n5⟩ ⟨m1, m2, m3, m4, m5⟩ = 0 → (⟨n1, n2, n3, n4, n5⟩ : NameT) = ⟨m1, m2, m3, m4, m5⟩) := cmpN_ok.eq _ _
      clear ta so f1 f2 f3 ge hst fi Hs Hht
      unfold nameV at hcon
      dsimp only [ptrA] at hcon ⊢
      generalize cmpN ⟨n1, n2, n3, n4, n5⟩ ⟨m1, m2, m3, m4, m5⟩ = c at *
      go_wp2_with fail
      go_region_held3 (fun w' => w'.cell? ⟨p, 0, none⟩ = some (.pointer (ptrA l)) ∧ w'.cell? ⟨p, 1, none⟩ = some (.pointer (ptrA r)) ∧ w'.cell? ⟨p, 2, none⟩ = some (.int .i64 m1) ∧ w'.cell? ⟨p, 3, none⟩ = some (.string m2) ∧ w'.cell? ⟨p, 4, none⟩ = some (.int .i64 m3) ∧ w'.cell? ⟨p, 5, none⟩ = some (.int .i64 m4) ∧ w'.cell? ⟨p, 6, none⟩ = some (.string m5) ∧ w'.cell? ⟨w.heap.size, 0, none⟩ = some (.int .i64 n1) ∧ w'.cell? ⟨w.heap.size, 1, none⟩ = some (.string n2) ∧ w'.cell? ⟨w.heap.size, 2, none⟩ = some (.int .i64 n3) ∧ w'.cell? ⟨w.heap.size, 3, none⟩ = some (.int .i64 n4) ∧ w'.cell? ⟨w.heap.size, 4, none⟩ = some (.string n5))
        (first | go_keep | (refine ⟨?_, ?_, ?_, ?_, ?_, ?_, ?_, ?_, ?_, ?_, ?_, ?_⟩ <;> (first | (rw [(bcell hb).1 _ _ hlp]; go_keep) | (rw [(bcell hb).1 _ _ hlb]; go_keep))))
        (first | (go_at_call 68; refine (hcon _).mono ?_; rintro e w1 ⟨rfl, hb⟩) | fail)
      have hb' : Below w.heap.size w w1 := Hb.out.trans ((show Below wr.heap.size wr w1 from ⟨hb.os, hb.tape, hb.output, hb.size, hb.block⟩).mono (Nat.le_of_lt hlb))
      have hbox : w1.heap[w.heap.size]? = some (.cells #[.int .i64 n1, .string n2, .int .i64 n3, .int .i64 n4, .string n5] 56 (0, 0)) := (hb.block w.heap.size hlb).trans Hc.out
      have q0 : w1.cell? ⟨p, 0, none⟩ = some (.pointer (ptrA l)) := ((bcell hb).1 p 0 hlp).trans k0
      have q1 : w1.cell? ⟨p, 1, none⟩ = some (.pointer (ptrA r)) := ((bcell hb).1 p 1 hlp).trans k1
      have Hb' := Lib.hid hb'; clear hb'
      have Hbox := Lib.hid hbox; clear hbox
      clear hb k0 k1 k2 k3 k4 k5 k6 b0 b1 b2 b3 b4 hcon hp
      rcases Int.lt_trichotomy c 0 with hc | hc | hc
      · have c1 : (c == 0) = false := beq_eq_false_iff_ne.2 (by omega)
        have c2 : decide (c < 0) = true := by simpa using hc
        have He : Hid (getL cmpN t.ents ⟨n1, n2, n3, n4, n5⟩ = getL cmpN l.ents ⟨n1, n2, n3, n4, n5⟩) := by
          have := Ge.out
          rw [if_neg (by omega), if_pos hc] at this
          exact this
        clear hc
        go_wp2_with fail
        go_roundg (gk - 1)
        case measure => exact hl.out.2.2
        case rel => exact ⟨l, rfl, hl.out.1, ⟨Ta.out.2.1, So.out.1, F1.out, He.out⟩, Hb'.out, Hbox.out⟩
      · have He : Hid (getL cmpN t.ents ⟨n1, n2, n3, n4, n5⟩ = some u) := by
          have := Ge.out
          rw [if_pos hc] at this
          exact this
        have Hm2 : Hid (MidAt w p ⟨n1, n2, n3, n4, n5⟩ u) := by rw [Hce.out hc]; exact Hmid.out
        clear Hce Ge
        subst hc
        go_wp2_with fail
        go_ret
        exact ⟨_, rfl, Hb'.out, .inr ⟨p, u, rfl, He.out, Hm2.out⟩⟩
      · have c1 : (c == 0) = false := beq_eq_false_iff_ne.2 (by omega)
        have c2 : decide (c < 0) = false := by simp; omega
        have He : Hid (getL cmpN t.ents ⟨n1, n2, n3, n4, n5⟩ = getL cmpN r.ents ⟨n1, n2, n3, n4, n5⟩) := by
          have := Ge.out
          rw [if_neg (by omega), if_neg (by omega)] at this
          exact this
        clear hc
        go_wp2_with fail
        go_roundg (gk - 1)
        case measure => exact hl.out.2.2
        case rel => exact ⟨r, rfl, hl.out.2.1, ⟨Ta.out.2.2, So.out.2.1, F3.out, He.out⟩, Hb'.out, Hbox.out⟩

/-- A state as it lies, all of it below B. -/
structure StateIn (B : Nat) (w : World) (sp : Nat) (t : Tree) : Prop where
  cell : w.heap[sp]? = some (.cells #[.pointer (ptrA t)] 97 (0, 0))
  lt : sp < B
  at_ : TreeAt w t
  all : t.all (fun p => p < B)
  good : Good t
  vals : ∀ e ∈ t.ents, e.2.size ≤ 65536
  sz : t.sz ≤ 60000
theorem StateIn.later {B : Nat} {w w' : World} {sp : Nat} {t : Tree} (h : StateIn B w sp t) (hb : Below B w w') : StateIn B w' sp t :=
  ⟨(hb.block sp h.lt).trans h.cell, h.lt, h.at_.belowB h.all hb, h.all, h.good, h.vals, h.sz⟩
theorem StateIn.up {B B' : Nat} {w : World} {sp : Nat} {t : Tree} (h : StateIn B w sp t) (hB : B ≤ B') : StateIn B' w sp t :=
  ⟨h.cell, Nat.lt_of_lt_of_le h.lt hB, h.at_, Tr.all_mono h.all fun _ hk => Nat.lt_of_lt_of_le hk hB, h.good, h.vals, h.sz⟩

set_option maxRecDepth 100000 in
set_option maxHeartbeats 1600000 in
theorem stateGet_any (B sp : Nat) (t : Tree) (n : NameT) (w : World) (hs : StateIn B w sp t) (hn : FitN n) :
    Calls Tryz.prog 53 #[.pointer (some ⟨sp, 0, none⟩), nameV n] w (GetPost w (getL cmpN t.ents n)) := by
  have hc : w.cell? ⟨sp, 0, none⟩ = some (.pointer (ptrA t)) := cell_of_heap hs.cell 0
  have hlt : sp < w.heap.size := lt_of_heap hs.cell
  have hne := World.new_ne w ⟨sp, 0, none⟩ hc
  have hcon := fun (W : World) (hW : Below w.heap.size w W) => find_any t n W (hs.at_.below hW) hs.good.sort hs.good.fit hn
  have Hs := Lib.hid hs; clear hs
  have Hn := Lib.hid hn; clear hn
  have Hcon := Lib.hid hcon; clear hcon
  obtain ⟨n1, n2, n3, n4, n5⟩ := n
  unfold nameV at Hcon ⊢
  dsimp only at Hcon ⊢
  generalize hg : getL cmpN t.ents ⟨n1, n2, n3, n4, n5⟩ = o at *
  have Hg := Lib.hid hg; clear hg
  go_enter Tryz.func53, Tryz.ntmps53
  go_wp2_with fail
  go_region_held3 (fun w' => w'.cell? ⟨sp, 0, none⟩ = some (.pointer (ptrA t)) ∧ w'.cell? ⟨w.heap.size, 0, none⟩ = some (.int .i64 n1) ∧ w'.cell? ⟨w.heap.size, 1, none⟩ = some (.string n2) ∧ w'.cell? ⟨w.heap.size, 2, none⟩ = some (.int .i64 n3) ∧ w'.cell? ⟨w.heap.size, 3, none⟩ = some (.int .i64 n4) ∧ w'.cell? ⟨w.heap.size, 4, none⟩ = some (.string n5)) (first | go_keep | (go_split_ands; refine ⟨?_, ?_, ?_, ?_, ?_, ?_⟩ <;> (rw [(bcell hb).1 _ _ (by simp <;> omega)]; go_keep)))
    (first | (go_at_call 71; refine (Hcon.out _ (((Below.refl _ _).alloc (Nat.le_refl _) _).drew)).mono ?_; rintro e w1 ⟨a, rfl, hb, hf⟩) | fail)
  have hB1 : Below w.heap.size w w1 := (((Below.refl _ _).alloc (Nat.le_refl _) _).drew).trans (hb.mono (by simp))
  have HB1 := Lib.hid hB1; clear hB1
  rcases hf with ⟨rfl, h0⟩ | ⟨p, v, rfl, h0, hm⟩
  · have e0 : Hid (o = none) := Hg.out.symm.trans h0
    clear h0 hb
    go_wp2_with fail
    go_ret2
    exact ⟨by rw [e0.out]; rfl, HB1.out⟩
  · have e0 : Hid (o = some v) := Hg.out.symm.trans h0
    obtain ⟨x0, x1, x2, x3, x4, hq⟩ := hm
    have c7 : w1.cell? ⟨p, 7, none⟩ = some (.string v) := cell_of_heap ((hb.block p (lt_of_heap hq)).trans hq) 7
    clear h0 hb hq
    go_wp2_with fail
    go_ret2
    exact ⟨by rw [e0.out]; rfl, HB1.out⟩

/-- The state at sp answers f, whatever is made later. -/
def BaseOk (B : Nat) (w : World) (sp : Nat) (f : NameT → Option ByteArray) : Prop := ∃ t, StateIn B w sp t ∧ ∀ n, f n = getL cmpN t.ents n
theorem BaseOk.later {B : Nat} {w w1 : World} {sp : Nat} {f : NameT → Option ByteArray} (h : BaseOk B w sp f) (hb : Below B w w1) : BaseOk B w1 sp f := by
  obtain ⟨t, h1, h2⟩ := h
  exact ⟨t, h1.later hb, h2⟩
theorem BaseOk.get {B : Nat} {w : World} {sp : Nat} {f : NameT → Option ByteArray} (h : BaseOk B w sp f) {n : NameT} (hn : FitN n) :
    Calls Tryz.prog 53 #[.pointer (some ⟨sp, 0, none⟩), nameV n] w (GetPost w (f n)) := by
  obtain ⟨t, h1, h2⟩ := h
  rw [h2 n]
  exact stateGet_any B sp t n w h1 hn
end Go.Proofs.YtfchfjipkggnkaaGreatDoor
