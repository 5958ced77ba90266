/- codec: the Writer leaves a block alone that is not its own. (printed by wip/gen_dsce.py) descriptor: Encode. (printed by wip/gen_dsce.py) descriptor: Decode. (printed by wip/gen_dscg.py) Names of tables. descriptor, upon a view whose value is known: All, open, write. (printed by wip/gen_dsch.py) -/
import Derived.Test.YtfchfjipkggnkaaGreatDoorDscC
import Derived.Test.YtfchfjipkggnkaaGreatDoorViewB
import Derived.Test.YtfchfjipkggnkaaGreatDoorDscD
import Derived.Test.YtfchfjipkggnkaaGreatDoorDscT
import Derived.Test.YtfchfjipkggnkaaGreatDoorViewH
import Derived.Test.YtfchfjipkggnkaaGreatDoorQmC
import Derived.Deep.LoopGhost
import Derived.Lib.ConvBytes
namespace Go.Proofs.YtfchfjipkggnkaaGreatDoor
open Go.RowKit

/-- A Writer whose row is not the block X. -/
def WrX (B b X : Nat) (w : World) (bs : List UInt8) : Prop :=
  B ≤ b ∧ X < w.heap.size ∧ X ≠ b ∧ ∃ v, w.heap[b]? = some (.cells #[v, .int .i64 0] 185 (0, 0)) ∧ BRow w v bs ∧ ∀ g, v.ownBlock = some g → (B ≤ g ∧ g ≠ b) ∧ g ≠ X
def WrXPost (B b X : Nat) (w : World) (bs : List UInt8) (r : Ending) (w' : World) : Prop :=
  r = .returned (.tuple #[]) ∧ WrX B b X w' bs ∧ Below B w w' ∧ w'.heap[X]? = w.heap[X]?
theorem WrX.wr {B b X : Nat} {w : World} {bs : List UInt8} (h : WrX B b X w bs) : Wr B b w bs := by
  obtain ⟨h1, -, -, v, h2, h3, h4⟩ := h
  exact ⟨h1, v, h2, h3, fun g hg => (h4 g hg).1⟩
theorem Wr.x {B b : Nat} {w : World} {bs : List UInt8} (h : Wr B b w bs) (ob : Obj) : WrX B b w.heap.size (w.alloc ob) bs := by
  obtain ⟨h1, v, h2, h3, h4⟩ := h
  have hlt := lt_of_heap h2
  refine ⟨h1, by simp, by omega, v, (Below.heap_alloc w ob _ hlt).trans h2, World.ownsRow.alloc h3 ob, fun g hg => ⟨h4 g hg, fun e => ?_⟩⟩
  obtain ⟨cur, hc⟩ := row_lt h3 hg
  have := lt_of_heap hc
  omega
theorem wrX_stored {B b X : Nat} {w w1 : World} {v : Value} {g m cap : Nat} {bs : List UInt8} (hBb : B ≤ b) (hB : B ≤ w.heap.size) (hX : X < w.heap.size) (hXb : X ≠ b) (hh : w.heap[b]? = some (.cells #[v, .int .i64 0] 185 (0, 0))) (hlie : ∀ g, v.ownBlock = some g → (B ≤ g ∧ g ≠ b) ∧ g ≠ X)
    (hg : w.grownBy w1 v.ownBlock) (hl : LiesAt w v g) (hrow : BRow w1 (.slice (some ⟨g, 0, none⟩) m cap) bs) :
    WrX B b X (w1.setCell ⟨b, 0, none⟩ (.slice (some ⟨g, 0, none⟩) m cap)) bs ∧ Below B w (w1.setCell ⟨b, 0, none⟩ (.slice (some ⟨g, 0, none⟩) m cap)) ∧ (w1.setCell ⟨b, 0, none⟩ (.slice (some ⟨g, 0, none⟩) m cap)).heap[X]? = w.heap[X]? := by
  have hgX : g ≠ X := by
    rcases hl with h | h
    · exact (hlie g h).2
    · omega
  obtain ⟨-, h2⟩ := wr_stored hBb hB hh (fun g h => (hlie g h).1) hg hl hrow
  have hgb := wr_apart hh (fun g h => (hlie g h).1) hl
  have hgB : B ≤ g := by
    rcases hl with h | h
    · exact (hlie g h).1.1
    · omega
  have hb1 := wr_later hh (fun g h => (hlie g h).1) hg
  refine ⟨⟨hBb, ?_, hXb, _, heap_setCell_same hb1 0 _, hrow.stored hgb.2 _, fun g' hg' => ?_⟩, h2, ?_⟩
  · have := h2.size; omega
  · obtain rfl : g = g' := by simpa [Value.ownBlock] using hg'
    exact ⟨⟨hgB, hgb.2⟩, hgX⟩
  · rw [Below.heap_setCell _ _ _ _ hXb]
    exact hg.block X hX (fun e => (hlie X e.symm).2 rfl)
set_option maxRecDepth 100000 in
set_option maxHeartbeats 800000 in
theorem numberX_any (B b X : Nat) (bs : List UInt8) (n : Int) (w : World) (hn0 : 0 ≤ n) (hn : n ≤ 9223372036854775807) (hlen : bs.length ≤ 1099511627776) (hB : B ≤ w.heap.size) (h : WrX B b X w bs) :
    Calls Tryz.prog 93 #[.pointer (some ⟨b, 0, none⟩), .int .i64 n] w (WrXPost B b X w (bs ++ natBytes n.toNat)) := by
  obtain ⟨k, rfl⟩ := Int.eq_ofNat_of_zero_le hn0
  obtain ⟨hBb, hX, hXb, v, hh, hrow, hlie⟩ := h
  have hc0 : w.cell? ⟨b, 0, none⟩ = some v := by simp [World.cell?, hh]
  have Hh := Lib.hid hh; clear hh
  have Hlie := Lib.hid hlie; clear hlie
  have Hl1e : Hid (∀ g, v.ownBlock = some g → B ≤ g ∧ g ≠ b) := fun g hg => (Hlie.out g hg).1
  have Hlen := Lib.hid hlen; clear hlen
  have Hrow := Lib.hid hrow; clear hrow
  have HX := Lib.hid hX; clear hX
  have HXb := Lib.hid hXb; clear hXb
  go_enter Tryz.func93, Tryz.ntmps93
  go_wp2_with fail
  refine (works_any b 0 v _ Hh.out).mono ?_
  rintro e w' ⟨rfl, rfl⟩
  go_wp2_with fail
  refine (appendNatural_any v bs k _ (by omega) Hlen.out Hrow.out).mono ?_
  rintro e w1 ⟨g, m, cap, rfl, hrow1, hg1, hl1⟩
  have hb1 := wr_later Hh.out Hl1e.out hg1
  have hc1 : w1.cell? ⟨b, 0, none⟩ = some v := cell_of_heap hb1 0
  have hf1 : w1.frozen? ⟨b, 0, none⟩ = false := frozen_of_heap hb1 0
  have Hb1 := Lib.hid hb1; clear hb1
  have Hg1 := Lib.hid hg1; clear hg1
  have Hl1 := Lib.hid hl1; clear hl1
  have Hrow1 := Lib.hid hrow1; clear hrow1
  go_wp2
  go_end0
  exact ⟨rfl, wrX_stored hBb hB HX.out HXb.out Hh.out Hlie.out Hg1.out Hl1.out Hrow1.out⟩
set_option maxRecDepth 100000 in
set_option maxHeartbeats 800000 in
theorem textXX_any (B b X : Nat) (bs : List UInt8) (s : ByteArray) (w : World) (hs : s.size ≤ 16777216) (hlen : bs.length ≤ 1099511627776) (hB : B ≤ w.heap.size) (h : WrX B b X w bs) :
    Calls Tryz.prog 94 #[.pointer (some ⟨b, 0, none⟩), .string s] w (WrXPost B b X w (bs ++ natBytes s.size ++ s.data.toList)) := by
  obtain ⟨hBb, hX, hXb, v, hh, hrow, hlie⟩ := h
  have hc0 : w.cell? ⟨b, 0, none⟩ = some v := by simp [World.cell?, hh]
  have Hh := Lib.hid hh; clear hh
  have Hlie := Lib.hid hlie; clear hlie
  have Hl1e : Hid (∀ g, v.ownBlock = some g → B ≤ g ∧ g ≠ b) := fun g hg => (Hlie.out g hg).1
  have Hlen := Lib.hid hlen; clear hlen
  have Hrow := Lib.hid hrow; clear hrow
  have HX := Lib.hid hX; clear hX
  have HXb := Lib.hid hXb; clear hXb
  have hgt : ¬ (16777216 < (s.size : Int)) := by omega
  go_enter Tryz.func94, Tryz.ntmps94
  go_wp2_with fail
  refine (works_any b 0 v _ Hh.out).mono ?_
  rintro e w' ⟨rfl, rfl⟩
  go_wp2_with fail
  refine (appendNatural_any v bs s.size _ (by omega) Hlen.out Hrow.out).mono ?_
  rintro e w1 ⟨g, m, cap, rfl, hrow1, hg1, hl1⟩
  have hb1 := wr_later Hh.out Hl1e.out hg1
  have hgb := wr_apart Hh.out Hl1e.out hl1
  have Hb1 := Lib.hid hb1; clear hb1
  have Hg1 := Lib.hid hg1; clear hg1
  have Hl1 := Lib.hid hl1; clear hl1
  have Hrow1 := Lib.hid hrow1; clear hrow1
  have Hl : Hid ((bs ++ natBytes s.size).length + s.size ≤ 70368744177664) := by
    show _ ≤ _
    have h1 := Hlen.out
    have h2 := natBytes_length s.size
    simp; omega
  go_wp2_with (at_builtin; refine wpList_append_str rfl _ _ rfl g m cap _ rfl Hrow1.out s rfl Hl.out ?_; intro g2 m2 cap2 w2 hrow2 hg2 hl2; have hb2 := (hg2.block b (Nat.lt_of_lt_of_le (lt_of_heap Hh.out) Hg1.out.size) (fun e => hgb.2 (by cases e; rfl))).trans Hb1.out; have hc2 : w2.cell? ⟨b, 0, none⟩ = some v := cell_of_heap hb2 0; have hf2 : w2.frozen? ⟨b, 0, none⟩ = false := frozen_of_heap hb2 0; have Hb2 := Lib.hid hb2; clear hb2; have Hg2 := Lib.hid hg2; clear hg2; have Hl2 := Lib.hid hl2; clear hl2; have Hrow2 := Lib.hid hrow2; clear hrow2)
  go_end0
  refine ⟨rfl, wrX_stored hBb hB HX.out HXb.out Hh.out Hlie.out (grown_step Hg1.out (v' := .slice (some ⟨g, 0, none⟩) m cap) (fun g' hg' => ?_) Hg2.out) ?_ Hrow2.out⟩
  · obtain rfl : g = g' := by simpa [Value.ownBlock] using hg'
    exact Hl1.out
  · rcases Hl2.out with h | h
    · rw [h]; exact Hl1.out
    · exact .inr (Nat.le_trans Hg1.out.size h)
set_option maxRecDepth 100000 in
set_option maxHeartbeats 1600000 in
theorem flagX_any (B b X : Nat) (bs : List UInt8) (f : Bool) (w : World) (hlen : bs.length ≤ 35184372088832) (hB : B ≤ w.heap.size) (h : WrX B b X w bs) :
    Calls Tryz.prog 95 #[.pointer (some ⟨b, 0, none⟩), .bool f] w (WrXPost B b X w (bs ++ flagB f)) := by
  obtain ⟨hBb, hX, hXb, v, hh, hrow, hlie⟩ := h
  have hc0 : w.cell? ⟨b, 0, none⟩ = some v := by simp [World.cell?, hh]
  have Hh := Lib.hid hh; clear hh
  have Hlie := Lib.hid hlie; clear hlie
  have Hl1e : Hid (∀ g, v.ownBlock = some g → B ≤ g ∧ g ≠ b) := fun g hg => (Hlie.out g hg).1
  have Hlen := Lib.hid hlen; clear hlen
  have Hrow := Lib.hid hrow; clear hrow
  have HX := Lib.hid hX; clear hX
  have HXb := Lib.hid hXb; clear hXb
  go_enter Tryz.func95, Tryz.ntmps95
  go_wp2_with fail
  refine (works_any b 0 v _ Hh.out).mono ?_
  rintro e w' ⟨rfl, rfl⟩
  cases f
  · go_wp2_with (at_builtin; refine wpList_append_byte rfl _ _ rfl v bs rfl Hrow.out (0 : UInt8) _ (by rfl) rfl Hlen.out ?_; intro g m cap w1 hrow1 hg1 hl1; have hb1 := wr_later Hh.out Hl1e.out hg1; have hc1 : w1.cell? ⟨b, 0, none⟩ = some v := cell_of_heap hb1 0; have hf1 : w1.frozen? ⟨b, 0, none⟩ = false := frozen_of_heap hb1 0; have Hb1 := Lib.hid hb1; clear hb1; have Hg1 := Lib.hid hg1; clear hg1; have Hl1 := Lib.hid hl1; clear hl1; have Hrow1 := Lib.hid hrow1; clear hrow1)
    go_end0
    exact ⟨rfl, wrX_stored hBb hB HX.out HXb.out Hh.out Hlie.out Hg1.out Hl1.out Hrow1.out⟩
  · go_wp2_with (at_builtin; refine wpList_append_byte rfl _ _ rfl v bs rfl Hrow.out (1 : UInt8) _ (by rfl) rfl Hlen.out ?_; intro g m cap w1 hrow1 hg1 hl1; have hb1 := wr_later Hh.out Hl1e.out hg1; have hc1 : w1.cell? ⟨b, 0, none⟩ = some v := cell_of_heap hb1 0; have hf1 : w1.frozen? ⟨b, 0, none⟩ = false := frozen_of_heap hb1 0; have Hb1 := Lib.hid hb1; clear hb1; have Hg1 := Lib.hid hg1; clear hg1; have Hl1 := Lib.hid hl1; clear hl1; have Hrow1 := Lib.hid hrow1; clear hrow1)
    go_end0
    exact ⟨rfl, wrX_stored hBb hB HX.out HXb.out Hh.out Hlie.out Hg1.out Hl1.out Hrow1.out⟩
end Go.Proofs.YtfchfjipkggnkaaGreatDoor

namespace Go.Proofs.YtfchfjipkggnkaaGreatDoor
open Go.RowKit
attribute [local go_sem ↓] run_eql_opn run_neq_opn

theorem used_snoc_len {t : List OpnT} {k : Nat} {x : OpnT} (h : t[k]? = some x) : (usedO 0 (t.take (k + 1))).length = (usedO 0 (t.take k)).length + (if isZ x = true then 0 else 1) := by
  rw [usedO_take h, List.length_append]
  split <;> rfl
theorem ents_step {t : List OpnT} {k : Nat} {x : OpnT} (h : t[k]? = some x) : entsB (usedO 0 (t.take (k + 1))) = entsB (usedO 0 (t.take k)) ++ (if isZ x = true then [] else entB k x) := by
  rw [usedO_take h]
  unfold entsB
  rw [List.flatMap_append]
  split <;> simp
theorem take_tabE {t : List OpnT} (h : tabE t = 0) (k : Nat) : tabE (t.take k) = 0 := tabE_of fun o ho hz => tabE_mem h o (List.mem_of_mem_take ho) hz
theorem ents_take_len {t : List OpnT} (h : tabE t = 0) (hl : t.length = 16) (k : Nat) : (entsB (usedO 0 (t.take k))).length ≤ 3200 := by
  have h1 := entsB_len (used_size (take_tabE h k))
  have h2 := usedO_len (t.take k) 0
  have h3 : (t.take k).length ≤ 16 := by rw [List.length_take]; omega
  omega
set_option maxRecDepth 100000 in
set_option maxHeartbeats 12800000 in
theorem dEncode_any (t : List OpnT) (ht : t.length = 16) (hm : ∀ o ∈ t, o.mak.size ≤ 70368744177664) (w : World) : Calls Tryz.prog 61 #[.agg (tabA t)] w fun r w' => r = .returned (.tuple #[.string (encD t).1, .int .i64 (encD t).2]) ∧ Below w.heap.size w w' := by
  have HT0 : Hid (TabAt (w.alloc (.cells (tabA t) 36)) w.heap.size t) := ⟨World.alloc_heap_new w _, ht⟩
  have HB0 : Hid (Below w.heap.size w (w.alloc (.cells (tabA t) 36))) := (Below.refl _ _).alloc (Nat.le_refl _) _
  have Hm := Lib.hid hm; clear hm
  have Ht := Lib.hid ht; clear ht
  go_enter Tryz.func61, Tryz.ntmps61
  go_wp2
  refine wp_load_tab _ rfl w.heap.size rfl HT0.out ?_
  go_wp2
  generalize w.alloc (.cells (tabA t) 36) = w1 at *
  go_loopw [4, 14] (fun u i wr => ∃ k : Nat, k ≤ 16 ∧ i = .int .i64 k ∧ u = .int .i64 (usedO 0 (t.take k)).length ∧ Hid (tabE (t.take k) = 0) ∧ Hid (Below w1.heap.size w1 wr)) (fun _ i _ => 16 - (intOf i).toNat)
  case atStart => exact ⟨0, by omega, rfl, rfl, rfl, Below.refl _ _⟩
  case round =>
    obtain ⟨k, hk, rfl, rfl, HE, HB⟩ := hrel
    by_cases h5 : k < 16
    · obtain ⟨x, hx⟩ := ent_some Ht.out h5
      have hix := tab_index t h5 hx wr
      have HXt := Lib.hid (Hm.out x (List.mem_of_getElem? hx))
      have Hx := Lib.hid hx; clear hx
      have Hln := Lib.hid (used_snoc_len Hx.out)
      have HEs := Lib.hid (tabE_step Hx.out HE.out)
      have Hul : Hid ((usedO 0 (t.take k)).length ≤ 16) := by
        have h1 := usedO_len (t.take k) 0
        have h2 : (t.take k).length ≤ 16 := by rw [List.length_take]; omega
        exact Nat.le_trans h1 h2
      have hul := Hul.out
      have HA : Hid (∀ ob, Below w1.heap.size w1 (wr.alloc ob)) := fun ob => HB.out.alloc HB.out.size _
      generalize (usedO 0 (t.take k)).length = un at *
      obtain ⟨kd, mak, bn, num, off, rd, wr_, ap⟩ := x
      dsimp only [opnA] at hix
      cases hz : isZ ⟨kd, mak, bn, num, off, rd, wr_, ap⟩ with
      | true =>
        have hz2 : sameO ⟨kd, mak, bn, num, off, rd, wr_, ap⟩ ⟨0, ⟨#[]⟩, 0, 0, 0, false, false, false⟩ = true := hz
        rw [hz] at Hln HEs
        clear hz
        go_wp2
        go_roundw
        case rel => exact ⟨k + 1, by omega, by go_num, by rw [Hln.out]; rfl, HEs.out, HA.out _⟩
        case measure => simp [intOf]; omega
      | false =>
        have hz2 : sameO ⟨kd, mak, bn, num, off, rd, wr_, ap⟩ ⟨0, ⟨#[]⟩, 0, 0, 0, false, false, false⟩ = false := hz
        have Hz := Lib.hid hz
        rw [hz] at Hln HEs
        clear hz
        have HEs2 : Hid (tabE (t.take (k + 1)) = checkO ⟨kd, mak, bn, num, off, rd, wr_, ap⟩) := HEs.out.trans (if_neg (fun h => nomatch h))
        have Hln2 : Hid ((usedO 0 (t.take (k + 1))).length = un + 1) := Hln.out.trans (by rw [if_neg (fun h => nomatch h)])
        have HS : Hid (checkO ⟨kd, mak, bn, num, off, rd, wr_, ap⟩ ≠ 0 → encD t = (⟨#[]⟩, checkO ⟨kd, mak, bn, num, off, rd, wr_, ap⟩)) := fun h => by
          have h2 := tabE_stop Hx.out HE.out Hz.out h
          unfold encD
          rw [h2, if_neg h]
        clear HEs Hln
        go_wp2_with fail
        generalize hq : checkO ⟨kd, mak, bn, num, off, rd, wr_, ap⟩ = q at *
        have Hq := Lib.hid hq; clear hq
        refine (oCheck_is kd mak bn num off rd wr_ ap q Hq.out _ HXt.out).mono ?_
        rintro r w2 ⟨rfl, hb2⟩
        have HB2 : Hid (Below w1.heap.size w1 w2) := (HA.out _).trans (hb2.mono (HA.out _).size)
        clear hb2
        by_cases h0 : q = 0
        · subst h0
          go_wp2
          go_roundw
          case rel => exact ⟨k + 1, by omega, by go_num, by rw [Hln2.out]; go_num, HEs2.out, HB2.out⟩
          case measure => simp [intOf]; omega
        · have he := HS.out h0
          have He := Lib.hid he
          have hq' : ((q : Int) != 0) = true := bne_iff_ne.2 (by omega)
          have HF : Hid (Below w.heap.size w w2) := HB0.out.trans (HB2.out.mono HB0.out.size)
          clear h0 HS he
          go_wp2
          go_ret2
          rw [He.out]
          exact ⟨rfl, HF.out⟩
    · obtain rfl : k = 16 := by omega
      have htk : t.take 16 = t := List.take_of_length_le (by rw [Ht.out]; exact Nat.le_refl _)
      rw [htk] at HE ⊢
      clear htk h5 hk
      have HT1 := Lib.hid (HT0.out.later HB.out)
      have he : Hid (encD t = (strOf (encDB t), 0)) := if_pos HE.out
      have hul : (usedO 0 t).length ≤ 16 := Nat.le_trans (usedO_len t 0) (by rw [Ht.out]; exact Nat.le_refl _)
      have HBr : Hid (Below w.heap.size w wr) := HB0.out.trans (HB.out.mono HB0.out.size)
      clear HB HT0
      go_wp2_with fail
      refine (newWriter_any _).mono ?_
      rintro e w2 ⟨rfl, rfl⟩
      have Hwr := Lib.hid (wr_box (w := wr))
      have HB2 : Hid (Below wr.heap.size wr (wr.alloc (.cells #[.slice none 0 0, .int .i64 0] 185))) := (Below.refl _ _).alloc (Nat.le_refl _) _
      generalize wr.alloc (.cells #[.slice none 0 0, .int .i64 0] 185) = w2 at *
      have Hnl : Hid ((usedO 0 t).length = (usedO 0 t).length) := rfl
      clear Hnl
      have Hhd : Hid ([] ++ natBytes ((usedO 0 t).length : Int).toNat = natBytes (usedO 0 t).length) := by show _ = _; simp
      have HfD : Hid (encDB t = natBytes (usedO 0 t).length ++ entsB (usedO 0 t)) := rfl
      have HnL : Hid ((natBytes (usedO 0 t).length).length ≤ 10) := natBytes_length _
      generalize (usedO 0 t).length = un at *
      go_wp2_with fail
      refine (number_any wr.heap.size wr.heap.size [] un _ (by omega) (by omega) (by simp) HB2.out.size Hwr.out).mono ?_
      rintro e w3 ⟨rfl, hwr, hb⟩
      rw [Hhd.out] at hwr
      have HB3 : Hid (Below wr.heap.size wr w3) := HB2.out.trans hb
      have HW3 := Lib.hid hwr
      have HT3 := Lib.hid (HT1.out.later HB3.out)
      clear hwr hb Hwr HB2 Hhd HT1
      obtain ⟨wo, hwo⟩ : ∃ x, x = wr := ⟨_, rfl⟩
      subst hwo
      obtain ⟨B, hB⟩ : ∃ B, wo.heap.size = B := ⟨_, rfl⟩
      rw [hB] at HB3 HW3
      rw [hB]
      have hBw : B ≤ w3.heap.size := by rw [← hB]; exact HB3.out.size
      go_wp2
      refine wp_load_tab _ rfl w.heap.size rfl HT3.out ?_
      go_wp2
      go_loopw [33] (fun i wr => ∃ k : Nat, k ≤ 16 ∧ i = .int .i64 k ∧ Hid (Wr B B wr (natBytes un ++ entsB (usedO 0 (t.take k)))) ∧ Hid (Below B wo wr)) (fun i _ => 16 - (intOf i).toNat)
      case atStart => exact ⟨0, by omega, rfl, by show Wr _ _ _ _; simpa [entsB, usedO] using HW3.out, HB3.out⟩
      case round =>
        obtain ⟨k, hk, rfl, HW, HBx⟩ := hrel
        clear HT3 HW3
        by_cases h5 : k < 16
        · obtain ⟨x, hx⟩ := ent_some Ht.out h5
          have hix := tab_index t h5 hx wr
          have Hx := Lib.hid hx; clear hx
          have Hst := Lib.hid (ents_step Hx.out)
          have HL0 : Hid ((natBytes un ++ entsB (usedO 0 (t.take k))).length ≤ 4000) := by
            show _ ≤ _
            have h1 := ents_take_len HE.out Ht.out k
            have h2 := HnL.out
            rw [List.length_append]
            omega
          have HCk : Hid (isZ x = false → OkO x) := fun h => checkO_ok (tabE_mem HE.out x (List.mem_of_getElem? Hx.out) h)
          have HWx : Hid (∀ ob, WrX B B wr.heap.size (wr.alloc ob) (natBytes un ++ entsB (usedO 0 (t.take k)))) := fun ob => HW.out.x ob
          have HA : Hid (∀ ob, Below B wo (wr.alloc ob)) := fun ob => HBx.out.alloc (by have := HBx.out.size; omega) _
          have HX : Hid (∀ ob, (wr.alloc ob).heap[wr.heap.size]? = some ob) := fun ob => World.alloc_heap_new wr ob
          obtain ⟨pre, hpre⟩ : ∃ p, natBytes un ++ entsB (usedO 0 (t.take k)) = p := ⟨_, rfl⟩
          rw [hpre] at HL0 HWx HW
          have Hpre := Lib.hid hpre
          clear hpre HW
          obtain ⟨kd, mak, bn, num, off, rd, wr_, ap⟩ := x
          dsimp only [opnA] at hix
          cases hz : isZ ⟨kd, mak, bn, num, off, rd, wr_, ap⟩ with
          | true =>
            have hz2 : sameO ⟨kd, mak, bn, num, off, rd, wr_, ap⟩ ⟨0, ⟨#[]⟩, 0, 0, 0, false, false, false⟩ = true := hz
            rw [hz] at Hst
            have HW2 : Hid (∀ ob, Wr B B (wr.alloc ob) pre) := fun ob => (HWx.out ob).wr
            have Hst2 : Hid (natBytes un ++ entsB (usedO 0 (t.take (k + 1))) = pre) := by
              show _ = _
              rw [Hst.out, if_pos rfl, List.append_nil]
              exact Hpre.out
            clear hz HCk HWx
            go_wp2
            go_roundw
            case rel => exact ⟨k + 1, by omega, by go_num, by rw [Hst2.out]; exact HW2.out _, HA.out _⟩
            case measure => simp [intOf]; omega
          | false =>
            have hz2 : sameO ⟨kd, mak, bn, num, off, rd, wr_, ap⟩ ⟨0, ⟨#[]⟩, 0, 0, 0, false, false, false⟩ = false := hz
            obtain ⟨b1, b2, b3, b4, b5⟩ := HCk.out hz
            dsimp only at b1 b2 b3 b4 b5
            rw [hz] at Hst
            have Hst2 : Hid (natBytes un ++ entsB (usedO 0 (t.take (k + 1))) = pre ++ entB k ⟨kd, mak, bn, num, off, rd, wr_, ap⟩) := by
              show _ = _
              rw [Hst.out, if_neg (fun h => nomatch h), ← List.append_assoc, Hpre.out]
            clear hz HCk
            have HL := HL0
            go_wp2_with fail
            refine (numberX_any B B wr.heap.size pre (k : Int) _ (by omega) (by omega) (by have := HL.out; omega) (by simp; have := HBx.out.size; omega) (HWx.out _)).mono ?_
            rintro r y1 ⟨rfl, hw, hb, hx⟩
            have HW1 := Lib.hid hw
            have HS1 : Hid (B ≤ y1.heap.size) := Nat.le_trans (by simp; have := HBx.out.size; omega) hb.size
            have HBy1 : Hid (Below B wo y1) := (HA.out _).trans hb
            have HX1 := Lib.hid (hx.trans (HX.out _))
            have HL1 : Hid ((pre ++ natBytes (k : Int).toNat).length ≤ 4100) := by
              show _ ≤ _
              have h1 := HL.out
              have h2 := natBytes_length (k : Int).toNat
              rw [List.length_append]
              omega
            have HP1 : Hid (pre ++ natBytes (k : Int).toNat = pre ++ natBytes (k : Int).toNat) := rfl
            obtain ⟨p1, hp1⟩ : ∃ p, pre ++ natBytes (k : Int).toNat = p := ⟨_, rfl⟩
            rw [hp1] at HW1 HL1
            have Hp1 := Lib.hid hp1
            clear hw hb hx hp1 HP1 HWx HX
            have c1 : y1.cell? ⟨wr.heap.size, 0, none⟩ = some (.int .i64 kd) := cell_of_heap HX1.out 0
            go_wp2_with fail
            refine (numberX_any B B wr.heap.size p1 kd _ (by omega) (by omega) (by have := HL1.out; omega) HS1.out HW1.out).mono ?_
            rintro r y2 ⟨rfl, hw, hb, hx⟩
            have HW2 := Lib.hid hw
            have HS2 : Hid (B ≤ y2.heap.size) := Nat.le_trans HS1.out hb.size
            have HBy2 : Hid (Below B wo y2) := HBy1.out.trans hb
            have HX2 := Lib.hid (hx.trans HX1.out)
            have HL2 : Hid ((p1 ++ natBytes kd.toNat).length ≤ 4200) := by
              show _ ≤ _
              have h1 := HL1.out
              have h2 := natBytes_length kd.toNat
              rw [List.length_append]
              omega
            have HP2 : Hid (p1 ++ natBytes kd.toNat = p1 ++ natBytes kd.toNat) := rfl
            obtain ⟨p2, hp2⟩ : ∃ p, p1 ++ natBytes kd.toNat = p := ⟨_, rfl⟩
            rw [hp2] at HW2 HL2
            have Hp2 := Lib.hid hp2
            clear hw hb hx hp2 HP2 HX1 HW1
            have c2 : y2.cell? ⟨wr.heap.size, 1, none⟩ = some (.string mak) := cell_of_heap HX2.out 1
            go_wp2_with fail
            refine (textXX_any B B wr.heap.size p2 mak _ (by omega) (by have := HL2.out; omega) HS2.out HW2.out).mono ?_
            rintro r y3 ⟨rfl, hw, hb, hx⟩
            have HW3 := Lib.hid hw
            have HS3 : Hid (B ≤ y3.heap.size) := Nat.le_trans HS2.out hb.size
            have HBy3 : Hid (Below B wo y3) := HBy2.out.trans hb
            have HX3 := Lib.hid (hx.trans HX2.out)
            have HL3 : Hid ((p2 ++ natBytes mak.size ++ mak.data.toList).length ≤ 4300) := by
              show _ ≤ _
              have h1 := HL2.out
              have h2 := natBytes_length mak.size
              rw [List.length_append, List.length_append, size_toList]
              omega
            have HP3 : Hid (p2 ++ natBytes mak.size ++ mak.data.toList = p2 ++ natBytes mak.size ++ mak.data.toList) := rfl
            obtain ⟨p3, hp3⟩ : ∃ p, p2 ++ natBytes mak.size ++ mak.data.toList = p := ⟨_, rfl⟩
            rw [hp3] at HW3 HL3
            have Hp3 := Lib.hid hp3
            clear hw hb hx hp3 HP3 HX2 HW2
            have c3 : y3.cell? ⟨wr.heap.size, 2, none⟩ = some (.int .i64 bn) := cell_of_heap HX3.out 2
            go_wp2_with fail
            refine (numberX_any B B wr.heap.size p3 bn _ (by omega) (by omega) (by have := HL3.out; omega) HS3.out HW3.out).mono ?_
            rintro r y4 ⟨rfl, hw, hb, hx⟩
            have HW4 := Lib.hid hw
            have HS4 : Hid (B ≤ y4.heap.size) := Nat.le_trans HS3.out hb.size
            have HBy4 : Hid (Below B wo y4) := HBy3.out.trans hb
            have HX4 := Lib.hid (hx.trans HX3.out)
            have HL4 : Hid ((p3 ++ natBytes bn.toNat).length ≤ 4400) := by
              show _ ≤ _
              have h1 := HL3.out
              have h2 := natBytes_length bn.toNat
              rw [List.length_append]
              omega
            have HP4 : Hid (p3 ++ natBytes bn.toNat = p3 ++ natBytes bn.toNat) := rfl
            obtain ⟨p4, hp4⟩ : ∃ p, p3 ++ natBytes bn.toNat = p := ⟨_, rfl⟩
            rw [hp4] at HW4 HL4
            have Hp4 := Lib.hid hp4
            clear hw hb hx hp4 HP4 HX3 HW3
            have c4 : y4.cell? ⟨wr.heap.size, 3, none⟩ = some (.int .i64 num) := cell_of_heap HX4.out 3
            go_wp2_with fail
            refine (numberX_any B B wr.heap.size p4 num _ (by omega) (by omega) (by have := HL4.out; omega) HS4.out HW4.out).mono ?_
            rintro r y5 ⟨rfl, hw, hb, hx⟩
            have HW5 := Lib.hid hw
            have HS5 : Hid (B ≤ y5.heap.size) := Nat.le_trans HS4.out hb.size
            have HBy5 : Hid (Below B wo y5) := HBy4.out.trans hb
            have HX5 := Lib.hid (hx.trans HX4.out)
            have HL5 : Hid ((p4 ++ natBytes num.toNat).length ≤ 4500) := by
              show _ ≤ _
              have h1 := HL4.out
              have h2 := natBytes_length num.toNat
              rw [List.length_append]
              omega
            have HP5 : Hid (p4 ++ natBytes num.toNat = p4 ++ natBytes num.toNat) := rfl
            obtain ⟨p5, hp5⟩ : ∃ p, p4 ++ natBytes num.toNat = p := ⟨_, rfl⟩
            rw [hp5] at HW5 HL5
            have Hp5 := Lib.hid hp5
            clear hw hb hx hp5 HP5 HX4 HW4
            have c5 : y5.cell? ⟨wr.heap.size, 4, none⟩ = some (.int .i64 off) := cell_of_heap HX5.out 4
            go_wp2_with fail
            refine (numberX_any B B wr.heap.size p5 off _ (by omega) (by omega) (by have := HL5.out; omega) HS5.out HW5.out).mono ?_
            rintro r y6 ⟨rfl, hw, hb, hx⟩
            have HW6 := Lib.hid hw
            have HS6 : Hid (B ≤ y6.heap.size) := Nat.le_trans HS5.out hb.size
            have HBy6 : Hid (Below B wo y6) := HBy5.out.trans hb
            have HX6 := Lib.hid (hx.trans HX5.out)
            have HL6 : Hid ((p5 ++ natBytes off.toNat).length ≤ 4600) := by
              show _ ≤ _
              have h1 := HL5.out
              have h2 := natBytes_length off.toNat
              rw [List.length_append]
              omega
            have HP6 : Hid (p5 ++ natBytes off.toNat = p5 ++ natBytes off.toNat) := rfl
            obtain ⟨p6, hp6⟩ : ∃ p, p5 ++ natBytes off.toNat = p := ⟨_, rfl⟩
            rw [hp6] at HW6 HL6
            have Hp6 := Lib.hid hp6
            clear hw hb hx hp6 HP6 HX5 HW5
            have c6 : y6.cell? ⟨wr.heap.size, 5, none⟩ = some (.bool rd) := cell_of_heap HX6.out 5
            go_wp2_with fail
            refine (flagX_any B B wr.heap.size p6 rd _ (by have := HL6.out; omega) HS6.out HW6.out).mono ?_
            rintro r y7 ⟨rfl, hw, hb, hx⟩
            have HW7 := Lib.hid hw
            have HS7 : Hid (B ≤ y7.heap.size) := Nat.le_trans HS6.out hb.size
            have HBy7 : Hid (Below B wo y7) := HBy6.out.trans hb
            have HX7 := Lib.hid (hx.trans HX6.out)
            have HL7 : Hid ((p6 ++ flagB rd).length ≤ 4700) := by
              show _ ≤ _
              have h1 := HL6.out
              rw [List.length_append]; show _ + 1 ≤ _
              omega
            have HP7 : Hid (p6 ++ flagB rd = p6 ++ flagB rd) := rfl
            obtain ⟨p7, hp7⟩ : ∃ p, p6 ++ flagB rd = p := ⟨_, rfl⟩
            rw [hp7] at HW7 HL7
            have Hp7 := Lib.hid hp7
            clear hw hb hx hp7 HP7 HX6 HW6
            have c7 : y7.cell? ⟨wr.heap.size, 6, none⟩ = some (.bool wr_) := cell_of_heap HX7.out 6
            go_wp2_with fail
            refine (flagX_any B B wr.heap.size p7 wr_ _ (by have := HL7.out; omega) HS7.out HW7.out).mono ?_
            rintro r y8 ⟨rfl, hw, hb, hx⟩
            have HW8 := Lib.hid hw
            have HS8 : Hid (B ≤ y8.heap.size) := Nat.le_trans HS7.out hb.size
            have HBy8 : Hid (Below B wo y8) := HBy7.out.trans hb
            have HX8 := Lib.hid (hx.trans HX7.out)
            have HL8 : Hid ((p7 ++ flagB wr_).length ≤ 4800) := by
              show _ ≤ _
              have h1 := HL7.out
              rw [List.length_append]; show _ + 1 ≤ _
              omega
            have HP8 : Hid (p7 ++ flagB wr_ = p7 ++ flagB wr_) := rfl
            obtain ⟨p8, hp8⟩ : ∃ p, p7 ++ flagB wr_ = p := ⟨_, rfl⟩
            rw [hp8] at HW8 HL8
            have Hp8 := Lib.hid hp8
            clear hw hb hx hp8 HP8 HX7 HW7
            have c8 : y8.cell? ⟨wr.heap.size, 7, none⟩ = some (.bool ap) := cell_of_heap HX8.out 7
            go_wp2_with fail
            refine (flagX_any B B wr.heap.size p8 ap _ (by have := HL8.out; omega) HS8.out HW8.out).mono ?_
            rintro r y9 ⟨rfl, hw, hb, hx⟩
            have HW9 := Lib.hid hw
            have HS9 : Hid (B ≤ y9.heap.size) := Nat.le_trans HS8.out hb.size
            have HBy9 : Hid (Below B wo y9) := HBy8.out.trans hb
            have HX9 := Lib.hid (hx.trans HX8.out)
            have HL9 : Hid ((p8 ++ flagB ap).length ≤ 4900) := by
              show _ ≤ _
              have h1 := HL8.out
              rw [List.length_append]; show _ + 1 ≤ _
              omega
            have HP9 : Hid (p8 ++ flagB ap = p8 ++ flagB ap) := rfl
            obtain ⟨p9, hp9⟩ : ∃ p, p8 ++ flagB ap = p := ⟨_, rfl⟩
            rw [hp9] at HW9 HL9
            have Hp9 := Lib.hid hp9
            clear hw hb hx hp9 HP9 HX8 HW8
            have Hfull : Hid (p9 = pre ++ entB k ⟨kd, mak, bn, num, off, rd, wr_, ap⟩) := by
              show _ = _
              rw [← Hp9.out, ← Hp8.out, ← Hp7.out, ← Hp6.out, ← Hp5.out, ← Hp4.out, ← Hp3.out, ← Hp2.out, ← Hp1.out]
              simp [entB, textB]
            rw [Hfull.out] at HW9
            go_wp2
            go_roundw
            case rel => exact ⟨k + 1, by omega, by go_num, by rw [Hst2.out]; exact HW9.out.wr, HBy9.out⟩
            case measure => simp [intOf]; omega
        · obtain rfl : k = 16 := by omega
          have htk : t.take 16 = t := List.take_of_length_le (by rw [Ht.out]; exact Nat.le_refl _)
          rw [htk] at HW
          have hwr := HW.out
          rw [← HfD.out] at hwr
          have HWn := Lib.hid hwr
          have Hel : Hid ((encDB t).length ≤ 35184372088832) := Nat.le_trans (encDB_len HE.out (by rw [Ht.out]; exact Nat.le_refl _)) (by decide)
          clear hwr HW htk
          go_wp2_with fail
          refine (bytes_any B B _ _ Hel.out HWn.out).mono ?_
          rintro e w7 ⟨v, rfl, hrow, hb, hform⟩
          rcases hform with rfl | ⟨g2, n2, c2, rfl, hg2⟩
          · exfalso
            rcases hrow.2 with ⟨_, h⟩ | ⟨g', cap', cur, h0, _⟩
            · have := natBytes_ne un
              rw [HfD.out] at h
              simp at h
              exact this h.1
            · cases h0
          · have hconv := run_bytes_str w7 g2 0 n2 c2 _ hrow.sl.1
            have Hfin : Hid (Below w.heap.size w w7) := HBr.out.trans ((HBx.out.trans (hb.mono (by have := HBx.out.size; omega))).mono (by rw [← hB]; exact HBr.out.size))
            clear hrow hb HBx HWn
            go_wp2
            go_ret2
            rw [he.out]
            exact ⟨rfl, Hfin.out⟩
end Go.Proofs.YtfchfjipkggnkaaGreatDoor

namespace Go.Proofs.YtfchfjipkggnkaaGreatDoor
open Go.RowKit
attribute [local go_sem ↓] run_eql_opn run_neq_opn

/-- In the midst of Decode: the result's block R, the table's T, the Reader's between L and U. -/
structure DDec (w0 : World) (R T L U b : Nat) (wr : World) (t : List OpnT) (s : RdS) : Prop where
  tab : TabAt wr T t
  res : TabAt wr R zeroTab
  rd : Rd (fun k => L ≤ k ∧ k < U) b wr s
  low : Below w0.heap.size w0 wr
  r0 : w0.heap.size ≤ R
  rt : R < T
  tl : T < L
  up : U ≤ wr.heap.size
section
variable {w0 : World} {R T L U b : Nat} {wr w1 : World} {t t' : List OpnT} {s s' : RdS}
theorem DDec.later (h : DDec w0 R T L U b wr t s) (hb : Below wr.heap.size wr w1) : DDec w0 R T L U b w1 t s :=
  ⟨h.tab.later hb, h.res.later hb, h.rd.later hb, h.low.trans (hb.mono h.low.size), h.r0, h.rt, h.tl, Nat.le_trans h.up hb.size⟩
theorem DDec.read (h : DDec w0 R T L U b wr t s) (hr : Rd (fun k => L ≤ k ∧ k < U) b w1 s') (hg : wr.grownBy w1 (some b)) : DDec w0 R T L U b w1 t s' := by
  have hbL := hr.1
  have h1 := h.rt
  have h2 := h.tl
  have h3 := h.r0
  exact ⟨⟨(hg.block T (lt_of_heap h.tab.1) (fun e => by cases e; omega)).trans h.tab.1, h.tab.2⟩, ⟨(hg.block R (lt_of_heap h.res.1) (fun e => by cases e; omega)).trans h.res.1, h.res.2⟩, hr, Below.grownRow h.low hg (Nat.le_refl _) (fun k hk => by cases hk; omega), h.r0, h.rt, h.tl, Nat.le_trans h.up hg.size⟩
/-- A block that is newer is stored into. -/
theorem DDec.other (h : DDec w0 R T L U b wr t s) {X : Nat} (hX : U ≤ X) (hg : wr.grownBy w1 (some X)) : DDec w0 R T L U b w1 t s := by
  have h1 := h.rt
  have h2 := h.tl
  have h3 := h.r0
  have h4 := h.rd.1
  exact ⟨⟨(hg.block T (lt_of_heap h.tab.1) (fun e => by cases e; omega)).trans h.tab.1, h.tab.2⟩, ⟨(hg.block R (lt_of_heap h.res.1) (fun e => by cases e; omega)).trans h.res.1, h.res.2⟩, h.rd.grown hg (fun k hk => by cases hk; omega), Below.grownRow h.low hg (Nat.le_refl _) (fun k hk => by cases hk; omega), h.r0, h.rt, h.tl, Nat.le_trans h.up hg.size⟩
/-- The table is stored into. -/
theorem DDec.put (h : DDec w0 R T L U b wr t s) (ht : TabAt w1 T t') (hg : wr.grownBy w1 (some T)) : DDec w0 R T L U b w1 t' s := by
  have h1 := h.rt
  have h2 := h.tl
  have h3 := h.r0
  exact ⟨ht, ⟨(hg.block R (lt_of_heap h.res.1) (fun e => by cases e; omega)).trans h.res.1, h.res.2⟩, h.rd.grown hg (fun k hk => by cases hk; omega), Below.grownRow h.low hg (Nat.le_refl _) (fun k hk => by cases hk; omega), h.r0, h.rt, h.tl, Nat.le_trans h.up hg.size⟩
end
theorem OpnAt.set {w : World} {X : Nat} {o : OpnT} {cs : Array Value} (h : OpnAt w X o) (i : Nat) (v : Value) (o' : OpnT)
    (e : (#[.int .i64 o.kd, .string o.mak, .int .i64 o.bn, .int .i64 o.num, .int .i64 o.off, .bool o.rd, .bool o.wr, .bool o.ap] : Array Value).setIfInBounds i v = cs)
    (e2 : cs = #[.int .i64 o'.kd, .string o'.mak, .int .i64 o'.bn, .int .i64 o'.num, .int .i64 o'.off, .bool o'.rd, .bool o'.wr, .bool o'.ap]) : OpnAt (w.setCell ⟨X, i, none⟩ v) X o' := by
  have := heap_setCell_same h i v
  rw [e, e2] at this
  exact this
theorem OpnAt.kept {w w' : World} {X : Nat} {o : OpnT} (h : OpnAt w X o) (hk : w'.heap[X]? = w.heap[X]?) : OpnAt w' X o := hk.trans h
theorem OpnAt.free {w : World} {X : Nat} {o : OpnT} (h : OpnAt w X o) (i : Nat) : w.frozen? ⟨X, i, none⟩ = false := frozen_of_heap h i
theorem decE_bad1 {n : Nat} {last : Int} {t : List OpnT} {s : RdS} {fd : Nat} {x : OpnT} {s' : RdS} (h : rdEnt s = ⟨fd, x, s'⟩) (hb : (fd : Int) ≤ last) : decE (n + 1) last t s = none := by
  unfold decE
  rw [h]
  exact if_pos (.inl hb)
theorem decE_bad2 {n : Nat} {last : Int} {t : List OpnT} {s : RdS} {fd : Nat} {x : OpnT} {s' : RdS} (h : rdEnt s = ⟨fd, x, s'⟩) (hb : checkO x ≠ 0) : decE (n + 1) last t s = none := by
  unfold decE
  rw [h]
  exact if_pos (.inr hb)
theorem decE_good {n : Nat} {last : Int} {t : List OpnT} {s : RdS} {fd : Nat} {x : OpnT} {s' : RdS} (h : rdEnt s = ⟨fd, x, s'⟩) (hb : ¬ (fd : Int) ≤ last) (hc : checkO x = 0) : decE (n + 1) last t s = decE n fd (t.set fd x) s' := by
  have e : decE (n + 1) last t s = if ((rdEnt s).fd : Int) ≤ last ∨ checkO (rdEnt s).o ≠ 0 then none else decE n (rdEnt s).fd (t.set (rdEnt s).fd (rdEnt s).o) (rdEnt s).s := rfl
  rw [e, h]
  exact if_neg (fun h1 => h1.elim hb (fun h2 => h2 hc))
theorem second_newG (w : World) (o1 o2 : Obj) : ((w.alloc o1).alloc o2).heap[w.heap.size + 1]? = some o2 := by have := World.alloc_heap_new (w.alloc o1) o2; rwa [World.size_alloc] at this
/-- What Decode answers. -/
def DecPost (w : World) (s : ByteArray) (r : Ending) (w' : World) : Prop := r = .returned (.tuple #[.agg (tabA (decD s).1), .int .i64 (decD s).2]) ∧ Below w.heap.size w w'
theorem setRow_below {w0 w : World} {R : Nat} (h : Below w0.heap.size w0 w) (hR : w0.heap.size ≤ R) (cs : Array Value) : Below w0.heap.size w0 (w.setRow R cs) := Below.grownRow h (grown_setRow _ _ _) (Nat.le_refl _) (fun k hk => by cases hk; exact hR)
def finD : Option (List OpnT × RdS) → List OpnT × Nat
  | none => (zeroTab, 3)
  | some x => if rdClose x.2 ≠ 0 then (zeroTab, 3) else (x.1, 0)
theorem decD_fin (s : ByteArray) : decD s = finD (decE (rdNum 16 ⟨s.data.toList, 0⟩).1 (-1) zeroTab (rdNum 16 ⟨s.data.toList, 0⟩).2) := by
  unfold decD
  cases decE (rdNum 16 ⟨s.data.toList, 0⟩).1 (-1) zeroTab (rdNum 16 ⟨s.data.toList, 0⟩).2 with
  | none => rfl
  | some x => rfl
set_option maxRecDepth 100000 in
set_option maxHeartbeats 12800000 in
theorem dDecode_any (s : ByteArray) (w : World) (hs : s.size ≤ 16777216) : Calls Tryz.prog 29 #[.string s] w (DecPost w s) := by
  have hconv := Lib.run_convert_string_bytes (P := Tryz.prog) ((w.alloc (.cells Tryz.zeroCells36 36)).alloc (.cells Tryz.zeroCells36 36)) 9 113 5 s Tryz.underlying9 Tryz.underlying113 Tryz.underlying5
  have hbw := bytesWorld_below ((w.alloc (.cells Tryz.zeroCells36 36)).alloc (.cells Tryz.zeroCells36 36)) 5 s
  have hsrc : BSrc (Lib.bytesWorld ((w.alloc (.cells Tryz.zeroCells36 36)).alloc (.cells Tryz.zeroCells36 36)) 5 s) (.slice (some ⟨w.heap.size + 1 + 1, 0, none⟩) s.size (grownCap ((w.alloc (.cells Tryz.zeroCells36 36)).alloc (.cells Tryz.zeroCells36 36)) s.size 0 5)) s.data.toList := by
    refine .inr ⟨_, _, _, rfl, (size_toList s).symm, fun j u hu => ?_⟩
    have hj : j < s.size := by
      rw [← size_toList]
      rcases Nat.lt_or_ge j s.data.toList.length with h | h
      · exact h
      · rw [List.getElem?_eq_none (by simpa using h)] at hu; cases hu
    have hadd : (⟨w.heap.size + 1 + 1, 0, none⟩ : Addr).add j = ⟨w.heap.size + 1 + 1, j, none⟩ := by unfold Addr.add; split <;> simp_all
    rw [hadd]
    have := Lib.bytesWorld_cell ((w.alloc (.cells Tryz.zeroCells36 36)).alloc (.cells Tryz.zeroCells36 36)) 5 s j hj
    rw [World.size_alloc, World.size_alloc] at this
    rw [this, ← hu]
    have hj' : j < s.data.toList.length := by rw [size_toList]; exact hj
    simp only [List.getElem?_map, List.getElem?_eq_getElem hj', Option.map_some, byteV, List.getD_eq_getElem?_getD, Option.getD_some]
  rw [World.size_alloc, World.size_alloc] at hconv
  have HR0 : Hid (TabAt (Lib.bytesWorld ((w.alloc (.cells Tryz.zeroCells36 36)).alloc (.cells Tryz.zeroCells36 36)) 5 s) w.heap.size zeroTab) := ⟨(hbw.block _ (by simp; omega)).trans ((Below.heap_alloc _ _ _ (by simp)).trans ((World.alloc_heap_new w _).trans (by rw [zero_tab]))), zeroTab_len⟩
  have HT0 : Hid (TabAt (Lib.bytesWorld ((w.alloc (.cells Tryz.zeroCells36 36)).alloc (.cells Tryz.zeroCells36 36)) 5 s) (w.heap.size + 1) zeroTab) := ⟨(hbw.block _ (by simp)).trans ((second_newG w _ _).trans (by rw [zero_tab])), zeroTab_len⟩
  have Hwb : Hid (Below w.heap.size w (Lib.bytesWorld ((w.alloc (.cells Tryz.zeroCells36 36)).alloc (.cells Tryz.zeroCells36 36)) 5 s)) := (((Below.refl _ _).alloc (Nat.le_refl _) _).alloc (by simp) _).trans (hbw.mono (by simp; omega))
  have hwsz : w.heap.size + 1 < (Lib.bytesWorld ((w.alloc (.cells Tryz.zeroCells36 36)).alloc (.cells Tryz.zeroCells36 36)) 5 s).heap.size := by rw [Lib.bytesWorld_size]; simp
  have Hsrc := Lib.hid hsrc; clear hsrc hbw
  have Hlen : Hid (s.data.toList.length ≤ 35184372088832) := by show _ ≤ _; rw [size_toList]; omega
  clear hs
  go_enter Tryz.func29, Tryz.ntmps29
  go_wp2_with fail
  generalize Lib.bytesWorld ((w.alloc (.cells Tryz.zeroCells36 36)).alloc (.cells Tryz.zeroCells36 36)) 5 s = wb at *
  refine (newReader_any _ s.data.toList _ Hlen.out Hsrc.out (by simp)).mono ?_
  rintro e w1 ⟨b, rfl, hrd, hb1⟩
  clear hconv Hsrc
  have D0 : Hid (DDec w w.heap.size (w.heap.size + 1) wb.heap.size w1.heap.size b w1 zeroTab ⟨s.data.toList, 0⟩) := ⟨HT0.out.later hb1, HR0.out.later hb1, hrd, Hwb.out.trans (hb1.mono Hwb.out.size), Nat.le_refl _, by omega, hwsz, Nat.le_refl _⟩
  clear hrd hb1 HT0 HR0 Hwb hwsz
  have HDd := Lib.hid (decD_fin s)
  generalize s.data.toList = bs at *
  obtain ⟨⟨n, s0⟩, hn⟩ : ∃ p, rdNum 16 ⟨bs, 0⟩ = p := ⟨_, rfl⟩
  have h16 : n ≤ 16 := by have h : (rdNum 16 ⟨bs, 0⟩).1 ≤ 16 := rdNum_le 16 _; rw [hn] at h; exact h
  have hc := rNumber_any _ b 16 ⟨bs, 0⟩ _ D0.out.rd
  rw [hn] at hc HDd
  dsimp only at hc HDd
  have HC := Lib.hid hc
  clear hc hn
  generalize wb.heap.size = L at *
  generalize w1.heap.size = U at *
  obtain ⟨R, hR⟩ : ∃ R, w.heap.size = R := ⟨_, rfl⟩
  obtain ⟨T, hT⟩ : ∃ T, R + 1 = T := ⟨_, rfl⟩
  rw [hR, hT] at D0
  rw [hR, hT]
  go_wp2_with fail
  refine HC.out.mono ?_
  rintro e w2 ⟨rfl, hr, hg⟩
  have D1 := Lib.hid (D0.out.read hr hg); clear hr hg D0 HC
  go_wp2
  go_loopw [6, 14] (fun lv iv wr => ∃ (k : Nat) (last : Int) (t : List OpnT) (s1 : RdS), k ≤ n ∧ iv = .int .i64 k ∧ lv = .int .i64 last ∧ (-1 ≤ last ∧ last ≤ 15) ∧ Hid (decE n (-1) zeroTab s0 = decE (n - k) last t s1) ∧ Hid (DDec w R T L U b wr t s1)) (fun _ iv _ => n - (intOf iv).toNat)
  case atStart => exact ⟨0, -1, zeroTab, s0, by omega, rfl, rfl, by omega, rfl, D1.out⟩
  case round =>
    obtain ⟨k, last, t, s1, hk, rfl, rfl, hlast, HE, D⟩ := hrel
    clear D1
    by_cases h4 : k < n
    · have HE2 : Hid (decE n (-1) zeroTab s0 = decE (n - (k + 1) + 1) last t s1) := by
        show _ = _
        rw [show n - (k + 1) + 1 = n - k by omega]
        exact HE.out
      have HbX : Hid (b < wr.heap.size) := by have h1 := D.out.rd.1.2; have h2 := D.out.up; show _ < _; omega
      clear HE
      obtain ⟨⟨fd, t1⟩, h1⟩ : ∃ p, rdNum 15 s1 = p := ⟨_, rfl⟩
      have hc1 := rNumber_any _ b 15 s1 _ D.out.rd
      rw [h1] at hc1
      dsimp only at hc1
      have H1 := Lib.hid h1; clear h1
      have HC1 := Lib.hid hc1; clear hc1
      go_wp2_with fail
      refine HC1.out.mono ?_
      rintro e y1 ⟨rfl, hr, hg⟩
      have D1 := Lib.hid (D.out.read hr hg)
      have Hy1 : Hid (b < y1.heap.size) := Nat.lt_of_lt_of_le HbX.out hg.size
      clear hr hg D HC1 HbX
      have Da : Hid (DDec w R T L U b (y1.alloc (.cells #[.int .i64 0, .string ⟨#[]⟩, .int .i64 0, .int .i64 0, .int .i64 0, .bool false, .bool false, .bool false] 34)) t t1) := D1.out.later ((Below.refl _ _).alloc (Nat.le_refl _) _)
      have Oa : Hid (OpnAt (y1.alloc (.cells #[.int .i64 0, .string ⟨#[]⟩, .int .i64 0, .int .i64 0, .int .i64 0, .bool false, .bool false, .bool false] 34)) y1.heap.size ⟨0, ⟨#[]⟩, 0, 0, 0, false, false, false⟩) := World.alloc_heap_new y1 _
      have HUX : Hid (U ≤ y1.heap.size) := D1.out.up
      have hgt : y1.heap.size < (y1.alloc (.cells #[.int .i64 0, .string ⟨#[]⟩, .int .i64 0, .int .i64 0, .int .i64 0, .bool false, .bool false, .bool false] 34)).heap.size := by simp
      have HgX := Lib.hid hgt; clear hgt D1
      obtain ⟨⟨m2, t2⟩, h2⟩ : ∃ p, rdNum 5 t1 = p := ⟨_, rfl⟩
      have hc := rNumber_any _ b 5 t1 _ Da.out.rd
      rw [h2] at hc
      dsimp only at hc
      have H2 := Lib.hid h2; clear h2
      have HC := Lib.hid hc; clear hc
      go_wp2_with fail
      refine HC.out.mono ?_
      rintro e y2 ⟨rfl, hr, hg⟩
      have D2 := Lib.hid (Da.out.read hr hg)
      have O2 := Lib.hid (Oa.out.kept (hg.block _ (lt_of_heap Oa.out) (fun e => by cases e; exact absurd Hy1.out (Nat.lt_irrefl _))))
      clear hr hg Da Oa HC
      obtain ⟨v2, hv2⟩ : ∃ v : Int, (m2 : Int) = v := ⟨_, rfl⟩
      rw [hv2]
      have Hv2 := Lib.hid hv2; clear hv2
      have x0 : y2.cell? ⟨y1.heap.size, 0, none⟩ = some (.int .i64 0) := cell_of_heap O2.out 0
      have f0 : y2.frozen? ⟨y1.heap.size, 0, none⟩ = false := frozen_of_heap O2.out 0
      have D2n : Hid (DDec w R T L U b (y2.setCell ⟨y1.heap.size, 0, none⟩ (.int .i64 v2)) t t2) := D2.out.other HUX.out (grown_setCell _ _ _ _)
      have O2n : Hid (OpnAt (y2.setCell ⟨y1.heap.size, 0, none⟩ (.int .i64 v2)) y1.heap.size ⟨v2, ⟨#[]⟩, 0, 0, 0, false, false, false⟩) := O2.out.set 0 _ _ rfl rfl
      clear D2 O2
      obtain ⟨⟨m3, t3⟩, h3⟩ : ∃ p, rdText 65536 t2 = p := ⟨_, rfl⟩
      have hc := rText_any _ b 65536 t2 _ D2n.out.rd
      rw [h3] at hc
      dsimp only at hc
      have H3 := Lib.hid h3; clear h3
      have HC := Lib.hid hc; clear hc
      go_wp2_with fail
      refine HC.out.mono ?_
      rintro e y3 ⟨rfl, hr, hg⟩
      have D3 := Lib.hid (D2n.out.read hr hg)
      have O3 := Lib.hid (O2n.out.kept (hg.block _ (lt_of_heap O2n.out) (fun e => by cases e; exact absurd Hy1.out (Nat.lt_irrefl _))))
      clear hr hg D2n O2n HC x0 f0
      obtain ⟨v3, hv3⟩ : ∃ v : ByteArray, strOf m3 = v := ⟨_, rfl⟩
      rw [hv3]
      have Hv3 := Lib.hid hv3; clear hv3
      have x1 : y3.cell? ⟨y1.heap.size, 1, none⟩ = some (.string ⟨#[]⟩) := cell_of_heap O3.out 1
      have f1 : y3.frozen? ⟨y1.heap.size, 1, none⟩ = false := frozen_of_heap O3.out 1
      have D3n : Hid (DDec w R T L U b (y3.setCell ⟨y1.heap.size, 1, none⟩ (.string v3)) t t3) := D3.out.other HUX.out (grown_setCell _ _ _ _)
      have O3n : Hid (OpnAt (y3.setCell ⟨y1.heap.size, 1, none⟩ (.string v3)) y1.heap.size ⟨v2, v3, 0, 0, 0, false, false, false⟩) := O3.out.set 1 _ _ rfl rfl
      clear D3 O3
      obtain ⟨⟨m4, t4⟩, h4⟩ : ∃ p, rdNum 1073741824 t3 = p := ⟨_, rfl⟩
      have hc := rNumber_any _ b 1073741824 t3 _ D3n.out.rd
      rw [h4] at hc
      dsimp only at hc
      have H4 := Lib.hid h4; clear h4
      have HC := Lib.hid hc; clear hc
      go_wp2_with fail
      refine HC.out.mono ?_
      rintro e y4 ⟨rfl, hr, hg⟩
      have D4 := Lib.hid (D3n.out.read hr hg)
      have O4 := Lib.hid (O3n.out.kept (hg.block _ (lt_of_heap O3n.out) (fun e => by cases e; exact absurd Hy1.out (Nat.lt_irrefl _))))
      clear hr hg D3n O3n HC x1 f1
      obtain ⟨v4, hv4⟩ : ∃ v : Int, (m4 : Int) = v := ⟨_, rfl⟩
      rw [hv4]
      have Hv4 := Lib.hid hv4; clear hv4
      have x2 : y4.cell? ⟨y1.heap.size, 2, none⟩ = some (.int .i64 0) := cell_of_heap O4.out 2
      have f2 : y4.frozen? ⟨y1.heap.size, 2, none⟩ = false := frozen_of_heap O4.out 2
      have D4n : Hid (DDec w R T L U b (y4.setCell ⟨y1.heap.size, 2, none⟩ (.int .i64 v4)) t t4) := D4.out.other HUX.out (grown_setCell _ _ _ _)
      have O4n : Hid (OpnAt (y4.setCell ⟨y1.heap.size, 2, none⟩ (.int .i64 v4)) y1.heap.size ⟨v2, v3, v4, 0, 0, false, false, false⟩) := O4.out.set 2 _ _ rfl rfl
      clear D4 O4
      obtain ⟨⟨m5, t5⟩, h5⟩ : ∃ p, rdNum 9999 t4 = p := ⟨_, rfl⟩
      have hc := rNumber_any _ b 9999 t4 _ D4n.out.rd
      rw [h5] at hc
      dsimp only at hc
      have H5 := Lib.hid h5; clear h5
      have HC := Lib.hid hc; clear hc
      go_wp2_with fail
      refine HC.out.mono ?_
      rintro e y5 ⟨rfl, hr, hg⟩
      have D5 := Lib.hid (D4n.out.read hr hg)
      have O5 := Lib.hid (O4n.out.kept (hg.block _ (lt_of_heap O4n.out) (fun e => by cases e; exact absurd Hy1.out (Nat.lt_irrefl _))))
      clear hr hg D4n O4n HC x2 f2
      obtain ⟨v5, hv5⟩ : ∃ v : Int, (m5 : Int) = v := ⟨_, rfl⟩
      rw [hv5]
      have Hv5 := Lib.hid hv5; clear hv5
      have x3 : y5.cell? ⟨y1.heap.size, 3, none⟩ = some (.int .i64 0) := cell_of_heap O5.out 3
      have f3 : y5.frozen? ⟨y1.heap.size, 3, none⟩ = false := frozen_of_heap O5.out 3
      have D5n : Hid (DDec w R T L U b (y5.setCell ⟨y1.heap.size, 3, none⟩ (.int .i64 v5)) t t5) := D5.out.other HUX.out (grown_setCell _ _ _ _)
      have O5n : Hid (OpnAt (y5.setCell ⟨y1.heap.size, 3, none⟩ (.int .i64 v5)) y1.heap.size ⟨v2, v3, v4, v5, 0, false, false, false⟩) := O5.out.set 3 _ _ rfl rfl
      clear D5 O5
      obtain ⟨⟨m6, t6⟩, h6⟩ : ∃ p, rdNum 4096 t5 = p := ⟨_, rfl⟩
      have hc := rNumber_any _ b 4096 t5 _ D5n.out.rd
      rw [h6] at hc
      dsimp only at hc
      have H6 := Lib.hid h6; clear h6
      have HC := Lib.hid hc; clear hc
      go_wp2_with fail
      refine HC.out.mono ?_
      rintro e y6 ⟨rfl, hr, hg⟩
      have D6 := Lib.hid (D5n.out.read hr hg)
      have O6 := Lib.hid (O5n.out.kept (hg.block _ (lt_of_heap O5n.out) (fun e => by cases e; exact absurd Hy1.out (Nat.lt_irrefl _))))
      clear hr hg D5n O5n HC x3 f3
      obtain ⟨v6, hv6⟩ : ∃ v : Int, (m6 : Int) = v := ⟨_, rfl⟩
      rw [hv6]
      have Hv6 := Lib.hid hv6; clear hv6
      have x4 : y6.cell? ⟨y1.heap.size, 4, none⟩ = some (.int .i64 0) := cell_of_heap O6.out 4
      have f4 : y6.frozen? ⟨y1.heap.size, 4, none⟩ = false := frozen_of_heap O6.out 4
      have D6n : Hid (DDec w R T L U b (y6.setCell ⟨y1.heap.size, 4, none⟩ (.int .i64 v6)) t t6) := D6.out.other HUX.out (grown_setCell _ _ _ _)
      have O6n : Hid (OpnAt (y6.setCell ⟨y1.heap.size, 4, none⟩ (.int .i64 v6)) y1.heap.size ⟨v2, v3, v4, v5, v6, false, false, false⟩) := O6.out.set 4 _ _ rfl rfl
      clear D6 O6
      obtain ⟨⟨v7, t7⟩, h7⟩ : ∃ p, rdFlag t6 = p := ⟨_, rfl⟩
      have hc := rFlag_any _ b t6 _ D6n.out.rd
      rw [h7] at hc
      dsimp only at hc
      have H7 := Lib.hid h7; clear h7
      have HC := Lib.hid hc; clear hc
      go_wp2_with fail
      refine HC.out.mono ?_
      rintro e y7 ⟨rfl, hr, hg⟩
      have D7 := Lib.hid (D6n.out.read hr hg)
      have O7 := Lib.hid (O6n.out.kept (hg.block _ (lt_of_heap O6n.out) (fun e => by cases e; exact absurd Hy1.out (Nat.lt_irrefl _))))
      clear hr hg D6n O6n HC x4 f4
      have x5 : y7.cell? ⟨y1.heap.size, 5, none⟩ = some (.bool false) := cell_of_heap O7.out 5
      have f5 : y7.frozen? ⟨y1.heap.size, 5, none⟩ = false := frozen_of_heap O7.out 5
      have D7n : Hid (DDec w R T L U b (y7.setCell ⟨y1.heap.size, 5, none⟩ (.bool v7)) t t7) := D7.out.other HUX.out (grown_setCell _ _ _ _)
      have O7n : Hid (OpnAt (y7.setCell ⟨y1.heap.size, 5, none⟩ (.bool v7)) y1.heap.size ⟨v2, v3, v4, v5, v6, v7, false, false⟩) := O7.out.set 5 _ _ rfl rfl
      clear D7 O7
      obtain ⟨⟨v8, t8⟩, h8⟩ : ∃ p, rdFlag t7 = p := ⟨_, rfl⟩
      have hc := rFlag_any _ b t7 _ D7n.out.rd
      rw [h8] at hc
      dsimp only at hc
      have H8 := Lib.hid h8; clear h8
      have HC := Lib.hid hc; clear hc
      go_wp2_with fail
      refine HC.out.mono ?_
      rintro e y8 ⟨rfl, hr, hg⟩
      have D8 := Lib.hid (D7n.out.read hr hg)
      have O8 := Lib.hid (O7n.out.kept (hg.block _ (lt_of_heap O7n.out) (fun e => by cases e; exact absurd Hy1.out (Nat.lt_irrefl _))))
      clear hr hg D7n O7n HC x5 f5
      have x6 : y8.cell? ⟨y1.heap.size, 6, none⟩ = some (.bool false) := cell_of_heap O8.out 6
      have f6 : y8.frozen? ⟨y1.heap.size, 6, none⟩ = false := frozen_of_heap O8.out 6
      have D8n : Hid (DDec w R T L U b (y8.setCell ⟨y1.heap.size, 6, none⟩ (.bool v8)) t t8) := D8.out.other HUX.out (grown_setCell _ _ _ _)
      have O8n : Hid (OpnAt (y8.setCell ⟨y1.heap.size, 6, none⟩ (.bool v8)) y1.heap.size ⟨v2, v3, v4, v5, v6, v7, v8, false⟩) := O8.out.set 6 _ _ rfl rfl
      clear D8 O8
      obtain ⟨⟨v9, t9⟩, h9⟩ : ∃ p, rdFlag t8 = p := ⟨_, rfl⟩
      have hc := rFlag_any _ b t8 _ D8n.out.rd
      rw [h9] at hc
      dsimp only at hc
      have H9 := Lib.hid h9; clear h9
      have HC := Lib.hid hc; clear hc
      go_wp2_with fail
      refine HC.out.mono ?_
      rintro e y9 ⟨rfl, hr, hg⟩
      have D9 := Lib.hid (D8n.out.read hr hg)
      have O9 := Lib.hid (O8n.out.kept (hg.block _ (lt_of_heap O8n.out) (fun e => by cases e; exact absurd Hy1.out (Nat.lt_irrefl _))))
      clear hr hg D8n O8n HC x6 f6
      have x7 : y9.cell? ⟨y1.heap.size, 7, none⟩ = some (.bool false) := cell_of_heap O9.out 7
      have f7 : y9.frozen? ⟨y1.heap.size, 7, none⟩ = false := frozen_of_heap O9.out 7
      have D9n : Hid (DDec w R T L U b (y9.setCell ⟨y1.heap.size, 7, none⟩ (.bool v9)) t t9) := D9.out.other HUX.out (grown_setCell _ _ _ _)
      have O9n : Hid (OpnAt (y9.setCell ⟨y1.heap.size, 7, none⟩ (.bool v9)) y1.heap.size ⟨v2, v3, v4, v5, v6, v7, v8, v9⟩) := O9.out.set 7 _ _ rfl rfl
      clear D9 O9
      go_upto_region 16 with fail
      obtain ⟨wz, hwz⟩ : ∃ wz, y9.setCell ⟨y1.heap.size, 7, none⟩ (.bool v9) = wz := ⟨_, rfl⟩
      rw [hwz] at D9n O9n ⊢
      clear hwz x7 f7
      have D9 := D9n
      have O9 := O9n
      clear D9n O9n
      have hfd : fd ≤ 15 := by have h : (rdNum 15 s1).1 ≤ 15 := rdNum_le 15 _; rw [H1.out] at h; exact h
      have Hmz : Hid (v3.size ≤ 70368744177664) := by
        have this : (strOf (rdText 65536 t2).1).size ≤ 65536 := rdText_le 65536 _
        rw [H3.out] at this
        rw [← Hv3.out]
        exact Nat.le_trans this (by decide)
      have Hent : Hid (rdEnt s1 = ⟨fd, ⟨v2, v3, v4, v5, v6, v7, v8, v9⟩, t9⟩) := by
        show _ = _
        unfold rdEnt
        dsimp only
        rw [H1.out]
        dsimp only
        rw [H2.out]
        dsimp only
        rw [H3.out]
        dsimp only
        rw [H4.out]
        dsimp only
        rw [H5.out]
        dsimp only
        rw [H6.out]
        dsimp only
        rw [H7.out]
        dsimp only
        rw [H8.out]
        dsimp only
        rw [H9.out, Hv2.out, Hv3.out, Hv4.out, Hv5.out, Hv6.out]
      clear H1 H2 H3 H4 H5 H6 H7 H8 H9
      have hRsz := D9.out.r0
      obtain ⟨c0, c1, c2, c3, c4, c5, c6, c7⟩ := O9.out.cells
      by_cases hle : (fd : Int) ≤ last
      · have he : Hid (decD s = (zeroTab, 3)) := by
          show _ = _
          rw [HDd.out, HE2.out, decE_bad1 Hent.out hle]
          rfl
        have hres := D9.out.res.set (t' := zeroTab) zeroTab_len
        rw [← zero_tab] at hres
        have hlow := setRow_below D9.out.low hRsz Tryz.zeroCells36
        have HF := Lib.hid hlow
        have HRs := Lib.hid hres
        clear hlow hres
        have hsc := D9.out.res.store0
        go_wp2
        refine bodyPost_ret (v := .tuple #[.agg (tabA zeroTab), .int .i64 3]) (results_tab rfl _ _ R (by rfl) (by rfl) HRs.out) rfl ?_
        exact ⟨by rw [he.out]; rfl, HF.out⟩
      · have Hle := Lib.hid hle
        obtain ⟨q, hq⟩ : ∃ q, checkO ⟨v2, v3, v4, v5, v6, v7, v8, v9⟩ = q := ⟨_, rfl⟩
        have Hq := Lib.hid hq; clear hq
        go_wp2_with fail
        refine (oCheck_is v2 v3 v4 v5 v6 v7 v8 v9 q Hq.out _ Hmz.out).mono ?_
        rintro r w3 ⟨rfl, hb3⟩
        have D10 := Lib.hid (D9.out.later hb3)
        have O10 := Lib.hid (O9.out.later hb3)
        clear hb3 D9 O9 c0 c1 c2 c3 c4 c5 c6 c7
        by_cases h0 : q = 0
        · subst h0
          obtain ⟨old, hold⟩ := ent_some D10.out.tab.2 (show fd < 16 by omega)
          obtain ⟨c0, c1, c2, c3, c4, c5, c6, c7⟩ := O10.out.cells
          have z0 : w3.cell? ⟨T, fd * 8, none⟩ = some (.int .i64 old.kd) := D10.out.tab.cell hold (j := 0) rfl
          have z1 : w3.cell? ⟨T, fd * 8 + 1, none⟩ = some (.string old.mak) := D10.out.tab.cell hold (j := 1) rfl
          have z2 : w3.cell? ⟨T, fd * 8 + 2, none⟩ = some (.int .i64 old.bn) := D10.out.tab.cell hold (j := 2) rfl
          have z3 : w3.cell? ⟨T, fd * 8 + 3, none⟩ = some (.int .i64 old.num) := D10.out.tab.cell hold (j := 3) rfl
          have z4 : w3.cell? ⟨T, fd * 8 + 4, none⟩ = some (.int .i64 old.off) := D10.out.tab.cell hold (j := 4) rfl
          have z5 : w3.cell? ⟨T, fd * 8 + 5, none⟩ = some (.bool old.rd) := D10.out.tab.cell hold (j := 5) rfl
          have z6 : w3.cell? ⟨T, fd * 8 + 6, none⟩ = some (.bool old.wr) := D10.out.tab.cell hold (j := 6) rfl
          have z7 : w3.cell? ⟨T, fd * 8 + 7, none⟩ = some (.bool old.ap) := D10.out.tab.cell hold (j := 7) rfl
          have y0 := D10.out.tab.free (fd * 8)
          have y1 := D10.out.tab.free (fd * 8 + 1)
          have y2 := D10.out.tab.free (fd * 8 + 2)
          have y3 := D10.out.tab.free (fd * 8 + 3)
          have y4 := D10.out.tab.free (fd * 8 + 4)
          have y5 := D10.out.tab.free (fd * 8 + 5)
          have y6 := D10.out.tab.free (fd * 8 + 6)
          have y7 := D10.out.tab.free (fd * 8 + 7)
          have i0 : (0 : Int) ≤ (fd : Int) := by omega
          have i1 : (fd : Int) < 16 := by omega
          have HD := Lib.hid (D10.out.put (tab_stored D10.out.tab (show fd < 16 by omega) ⟨v2, v3, v4, v5, v6, v7, v8, v9⟩) (grown_set8 _ _ _ _ _ _ _ _ _ _ _ _ _ _ _ _ _ _))
          dsimp only at HD
          have HEn : Hid (decE n (-1) zeroTab s0 = decE (n - (k + 1)) fd (t.set fd ⟨v2, v3, v4, v5, v6, v7, v8, v9⟩) t9) := HE2.out.trans (decE_good Hent.out (by have := Hle.out; omega) Hq.out)
          clear hold D10 O10
          go_wp2
          go_roundw
          case rel => exact ⟨k + 1, fd, _, t9, by omega, by go_num, rfl, by omega, HEn.out, HD.out⟩
          case measure => simp [intOf]; omega
        · have he : Hid (decD s = (zeroTab, 3)) := by
            show _ = _
            rw [HDd.out, HE2.out, decE_bad2 Hent.out (by rw [Hq.out]; exact h0)]
            rfl
          have hq' : ((q : Int) != 0) = true := bne_iff_ne.2 (by omega)
          clear h0
          have hres := D10.out.res.set (t' := zeroTab) zeroTab_len
          rw [← zero_tab] at hres
          have hlow := setRow_below D10.out.low hRsz Tryz.zeroCells36
          have HF := Lib.hid hlow
          have HRs := Lib.hid hres
          clear hlow hres
          have hsc := D10.out.res.store0
          go_wp2
          refine bodyPost_ret (v := .tuple #[.agg (tabA zeroTab), .int .i64 3]) (results_tab rfl _ _ R (by rfl) (by rfl) HRs.out) rfl ?_
          exact ⟨by rw [he.out]; rfl, HF.out⟩
    · obtain rfl : k = n := by omega
      have HE2 : Hid (decE k (-1) zeroTab s0 = some (t, s1)) := by
        show _ = _
        rw [HE.out, Nat.sub_self]
        rfl
      clear HE
      go_wp2_with fail
      refine (rClose_any _ b _ _ D.out.rd).mono ?_
      rintro e w6 ⟨rfl, rfl⟩
      have hRsz := D.out.r0
      obtain ⟨q, hq⟩ : ∃ q, rdClose s1 = q := ⟨_, rfl⟩
      have HDn : Hid (decD s = if q ≠ 0 then (zeroTab, 3) else (t, 0)) := by
        show _ = _
        rw [HDd.out, HE2.out, ← hq]
        rfl
      rw [hq]
      clear hq HDd HE2
      by_cases h0 : q = 0
      · subst h0
        have he : Hid (decD s = (t, 0)) := HDn.out.trans (if_neg (by simp))
        have hres := D.out.res.set (t' := t) D.out.tab.2
        have hlow := setRow_below D.out.low hRsz (tabA t)
        have HF := Lib.hid hlow
        have HRs := Lib.hid hres
        clear hlow hres
        have hsc := D.out.res.store D.out.tab.2
        have hsz := tabA_128 D.out.tab.2
        go_wp2
        refine wp_load_tab _ (by rfl) T (by rfl) D.out.tab ?_
        go_wp2
        refine bodyPost_ret (v := .tuple #[.agg (tabA t), .int .i64 0]) (results_tab rfl _ _ R (by rfl) (by rfl) HRs.out) rfl ?_
        exact ⟨by rw [he.out]; rfl, HF.out⟩
      · have he : Hid (decD s = (zeroTab, 3)) := HDn.out.trans (if_pos h0)
        have hq' : ((q : Int) != 0) = true := bne_iff_ne.2 (by omega)
        clear h0
        have hres := D.out.res.set (t' := zeroTab) zeroTab_len
        rw [← zero_tab] at hres
        have hlow := setRow_below D.out.low hRsz Tryz.zeroCells36
        have HF := Lib.hid hlow
        have HRs := Lib.hid hres
        clear hlow hres
        have hsc := D.out.res.store0
        go_wp2
        refine bodyPost_ret (v := .tuple #[.agg (tabA zeroTab), .int .i64 3]) (results_tab rfl _ _ R (by rfl) (by rfl) HRs.out) rfl ?_
        exact ⟨by rw [he.out]; rfl, HF.out⟩
end Go.Proofs.YtfchfjipkggnkaaGreatDoor

namespace Go.Proofs.YtfchfjipkggnkaaGreatDoor
open Go.RowKit

theorem second_newD (w : World) (o1 o2 : Obj) : ((w.alloc o1).alloc o2).heap[w.heap.size + 1]? = some o2 := by have := World.alloc_heap_new (w.alloc o1) o2; rwa [World.size_alloc] at this
set_option maxRecDepth 100000 in
set_option maxHeartbeats 2000000 in
theorem checkTab_any (m : ByteArray) (w : World) (hu : Usages w) (hm : validB m = true) (hmz : m.size ≤ 70368744177664) :
    Calls Tryz.prog 52 #[.agg #[.int .i64 4, .string m, .int .i64 0, .int .i64 0, .string ⟨#[]⟩]] w fun r w' => r = .returned (.int .i64 0) ∧ Below w.heap.size w w' := by
  have hp := hu.pos
  obtain ⟨u0, u1, u2, u3, u4, u5⟩ := hu 4 (by decide)
  have v0 : w.cell? ⟨0, 24, none⟩ = some (.string ⟨#[116, 97, 98, 108, 101]⟩) := u0
  have v1 : w.cell? ⟨0, 25, none⟩ = some (.bool true) := u1
  have v2 : w.cell? ⟨0, 26, none⟩ = some (.bool false) := u2
  have v3 : w.cell? ⟨0, 27, none⟩ = some (.bool false) := u3
  have v4 : w.cell? ⟨0, 28, none⟩ = some (.bool false) := u4
  have v5 : w.cell? ⟨0, 29, none⟩ = some (.int .i64 0) := u5
  clear u0 u1 u2 u3 u4 u5
  have Hu := Lib.hid hu; clear hu
  go_enter Tryz.func52, Tryz.ntmps52
  go_wp2_with fail
  refine (isKind_any 4 _ (by decide) (by decide)).mono ?_
  rintro e w1 ⟨rfl, rfl⟩
  go_wp2_with fail
  refine (valid_is m _ hmz hm _).mono ?_
  rintro e w1 ⟨rfl, hb1⟩
  have hn1 := (hb1.block w.heap.size (by simp; omega)).trans ((Below.heap_alloc _ _ _ (by simp)).trans (World.alloc_heap_new w _))
  have hu1 := (hb1.block (w.heap.size + 1) (by simp)).trans (second_newD w _ _)
  have t2 : w1.cell? ⟨w.heap.size + 1, 2, none⟩ = some (.bool false) := cell_of_heap hu1 2
  have t3 : w1.cell? ⟨w.heap.size + 1, 3, none⟩ = some (.bool false) := cell_of_heap hu1 3
  have t4 : w1.cell? ⟨w.heap.size + 1, 4, none⟩ = some (.bool false) := cell_of_heap hu1 4
  have q2 : w1.cell? ⟨w.heap.size, 2, none⟩ = some (.int .i64 0) := cell_of_heap hn1 2
  have q3 : w1.cell? ⟨w.heap.size, 3, none⟩ = some (.int .i64 0) := cell_of_heap hn1 3
  have q4 : w1.cell? ⟨w.heap.size, 4, none⟩ = some (.string ⟨#[]⟩) := cell_of_heap hn1 4
  have HB1 : Hid (Below w.heap.size w w1) := (((Below.refl _ _).alloc (Nat.le_refl _) _).alloc (by simp) _).trans (hb1.mono (by simp; omega))
  clear hb1 hn1 hu1 v0 v1 v2 v3 v4 v5
  go_wp2
  go_ret
  exact ⟨rfl, HB1.out⟩
theorem nameOk_tab {m : ByteArray} (hm : validB m = true ∧ m.size ≤ 70368744177664) : NameOk (ofTab m) := ⟨⟨hm.2, emp_le⟩, fun W hu => checkTab_any m W hu hm.1 hm.2⟩

set_option maxRecDepth 100000 in
set_option maxHeartbeats 1000000 in
theorem ofTab_any (m : ByteArray) (w : World) : Calls Tryz.prog 16 #[.string m] w fun r w' => r = .returned (.agg #[.int .i64 4, .string m, .int .i64 0, .int .i64 0, .string ⟨#[]⟩]) ∧ Below w.heap.size w w' := by
  go_enter Tryz.func16, Tryz.ntmps16
  go_wp2
  refine bodyPost_ret (v := .agg #[.int .i64 4, .string m, .int .i64 0, .int .i64 0, .string ⟨#[]⟩]) (by simp [results, Tryz.results16, go_sem]) rfl ⟨rfl, ?_⟩
  exact (Below.refl _ _).alloc (Nat.le_refl _) _

end Go.Proofs.YtfchfjipkggnkaaGreatDoor

namespace Go.Proofs.YtfchfjipkggnkaaGreatDoor
open Go.RowKit
attribute [local go_sem ↓] run_eql_opn run_neq_opn

theorem TabAt.kept {w w' : World} {X : Nat} {t : List OpnT} (h : TabAt w X t) (hk : w'.heap[X]? = w.heap[X]?) : TabAt w' X t := ⟨hk.trans h.1, h.2⟩
theorem new_tab (w : World) {t : List OpnT} (h : t.length = 16) : TabAt (w.alloc (.cells (tabA t) 36)) w.heap.size t := ⟨World.alloc_heap_new w _, h⟩
theorem new_tab0 (w : World) : TabAt (w.alloc (.cells Tryz.zeroCells36 36)) w.heap.size zeroTab := ⟨(World.alloc_heap_new w _).trans (by rw [zero_tab]), zeroTab_len⟩
/-- A whole table into the block that was made last. -/
theorem new_store (w : World) {t : List OpnT} (h : t.length = 16) : (storeCells ⟨w.heap.size, 0, none⟩ (tabA t).toList).run Tryz.prog (w.alloc (.cells Tryz.zeroCells36 36)) = .ok () (w.alloc (.cells (tabA t) 36)) := by
  have := (new_tab0 w).store h
  rw [World.setRow_alloc_new] at this
  exact this
theorem QI.fin {w0 w W : World} {b M : Nat} {V : AV} {G E : Nat → Prop} (q : QI w0 w b M V G E W) (R : Nat) (hR : E R) (cs : Array Value) (v : Value) : QMP w0 b M V G w v (.returned v) (W.setRow R cs) := (q.grown R hR (grown_setRow _ _ _)).post v
def opnR (V : AV) (who : ByteArray) (fd : Int) : List OpnT × Nat := if (allR V who).2 ≠ 0 then (zeroTab, (allR V who).2) else if badD (allR V who).1 fd = true then (zeroTab, 21) else ((allR V who).1, 0)
section
variable {w0 w : World} {b M : Nat} {V : AV} {G : Nat → Prop} (s : QM w0 w b M V G)
include s
set_option maxRecDepth 100000 in
set_option maxHeartbeats 6400000 in
theorem qdAll (who : ByteArray) (hw : who.size ≤ 70368744177664) : Calls Tryz.prog 10 #[.pointer (some ⟨b, 0, none⟩), .string who] w (QMP w0 b M (allV V who) G w (.tuple #[.agg (tabA (allR V who).1), .int .i64 (allR V who).2])) := by
  have hE0 : ∀ k, k = w.heap.size → w.heap.size ≤ k ∧ k < (w.alloc (.cells Tryz.zeroCells36 36)).heap.size := fun k hk => by subst hk; simp
  have Q0 := Lib.hid (s.qi (W := w.alloc (.cells Tryz.zeroCells36 36)) (E := fun k => k = w.heap.size) ((Below.refl _ _).alloc (Nat.le_refl _) _) hE0)
  have R0 := Lib.hid (new_tab0 w)
  clear hE0 s
  go_enter Tryz.func10, Tryz.ntmps10
  go_wp2_with fail
  cases hv : validB who with
  | false =>
    have HR : Hid (allV V who = V ∧ allR V who = (zeroTab, 12)) := ⟨if_pos hv, if_pos hv⟩
    refine (valid_is who _ hw hv _).mono ?_
    rintro r w2 ⟨rfl, hb⟩
    have Q1 := Lib.hid (Q0.out.later hb)
    have R1 := Lib.hid (R0.out.later hb)
    clear hb Q0 R0
    have hsc := R1.out.store0
    have HF := Lib.hid (Q1.out.fin w.heap.size rfl Tryz.zeroCells36 (.tuple #[.agg (tabA zeroTab), .int .i64 12]))
    have HT := Lib.hid (R1.out.set (t' := zeroTab) zeroTab_len)
    rw [← zero_tab] at HT
    go_wp2
    refine bodyPost_ret (v := .tuple #[.agg (tabA zeroTab), .int .i64 12]) (results_tab rfl _ _ w.heap.size (by rfl) (by rfl) HT.out) rfl ?_
    rw [HR.out.1, HR.out.2]
    exact HF.out
  | true =>
    have HN : Hid (NameOk (ofTab who)) := nameOk_tab ⟨hv, hw⟩
    have Hv := Lib.hid hv
    refine (valid_is who _ hw hv _).mono ?_
    rintro r w2 ⟨rfl, hb⟩
    have Q1 := Lib.hid (Q0.out.later hb)
    have R1 := Lib.hid (R0.out.later hb)
    clear hb Q0 R0
    go_wp2_with fail
    refine (ofTab_any who _).mono ?_
    rintro r w3 ⟨rfl, hb⟩
    have Q2 := Lib.hid (Q1.out.later hb)
    have R2 := Lib.hid (R1.out.later hb)
    clear hb Q1 R1
    have hgs := Q2.out.s.size (ofTab who)
    have HR : Hid (allV V who = avSeen V (ofTab who) ∧ allR V who = tabR (avGet V (ofTab who))) := ⟨if_neg (by rw [hv]; decide), if_neg (by rw [hv]; decide)⟩
    clear hv
    go_wp2_with fail
    refine (qmVGet Q2.out.s (ofTab who) HN.out).mono ?_
    rintro r w4 ⟨rfl, s4, hk⟩
    have Q3 := Lib.hid (Q2.out.step s4 hk)
    have R3 := Lib.hid (R2.out.kept (hk w.heap.size (.inr rfl)))
    clear s4 hk Q2 R2
    obtain ⟨⟨x, is⟩, hx⟩ : ∃ p, avGet V (ofTab who) = p := ⟨_, rfl⟩
    rw [hx] at HR hgs ⊢
    clear hx
    dsimp only at hgs ⊢
    cases is with
    | false =>
      have HR2 : Hid (allR V who = (zeroTab, 8)) := HR.out.2.trans (if_pos rfl)
      have hsc := R3.out.store0
      have HF := Lib.hid (Q3.out.fin w.heap.size rfl Tryz.zeroCells36 (.tuple #[.agg (tabA zeroTab), .int .i64 8]))
      have HT := Lib.hid (R3.out.set (t' := zeroTab) zeroTab_len)
      rw [← zero_tab] at HT
      go_wp2
      refine bodyPost_ret (v := .tuple #[.agg (tabA zeroTab), .int .i64 8]) (results_tab rfl _ _ w.heap.size (by rfl) (by rfl) HT.out) rfl ?_
      rw [HR.out.1, HR2.out]
      exact HF.out
    | true =>
      have HR2 : Hid (allR V who = decD x) := HR.out.2.trans (if_neg (fun h => nomatch h))
      have hl := decD_len x
      have Hgs := Lib.hid hgs
      have Hxz : Hid (x.size ≤ 16777216) := Nat.le_trans hgs (by decide)
      clear hgs
      go_wp2_with fail
      refine (dDecode_any x _ Hxz.out).mono ?_
      rintro r w5 ⟨rfl, hb⟩
      have Q4 := Lib.hid (Q3.out.later hb)
      have R4 := Lib.hid (R3.out.later hb)
      clear hb Q3 R3
      obtain ⟨⟨t, e⟩, ht⟩ : ∃ p, decD x = p := ⟨_, rfl⟩
      rw [ht] at HR2 hl ⊢
      clear ht
      dsimp only at hl ⊢
      have hsc := R4.out.store hl
      have hsz := tabA_128 hl
      have HF := Lib.hid (Q4.out.fin w.heap.size rfl (tabA t) (.tuple #[.agg (tabA t), .int .i64 e]))
      have HT := Lib.hid (R4.out.set hl)
      go_wp2
      refine bodyPost_ret (v := .tuple #[.agg (tabA t), .int .i64 e]) (results_tab rfl _ _ w.heap.size (by rfl) (by rfl) HT.out) rfl ?_
      rw [HR.out.1, HR2.out]
      exact HF.out
set_option maxRecDepth 100000 in
set_option maxHeartbeats 6400000 in
theorem qdWrite (who : ByteArray) (hw : who.size ≤ 70368744177664) (hv : validB who = true) (t : List OpnT) (ht : t.length = 16) (hE : tabE t = 0) (hm : ∀ o ∈ t, o.mak.size ≤ 70368744177664) (hlen : V.calls.length < 1000000) : Calls Tryz.prog 32 #[.pointer (some ⟨b, 0, none⟩), .string who, .agg (tabA t)] w (QMP w0 b M (addV V (chgD who (some t))) G w (.int .i64 0)) := by
  have Q0 := Lib.hid (s.qi0 (W := w.alloc (.cells (tabA t) 36)) ((Below.refl _ _).alloc (Nat.le_refl _) _))
  have T0 := Lib.hid (new_tab w ht)
  clear s
  have HN : Hid (NameOk (ofTab who)) := nameOk_tab ⟨hv, hw⟩
  have HEn : Hid (encD t = (strOf (encDB t), 0)) := if_pos hE
  have HEs : Hid ((strOf (encDB t)).size ≤ 65536) := by
    have := encD_size (t := t) (by omega)
    rw [HEn.out] at this
    exact this
  have HM : Hid (∀ o ∈ t, o.mak.size ≤ 70368744177664) := hm
  clear hm
  go_enter Tryz.func32, Tryz.ntmps32
  go_wp2
  refine wp_load_tab _ (by rfl) w.heap.size (by rfl) T0.out ?_
  go_wp2_with fail
  have hc := dEncode_any t ht HM.out (w.alloc (.cells (tabA t) 36))
  rw [HEn.out] at hc
  have HC := Lib.hid hc
  clear hc HEn
  refine HC.out.mono ?_
  rintro r w2 ⟨rfl, hb⟩
  have Q1 := Lib.hid (Q0.out.later hb)
  clear hb Q0 T0 HC
  go_wp2_with fail
  refine (ofTab_any who _).mono ?_
  rintro r w3 ⟨rfl, hb⟩
  have Q2 := Lib.hid (Q1.out.later hb)
  clear hb Q1
  go_wp2_with fail
  refine (qmVSet Q2.out.s (ofTab who) HN.out _ HEs.out hlen).mono ?_
  rintro r w4 ⟨rfl, s4, hk⟩
  have Q3 := Lib.hid (Q2.out.step s4 hk)
  clear s4 hk Q2
  go_wp2
  go_ret
  exact Q3.out.post _
set_option maxRecDepth 100000 in
set_option maxHeartbeats 6400000 in
theorem qdOpen (who : ByteArray) (hw : who.size ≤ 70368744177664) (fd : Int) : Calls Tryz.prog 50 #[.pointer (some ⟨b, 0, none⟩), .string who, .int .i64 fd] w (QMP w0 b M (allV V who) G w (.tuple #[.agg (tabA (opnR V who fd).1), .int .i64 (opnR V who fd).2])) := by
  have hE0 : ∀ k, k = w.heap.size → w.heap.size ≤ k ∧ k < (w.alloc (.cells Tryz.zeroCells36 36)).heap.size := fun k hk => by subst hk; simp
  have Q0 := Lib.hid (s.qi (W := w.alloc (.cells Tryz.zeroCells36 36)) (E := fun k => k = w.heap.size) ((Below.refl _ _).alloc (Nat.le_refl _) _) hE0)
  have R0 := Lib.hid (new_tab0 w)
  clear hE0 s
  have HOp : Hid (opnR V who fd = if (allR V who).2 ≠ 0 then (zeroTab, (allR V who).2) else if badD (allR V who).1 fd = true then (zeroTab, 21) else ((allR V who).1, 0)) := rfl
  have hl := allR_len V who
  go_enter Tryz.func50, Tryz.ntmps50
  go_wp2_with fail
  refine (qdAll Q0.out.s who hw).mono ?_
  rintro r w2 ⟨rfl, s2, hk⟩
  have Q1 := Lib.hid (Q0.out.step s2 hk)
  have R1 := Lib.hid (R0.out.kept (hk w.heap.size (.inr rfl)))
  clear s2 hk Q0 R0
  obtain ⟨⟨t, e⟩, ht⟩ : ∃ p, allR V who = p := ⟨_, rfl⟩
  rw [ht] at HOp hl ⊢
  clear ht
  dsimp only at HOp hl ⊢
  have hns := new_store w2 hl
  have hsz := tabA_128 hl
  have hb3 : Below w2.heap.size w2 (w2.alloc (.cells (tabA t) 36)) := (Below.refl _ _).alloc (Nat.le_refl _) _
  have Q2 := Lib.hid (Q1.out.later hb3)
  have R2 := Lib.hid (R1.out.later hb3)
  have T2 := Lib.hid (new_tab w2 hl)
  have Hsz : Hid (w.heap.size < w2.heap.size) := lt_of_heap R1.out.1
  clear hb3 Q1 R1
  by_cases h0 : e = 0
  · subst h0
    have HOp2 : Hid (opnR V who fd = if badD t fd = true then (zeroTab, 21) else (t, 0)) := HOp.out.trans (if_neg (by simp))
    clear HOp
    cases hbd : badD t fd with
    | true =>
      have HOp3 : Hid (opnR V who fd = (zeroTab, 21)) := HOp2.out.trans (if_pos hbd)
      clear HOp2
      have hsc := R2.out.store0
      have HF := Lib.hid (Q2.out.fin w.heap.size rfl Tryz.zeroCells36 (.tuple #[.agg (tabA zeroTab), .int .i64 21]))
      have HT := Lib.hid (R2.out.set (t' := zeroTab) zeroTab_len)
      rw [← zero_tab] at HT
      have FIN : Hid (QMP w0 b M (allV V who) G w (.tuple #[.agg (tabA (opnR V who fd).1), .int .i64 (opnR V who fd).2]) (.returned (.tuple #[.agg (tabA zeroTab), .int .i64 21])) ((w2.alloc (.cells (tabA t) 36)).setRow w.heap.size Tryz.zeroCells36)) := by
        rw [HOp3.out]
        exact HF.out
      clear HF HOp3 Q2
      by_cases f0 : fd < 0
      · clear hbd
        go_wp2
        refine bodyPost_ret (v := .tuple #[.agg (tabA zeroTab), .int .i64 21]) (results_tab rfl _ _ w.heap.size (by rfl) (by rfl) HT.out) rfl ?_
        exact FIN.out
      by_cases f1 : (16 : Int) ≤ fd
      · clear hbd
        go_wp2
        refine bodyPost_ret (v := .tuple #[.agg (tabA zeroTab), .int .i64 21]) (results_tab rfl _ _ w.heap.size (by rfl) (by rfl) HT.out) rfl ?_
        exact FIN.out
      obtain ⟨n, rfl⟩ := Int.eq_ofNat_of_zero_le (show 0 ≤ fd by omega)
      obtain ⟨x, hx⟩ := ent_some hl (show n < 16 by omega)
      have hz : isZ x = true := by
        have h1 : entD t (n : Int) = x := by unfold entD; rw [List.getD_eq_getElem?_getD, show ((n : Nat) : Int).toNat = n from rfl, hx]; rfl
        unfold badD at hbd
        rw [decide_eq_false f0, decide_eq_false f1, h1] at hbd
        exact hbd
      obtain ⟨kd, mak, bn, num, off, rd, wr, ap⟩ := x
      have z0 : (w2.alloc (.cells (tabA t) 36)).cell? ⟨w2.heap.size, n * 8, none⟩ = some (.int .i64 kd) := T2.out.cell hx (j := 0) rfl
      have z1 : (w2.alloc (.cells (tabA t) 36)).cell? ⟨w2.heap.size, n * 8 + 1, none⟩ = some (.string mak) := T2.out.cell hx (j := 1) rfl
      have z2 : (w2.alloc (.cells (tabA t) 36)).cell? ⟨w2.heap.size, n * 8 + 2, none⟩ = some (.int .i64 bn) := T2.out.cell hx (j := 2) rfl
      have z3 : (w2.alloc (.cells (tabA t) 36)).cell? ⟨w2.heap.size, n * 8 + 3, none⟩ = some (.int .i64 num) := T2.out.cell hx (j := 3) rfl
      have z4 : (w2.alloc (.cells (tabA t) 36)).cell? ⟨w2.heap.size, n * 8 + 4, none⟩ = some (.int .i64 off) := T2.out.cell hx (j := 4) rfl
      have z5 : (w2.alloc (.cells (tabA t) 36)).cell? ⟨w2.heap.size, n * 8 + 5, none⟩ = some (.bool rd) := T2.out.cell hx (j := 5) rfl
      have z6 : (w2.alloc (.cells (tabA t) 36)).cell? ⟨w2.heap.size, n * 8 + 6, none⟩ = some (.bool wr) := T2.out.cell hx (j := 6) rfl
      have z7 : (w2.alloc (.cells (tabA t) 36)).cell? ⟨w2.heap.size, n * 8 + 7, none⟩ = some (.bool ap) := T2.out.cell hx (j := 7) rfl
      have hz2 : sameO ⟨kd, mak, bn, num, off, rd, wr, ap⟩ ⟨0, ⟨#[]⟩, 0, 0, 0, false, false, false⟩ = true := hz
      have i0 : (0 : Int) ≤ (n : Int) := by omega
      have i1 : ((n : Nat) : Int) < 16 := by omega
      clear hx hbd hz
      go_wp2
      refine bodyPost_ret (v := .tuple #[.agg (tabA zeroTab), .int .i64 21]) (results_tab rfl _ _ w.heap.size (by rfl) (by rfl) HT.out) rfl ?_
      exact FIN.out
    | false =>
      have HOp3 : Hid (opnR V who fd = (t, 0)) := HOp2.out.trans (if_neg (by rw [hbd]; decide))
      clear HOp2
      obtain ⟨f0, f1, hz⟩ := badD_no hbd
      obtain ⟨n, rfl⟩ := Int.eq_ofNat_of_zero_le (show 0 ≤ fd by omega)
      obtain ⟨x, hx⟩ := ent_some hl (show n < 16 by omega)
      have h1 : entD t (n : Int) = x := by unfold entD; rw [List.getD_eq_getElem?_getD, show ((n : Nat) : Int).toNat = n from rfl, hx]; rfl
      rw [h1] at hz
      obtain ⟨kd, mak, bn, num, off, rd, wr, ap⟩ := x
      have z0 : (w2.alloc (.cells (tabA t) 36)).cell? ⟨w2.heap.size, n * 8, none⟩ = some (.int .i64 kd) := T2.out.cell hx (j := 0) rfl
      have z1 : (w2.alloc (.cells (tabA t) 36)).cell? ⟨w2.heap.size, n * 8 + 1, none⟩ = some (.string mak) := T2.out.cell hx (j := 1) rfl
      have z2 : (w2.alloc (.cells (tabA t) 36)).cell? ⟨w2.heap.size, n * 8 + 2, none⟩ = some (.int .i64 bn) := T2.out.cell hx (j := 2) rfl
      have z3 : (w2.alloc (.cells (tabA t) 36)).cell? ⟨w2.heap.size, n * 8 + 3, none⟩ = some (.int .i64 num) := T2.out.cell hx (j := 3) rfl
      have z4 : (w2.alloc (.cells (tabA t) 36)).cell? ⟨w2.heap.size, n * 8 + 4, none⟩ = some (.int .i64 off) := T2.out.cell hx (j := 4) rfl
      have z5 : (w2.alloc (.cells (tabA t) 36)).cell? ⟨w2.heap.size, n * 8 + 5, none⟩ = some (.bool rd) := T2.out.cell hx (j := 5) rfl
      have z6 : (w2.alloc (.cells (tabA t) 36)).cell? ⟨w2.heap.size, n * 8 + 6, none⟩ = some (.bool wr) := T2.out.cell hx (j := 6) rfl
      have z7 : (w2.alloc (.cells (tabA t) 36)).cell? ⟨w2.heap.size, n * 8 + 7, none⟩ = some (.bool ap) := T2.out.cell hx (j := 7) rfl
      have hz2 : sameO ⟨kd, mak, bn, num, off, rd, wr, ap⟩ ⟨0, ⟨#[]⟩, 0, 0, 0, false, false, false⟩ = false := hz
      have i0 : (0 : Int) ≤ (n : Int) := by omega
      have i1 : ((n : Nat) : Int) < 16 := by omega
      have hsc := R2.out.store hl
      have HF := Lib.hid (Q2.out.fin w.heap.size rfl (tabA t) (.tuple #[.agg (tabA t), .int .i64 0]))
      have HT := Lib.hid (R2.out.set hl)
      clear hx hbd hz h1
      go_wp2
      refine wp_load_tab _ (by rfl) w2.heap.size (by rfl) T2.out ?_
      go_wp2
      refine bodyPost_ret (v := .tuple #[.agg (tabA t), .int .i64 0]) (results_tab rfl _ _ w.heap.size (by rfl) (by rfl) HT.out) rfl ?_
      rw [HOp3.out]
      exact HF.out
  · have HOp2 : Hid (opnR V who fd = (zeroTab, e)) := HOp.out.trans (if_pos h0)
    have hq' : ((e : Int) != 0) = true := bne_iff_ne.2 (by omega)
    clear h0 HOp
    have hsc := R2.out.store0
    have HF := Lib.hid (Q2.out.fin w.heap.size rfl Tryz.zeroCells36 (.tuple #[.agg (tabA zeroTab), .int .i64 e]))
    have HT := Lib.hid (R2.out.set (t' := zeroTab) zeroTab_len)
    rw [← zero_tab] at HT
    go_wp2
    refine bodyPost_ret (v := .tuple #[.agg (tabA zeroTab), .int .i64 e]) (results_tab rfl _ _ w.heap.size (by rfl) (by rfl) HT.out) rfl ?_
    rw [HOp2.out]
    exact HF.out
end
end Go.Proofs.YtfchfjipkggnkaaGreatDoor
