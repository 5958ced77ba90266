/- descriptor: the first free descriptor, add. (printed by wip/gen_dsci.py) descriptor, upon a view whose value is known: add. (printed by wip/gen_dsci.py) descriptor, upon a view whose value is known: Make. (printed by wip/gen_dsci.py) descriptor, upon a view whose value is known: Add. (printed by wip/gen_dsci.py) descriptor, upon a view whose value is known: what open gives; Get. (printed by wip/gen_dsco.py) -/
import Derived.Test.YtfchfjipkggnkaaGreatDoorDscH
namespace Go.Proofs.YtfchfjipkggnkaaGreatDoor
open Go.RowKit
attribute [local go_sem ↓] run_eql_opn run_neq_opn

set_option maxRecDepth 100000 in
theorem isFree_any (kd : Int) (mak : ByteArray) (bn num off : Int) (rd wr ap : Bool) (w : World) : Calls Tryz.prog 79 #[.agg #[.int .i64 kd, .string mak, .int .i64 bn, .int .i64 num, .int .i64 off, .bool rd, .bool wr, .bool ap]] w fun r w' => r = .returned (.bool (isZ ⟨kd, mak, bn, num, off, rd, wr, ap⟩)) ∧ Below w.heap.size w w' := by
  have HB : Hid (∀ v t, Below w.heap.size w (w.alloc (.cells v t))) := fun v t => (Below.refl _ _).alloc (Nat.le_refl _) _
  have HZ : Hid (sameO ⟨kd, mak, bn, num, off, rd, wr, ap⟩ ⟨0, ⟨#[]⟩, 0, 0, 0, false, false, false⟩ = isZ ⟨kd, mak, bn, num, off, rd, wr, ap⟩) := rfl
  go_enter Tryz.func79, Tryz.ntmps79
  go_wp2
  go_ret
  rw [HZ.out]
  exact ⟨rfl, HB.out _ _⟩
def freeI (t : List OpnT) : Int := match freeO t 0 with
  | none => -1
  | some i => i
theorem free_step {t : List OpnT} {k : Nat} {x : OpnT} (h : t[k]? = some x) : freeO (t.drop k) k = if isZ x = true then some k else freeO (t.drop (k + 1)) (k + 1) := by
  obtain ⟨hk, rfl⟩ := List.getElem?_eq_some_iff.1 h
  rw [List.drop_eq_getElem_cons hk]
  rfl
theorem free_end {t : List OpnT} (h : t.length = 16) : freeO (t.drop 16) 16 = none := by
  rw [List.drop_of_length_le (by omega)]
  rfl
theorem freeI_some {t : List OpnT} {i : Nat} (h : freeO t 0 = some i) : freeI t = i := by unfold freeI; rw [h]
theorem freeI_none {t : List OpnT} (h : freeO t 0 = none) : freeI t = -1 := by unfold freeI; rw [h]
set_option maxRecDepth 100000 in
set_option maxHeartbeats 3200000 in
theorem indexFree_any (T : Nat) (t : List OpnT) (w : World) (h : TabAt w T t) : Calls Tryz.prog 78 #[.slice (some ⟨T, 0, none⟩) 16 16, .func (.func 79) #[] #[]] w fun r w' => r = .returned (.int .i64 (freeI t)) ∧ Below w.heap.size w w' := by
  have H := Lib.hid h; clear h
  go_enter Tryz.func78, Tryz.ntmps78
  go_wp2
  go_loopw [8] (fun i wr => ∃ k : Nat, k ≤ 16 ∧ i = .int .i64 k ∧ Hid (freeO t 0 = freeO (t.drop k) k) ∧ Hid (Below w.heap.size w wr)) (fun i _ => 16 - (intOf i).toNat)
  case atStart => exact ⟨0, by omega, rfl, rfl, Below.refl _ _⟩
  case round =>
    obtain ⟨k, hk, rfl, HF, HB⟩ := hrel
    by_cases h5 : k < 16
    · obtain ⟨x, hx⟩ := ent_some H.out.2 h5
      have Hst := Lib.hid (free_step hx)
      have HT := H.out.later HB.out
      obtain ⟨kd, mak, bn, num, off, rd, wr_, ap⟩ := x
      have z0 : wr.cell? ⟨T, k * 8, none⟩ = some (.int .i64 kd) := HT.cell hx (j := 0) rfl
      have z1 : wr.cell? ⟨T, k * 8 + 1, none⟩ = some (.string mak) := HT.cell hx (j := 1) rfl
      have z2 : wr.cell? ⟨T, k * 8 + 2, none⟩ = some (.int .i64 bn) := HT.cell hx (j := 2) rfl
      have z3 : wr.cell? ⟨T, k * 8 + 3, none⟩ = some (.int .i64 num) := HT.cell hx (j := 3) rfl
      have z4 : wr.cell? ⟨T, k * 8 + 4, none⟩ = some (.int .i64 off) := HT.cell hx (j := 4) rfl
      have z5 : wr.cell? ⟨T, k * 8 + 5, none⟩ = some (.bool rd) := HT.cell hx (j := 5) rfl
      have z6 : wr.cell? ⟨T, k * 8 + 6, none⟩ = some (.bool wr_) := HT.cell hx (j := 6) rfl
      have z7 : wr.cell? ⟨T, k * 8 + 7, none⟩ = some (.bool ap) := HT.cell hx (j := 7) rfl
      clear hx HT
      go_wp2_with fail
      refine (isFree_any kd mak bn num off rd wr_ ap _).mono ?_
      rintro r w2 ⟨rfl, hb⟩
      have HB2 : Hid (Below w.heap.size w w2) := HB.out.trans (hb.mono HB.out.size)
      clear hb
      cases hz : isZ ⟨kd, mak, bn, num, off, rd, wr_, ap⟩ with
      | true =>
        have he : Hid (freeI t = k) := freeI_some (HF.out.trans (Hst.out.trans (if_pos hz)))
        clear hz Hst
        go_wp2
        go_ret
        rw [he.out]
        exact ⟨rfl, HB2.out⟩
      | false =>
        have he : Hid (freeO t 0 = freeO (t.drop (k + 1)) (k + 1)) := HF.out.trans (Hst.out.trans (if_neg (by rw [hz]; decide)))
        clear hz Hst
        go_wp2
        go_roundw
        case rel => exact ⟨k + 1, by omega, by go_num, he.out, HB2.out⟩
        case measure => simp [intOf]; omega
    · obtain rfl : k = 16 := by omega
      have he : Hid (freeI t = -1) := freeI_none (HF.out.trans (free_end H.out.2))
      go_wp2
      go_ret
      rw [he.out]
      exact ⟨rfl, HB.out⟩
theorem freeI_cases (t : List OpnT) (ht : t.length = 16) : (freeO t 0 = none ∧ freeI t = -1) ∨ ∃ i, freeO t 0 = some i ∧ freeI t = (i : Int) ∧ i < 16 := by
  cases h : freeO t 0 with
  | none => exact .inl ⟨rfl, freeI_none h⟩
  | some i => exact .inr ⟨i, rfl, freeI_some h, by have := freeO_lt h; omega⟩
theorem maks_ok {t : List OpnT} (h : tabE t = 0) : ∀ o ∈ t, o.mak.size ≤ 70368744177664 := fun o ho => by
  cases hz : isZ o with
  | true => rw [isZ_iff.1 hz]; exact Nat.zero_le _
  | false => exact Nat.le_trans (checkO_ok (tabE_mem h o ho hz)).mak (by decide)
end Go.Proofs.YtfchfjipkggnkaaGreatDoor

namespace Go.Proofs.YtfchfjipkggnkaaGreatDoor
open Go.RowKit
attribute [local go_sem ↓] run_eql_opn run_neq_opn

section
variable {w0 w : World} {b M : Nat} {V : AV} {G : Nat → Prop} (s : QM w0 w b M V G)
include s
set_option maxRecDepth 100000 in
set_option maxHeartbeats 6400000 in
theorem qdAddT (who : ByteArray) (hw : who.size ≤ 70368744177664) (hv : validB who = true) (t : List OpnT) (ht : t.length = 16) (hE : tabE t = 0) (kd : Int) (mak : ByteArray) (bn num off : Int) (rd wr ap : Bool) (ho : checkO ⟨kd, mak, bn, num, off, rd, wr, ap⟩ = 0) (hlen : V.calls.length < 1000000) : Calls Tryz.prog 49 #[.pointer (some ⟨b, 0, none⟩), .string who, .agg (tabA t), .agg #[.int .i64 kd, .string mak, .int .i64 bn, .int .i64 num, .int .i64 off, .bool rd, .bool wr, .bool ap]] w (QMP w0 b M (putR V who (addF ⟨kd, mak, bn, num, off, rd, wr, ap⟩ t)).1 G w (.tuple #[.int .i64 (putR V who (addF ⟨kd, mak, bn, num, off, rd, wr, ap⟩ t)).2.N, .int .i64 (putR V who (addF ⟨kd, mak, bn, num, off, rd, wr, ap⟩ t)).2.E])) := by
  have hE0 : ∀ k, k = w.heap.size → w.heap.size ≤ k ∧ k < ((w.alloc (.cells (tabA t) 36)).alloc (.cells #[.int .i64 kd, .string mak, .int .i64 bn, .int .i64 num, .int .i64 off, .bool rd, .bool wr, .bool ap] 34)).heap.size := fun k hk => by subst hk; simp; omega
  have hb0 : Below w.heap.size w ((w.alloc (.cells (tabA t) 36)).alloc (.cells #[.int .i64 kd, .string mak, .int .i64 bn, .int .i64 num, .int .i64 off, .bool rd, .bool wr, .bool ap] 34)) := ((Below.refl _ _).alloc (Nat.le_refl _) _).alloc (by simp) _
  have Q0 := Lib.hid (s.qi (W := ((w.alloc (.cells (tabA t) 36)).alloc (.cells #[.int .i64 kd, .string mak, .int .i64 bn, .int .i64 num, .int .i64 off, .bool rd, .bool wr, .bool ap] 34))) (E := fun k => k = w.heap.size) hb0 hE0)
  have T0 := Lib.hid ((new_tab w ht).later (w' := ((w.alloc (.cells (tabA t) 36)).alloc (.cells #[.int .i64 kd, .string mak, .int .i64 bn, .int .i64 num, .int .i64 off, .bool rd, .bool wr, .bool ap] 34))) ((Below.refl _ _).alloc (Nat.le_refl _) _))
  have X0 : Hid (OpnAt ((w.alloc (.cells (tabA t) 36)).alloc (.cells #[.int .i64 kd, .string mak, .int .i64 bn, .int .i64 num, .int .i64 off, .bool rd, .bool wr, .bool ap] 34)) (w.heap.size + 1) ⟨kd, mak, bn, num, off, rd, wr, ap⟩) := by
    have := World.alloc_heap_new (w.alloc (.cells (tabA t) 36)) (.cells #[.int .i64 kd, .string mak, .int .i64 bn, .int .i64 num, .int .i64 off, .bool rd, .bool wr, .bool ap] 34)
    rw [World.size_alloc] at this
    exact this
  have Hall : Hid (tabE t = 0 ∧ t.length = 16 ∧ checkO ⟨kd, mak, bn, num, off, rd, wr, ap⟩ = 0 ∧ validB who = true ∧ who.size ≤ 70368744177664 ∧ V.calls.length < 1000000) := ⟨hE, ht, ho, hv, hw, hlen⟩
  clear hE0 hb0 s hE ht ho hv hw hlen
  go_enter Tryz.func49, Tryz.ntmps49
  go_wp2_with fail
  refine (indexFree_any w.heap.size t _ T0.out).mono ?_
  rintro r w2 ⟨rfl, hb⟩
  have Q1 := Lib.hid (Q0.out.later hb)
  have T1 := Lib.hid (T0.out.later hb)
  have X1 := Lib.hid (X0.out.later hb)
  clear hb Q0 T0 X0
  rcases freeI_cases t Hall.out.2.1 with ⟨h1, h2⟩ | ⟨i, h1, h2, h3⟩
  · have HR : Hid (putR V who (addF ⟨kd, mak, bn, num, off, rd, wr, ap⟩ t) = (V, errD 9)) := by
      show _ = _
      unfold addF
      rw [h1]
      rfl
    rw [h2]
    clear h1 h2
    go_wp2
    go_ret2
    rw [HR.out]
    exact Q1.out.post _
  · have HR : Hid (putR V who (addF ⟨kd, mak, bn, num, off, rd, wr, ap⟩ t) = (addV V (chgD who (some (t.set i ⟨kd, mak, bn, num, off, rd, wr, ap⟩))), ⟨zeroTab, zeroO, i, 0⟩)) := by
      show _ = _
      unfold addF
      rw [h1]
      rfl
    have HG := Lib.hid (addF_good (o := ⟨kd, mak, bn, num, off, rd, wr, ap⟩) Hall.out.1 Hall.out.2.1 Hall.out.2.2.1 (t' := t.set i ⟨kd, mak, bn, num, off, rd, wr, ap⟩) (by unfold addF; rw [h1]))
    rw [h2]
    clear h1 h2
    obtain ⟨old, hold⟩ := ent_some Hall.out.2.1 h3
    obtain ⟨kd0, mak0, bn0, num0, off0, rd0, wr0, ap0⟩ := old
    obtain ⟨c0, c1, c2, c3, c4, c5, c6, c7⟩ := X1.out.cells
    have z0 : w2.cell? ⟨w.heap.size, i * 8, none⟩ = some (.int .i64 kd0) := T1.out.cell hold (j := 0) rfl
    have y0 := T1.out.free (i * 8)
    have z1 : w2.cell? ⟨w.heap.size, i * 8 + 1, none⟩ = some (.string mak0) := T1.out.cell hold (j := 1) rfl
    have y1 := T1.out.free (i * 8 + 1)
    have z2 : w2.cell? ⟨w.heap.size, i * 8 + 2, none⟩ = some (.int .i64 bn0) := T1.out.cell hold (j := 2) rfl
    have y2 := T1.out.free (i * 8 + 2)
    have z3 : w2.cell? ⟨w.heap.size, i * 8 + 3, none⟩ = some (.int .i64 num0) := T1.out.cell hold (j := 3) rfl
    have y3 := T1.out.free (i * 8 + 3)
    have z4 : w2.cell? ⟨w.heap.size, i * 8 + 4, none⟩ = some (.int .i64 off0) := T1.out.cell hold (j := 4) rfl
    have y4 := T1.out.free (i * 8 + 4)
    have z5 : w2.cell? ⟨w.heap.size, i * 8 + 5, none⟩ = some (.bool rd0) := T1.out.cell hold (j := 5) rfl
    have y5 := T1.out.free (i * 8 + 5)
    have z6 : w2.cell? ⟨w.heap.size, i * 8 + 6, none⟩ = some (.bool wr0) := T1.out.cell hold (j := 6) rfl
    have y6 := T1.out.free (i * 8 + 6)
    have z7 : w2.cell? ⟨w.heap.size, i * 8 + 7, none⟩ = some (.bool ap0) := T1.out.cell hold (j := 7) rfl
    have y7 := T1.out.free (i * 8 + 7)
    have i0 : (0 : Int) ≤ (i : Int) := by omega
    have i1 : (i : Int) < 16 := by omega
    have i2 : ¬ (i : Int) < 0 := by omega
    have T2 := Lib.hid (tab_stored T1.out h3 ⟨kd, mak, bn, num, off, rd, wr, ap⟩)
    have Q2 := Lib.hid (Q1.out.grown w.heap.size rfl (grown_set8 w2 w.heap.size (i * 8) (i * 8 + 1) (i * 8 + 2) (i * 8 + 3) (i * 8 + 4) (i * 8 + 5) (i * 8 + 6) (i * 8 + 7) (.int .i64 kd) (.string mak) (.int .i64 bn) (.int .i64 num) (.int .i64 off) (.bool rd) (.bool wr) (.bool ap)))
    dsimp only at T2 Q2
    obtain ⟨wz, hwz⟩ : ∃ wz, ((((((((w2.setCell ⟨w.heap.size, i * 8, none⟩ (.int .i64 kd)).setCell ⟨w.heap.size, i * 8 + 1, none⟩ (.string mak)).setCell ⟨w.heap.size, i * 8 + 2, none⟩ (.int .i64 bn)).setCell ⟨w.heap.size, i * 8 + 3, none⟩ (.int .i64 num)).setCell ⟨w.heap.size, i * 8 + 4, none⟩ (.int .i64 off)).setCell ⟨w.heap.size, i * 8 + 5, none⟩ (.bool rd)).setCell ⟨w.heap.size, i * 8 + 6, none⟩ (.bool wr)).setCell ⟨w.heap.size, i * 8 + 7, none⟩ (.bool ap)) = wz := ⟨_, rfl⟩
    rw [hwz] at T2 Q2
    clear hold Q1 T1 X1 h3
    go_wp2
    refine wp_load_tab _ (by rfl) w.heap.size (by rfl) T2.out ?_
    clear hwz z0 z1 z2 z3 z4 z5 z6 z7 y0 y1 y2 y3 y4 y5 y6 y7 c0 c1 c2 c3 c4 c5 c6 c7
    go_wp2_with fail
    refine (qdWrite Q2.out.s who Hall.out.2.2.2.2.1 Hall.out.2.2.2.1 _ HG.out.2 HG.out.1 (maks_ok HG.out.1) Hall.out.2.2.2.2.2).mono ?_
    rintro r w4 ⟨rfl, s4, hk⟩
    have Q3 := Lib.hid (Q2.out.step s4 hk)
    clear s4 hk Q2 T2
    go_wp2
    go_ret2
    rw [HR.out]
    exact Q3.out.post _
end
end Go.Proofs.YtfchfjipkggnkaaGreatDoor

namespace Go.Proofs.YtfchfjipkggnkaaGreatDoor
open Go.RowKit
attribute [local go_sem ↓] run_eql_opn run_neq_opn

section
variable {w0 w : World} {b M : Nat} {V : AV} {G : Nat → Prop} (s : QM w0 w b M V G)
include s
set_option maxRecDepth 100000 in
set_option maxHeartbeats 6400000 in
theorem qdMake (who : ByteArray) (hw : who.size ≤ 70368744177664) (hlen : V.calls.length < 1000000) : Calls Tryz.prog 23 #[.pointer (some ⟨b, 0, none⟩), .string who] w (QMP w0 b M ((dMake who).run V).1 G w (.int .i64 ((dMake who).run V).2.E)) := by
  have Q0 := Lib.hid (s.qi0 (Below.refl w.heap.size w))
  clear s
  have HRn := Lib.hid (dMake_run V who)
  go_enter Tryz.func23, Tryz.ntmps23
  go_wp2_with fail
  cases hv : validB who with
  | false =>
    have HR : Hid ((dMake who).run V = (V, errD 12)) := HRn.out.trans (if_pos hv)
    refine (valid_is who _ hw hv _).mono ?_
    rintro r w2 ⟨rfl, hb⟩
    have Q1 := Lib.hid (Q0.out.later hb)
    clear hb Q0 HRn
    go_wp2
    go_ret
    rw [HR.out]
    exact Q1.out.post _
  | true =>
    have HN : Hid (NameOk (ofTab who)) := nameOk_tab ⟨hv, hw⟩
    have HR1 := Lib.hid (HRn.out.trans (if_neg (by rw [hv]; decide)))
    have Hv := Lib.hid hv
    refine (valid_is who _ hw hv _).mono ?_
    rintro r w2 ⟨rfl, hb⟩
    have Q1 := Lib.hid (Q0.out.later hb)
    clear hb Q0 HRn hv
    go_wp2_with fail
    refine (ofTab_any who _).mono ?_
    rintro r w3 ⟨rfl, hb⟩
    have Q2 := Lib.hid (Q1.out.later hb)
    clear hb Q1
    go_wp2_with fail
    refine (qmVHas Q2.out.s (ofTab who) HN.out).mono ?_
    rintro r w4 ⟨rfl, s4, hk⟩
    have Q3 := Lib.hid (Q2.out.step s4 hk)
    clear s4 hk Q2
    cases hg : (avGet V (ofTab who)).2 with
    | true =>
      have HR : Hid ((dMake who).run V = (avSeen V (ofTab who), errD 13)) := HR1.out.trans (if_pos hg)
      clear hg HR1
      go_wp2
      go_ret
      rw [HR.out]
      exact Q3.out.post _
    | false =>
      have HR : Hid ((dMake who).run V = (addV (avSeen V (ofTab who)) (chgD who (some zeroTab)), errD 0)) := HR1.out.trans (if_neg (by rw [hg]; decide))
      have HL : Hid ((avSeen V (ofTab who)).calls.length < 1000000) := by show _ < _; rw [avSeen_cal]; exact hlen
      have HWr := Lib.hid (qdWrite Q3.out.s who hw Hv.out zeroTab zeroTab_len tabE_zeroTab (maks_ok tabE_zeroTab) HL.out)
      rw [← zero_tab] at HWr
      clear hg HR1 hlen
      go_wp2_with fail
      refine HWr.out.mono ?_
      rintro r w5 ⟨rfl, s5, hk⟩
      have Q4 := Lib.hid (Q3.out.step s5 hk)
      clear s5 hk Q3 HWr
      go_wp2
      go_ret
      rw [HR.out]
      exact Q4.out.post _
end
end Go.Proofs.YtfchfjipkggnkaaGreatDoor

namespace Go.Proofs.YtfchfjipkggnkaaGreatDoor
open Go.RowKit
attribute [local go_sem ↓] run_eql_opn run_neq_opn

section
variable {w0 w : World} {b M : Nat} {V : AV} {G : Nat → Prop} (s : QM w0 w b M V G)
include s
set_option maxRecDepth 100000 in
set_option maxHeartbeats 6400000 in
theorem qdAdd (who : ByteArray) (hw : who.size ≤ 70368744177664) (kd : Int) (mak : ByteArray) (bn num off : Int) (rd wr ap : Bool) (hm : mak.size ≤ 70368744177664) (hlen : V.calls.length < 1000000) : Calls Tryz.prog 24 #[.pointer (some ⟨b, 0, none⟩), .string who, .agg #[.int .i64 kd, .string mak, .int .i64 bn, .int .i64 num, .int .i64 off, .bool rd, .bool wr, .bool ap]] w (QMP w0 b M ((dAdd who ⟨kd, mak, bn, num, off, rd, wr, ap⟩).run V).1 G w (.tuple #[.int .i64 ((dAdd who ⟨kd, mak, bn, num, off, rd, wr, ap⟩).run V).2.N, .int .i64 ((dAdd who ⟨kd, mak, bn, num, off, rd, wr, ap⟩).run V).2.E])) := by
  have hE0 : ∀ k, k = w.heap.size → w.heap.size ≤ k ∧ k < (w.alloc (.cells #[.int .i64 kd, .string mak, .int .i64 bn, .int .i64 num, .int .i64 off, .bool rd, .bool wr, .bool ap] 34)).heap.size := fun k hk => by subst hk; simp
  have hb0 : Below w.heap.size w (w.alloc (.cells #[.int .i64 kd, .string mak, .int .i64 bn, .int .i64 num, .int .i64 off, .bool rd, .bool wr, .bool ap] 34)) := (Below.refl _ _).alloc (Nat.le_refl _) _
  have Q0 := Lib.hid (s.qi (W := (w.alloc (.cells #[.int .i64 kd, .string mak, .int .i64 bn, .int .i64 num, .int .i64 off, .bool rd, .bool wr, .bool ap] 34))) (E := fun k => k = w.heap.size) hb0 hE0)
  have X0 : Hid (OpnAt (w.alloc (.cells #[.int .i64 kd, .string mak, .int .i64 bn, .int .i64 num, .int .i64 off, .bool rd, .bool wr, .bool ap] 34)) w.heap.size ⟨kd, mak, bn, num, off, rd, wr, ap⟩) := World.alloc_heap_new w _
  clear hE0 hb0 s
  have HT : Hid ((dAdd who ⟨kd, mak, bn, num, off, rd, wr, ap⟩).run V = if checkO ⟨kd, mak, bn, num, off, rd, wr, ap⟩ ≠ 0 then (V, errD (checkO ⟨kd, mak, bn, num, off, rd, wr, ap⟩)) else (dOne who (addF ⟨kd, mak, bn, num, off, rd, wr, ap⟩)).run V) := by
    show _ = _
    unfold dAdd
    by_cases h : checkO ⟨kd, mak, bn, num, off, rd, wr, ap⟩ ≠ 0
    · rw [if_pos h, if_pos h]; rfl
    · rw [if_neg h, if_neg h]
  obtain ⟨q, hq⟩ : ∃ q, checkO ⟨kd, mak, bn, num, off, rd, wr, ap⟩ = q := ⟨_, rfl⟩
  rw [hq] at HT
  have Hq := Lib.hid hq
  clear hq
  go_enter Tryz.func24, Tryz.ntmps24
  go_wp2_with fail
  refine (oCheck_is kd mak bn num off rd wr ap q Hq.out _ hm).mono ?_
  rintro r w2 ⟨rfl, hb⟩
  have Q1 := Lib.hid (Q0.out.later hb)
  have X1 := Lib.hid (X0.out.later hb)
  clear hb Q0 X0
  by_cases h0 : q = 0
  · subst h0
    have HT2 := Lib.hid ((HT.out.trans (if_neg (by simp))).trans (dOne_run V who (addF ⟨kd, mak, bn, num, off, rd, wr, ap⟩)))
    clear HT
    have Ho : Hid (checkO ⟨kd, mak, bn, num, off, rd, wr, ap⟩ = 0) := Hq.out
    go_wp2_with fail
    refine (qdAll Q1.out.s who hw).mono ?_
    rintro r w3 ⟨rfl, s3, hk⟩
    have Q2 := Lib.hid (Q1.out.step s3 hk)
    have X2 := Lib.hid (X1.out.kept (hk w.heap.size (.inr rfl)))
    clear s3 hk Q1 X1
    have HV := Lib.hid (allR_valid (V := V) (who := who))
    have HG := Lib.hid (allR_good (V := V) (who := who))
    have hl := allR_len V who
    obtain ⟨⟨t, e⟩, ht⟩ : ∃ p, allR V who = p := ⟨_, rfl⟩
    rw [ht] at HT2 HV HG hl ⊢
    clear ht
    dsimp only at HT2 HV HG hl ⊢
    have hns := new_store w3 hl
    have hsz := tabA_128 hl
    have hb3 : Below w3.heap.size w3 (w3.alloc (.cells (tabA t) 36)) := (Below.refl _ _).alloc (Nat.le_refl _) _
    have Q3 := Lib.hid (Q2.out.later hb3)
    have X3 := Lib.hid (X2.out.later hb3)
    have T3 := Lib.hid (new_tab w3 hl)
    clear hb3 Q2 X2
    by_cases h1 : e = 0
    · subst h1
      have HV2 := Lib.hid (HV.out rfl)
      have HG2 := Lib.hid (HG.out rfl)
      clear HV HG
      have HR := Lib.hid (HT2.out.trans (if_neg (by simp)))
      clear HT2
      have HL : Hid ((allV V who).calls.length < 1000000) := by
        show _ < _
        unfold allV
        split
        · exact hlen
        · rw [avSeen_cal]; exact hlen
      obtain ⟨c0, c1, c2, c3, c4, c5, c6, c7⟩ := X3.out.cells
      clear hlen
      go_wp2
      refine wp_load_tab _ (by rfl) w3.heap.size (by rfl) T3.out ?_
      go_wp2_with fail
      refine (qdAddT Q3.out.s who hw HV2.out t HG2.out.2 HG2.out.1 kd mak bn num off rd wr ap Ho.out HL.out).mono ?_
      rintro r w5 ⟨rfl, s5, hk⟩
      have Q4 := Lib.hid (Q3.out.step s5 hk)
      clear s5 hk Q3 X3 T3
      generalize putR (allV V who) who (addF ⟨kd, mak, bn, num, off, rd, wr, ap⟩ t) = pr at *
      obtain ⟨V9, ⟨rT, rO, rN, rE⟩⟩ := pr
      dsimp only at HR Q4 ⊢
      go_wp2
      go_ret2
      rw [HR.out]
      exact Q4.out.post _
    · have HR := Lib.hid (HT2.out.trans (if_pos h1))
      have hq' : ((e : Int) != 0) = true := bne_iff_ne.2 (by omega)
      clear h1 HT2
      go_wp2
      go_ret2
      rw [HR.out]
      exact Q3.out.post _
  · have HR := Lib.hid (HT.out.trans (if_pos h0))
    have hq' : ((q : Int) != 0) = true := bne_iff_ne.2 (by omega)
    clear h0 HT
    go_wp2
    go_ret2
    rw [HR.out]
    exact Q1.out.post _
end
end Go.Proofs.YtfchfjipkggnkaaGreatDoor

namespace Go.Proofs.YtfchfjipkggnkaaGreatDoor
open Go.RowKit
attribute [local go_sem ↓] run_eql_opn run_neq_opn

theorem opn_len (V : AV) (who : ByteArray) (fd : Int) : (opnR V who fd).1.length = 16 := by
  unfold opnR
  split
  · rfl
  split
  · rfl
  · exact allR_len _ _
theorem opn_ok {V : AV} {who : ByteArray} {fd : Int} (h : (opnR V who fd).2 = 0) : badD (opnR V who fd).1 fd = false ∧ tabE (opnR V who fd).1 = 0 ∧ validB who = true := by
  unfold opnR at h ⊢
  by_cases h1 : (allR V who).2 ≠ 0
  · rw [if_pos h1] at h; exact absurd h h1
  rw [if_neg h1] at h ⊢
  by_cases h2 : badD (allR V who).1 fd = true
  · rw [if_pos h2] at h; cases h
  rw [if_neg h2]
  have h3 : (allR V who).2 = 0 := by omega
  exact ⟨by simpa using h2, (allR_good h3).1, allR_valid h3⟩
theorem opn_run (V : AV) (who : ByteArray) (fd : Int) (f : List OpnT → ResD × ChD) (hf : ∀ t, badD t fd = true → f t = (errD 21, none)) : (dOne who f).run V = if (opnR V who fd).2 ≠ 0 then (allV V who, errD (opnR V who fd).2) else putR (allV V who) who (f (opnR V who fd).1) := by
  rw [dOne_run]
  by_cases h : (allR V who).2 ≠ 0
  · have e : opnR V who fd = (zeroTab, (allR V who).2) := if_pos h
    rw [e, if_pos h]
    exact (if_pos h).symm
  · by_cases h2 : badD (allR V who).1 fd = true
    · have e : opnR V who fd = (zeroTab, 21) := (if_neg h).trans (if_pos h2)
      rw [e, if_neg h, hf _ h2]
      rfl
    · have e : opnR V who fd = ((allR V who).1, 0) := (if_neg h).trans (if_neg h2)
      rw [e, if_neg h]
      rfl
theorem allV_len {V : AV} {who : ByteArray} {n : Nat} (h : V.calls.length < n) : (allV V who).calls.length < n := by
  unfold allV
  split
  · exact h
  · rw [avSeen_cal]; exact h
theorem entD_at {t : List OpnT} {n : Nat} {x : OpnT} (h : t[n]? = some x) : entD t (n : Int) = x := by
  unfold entD
  rw [List.getD_eq_getElem?_getD, show ((n : Nat) : Int).toNat = n from rfl, h]
  rfl
theorem opn_stored {w : World} {X : Nat} {o : OpnT} (h : OpnAt w X o) (o' : OpnT) : OpnAt ((((((((w.setCell ⟨X, 0, none⟩ (.int .i64 o'.kd)).setCell ⟨X, 1, none⟩ (.string o'.mak)).setCell ⟨X, 2, none⟩ (.int .i64 o'.bn)).setCell ⟨X, 3, none⟩ (.int .i64 o'.num)).setCell ⟨X, 4, none⟩ (.int .i64 o'.off)).setCell ⟨X, 5, none⟩ (.bool o'.rd)).setCell ⟨X, 6, none⟩ (.bool o'.wr)).setCell ⟨X, 7, none⟩ (.bool o'.ap)) X o' := by
  obtain ⟨kd, mak, bn, num, off, rd, wr, ap⟩ := o
  obtain ⟨akd, amak, abn, anum, aoff, ard, awr, aap⟩ := o'
  have h1 := h.set 0 (.int .i64 akd) ⟨akd, mak, bn, num, off, rd, wr, ap⟩ rfl rfl
  have h2 := h1.set 1 (.string amak) ⟨akd, amak, bn, num, off, rd, wr, ap⟩ rfl rfl
  have h3 := h2.set 2 (.int .i64 abn) ⟨akd, amak, abn, num, off, rd, wr, ap⟩ rfl rfl
  have h4 := h3.set 3 (.int .i64 anum) ⟨akd, amak, abn, anum, off, rd, wr, ap⟩ rfl rfl
  have h5 := h4.set 4 (.int .i64 aoff) ⟨akd, amak, abn, anum, aoff, rd, wr, ap⟩ rfl rfl
  have h6 := h5.set 5 (.bool ard) ⟨akd, amak, abn, anum, aoff, ard, wr, ap⟩ rfl rfl
  have h7 := h6.set 6 (.bool awr) ⟨akd, amak, abn, anum, aoff, ard, awr, ap⟩ rfl rfl
  have h8 := h7.set 7 (.bool aap) ⟨akd, amak, abn, anum, aoff, ard, awr, aap⟩ rfl rfl
  exact h8
theorem results_opn {fn : Func} {p u : Tmp} (h : fn.results = #[.cell p 34, .tmp u]) (tmps : Array Value) (w : World) (X : Nat) {o : OpnT} (hp : tmps.getD p undef = .pointer (some ⟨X, 0, none⟩)) {v : Value} (hu : tmps.getD u undef = v) (ht : OpnAt w X o) :
    (results fn tmps).run Tryz.prog w = .ok (.tuple #[opnA o, v]) w := by
  have hv : (loadVar 34 ⟨X, 0, none⟩).run Tryz.prog w = .ok (opnA o) w := run_loadVar_row w X _ _ _ (0, 0) _ ht Tryz.underlying34 rfl infoOpn
  rw [results_cell_tmp h, hp, hu]
  simp only [asAddr, Sem.run_pure, Result.andThen_ok, hv]
section
variable {w0 w : World} {b M : Nat} {V : AV} {G : Nat → Prop} (s : QM w0 w b M V G)
include s
set_option maxRecDepth 100000 in
set_option maxHeartbeats 6400000 in
theorem qdGet (who : ByteArray) (hw : who.size ≤ 70368744177664) (fd : Int) : Calls Tryz.prog 33 #[.pointer (some ⟨b, 0, none⟩), .string who, .int .i64 fd] w (QMP w0 b M ((dOne who (getF fd)).run V).1 G w (.tuple #[opnA ((dOne who (getF fd)).run V).2.O, .int .i64 ((dOne who (getF fd)).run V).2.E])) := by
  have hE0 : ∀ k, k = w.heap.size → w.heap.size ≤ k ∧ k < (w.alloc (.cells #[.int .i64 0, .string ⟨#[]⟩, .int .i64 0, .int .i64 0, .int .i64 0, .bool false, .bool false, .bool false] 34)).heap.size := fun k hk => by subst hk; simp
  have Q0 := Lib.hid (s.qi (W := w.alloc (.cells #[.int .i64 0, .string ⟨#[]⟩, .int .i64 0, .int .i64 0, .int .i64 0, .bool false, .bool false, .bool false] 34)) (E := fun k => k = w.heap.size) ((Below.refl _ _).alloc (Nat.le_refl _) _) hE0)
  have R0 : Hid (OpnAt (w.alloc (.cells #[.int .i64 0, .string ⟨#[]⟩, .int .i64 0, .int .i64 0, .int .i64 0, .bool false, .bool false, .bool false] 34)) w.heap.size ⟨0, ⟨#[]⟩, 0, 0, 0, false, false, false⟩) := World.alloc_heap_new w _
  have HRn := Lib.hid (opn_run V who fd (getF fd) (fun t h => if_pos h))
  have HO := Lib.hid (opn_ok (V := V) (who := who) (fd := fd))
  have hl := opn_len V who fd
  clear hE0 s
  go_enter Tryz.func33, Tryz.ntmps33
  go_wp2_with fail
  refine (qdOpen Q0.out.s who hw fd).mono ?_
  rintro r w2 ⟨rfl, s2, hk⟩
  have Q1 := Lib.hid (Q0.out.step s2 hk)
  have R1 := Lib.hid (R0.out.kept (hk w.heap.size (.inr rfl)))
  clear s2 hk Q0 R0
  obtain ⟨⟨t, e⟩, ht⟩ : ∃ p, opnR V who fd = p := ⟨_, rfl⟩
  rw [ht] at HRn HO hl ⊢
  clear ht
  dsimp only at HRn HO hl ⊢
  have hns := new_store w2 hl
  have hsz := tabA_128 hl
  have hb3 : Below w2.heap.size w2 (w2.alloc (.cells (tabA t) 36)) := (Below.refl _ _).alloc (Nat.le_refl _) _
  have Q2 := Lib.hid (Q1.out.later hb3)
  have R2 := Lib.hid (R1.out.later hb3)
  have T2 := Lib.hid (new_tab w2 hl)
  have Hsz : Hid (w.heap.size < w2.heap.size) := lt_of_heap R1.out
  have Hl := Lib.hid hl
  clear hb3
  by_cases h0 : e = 0
  · subst h0
    have HB := Lib.hid (HO.out rfl)
    obtain ⟨f0, f1, hz⟩ := badD_no HB.out.1
    clear hz
    have HR := Lib.hid (HRn.out.trans (if_neg (by simp)))
    clear HRn HO
    obtain ⟨n, rfl⟩ := Int.eq_ofNat_of_zero_le (show 0 ≤ fd by omega)
    have hn : n < 16 := by omega
    obtain ⟨x, hx⟩ := ent_some hl hn
    have h1 := entD_at hx
    obtain ⟨kd, mak, bn, num, off, rd, wr, ap⟩ := x
    have HR2 : Hid ((dOne who (getF (n : Int))).run V = (allV V who, ⟨zeroTab, ⟨kd, mak, bn, num, off, rd, wr, ap⟩, 0, 0⟩)) := by
      refine HR.out.trans ?_
      have e1 : getF (n : Int) t = (⟨zeroTab, ⟨kd, mak, bn, num, off, rd, wr, ap⟩, 0, 0⟩, none) := by
        unfold getF
        rw [if_neg (by rw [HB.out.1]; decide), h1]
      rw [e1]
      rfl
    have z0 : (w2.alloc (.cells (tabA t) 36)).cell? ⟨w2.heap.size, n * 8, none⟩ = some (.int .i64 kd) := T2.out.cell hx (j := 0) rfl
    have z1 : (w2.alloc (.cells (tabA t) 36)).cell? ⟨w2.heap.size, n * 8 + 1, none⟩ = some (.string mak) := T2.out.cell hx (j := 1) rfl
    have z2 : (w2.alloc (.cells (tabA t) 36)).cell? ⟨w2.heap.size, n * 8 + 2, none⟩ = some (.int .i64 bn) := T2.out.cell hx (j := 2) rfl
    have z3 : (w2.alloc (.cells (tabA t) 36)).cell? ⟨w2.heap.size, n * 8 + 3, none⟩ = some (.int .i64 num) := T2.out.cell hx (j := 3) rfl
    have z4 : (w2.alloc (.cells (tabA t) 36)).cell? ⟨w2.heap.size, n * 8 + 4, none⟩ = some (.int .i64 off) := T2.out.cell hx (j := 4) rfl
    have z5 : (w2.alloc (.cells (tabA t) 36)).cell? ⟨w2.heap.size, n * 8 + 5, none⟩ = some (.bool rd) := T2.out.cell hx (j := 5) rfl
    have z6 : (w2.alloc (.cells (tabA t) 36)).cell? ⟨w2.heap.size, n * 8 + 6, none⟩ = some (.bool wr) := T2.out.cell hx (j := 6) rfl
    have z7 : (w2.alloc (.cells (tabA t) 36)).cell? ⟨w2.heap.size, n * 8 + 7, none⟩ = some (.bool ap) := T2.out.cell hx (j := 7) rfl
    obtain ⟨r0, r1, r2, r3, r4, r5, r6, r7⟩ := R2.out.cells
    have q0 := R2.out.free 0
    have q1 := R2.out.free 1
    have q2 := R2.out.free 2
    have q3 := R2.out.free 3
    have q4 := R2.out.free 4
    have q5 := R2.out.free 5
    have q6 := R2.out.free 6
    have q7 := R2.out.free 7
    have HT := Lib.hid (opn_stored R2.out ⟨kd, mak, bn, num, off, rd, wr, ap⟩)
    have HF := Lib.hid ((Q2.out.grown w.heap.size rfl (grown_set8 (w2.alloc (.cells (tabA t) 36)) w.heap.size (0) (1) (2) (3) (4) (5) (6) (7) (.int .i64 kd) (.string mak) (.int .i64 bn) (.int .i64 num) (.int .i64 off) (.bool rd) (.bool wr) (.bool ap))).post (.tuple #[opnA ⟨kd, mak, bn, num, off, rd, wr, ap⟩, .int .i64 0]))
    dsimp only at HT
    have i0 : (0 : Int) ≤ (n : Int) := by omega
    have i1 : ((n : Nat) : Int) < 16 := by omega
    clear hx hn h1 HR Q2 R2 T2 Q1 R1 f0 f1
    go_wp2
    refine bodyPost_ret (v := .tuple #[opnA ⟨kd, mak, bn, num, off, rd, wr, ap⟩, .int .i64 0]) (results_opn rfl _ _ w.heap.size (by rfl) (by rfl) HT.out) rfl ?_
    rw [HR2.out]
    exact HF.out
  · have HR := Lib.hid (HRn.out.trans (if_pos h0))
    have hq' : ((e : Int) != 0) = true := bne_iff_ne.2 (by omega)
    clear h0 HRn HO
    obtain ⟨r0, r1, r2, r3, r4, r5, r6, r7⟩ := R2.out.cells
    have q0 := R2.out.free 0
    have q1 := R2.out.free 1
    have q2 := R2.out.free 2
    have q3 := R2.out.free 3
    have q4 := R2.out.free 4
    have q5 := R2.out.free 5
    have q6 := R2.out.free 6
    have q7 := R2.out.free 7
    have HT := Lib.hid (opn_stored R2.out ⟨0, ⟨#[]⟩, 0, 0, 0, false, false, false⟩)
    have HF := Lib.hid ((Q2.out.grown w.heap.size rfl (grown_set8 (w2.alloc (.cells (tabA t) 36)) w.heap.size (0) (1) (2) (3) (4) (5) (6) (7) (.int .i64 0) (.string ⟨#[]⟩) (.int .i64 0) (.int .i64 0) (.int .i64 0) (.bool false) (.bool false) (.bool false))).post (.tuple #[opnA ⟨0, ⟨#[]⟩, 0, 0, 0, false, false, false⟩, .int .i64 e]))
    dsimp only at HT
    clear Q2 R2 T2 Q1 R1
    go_wp2
    refine bodyPost_ret (v := .tuple #[opnA ⟨0, ⟨#[]⟩, 0, 0, 0, false, false, false⟩, .int .i64 e]) (results_opn rfl _ _ w.heap.size (by rfl) (by rfl) HT.out) rfl ?_
    rw [HR.out]
    exact HF.out
end
end Go.Proofs.YtfchfjipkggnkaaGreatDoor
