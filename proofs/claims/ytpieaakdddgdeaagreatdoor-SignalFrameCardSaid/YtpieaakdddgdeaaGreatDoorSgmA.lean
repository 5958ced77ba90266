/- signal, upon a view whose value is known: put, Get, add, Make, Drop, Fork. -/
import Derived.Test.YtpieaakdddgdeaaGreatDoorQmC
import Derived.Test.YtpieaakdddgdeaaGreatDoorSigK
namespace Go.Proofs.YtpieaakdddgdeaaGreatDoor
open Go.RowKit
attribute [local go_sem ↓] Go.wp_at_zero Go.wp_at_succ

def sGetV (v : ByteArray × Bool) : RecT × Nat := if v.2 = false then (zeroR, 8) else decR v.1
/-- What Get answers, at a valid name. -/
def sGet (V : AV) (m : ByteArray) : RecT × Nat := sGetV (avGet V (ofPendN m))
def sSeen (V : AV) (m : ByteArray) : AV := avSeen V (ofPendN m)
def sSet (V : AV) (m : ByteArray) (x : ByteArray) : AV := ⟨V.base, V.reads, V.calls ++ [⟨ofPendN m, x, false⟩]⟩
def sDel (V : AV) (m : ByteArray) : AV := ⟨V.base, V.reads, V.calls ++ [⟨ofPendN m, ⟨#[]⟩, true⟩]⟩
/-- What put makes of a view, and its error. -/
def sPut (V : AV) (m : ByteArray) (r : RecT) : AV × Nat := if checkR r = 0 then (sSet V m (strOf (encRB r)), 0) else (V, checkR r)
def sAdd (V : AV) (m : ByteArray) (r : RecT) : AV × Nat := if (avGet V (ofPendN m)).2 = true then (sSeen V m, 13) else sPut (sSeen V m) m r
def sDrop (V : AV) (m : ByteArray) : AV × Nat := if (avGet V (ofPendN m)).2 = true then (sDel (sSeen V m) m, 0) else (sSeen V m, 8)
def sFork (V : AV) (a c : ByteArray) : AV × Nat := if (sGet V a).2 = 0 then sAdd (sSeen V a) c { (sGet V a).1 with p := 0 } else (sSeen V a, (sGet V a).2)
def NmOk (m : ByteArray) : Prop := validB m = true ∧ m.size ≤ 70368744177664
theorem sSeen_calls (V : AV) (m : ByteArray) : (sSeen V m).calls = V.calls := avSeen_callsR V _

section
variable {w0 w : World} {b M : Nat} {V : AV} {G : Nat → Prop}
theorem qmPGet (s : QM w0 w b M V G) {m : ByteArray} (hm : NmOk m) : Calls Tryz.prog 47 #[.pointer (some ⟨b, 0, none⟩), .agg #[.int .i64 6, .string m, .int .i64 0, .int .i64 0, .string ⟨#[]⟩]] w (QMP w0 b M (sSeen V m) G w (.tuple #[.string (avGet V (ofPendN m)).1, .bool (avGet V (ofPendN m)).2])) :=
  qmVGet s (ofPendN m) (nameOk_pend hm)
theorem qmPHas (s : QM w0 w b M V G) {m : ByteArray} (hm : NmOk m) : Calls Tryz.prog 76 #[.pointer (some ⟨b, 0, none⟩), .agg #[.int .i64 6, .string m, .int .i64 0, .int .i64 0, .string ⟨#[]⟩]] w (QMP w0 b M (sSeen V m) G w (.bool (avGet V (ofPendN m)).2)) :=
  qmVHas s (ofPendN m) (nameOk_pend hm)
theorem qmPSet (s : QM w0 w b M V G) {m : ByteArray} (hm : NmOk m) (x : ByteArray) (hx : x.size ≤ 65536) (hN : V.calls.length < 1000000) : Calls Tryz.prog 74 #[.pointer (some ⟨b, 0, none⟩), .agg #[.int .i64 6, .string m, .int .i64 0, .int .i64 0, .string ⟨#[]⟩], .string x] w (QMP w0 b M (sSet V m x) G w (.int .i64 0)) :=
  qmVSet s (ofPendN m) (nameOk_pend hm) x hx hN
theorem qmPDel (s : QM w0 w b M V G) {m : ByteArray} (hm : NmOk m) (hN : V.calls.length < 1000000) : Calls Tryz.prog 94 #[.pointer (some ⟨b, 0, none⟩), .agg #[.int .i64 6, .string m, .int .i64 0, .int .i64 0, .string ⟨#[]⟩]] w (QMP w0 b M (sDel V m) G w (.int .i64 0)) :=
  qmVDel s (ofPendN m) (nameOk_pend hm) hN

set_option maxRecDepth 100000 in
set_option maxHeartbeats 1600000 in
theorem qmSPut (s : QM w0 w b M V G) {m : ByteArray} (hm : NmOk m) (hN : V.calls.length < 1000000) (p bl i h0 h1 h2 h3 h4 h5 h6 h7 : Int) :
    Calls Tryz.prog 52 #[.pointer (some ⟨b, 0, none⟩), .string m, .agg #[.int .i64 p, .int .i64 bl, .int .i64 i, .int .i64 h0, .int .i64 h1, .int .i64 h2, .int .i64 h3, .int .i64 h4, .int .i64 h5, .int .i64 h6, .int .i64 h7]] w (QMP w0 b M (sPut V m ⟨p, bl, i, h0, h1, h2, h3, h4, h5, h6, h7⟩).1 G w (.int .i64 (sPut V m ⟨p, bl, i, h0, h1, h2, h3, h4, h5, h6, h7⟩).2)) := by
  have Q0 : Hid (∀ o', QI w0 w b M V G (fun _ => False) (w.alloc o')) := fun o' => s.qi0 ((Below.refl _ _).alloc (Nat.le_refl _) _)
  have HN := Lib.hid hN; clear hN
  have He : True := trivial
  have Hp : True := trivial
  clear s
  by_cases hc : checkR ⟨p, bl, i, h0, h1, h2, h3, h4, h5, h6, h7⟩ = 0
  · have he : Hid (encR ⟨p, bl, i, h0, h1, h2, h3, h4, h5, h6, h7⟩ = (strOf (encRB ⟨p, bl, i, h0, h1, h2, h3, h4, h5, h6, h7⟩), 0)) := if_pos hc
    have hp : Hid (sPut V m ⟨p, bl, i, h0, h1, h2, h3, h4, h5, h6, h7⟩ = (sSet V m (strOf (encRB ⟨p, bl, i, h0, h1, h2, h3, h4, h5, h6, h7⟩)), 0)) := if_pos hc
    have Hz : Hid ((strOf (encRB ⟨p, bl, i, h0, h1, h2, h3, h4, h5, h6, h7⟩)).size ≤ 65536) := encRB_size _
    clear hc He Hp
    rw [hp.out]
    clear hp
    go_enter Tryz.func52, Tryz.ntmps52
    go_wp2_with fail
    refine (rEncode_any p bl i h0 h1 h2 h3 h4 h5 h6 h7 _).mono ?_
    rw [he.out]
    clear he
    generalize strOf (encRB ⟨p, bl, i, h0, h1, h2, h3, h4, h5, h6, h7⟩) = x at *
    rintro r w1 ⟨rfl, hb1⟩
    have Q1 := Lib.hid ((Q0.out _).later hb1)
    clear hb1 Q0
    go_wp2_with fail
    refine (ofPend_any m _).mono ?_
    rintro r w2 ⟨rfl, hb2⟩
    have Q2 := Lib.hid (Q1.out.later hb2)
    clear hb2 Q1
    go_wp2_with fail
    refine (qmPSet Q2.out.s hm x Hz.out HN.out).mono ?_
    rintro r w3 ⟨rfl, s3, hk3⟩
    have Q3 := Lib.hid (Q2.out.step s3 hk3)
    clear s3 hk3 Q2
    go_wp2
    go_ret
    exact Q3.out.post _
  · have he : Hid (encR ⟨p, bl, i, h0, h1, h2, h3, h4, h5, h6, h7⟩ = (⟨#[]⟩, checkR ⟨p, bl, i, h0, h1, h2, h3, h4, h5, h6, h7⟩)) := if_neg hc
    have hp : Hid (sPut V m ⟨p, bl, i, h0, h1, h2, h3, h4, h5, h6, h7⟩ = (V, checkR ⟨p, bl, i, h0, h1, h2, h3, h4, h5, h6, h7⟩)) := if_neg hc
    clear He Hp
    rw [hp.out]
    clear hp
    have hq : ((checkR ⟨p, bl, i, h0, h1, h2, h3, h4, h5, h6, h7⟩ : Int) != 0) = true := bne_iff_ne.2 (by omega)
    clear hc
    go_enter Tryz.func52, Tryz.ntmps52
    go_wp2_with fail
    refine (rEncode_any p bl i h0 h1 h2 h3 h4 h5 h6 h7 _).mono ?_
    rw [he.out]
    clear he
    generalize checkR ⟨p, bl, i, h0, h1, h2, h3, h4, h5, h6, h7⟩ = q at *
    rintro r w1 ⟨rfl, hb1⟩
    have Q1 := Lib.hid ((Q0.out _).later hb1)
    clear hb1 Q0
    go_wp2
    go_ret
    exact Q1.out.post _

set_option maxRecDepth 100000 in
set_option maxHeartbeats 1600000 in
theorem qmSGet (s : QM w0 w b M V G) {m : ByteArray} (hm : NmOk m) :
    Calls Tryz.prog 14 #[.pointer (some ⟨b, 0, none⟩), .string m] w (QMP w0 b M (sSeen V m) G w (.tuple #[recV (sGet V m).1, .int .i64 (sGet V m).2])) := by
  have Hsz : Hid ((avGet V (ofPendN m)).1.size ≤ 35184372088832) := Nat.le_trans (s.size _) (by decide)
  have Q0 : Hid (∀ o' o2, QI w0 w b M V G (fun k => k = w.heap.size) ((w.alloc o').alloc o2)) := fun o' o2 => s.qi (((Below.refl _ _).alloc (Nat.le_refl _) _).alloc (by simp) _) (fun k hk => by subst hk; simp; omega)
  have HR0 : Hid (∀ o' o2, ((w.alloc o').alloc o2).heap[w.heap.size]? = some o') := fun o' o2 => (Below.heap_alloc _ _ _ (by simp)).trans (World.alloc_heap_new w _)
  have HX0 : Hid (∀ o' v T, ((w.alloc o').alloc (.cells #[v] T)).cell? ⟨w.heap.size + 1, 0, none⟩ = some v) := fun o' v T => cell_of_heap (second_newS w _ _) 0
  clear s
  have Hg : Hid (sGet V m = sGetV (avGet V (ofPendN m))) := (rfl : sGet V m = sGetV (avGet V (ofPendN m)))
  go_enter Tryz.func14, Tryz.ntmps14
  go_wp2_with fail
  refine (sCheck_any b (w.heap.size + 1) 1 1 (fun _ => m) 0 _ (fun k hk => by obtain rfl : k = 0 := by omega
                                                                              exact HX0.out _ _ _) (fun _ _ => hm.2) (by omega) (.inr ⟨rfl, fun _ _ => hm.1⟩)).mono ?_
  rintro r w1 ⟨rfl, hb⟩
  have Q1 := Lib.hid ((Q0.out _ _).later hb)
  have HR1 := Lib.hid ((hb.block _ (lt_of_heap (HR0.out _ _))).trans (HR0.out _ _))
  clear hb Q0 HR0 HX0
  go_wp2_with fail
  refine (ofPend_any m _).mono ?_
  rintro r w2 ⟨rfl, hb⟩
  have Q2 := Lib.hid (Q1.out.later hb)
  have HR2 := Lib.hid ((hb.block _ (lt_of_heap HR1.out)).trans HR1.out)
  clear hb Q1 HR1
  go_wp2_with fail
  refine (qmPGet Q2.out.s hm).mono ?_
  rintro r w3 ⟨rfl, s3, hk3⟩
  have Q3 := Lib.hid (Q2.out.step s3 hk3)
  have hR3 : w3.heap[w.heap.size]? = some (.cells (rCells zeroR) 30 (0, 0)) := (hk3 w.heap.size (.inr rfl)).trans HR2.out
  clear s3 hk3 Q2 HR2
  have HR3 := Lib.hid hR3; clear hR3
  generalize avGet V (ofPendN m) = av at *
  obtain ⟨sv, ok⟩ := av
  dsimp only at *
  cases ok with
  | false =>
    have he : Hid (sGet V m = (zeroR, 8)) := Hg.out.trans (if_pos rfl)
    obtain ⟨r0, r1, r2, r3, r4, r5, r6, r7, r8, r9, r10⟩ := at11 HR3.out
    obtain ⟨g0, g1, g2, g3, g4, g5, g6, g7, g8, g9, g10⟩ := free11 HR3.out
    go_wp2
    refine bodyPost_ret (v := .tuple #[.agg #[.int .i64 0, .int .i64 0, .int .i64 0, .int .i64 0, .int .i64 0, .int .i64 0, .int .i64 0, .int .i64 0, .int .i64 0, .int .i64 0, .int .i64 0], .int .i64 8]) (by simp [results, Tryz.results14, go_sem, r0, r1, r2, r3, r4, r5, r6, r7, r8, r9, r10]) rfl ?_
    rw [he.out]
    exact (Q3.out.grown w.heap.size rfl (set11_grown _ _ _ _ _ _ _ _ _ _ _ _ _)).post _
  | true =>
    have he : Hid (sGet V m = decR sv) := Hg.out.trans (if_neg (by simp))
    go_wp2_with fail
    refine (rDecode_any _ _ Hsz.out).mono ?_
    generalize decR sv = d at *
    obtain ⟨⟨p, bl, i, h0, h1, h2, h3, h4, h5, h6, h7⟩, q⟩ := d
    rintro r w4 ⟨rfl, hb⟩
    have Q4 := Lib.hid (Q3.out.later hb)
    have hR4 := (hb.block w.heap.size (lt_of_heap HR3.out)).trans HR3.out
    clear hb Q3
    obtain ⟨r0, r1, r2, r3, r4, r5, r6, r7, r8, r9, r10⟩ := at11 hR4
    obtain ⟨g0, g1, g2, g3, g4, g5, g6, g7, g8, g9, g10⟩ := free11 hR4
    clear hR4
    dsimp only [recV, rCells] at *
    go_wp2
    refine bodyPost_ret (v := .tuple #[.agg #[.int .i64 p, .int .i64 bl, .int .i64 i, .int .i64 h0, .int .i64 h1, .int .i64 h2, .int .i64 h3, .int .i64 h4, .int .i64 h5, .int .i64 h6, .int .i64 h7], .int .i64 q]) (by simp [results, Tryz.results14, go_sem, r0, r1, r2, r3, r4, r5, r6, r7, r8, r9, r10]) rfl ?_
    rw [he.out]
    exact (Q4.out.grown w.heap.size rfl (set11_grown _ _ _ _ _ _ _ _ _ _ _ _ _)).post _
/-- Get, its answer given. -/
theorem qmSGet' (s : QM w0 w b M V G) {m : ByteArray} (hm : NmOk m) {r : RecT} {q : Nat} (hg : sGet V m = (r, q)) :
    Calls Tryz.prog 14 #[.pointer (some ⟨b, 0, none⟩), .string m] w (QMP w0 b M (sSeen V m) G w (.tuple #[recV r, .int .i64 q])) := by
  have := qmSGet s hm
  rw [hg] at this
  exact this

set_option maxRecDepth 100000 in
set_option maxHeartbeats 1600000 in
theorem qmSAdd (s : QM w0 w b M V G) {m : ByteArray} (hm : NmOk m) (hN : V.calls.length < 1000000) (p bl i h0 h1 h2 h3 h4 h5 h6 h7 : Int) :
    Calls Tryz.prog 104 #[.pointer (some ⟨b, 0, none⟩), .string m, .agg #[.int .i64 p, .int .i64 bl, .int .i64 i, .int .i64 h0, .int .i64 h1, .int .i64 h2, .int .i64 h3, .int .i64 h4, .int .i64 h5, .int .i64 h6, .int .i64 h7]] w (QMP w0 b M (sAdd V m ⟨p, bl, i, h0, h1, h2, h3, h4, h5, h6, h7⟩).1 G w (.int .i64 (sAdd V m ⟨p, bl, i, h0, h1, h2, h3, h4, h5, h6, h7⟩).2)) := by
  have Q0 : Hid (∀ o', QI w0 w b M V G (fun k => k = w.heap.size) (w.alloc o')) := fun o' => s.qi ((Below.refl _ _).alloc (Nat.le_refl _) _) (fun k hk => by subst hk; simp)
  have HR0 : Hid (∀ o', (w.alloc o').heap[w.heap.size]? = some o') := fun o' => heap_alloc_new w o'
  have HN : Hid ((sSeen V m).calls.length < 1000000) := by show _ < _; rw [sSeen_calls]; exact hN
  have Hg : Hid (sAdd V m ⟨p, bl, i, h0, h1, h2, h3, h4, h5, h6, h7⟩ = if (avGet V (ofPendN m)).2 = true then (sSeen V m, 13) else sPut (sSeen V m) m ⟨p, bl, i, h0, h1, h2, h3, h4, h5, h6, h7⟩) := (rfl : sAdd V m ⟨p, bl, i, h0, h1, h2, h3, h4, h5, h6, h7⟩ = if (avGet V (ofPendN m)).2 = true then (sSeen V m, 13) else sPut (sSeen V m) m ⟨p, bl, i, h0, h1, h2, h3, h4, h5, h6, h7⟩)
  clear s hN
  go_enter Tryz.func104, Tryz.ntmps104
  go_wp2_with fail
  refine (ofPend_any m _).mono ?_
  rintro r w2 ⟨rfl, hb⟩
  have Q2 := Lib.hid ((Q0.out _).later hb)
  have HR2 := Lib.hid ((hb.block _ (lt_of_heap (HR0.out _))).trans (HR0.out _))
  clear hb Q0 HR0
  go_wp2_with fail
  refine (qmPHas Q2.out.s hm).mono ?_
  rintro r w3 ⟨rfl, s3, hk3⟩
  have Q3 := Lib.hid (Q2.out.step s3 hk3)
  have hR3 : w3.heap[w.heap.size]? = some (.cells (rCells ⟨p, bl, i, h0, h1, h2, h3, h4, h5, h6, h7⟩) 30 (0, 0)) := (hk3 w.heap.size (.inr rfl)).trans HR2.out
  clear s3 hk3 Q2 HR2
  generalize (avGet V (ofPendN m)).2 = ok at *
  cases ok with
  | true =>
    have he := Lib.hid (Hg.out.trans (if_pos rfl))
    clear hR3
    go_wp2
    go_ret
    rw [he.out]
    exact Q3.out.post _
  | false =>
    have he := Lib.hid (Hg.out.trans (if_neg (by simp)))
    obtain ⟨c0, c1, c2, c3, c4, c5, c6, c7, c8, c9, c10⟩ := at11 hR3
    dsimp only at c0 c1 c2 c3 c4 c5 c6 c7 c8 c9 c10
    clear hR3
    go_wp2_with fail
    refine (qmSPut Q3.out.s hm HN.out p bl i h0 h1 h2 h3 h4 h5 h6 h7).mono ?_
    rintro r w4 ⟨rfl, s4, hk4⟩
    have Q4 := Lib.hid (Q3.out.step s4 hk4)
    clear s4 hk4 c0 c1 c2 c3 c4 c5 c6 c7 c8 c9 c10 Q3
    generalize sPut (sSeen V m) m ⟨p, bl, i, h0, h1, h2, h3, h4, h5, h6, h7⟩ = pp at *
    go_wp2
    go_ret
    rw [he.out]
    exact Q4.out.post _

set_option maxRecDepth 100000 in
set_option maxHeartbeats 1600000 in
theorem qmSMake (s : QM w0 w b M V G) {m : ByteArray} (hm : NmOk m) (hN : V.calls.length < 1000000) :
    Calls Tryz.prog 44 #[.pointer (some ⟨b, 0, none⟩), .string m] w (QMP w0 b M (sAdd V m zeroR).1 G w (.int .i64 (sAdd V m zeroR).2)) := by
  have Q0 : Hid (∀ o', QI w0 w b M V G (fun _ => False) (w.alloc o')) := fun o' => s.qi0 ((Below.refl _ _).alloc (Nat.le_refl _) _)
  have HX0 : Hid (∀ v T, (w.alloc (.cells #[v] T)).cell? ⟨w.heap.size, 0, none⟩ = some v) := fun v T => cell_box _ _ _
  have HN := Lib.hid hN; clear hN s
  go_enter Tryz.func44, Tryz.ntmps44
  go_wp2_with fail
  refine (sCheck_any b w.heap.size 1 1 (fun _ => m) 0 _ (fun k hk => by obtain rfl : k = 0 := by omega
                                                                        exact HX0.out _ _) (fun _ _ => hm.2) (by omega) (.inr ⟨rfl, fun _ _ => hm.1⟩)).mono ?_
  rintro r w1 ⟨rfl, hb⟩
  have Q1 := Lib.hid ((Q0.out _).later hb)
  clear hb Q0 HX0
  go_wp2_with fail
  obtain ⟨pp, hpp⟩ : ∃ pp, sAdd V m zeroR = pp := ⟨_, rfl⟩
  have hcall := qmSAdd Q1.out.s hm HN.out 0 0 0 0 0 0 0 0 0 0 0
  rw [show sAdd V m ⟨0, 0, 0, 0, 0, 0, 0, 0, 0, 0, 0⟩ = pp from hpp] at hcall
  have Hpp := Lib.hid hpp
  clear hpp
  refine hcall.mono ?_
  rintro r w4 ⟨rfl, s4, hk4⟩
  have Q4 := Lib.hid (Q1.out.step s4 hk4)
  clear s4 hk4 Q1
  clear hcall
  go_wp2
  go_ret
  rw [Hpp.out]
  exact Q4.out.post _

set_option maxRecDepth 100000 in
set_option maxHeartbeats 1600000 in
theorem qmSDrop (s : QM w0 w b M V G) {m : ByteArray} (hm : NmOk m) (hN : V.calls.length < 1000000) :
    Calls Tryz.prog 63 #[.pointer (some ⟨b, 0, none⟩), .string m] w (QMP w0 b M (sDrop V m).1 G w (.int .i64 (sDrop V m).2)) := by
  have Q0 : Hid (∀ o', QI w0 w b M V G (fun _ => False) (w.alloc o')) := fun o' => s.qi0 ((Below.refl _ _).alloc (Nat.le_refl _) _)
  have HX0 : Hid (∀ v T, (w.alloc (.cells #[v] T)).cell? ⟨w.heap.size, 0, none⟩ = some v) := fun v T => cell_box _ _ _
  have HN : Hid ((sSeen V m).calls.length < 1000000) := by show _ < _; rw [sSeen_calls]; exact hN
  have Hg : Hid (sDrop V m = if (avGet V (ofPendN m)).2 = true then (sDel (sSeen V m) m, 0) else (sSeen V m, 8)) := (rfl : sDrop V m = if (avGet V (ofPendN m)).2 = true then (sDel (sSeen V m) m, 0) else (sSeen V m, 8))
  clear hN s
  go_enter Tryz.func63, Tryz.ntmps63
  go_wp2_with fail
  refine (sCheck_any b w.heap.size 1 1 (fun _ => m) 0 _ (fun k hk => by obtain rfl : k = 0 := by omega
                                                                        exact HX0.out _ _) (fun _ _ => hm.2) (by omega) (.inr ⟨rfl, fun _ _ => hm.1⟩)).mono ?_
  rintro r w1 ⟨rfl, hb⟩
  have Q1 := Lib.hid ((Q0.out _).later hb)
  clear hb Q0 HX0
  go_wp2_with fail
  refine (ofPend_any m _).mono ?_
  rintro r w2 ⟨rfl, hb⟩
  have Q2 := Lib.hid (Q1.out.later hb)
  clear hb Q1
  go_wp2_with fail
  refine (qmPHas Q2.out.s hm).mono ?_
  rintro r w3 ⟨rfl, s3, hk3⟩
  have Q3 := Lib.hid (Q2.out.step s3 hk3)
  clear s3 hk3 Q2
  generalize (avGet V (ofPendN m)).2 = ok at *
  cases ok with
  | false =>
    have he := Lib.hid (Hg.out.trans (if_neg (by simp)))
    go_wp2
    go_ret
    rw [he.out]
    exact Q3.out.post _
  | true =>
    have he := Lib.hid (Hg.out.trans (if_pos rfl))
    go_wp2_with fail
    refine (ofPend_any m _).mono ?_
    rintro r w4 ⟨rfl, hb⟩
    have Q4 := Lib.hid (Q3.out.later hb)
    clear hb Q3
    go_wp2_with fail
    refine (qmPDel Q4.out.s hm HN.out).mono ?_
    rintro r w5 ⟨rfl, s5, hk5⟩
    have Q5 := Lib.hid (Q4.out.step s5 hk5)
    clear s5 hk5 Q4
    go_wp2
    go_ret
    rw [he.out]
    exact Q5.out.post _

set_option maxRecDepth 100000 in
set_option maxHeartbeats 1600000 in
theorem qmSFork (s : QM w0 w b M V G) {m c : ByteArray} (hm : NmOk m) (hc : NmOk c) (hN : V.calls.length < 1000000) :
    Calls Tryz.prog 62 #[.pointer (some ⟨b, 0, none⟩), .string m, .string c] w (QMP w0 b M (sFork V m c).1 G w (.int .i64 (sFork V m c).2)) := by
  have Q0 : Hid (∀ o', QI w0 w b M V G (fun _ => False) (w.alloc o')) := fun o' => s.qi0 ((Below.refl _ _).alloc (Nat.le_refl _) _)
  have HX0 : Hid (∀ v u T (j : Nat), (w.alloc (.cells #[v, u] T)).cell? ⟨w.heap.size, j, none⟩ = (#[v, u] : Array Value)[j]?) := fun v u T j => cell_of_heap (heap_alloc_new w _) j
  have HN : Hid ((sSeen V m).calls.length < 1000000) := by show _ < _; rw [sSeen_calls]; exact hN
  have Hg : Hid (sFork V m c = if (sGet V m).2 = 0 then sAdd (sSeen V m) c { (sGet V m).1 with p := 0 } else (sSeen V m, (sGet V m).2)) := (rfl : sFork V m c = if (sGet V m).2 = 0 then sAdd (sSeen V m) c { (sGet V m).1 with p := 0 } else (sSeen V m, (sGet V m).2))
  clear hN s
  go_enter Tryz.func62, Tryz.ntmps62
  go_wp2_with fail
  refine (sCheck_any b w.heap.size 2 2 (two m c) 0 _ (fun k hk => by
    rcases (by omega : k = 0 ∨ k = 1) with rfl | rfl
    · exact HX0.out _ _ _ 0
    · exact HX0.out _ _ _ 1) (fun k _ => by unfold two; split; exact hm.2; exact hc.2) (by omega) (.inr ⟨rfl, fun k _ => by unfold two; split; exact hm.1; exact hc.1⟩)).mono ?_
  rintro r w1 ⟨rfl, hb⟩
  have Q1 := Lib.hid ((Q0.out _).later hb)
  clear hb Q0 HX0
  go_wp2_with fail
  obtain ⟨⟨⟨p, bl, i, h0, h1, h2, h3, h4, h5, h6, h7⟩, q⟩, hd⟩ : ∃ d, sGet V m = d := ⟨_, rfl⟩
  refine (qmSGet' Q1.out.s hm hd).mono ?_
  rw [hd] at Hg
  clear hd
  rintro r w3 ⟨rfl, s3, hk3⟩
  have Q3 := Lib.hid (Q1.out.step s3 hk3)
  have Q3' : Hid (∀ o', QI w0 w b M (sSeen V m) G (fun k => k = w3.heap.size) (w3.alloc o')) := fun o' => Q3.out.more ((Below.refl _ _).alloc (Nat.le_refl _) _) (fun k hk => by subst hk; exact .inr ⟨Nat.le_refl _, by simp⟩)
  have HX3 : Hid (∀ o', (w3.alloc o').heap[w3.heap.size]? = some o') := fun o' => heap_alloc_new w3 o'
  clear s3 hk3 Q1 Q3
  dsimp only [recV, rCells] at *
  by_cases hq : q = 0
  · subst hq
    have he := Lib.hid (Hg.out.trans (if_pos rfl))
    go_wp2_with fail
    refine (qmSAdd (Q3'.out _).s hc HN.out 0 bl i h0 h1 h2 h3 h4 h5 h6 h7).mono ?_
    rintro r w4 ⟨rfl, s4, hk4⟩
    have Q4 := Lib.hid ((Q3'.out _).step s4 hk4)
    clear s4 hk4 Q3'
    generalize sAdd (sSeen V m) c ⟨0, bl, i, h0, h1, h2, h3, h4, h5, h6, h7⟩ = pp at *
    go_wp2
    go_ret
    rw [he.out]
    exact Q4.out.post _
  · have he := Lib.hid (Hg.out.trans (if_neg hq))
    have hq' : ((q : Int) != 0) = true := bne_iff_ne.2 (by omega)
    clear hq
    go_wp2
    go_ret
    rw [he.out]
    exact (Q3'.out _).post _
end
end Go.Proofs.YtpieaakdddgdeaaGreatDoor
