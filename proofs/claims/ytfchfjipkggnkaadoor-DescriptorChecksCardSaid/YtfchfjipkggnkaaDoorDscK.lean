/- descriptor, upon a view whose value is known: Make. (printed by wip/gen_dsci.py) -/
import Derived.Test.YtfchfjipkggnkaaDoorDscJ
namespace Go.Proofs.YtfchfjipkggnkaaDoor
open Go.RowKit
attribute [local go_sem ↓] run_eql_opn run_neq_opn

section
variable {w0 w : World} {b M : Nat} {V : AV} {G : Nat → Prop} (s : QM w0 w b M V G)
include s
set_option maxRecDepth 100000 in
set_option maxHeartbeats 6400000 in
theorem qdMake (who : ByteArray) (hw : who.size ≤ 70368744177664) (hlen : V.calls.length < 1000000) : Calls Tryd.prog 17 #[.pointer (some ⟨b, 0, none⟩), .string who] w (QMP w0 b M ((dMake who).run V).1 G w (.int .i64 ((dMake who).run V).2.E)) := by
  have Q0 := Lib.hid (s.qi0 (Below.refl w.heap.size w))
  clear s
  have HRn := Lib.hid (dMake_run V who)
  go_enter Tryd.func17, Tryd.ntmps17
  go_wp2_with fail
  cases hv : validB who with
  | false =>
    have HR : Hid ((dMake who).run V = (V, errD 12)) := HRn.out.trans (if_pos hv)
    refine (valid_is who _ hw hv _).mono ?_
    rintro r w2 ⟨rfl, hb⟩
    have Q1 := Lib.hid (Q0.out.later hb)
    clear hb Q0 HRn
    go_wp2
    go_ret
    rw [HR.out]
    exact Q1.out.post _
  | true =>
    have HN : Hid (NameOk (ofTab who)) := nameOk_tab ⟨hv, hw⟩
    have HR1 := Lib.hid (HRn.out.trans (if_neg (by rw [hv]; decide)))
    have Hv := Lib.hid hv
    refine (valid_is who _ hw hv _).mono ?_
    rintro r w2 ⟨rfl, hb⟩
    have Q1 := Lib.hid (Q0.out.later hb)
    clear hb Q0 HRn hv
    go_wp2_with fail
    refine (ofTab_any who _).mono ?_
    rintro r w3 ⟨rfl, hb⟩
    have Q2 := Lib.hid (Q1.out.later hb)
    clear hb Q1
    go_wp2_with fail
    refine (qmVHas Q2.out.s (ofTab who) HN.out).mono ?_
    rintro r w4 ⟨rfl, s4, hk⟩
    have Q3 := Lib.hid (Q2.out.step s4 hk)
    clear s4 hk Q2
    cases hg : (avGet V (ofTab who)).2 with
    | true =>
      have HR : Hid ((dMake who).run V = (avSeen V (ofTab who), errD 13)) := HR1.out.trans (if_pos hg)
      clear hg HR1
      go_wp2
      go_ret
      rw [HR.out]
      exact Q3.out.post _
    | false =>
      have HR : Hid ((dMake who).run V = (addV (avSeen V (ofTab who)) (chgD who (some zeroTab)), errD 0)) := HR1.out.trans (if_neg (by rw [hg]; decide))
      have HL : Hid ((avSeen V (ofTab who)).calls.length < 1000000) := by show _ < _; rw [avSeen_cal]; exact hlen
      have HWr := Lib.hid (qdWrite Q3.out.s who hw Hv.out zeroTab zeroTab_len tabE_zeroTab (maks_ok tabE_zeroTab) HL.out)
      rw [← zero_tab] at HWr
      clear hg HR1 hlen
      go_wp2_with fail
      refine HWr.out.mono ?_
      rintro r w5 ⟨rfl, s5, hk⟩
      have Q4 := Lib.hid (Q3.out.step s5 hk)
      clear s5 hk Q3 HWr
      go_wp2
      go_ret
      rw [HR.out]
      exact Q4.out.post _
end
end Go.Proofs.YtfchfjipkggnkaaDoor
