/- Law 24: Do, rollback and mark. (printed by wip/gen_do24.py) -/
import Derived.Test.YthghfhnicdoebaaGreatDoorDoA
import Derived.BigQuiet
import Derived.Deep.RegionLaw
import Derived.Deep.CutBlock
import Derived.Deep.DeepCutAuto
namespace Go.Proofs.YthghfhnicdoebaaGreatDoor
open Go.RowKit
attribute [local go_sem ↓] Go.wp_at_zero Go.wp_at_succ

set_option maxRecDepth 100000 in
set_option maxHeartbeats 3200000 in
theorem do_k6 (w0 w : World) (b M : Nat) (V : AV) (G : Nat → Prop) (s : QM w0 w b M V G) (ab ar ac : Option Addr) (nb nr nc kb kr kc : Nat) (rs : List NameT) (cs : List ChangeT) (hr : RowK kN w (.slice ar nr kr) rs) (hc : RowK kC w (.slice ac nc kc) cs) (hrG : ∀ k, (Value.slice ar nr kr).ownBlock = some k → G k) (hcG : ∀ k, (Value.slice ac nc kc).ownBlock = some k → G k)
    (kd : Nat) (k : Int) (oo : ByteArray) (nu ix : Int) (tt vv : ByteArray) (x : Bool) (m : Int) (ho : oo.size ≤ 9223372036854775807) (ht : tt.size ≤ 9223372036854775807) (hv : vv.size ≤ 9223372036854775807) (o t v : ByteArray) (eo : cutB oo 100 = o) (et : cutB tt 100 = t) (ev : cutB vv 70 = v) (hkd : kd ≤ 255)
    (hk : kd % 8 = 6) (hcV : V.calls = cs) :
    Calls Tryz.prog 11 #[.pointer (some ⟨b, 0, none⟩), .agg #[.slice ab nb kb, .slice ar nr kr, .slice ac nc kc], .agg #[.int .u8 kd, .int .i64 k, .string oo, .int .i64 nu, .int .i64 ix, .string tt, .string vv, .bool x, .int .i64 m]] w (DoPost w0 w b M ((rolA V m).1) G (.slice ab nb kb) (.slice ar nr kr) (.slice ac nc kc) (rs, (rolR cs m).1)) := by
  obtain ⟨cs', e, hq⟩ : ∃ cs' e, rolR cs m = (cs', e) := ⟨_, _, rfl⟩
  have HQ := Lib.hid hq
  have HRef : Hid (∀ W, RowK kC W (.slice ac nc kc) cs → Calls Tryz.prog 42 #[.agg #[.slice ab nb kb, .slice ar nr kr, .slice ac nc kc], .int .i64 m] W (RCallPost (rolR cs m) (.slice ab nb kb) (.slice ar nr kr) (.slice ac nc kc) W)) := fun W h => rRol_any W ab ar ac nb nr nc kb kr kc cs h m
  have HV : Hid (∀ W G' V', QM w0 W b M V' G' → V' = V → Calls Tryz.prog 34 #[.pointer (some ⟨b, 0, none⟩), .int .i64 m] W (QMP w0 b M (rolA V m).1 G' W (.int .i64 e))) := fun W G' V' hs' e' => by
    subst e'
    have h := vRolA hs' m
    have h2 := rol_rol V' m
    rw [hcV, hq] at h2
    rw [h2] at h
    exact h
  clear hcV hq
  have HSh : Hid (∀ W, Calls Tryz.prog 35 #[.agg #[.int .i64 k, .string oo, .int .i64 nu, .int .i64 ix, .string tt, .string vv, .bool x]] W fun r w' => r = .returned (.agg #[.int .i64 k, .string o, .int .i64 nu, .int .i64 ix, .string t, .string v, .bool x]) ∧ Below W.heap.size W w') := fun W => by
    have h := short_any k oo nu ix tt vv x W ho ht hv
    rw [eo, et, ev] at h
    exact h
  have HTo : Hid (∀ W, Calls Tryz.prog 36 #[.agg #[.int .i64 k, .string o, .int .i64 nu, .int .i64 ix, .string t]] W fun r w' => r = .returned (.agg #[.int .i64 k, .string o, .int .i64 nu, .int .i64 ix, .string t]) ∧ Below W.heap.size W w') := fun W => to04_any k o nu ix t W
  have hk' : (kd : Int) % 8 = 6 := by omega
  have hk2 : kd < 256 := by omega
  clear ho ht hv eo et ev
  have HrG : Hid (∀ k, (Value.slice ar nr kr).ownBlock = some k → G k) := hrG
  have HcG : Hid (∀ k, (Value.slice ac nc kc).ownBlock = some k → G k) := hcG
  have HS := Lib.hid s
  have HR := Lib.hid hr
  have HC := Lib.hid hc
  clear s hrG hcG hk hkd hr hc
  go_enter Tryz.func11, Tryz.ntmps11
  go_wp2_with fail
  generalize hW1 : (((w.alloc (.cells #[.slice ab nb kb, .slice ar nr kr, .slice ac nc kc] 33)).alloc (.cells #[.int .u8 kd, .int .i64 k, .string oo, .int .i64 nu, .int .i64 ix, .string tt, .string vv, .bool x, .int .i64 m] 42)).alloc (.cells #[.slice none 0 0, .slice none 0 0, .slice none 0 0] 33)) = w1
  have HW1 := Lib.hid hW1; clear hW1
  refine (HSh.out w1).mono ?_
  rintro r w2 ⟨rfl, hb2⟩
  have HB2 := Lib.hid hb2; clear hb2
  go_wp2_with fail
  refine (HTo.out _).mono ?_
  rintro r w4 ⟨rfl, hb4⟩
  have D : Hid (DX w0 w b M V G (.slice ab nb kb) (.slice ar nr kr) (.slice ac nc kc) #[.int .u8 kd, .int .i64 k, .string oo, .int .i64 nu, .int .i64 ix, .string tt, .string vv, .bool x, .int .i64 m] #[.int .i64 k, .string o, .int .i64 nu, .int .i64 ix, .string t, .string v, .bool x] #[.int .i64 k, .string o, .int .i64 nu, .int .i64 ix, .string t] w2.heap.size w4.heap.size (w4.alloc (.cells #[.int .i64 k, .string o, .int .i64 nu, .int .i64 ix, .string t] 62))) := dx_start HS.out (by rw [HW1.out]; exact HB2.out) hb4
  clear hb4 HB2 HW1 HSh HTo HS
  go_upto_region 3 with fail
  generalize w4.alloc (.cells #[.int .i64 k, .string o, .int .i64 nu, .int .i64 ix, .string t] 62) = W5 at *
  generalize w2.heap.size = X at *
  generalize w4.heap.size = Y at *
  have v0 : W5.cell? ⟨w.heap.size, 0, none⟩ = some (.slice ab nb kb) := cell_of_heap D.out.bv 0
  have v1 : W5.cell? ⟨w.heap.size, 1, none⟩ = some (.slice ar nr kr) := cell_of_heap D.out.bv 1
  have v2 : W5.cell? ⟨w.heap.size, 2, none⟩ = some (.slice ac nc kc) := cell_of_heap D.out.bv 2
  have o0 : W5.cell? ⟨w.heap.size + 1, 0, none⟩ = some (.int .u8 kd) := cell_of_heap D.out.op 0
  have o8 : W5.cell? ⟨w.heap.size + 1, 8, none⟩ = some (.int .i64 m) := cell_of_heap D.out.op 8
  have y0 : W5.cell? ⟨X, 0, none⟩ = some (.int .i64 k) := cell_of_heap D.out.bc 0
  have y1 : W5.cell? ⟨X, 1, none⟩ = some (.string o) := cell_of_heap D.out.bc 1
  have y2 : W5.cell? ⟨X, 2, none⟩ = some (.int .i64 nu) := cell_of_heap D.out.bc 2
  have y3 : W5.cell? ⟨X, 3, none⟩ = some (.int .i64 ix) := cell_of_heap D.out.bc 3
  have y4 : W5.cell? ⟨X, 4, none⟩ = some (.string t) := cell_of_heap D.out.bc 4
  have y5 : W5.cell? ⟨X, 5, none⟩ = some (.string v) := cell_of_heap D.out.bc 5
  have y6 : W5.cell? ⟨X, 6, none⟩ = some (.bool x) := cell_of_heap D.out.bc 6
  have z0 : W5.cell? ⟨Y, 0, none⟩ = some (.int .i64 k) := cell_of_heap D.out.bn 0
  have z1 : W5.cell? ⟨Y, 1, none⟩ = some (.string o) := cell_of_heap D.out.bn 1
  have z2 : W5.cell? ⟨Y, 2, none⟩ = some (.int .i64 nu) := cell_of_heap D.out.bn 2
  have z3 : W5.cell? ⟨Y, 3, none⟩ = some (.int .i64 ix) := cell_of_heap D.out.bn 3
  have z4 : W5.cell? ⟨Y, 4, none⟩ = some (.string t) := cell_of_heap D.out.bn 4
  have e0 : W5.cell? ⟨w.heap.size + 1 + 1, 0, none⟩ = some (.slice none 0 0) := cell_of_heap D.out.br 0
  have f0 : W5.frozen? ⟨w.heap.size + 1 + 1, 0, none⟩ = false := frozen_of_heap D.out.br 0
  have e1 : W5.cell? ⟨w.heap.size + 1 + 1, 1, none⟩ = some (.slice none 0 0) := cell_of_heap D.out.br 1
  have f1 : W5.frozen? ⟨w.heap.size + 1 + 1, 1, none⟩ = false := frozen_of_heap D.out.br 1
  have e2 : W5.cell? ⟨w.heap.size + 1 + 1, 2, none⟩ = some (.slice none 0 0) := cell_of_heap D.out.br 2
  have f2 : W5.frozen? ⟨w.heap.size + 1 + 1, 2, none⟩ = false := frozen_of_heap D.out.br 2
  obtain ⟨l0, l1, l2, l3, l4⟩ := D.out.lt
  go_wp2_with fail
  refine (HV.out _ _ _ D.out.q.s rfl).mono ?_
  rintro r W6 ⟨rfl, s6, hk6⟩
  have D6 := Lib.hid (D.out.step s6 hk6)
  clear s6 hk6 D v0 v1 v2 o0 o8 y0 y1 y2 y3 y4 y5 y6 z0 z1 z2 z3 z4 e0 e1 e2 f0 f1 f2 l0 l1 l2 l3 l4 HV
  have v0 : W6.cell? ⟨w.heap.size, 0, none⟩ = some (.slice ab nb kb) := cell_of_heap D6.out.bv 0
  have v1 : W6.cell? ⟨w.heap.size, 1, none⟩ = some (.slice ar nr kr) := cell_of_heap D6.out.bv 1
  have v2 : W6.cell? ⟨w.heap.size, 2, none⟩ = some (.slice ac nc kc) := cell_of_heap D6.out.bv 2
  have e0 : W6.cell? ⟨w.heap.size + 1 + 1, 0, none⟩ = some (.slice none 0 0) := cell_of_heap D6.out.br 0
  have f0 : W6.frozen? ⟨w.heap.size + 1 + 1, 0, none⟩ = false := frozen_of_heap D6.out.br 0
  have e1 : W6.cell? ⟨w.heap.size + 1 + 1, 1, none⟩ = some (.slice none 0 0) := cell_of_heap D6.out.br 1
  have f1 : W6.frozen? ⟨w.heap.size + 1 + 1, 1, none⟩ = false := frozen_of_heap D6.out.br 1
  have e2 : W6.cell? ⟨w.heap.size + 1 + 1, 2, none⟩ = some (.slice none 0 0) := cell_of_heap D6.out.br 2
  have f2 : W6.frozen? ⟨w.heap.size + 1 + 1, 2, none⟩ = false := frozen_of_heap D6.out.br 2
  have o8 : W6.cell? ⟨w.heap.size + 1, 8, none⟩ = some (.int .i64 m) := cell_of_heap D6.out.op 8
  obtain ⟨l0, l1, l2, l3, l4⟩ := D6.out.lt
  go_wp2_with fail
  refine (HRef.out W6 (D6.out.row HC.out HcG.out)).mono ?_
  rintro r w7 ⟨vc', rfl, hrow, hfr, hb7, a7, n7, c7, rfl⟩
  rw [HQ.out] at hrow
  rw [HQ.out]
  dsimp only at hrow ⊢
  have Hrow := Lib.hid hrow
  have Hfr := Lib.hid hfr
  have H78 : Hid (Below w7.heap.size w7 (w7.alloc (.cells #[.slice ab nb kb, .slice ar nr kr, .slice a7 n7 c7] 33))) := (Below.refl _ _).alloc (Nat.le_refl _) _
  have H68 : Hid (Below W6.heap.size W6 (w7.alloc (.cells #[.slice ab nb kb, .slice ar nr kr, .slice a7 n7 c7] 33))) := hb7.trans (H78.out.mono hb7.size)
  have D8 := Lib.hid (D6.out.later H68.out)
  have HN : Hid ((w7.alloc (.cells #[.slice ab nb kb, .slice ar nr kr, .slice a7 n7 c7] 33)).heap[w7.heap.size]? = some (.cells #[.slice ab nb kb, .slice ar nr kr, .slice a7 n7 c7] 33 (0, 0))) := heap_alloc_new w7 _
  have g7 : w.heap.size + 1 + 1 < w7.heap.size := Nat.lt_of_lt_of_le l2 hb7.size
  clear hrow hfr hb7 v0 v1 v2 o8 e0 e1 e2 f0 f1 f2 l0 l1 l3 l4
  go_upto_region 27 with fail
  generalize (w7.alloc (.cells #[.slice ab nb kb, .slice ar nr kr, .slice a7 n7 c7] 33)) = W8 at *

  have e0 : W8.cell? ⟨w.heap.size + 1 + 1, 0, none⟩ = some (.slice none 0 0) := cell_of_heap D8.out.br 0
  have f0 : W8.frozen? ⟨w.heap.size + 1 + 1, 0, none⟩ = false := frozen_of_heap D8.out.br 0
  have e1 : W8.cell? ⟨w.heap.size + 1 + 1, 1, none⟩ = some (.slice none 0 0) := cell_of_heap D8.out.br 1
  have f1 : W8.frozen? ⟨w.heap.size + 1 + 1, 1, none⟩ = false := frozen_of_heap D8.out.br 1
  have e2 : W8.cell? ⟨w.heap.size + 1 + 1, 2, none⟩ = some (.slice none 0 0) := cell_of_heap D8.out.br 2
  have f2 : W8.frozen? ⟨w.heap.size + 1 + 1, 2, none⟩ = false := frozen_of_heap D8.out.br 2
  have x0 := cell_of_heap HN.out 0
  have x1 := cell_of_heap HN.out 1
  have x2 := cell_of_heap HN.out 2
  obtain ⟨l0, l1, l2, l3, l4⟩ := D8.out.lt
  go_wp2
  refine bodyPost_ret (v := .tuple #[.agg #[.slice ab nb kb, .slice ar nr kr, .slice a7 n7 c7], .bool true]) (by simp [results, Tryz.results11, go_sem, e0, e1, e2]) rfl ?_
  exact dx_end D6.out HrG.out HcG.out H68.out (Fresh.refl _ _ _) (Hfr.out.more H78.out.size) ((D6.out.row HR.out HrG.out).later H68.out) (Hrow.out.later H78.out) (by first | rw [HQ.out] | exact rfl) _ _ _

set_option maxRecDepth 100000 in
set_option maxHeartbeats 3200000 in
theorem do_k7 (w0 w : World) (b M : Nat) (V : AV) (G : Nat → Prop) (s : QM w0 w b M V G) (ab ar ac : Option Addr) (nb nr nc kb kr kc : Nat) (rs : List NameT) (cs : List ChangeT) (hr : RowK kN w (.slice ar nr kr) rs) (hc : RowK kC w (.slice ac nc kc) cs) (hrG : ∀ k, (Value.slice ar nr kr).ownBlock = some k → G k) (hcG : ∀ k, (Value.slice ac nc kc).ownBlock = some k → G k)
    (kd : Nat) (k : Int) (oo : ByteArray) (nu ix : Int) (tt vv : ByteArray) (x : Bool) (m : Int) (ho : oo.size ≤ 9223372036854775807) (ht : tt.size ≤ 9223372036854775807) (hv : vv.size ≤ 9223372036854775807) (o t v : ByteArray) (eo : cutB oo 100 = o) (et : cutB tt 100 = t) (ev : cutB vv 70 = v) (hkd : kd ≤ 255)
    (hk : kd % 8 = 7) (hcV : V.calls = cs) :
    Calls Tryz.prog 11 #[.pointer (some ⟨b, 0, none⟩), .agg #[.slice ab nb kb, .slice ar nr kr, .slice ac nc kc], .agg #[.int .u8 kd, .int .i64 k, .string oo, .int .i64 nu, .int .i64 ix, .string tt, .string vv, .bool x, .int .i64 m]] w (DoPost w0 w b M (V) G (.slice ab nb kb) (.slice ar nr kr) (.slice ac nc kc) (rs, cs)) := by
  have HV : Hid (∀ W G' V', QM w0 W b M V' G' → V' = V → Calls Tryz.prog 12 #[.pointer (some ⟨b, 0, none⟩)] W fun r w' => r = .returned (.int .i64 nc) ∧ W = w') := fun W G' V' hs' e' => by
    subst e'
    have h := qmMark hs'
    rw [hcV, hc.len] at h
    exact h
  clear hcV
  have HSh : Hid (∀ W, Calls Tryz.prog 35 #[.agg #[.int .i64 k, .string oo, .int .i64 nu, .int .i64 ix, .string tt, .string vv, .bool x]] W fun r w' => r = .returned (.agg #[.int .i64 k, .string o, .int .i64 nu, .int .i64 ix, .string t, .string v, .bool x]) ∧ Below W.heap.size W w') := fun W => by
    have h := short_any k oo nu ix tt vv x W ho ht hv
    rw [eo, et, ev] at h
    exact h
  have HTo : Hid (∀ W, Calls Tryz.prog 36 #[.agg #[.int .i64 k, .string o, .int .i64 nu, .int .i64 ix, .string t]] W fun r w' => r = .returned (.agg #[.int .i64 k, .string o, .int .i64 nu, .int .i64 ix, .string t]) ∧ Below W.heap.size W w') := fun W => to04_any k o nu ix t W
  have hk' : (kd : Int) % 8 = 7 := by omega
  have hk2 : kd < 256 := by omega
  clear ho ht hv eo et ev
  have HrG : Hid (∀ k, (Value.slice ar nr kr).ownBlock = some k → G k) := hrG
  have HcG : Hid (∀ k, (Value.slice ac nc kc).ownBlock = some k → G k) := hcG
  have HS := Lib.hid s
  have HR := Lib.hid hr
  have HC := Lib.hid hc
  clear s hrG hcG hk hkd hr hc
  go_enter Tryz.func11, Tryz.ntmps11
  go_wp2_with fail
  generalize hW1 : (((w.alloc (.cells #[.slice ab nb kb, .slice ar nr kr, .slice ac nc kc] 33)).alloc (.cells #[.int .u8 kd, .int .i64 k, .string oo, .int .i64 nu, .int .i64 ix, .string tt, .string vv, .bool x, .int .i64 m] 42)).alloc (.cells #[.slice none 0 0, .slice none 0 0, .slice none 0 0] 33)) = w1
  have HW1 := Lib.hid hW1; clear hW1
  refine (HSh.out w1).mono ?_
  rintro r w2 ⟨rfl, hb2⟩
  have HB2 := Lib.hid hb2; clear hb2
  go_wp2_with fail
  refine (HTo.out _).mono ?_
  rintro r w4 ⟨rfl, hb4⟩
  have D : Hid (DX w0 w b M V G (.slice ab nb kb) (.slice ar nr kr) (.slice ac nc kc) #[.int .u8 kd, .int .i64 k, .string oo, .int .i64 nu, .int .i64 ix, .string tt, .string vv, .bool x, .int .i64 m] #[.int .i64 k, .string o, .int .i64 nu, .int .i64 ix, .string t, .string v, .bool x] #[.int .i64 k, .string o, .int .i64 nu, .int .i64 ix, .string t] w2.heap.size w4.heap.size (w4.alloc (.cells #[.int .i64 k, .string o, .int .i64 nu, .int .i64 ix, .string t] 62))) := dx_start HS.out (by rw [HW1.out]; exact HB2.out) hb4
  clear hb4 HB2 HW1 HSh HTo HS
  go_upto_region 3 with fail
  generalize w4.alloc (.cells #[.int .i64 k, .string o, .int .i64 nu, .int .i64 ix, .string t] 62) = W5 at *
  generalize w2.heap.size = X at *
  generalize w4.heap.size = Y at *
  have v0 : W5.cell? ⟨w.heap.size, 0, none⟩ = some (.slice ab nb kb) := cell_of_heap D.out.bv 0
  have v1 : W5.cell? ⟨w.heap.size, 1, none⟩ = some (.slice ar nr kr) := cell_of_heap D.out.bv 1
  have v2 : W5.cell? ⟨w.heap.size, 2, none⟩ = some (.slice ac nc kc) := cell_of_heap D.out.bv 2
  have o0 : W5.cell? ⟨w.heap.size + 1, 0, none⟩ = some (.int .u8 kd) := cell_of_heap D.out.op 0
  have o8 : W5.cell? ⟨w.heap.size + 1, 8, none⟩ = some (.int .i64 m) := cell_of_heap D.out.op 8
  have y0 : W5.cell? ⟨X, 0, none⟩ = some (.int .i64 k) := cell_of_heap D.out.bc 0
  have y1 : W5.cell? ⟨X, 1, none⟩ = some (.string o) := cell_of_heap D.out.bc 1
  have y2 : W5.cell? ⟨X, 2, none⟩ = some (.int .i64 nu) := cell_of_heap D.out.bc 2
  have y3 : W5.cell? ⟨X, 3, none⟩ = some (.int .i64 ix) := cell_of_heap D.out.bc 3
  have y4 : W5.cell? ⟨X, 4, none⟩ = some (.string t) := cell_of_heap D.out.bc 4
  have y5 : W5.cell? ⟨X, 5, none⟩ = some (.string v) := cell_of_heap D.out.bc 5
  have y6 : W5.cell? ⟨X, 6, none⟩ = some (.bool x) := cell_of_heap D.out.bc 6
  have z0 : W5.cell? ⟨Y, 0, none⟩ = some (.int .i64 k) := cell_of_heap D.out.bn 0
  have z1 : W5.cell? ⟨Y, 1, none⟩ = some (.string o) := cell_of_heap D.out.bn 1
  have z2 : W5.cell? ⟨Y, 2, none⟩ = some (.int .i64 nu) := cell_of_heap D.out.bn 2
  have z3 : W5.cell? ⟨Y, 3, none⟩ = some (.int .i64 ix) := cell_of_heap D.out.bn 3
  have z4 : W5.cell? ⟨Y, 4, none⟩ = some (.string t) := cell_of_heap D.out.bn 4
  have e0 : W5.cell? ⟨w.heap.size + 1 + 1, 0, none⟩ = some (.slice none 0 0) := cell_of_heap D.out.br 0
  have f0 : W5.frozen? ⟨w.heap.size + 1 + 1, 0, none⟩ = false := frozen_of_heap D.out.br 0
  have e1 : W5.cell? ⟨w.heap.size + 1 + 1, 1, none⟩ = some (.slice none 0 0) := cell_of_heap D.out.br 1
  have f1 : W5.frozen? ⟨w.heap.size + 1 + 1, 1, none⟩ = false := frozen_of_heap D.out.br 1
  have e2 : W5.cell? ⟨w.heap.size + 1 + 1, 2, none⟩ = some (.slice none 0 0) := cell_of_heap D.out.br 2
  have f2 : W5.frozen? ⟨w.heap.size + 1 + 1, 2, none⟩ = false := frozen_of_heap D.out.br 2
  obtain ⟨l0, l1, l2, l3, l4⟩ := D.out.lt
  have Dd := Lib.hid (D.out.later (Below.refl _ _).drew)
  go_upto_region 28 with fail
  go_region_with (first
    | (go_at_call 12; refine (HV.out _ _ _ Dd.out.q.s rfl).mono ?_; rintro r w6 ⟨rfl, rfl⟩)
    | fail)
  all_goals
    go_wp2
    refine bodyPost_ret (v := .tuple #[.agg #[.slice ab nb kb, .slice ar nr kr, .slice ac nc kc], .bool true]) (by simp [results, Tryz.results11, go_sem, e0, e1, e2]) rfl ?_
    exact dx_end Dd.out HrG.out HcG.out (Below.refl _ _) (Fresh.refl _ _ _) (Fresh.refl _ _ _) (Dd.out.row HR.out HrG.out) (Dd.out.row HC.out HcG.out) rfl _ _ _
end Go.Proofs.YthghfhnicdoebaaGreatDoor
