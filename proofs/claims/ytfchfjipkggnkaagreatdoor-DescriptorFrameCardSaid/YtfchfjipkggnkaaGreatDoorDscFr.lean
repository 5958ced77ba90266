/- Law 31: DescriptorFrame. (printed by wip/gen_dscfr.py) -/
import Derived.Test.YtfchfjipkggnkaaGreatDoorDscAf
import Derived.Test.YtfchfjipkggnkaaGreatDoorDscFa
import Derived.Test.YtfchfjipkggnkaaGreatDoorDscU
import Derived.Test.YtfchfjipkggnkaaGreatDoorRdsE
import Derived.Test.YtfchfjipkggnkaaGreatDoorNeqC
import Derived.Deep.RegionHeld3
namespace Go.Proofs.YtfchfjipkggnkaaGreatDoor
open Go.RowKit
attribute [local go_sem ↓] Go.wp_at_zero Go.wp_at_succ

theorem run_len_chg (w : World) (a : Option Addr) (n c : Nat) : (Builtin.len_ #[58] 3 #[.slice a n c]).run Tryz.prog w = .ok (.int .i64 n) w := run_len_slice (P := Tryz.prog) (w := w) 58 3 a n c (by kernel_rfl)
attribute [local go_sem ↓] run_len_chg run_neq_change
theorem perm_le_one {α : Type} {l l' : List α} (h : l.Perm l') (hl : l'.length ≤ 1) : l = l' := by
  match l', hl, h with
  | [], _, h => exact List.Perm.eq_nil h
  | [x], _, h => exact List.perm_singleton.1 h
  | _ :: _ :: _, hl, _ => simp at hl
theorem writes_le {cs : List ChangeT} (h : cs.length ≤ 1) : (writesU cs).length ≤ 1 := by
  match cs, h with
  | [], _ => exact Nat.zero_le 1
  | [c], _ => exact Nat.le_refl 1
  | _ :: _ :: _, h => simp at h
theorem exec_load_resA {ρ : Operand → Value} {o : Oper} {x : Operand} {w : World} {R : Nat} {r : ResD} (ho : o.op = .load 52 x) (hx : ρ x = .pointer (some ⟨R, 0, none⟩)) (h : ResAt w R r) : (execOp ρ o).run Tryz.prog w = .ok (.value (.agg (resC r).toArray)) w := exec_load_res ho hx h
theorem run_neq_resA (w : World) {r : ResD} (h : r.T.length = 16) : (binOp .neq 52 (.agg (resC r).toArray) (.agg (resC r).toArray)).run Tryz.prog w = .ok (.bool false) w := run_neq_res w h
theorem QM.rdkF {w0 w : World} {b M : Nat} {V : AV} {G : Nat → Prop} (s : QM w0 w b M V G) : ReadsOk V.reads := by
  obtain ⟨⟨h, hv, _⟩, _⟩ := s
  exact hv.rdk
theorem QM.vals0 {w0 w : World} {b M : Nat} {f : NameT → Option ByteArray} {G : Nat → Prop} (s : QM w0 w b M ⟨f, [], []⟩ G) : ∀ n v, f n = some v → v.size ≤ 65536 := fun n v h => by
  have := s.size n
  simpa [avGet, aGet, lastCall, h] using this
theorem two_namesF {l : List NameT} {x y : NameT} (hn : l.Nodup) (h : ∀ n ∈ l, n = x ∨ n = y) : l.length ≤ 2 := by
  match l, hn, h with
  | [], _, _ => simp
  | [_], _, _ => simp
  | [_, _], _, _ => simp
  | a :: b :: c :: r, hn, h =>
    exfalso
    simp only [List.nodup_cons, List.mem_cons, not_or] at hn
    obtain ⟨⟨h1, h2, _⟩, ⟨h3, _⟩, _⟩ := hn
    have ha := h a (by simp)
    have hb := h b (by simp)
    have hc := h c (by simp)
    rcases ha with rfl | rfl <;> rcases hb with rfl | rfl <;> rcases hc with rfl | rfl <;> simp_all
theorem touch_reads (o : OpD) (f : NameT → Option ByteArray) (hr : ReadsOk ((pTree o).run ⟨f, [], []⟩).1.reads) : ((pTree o).run ⟨f, [], []⟩).1.reads.length ≤ 2 := by
  have h := ((pTree o).run_touch ⟨f, [], []⟩ (pTree_in o) (by simp) (by simp)).1
  rw [← List.length_map (f := Prod.fst)]
  refine two_namesF (x := ofTab (nmD (o.who % 4))) (y := ofTab (nmD (o.to % 4))) hr.1 (fun n hn => ?_)
  obtain ⟨p, hp, rfl⟩ := List.mem_map.1 hn
  exact (h p hp).imp id (fun h => h.2)
theorem rowC_one {w : World} {v : Value} {k1 k3 k4 : Int} {k2 k5 cv : ByteArray} {cab : Bool} (h : RowC w v [⟨⟨k1, k2, k3, k4, k5⟩, cv, cab⟩]) : ∃ g p, v = .slice (some ⟨g, 0, none⟩) 1 p ∧ w.cell? ⟨g, 0, none⟩ = some (.int .i64 k1) ∧ w.cell? ⟨g, 1, none⟩ = some (.string k2) ∧ w.cell? ⟨g, 2, none⟩ = some (.int .i64 k3) ∧ w.cell? ⟨g, 3, none⟩ = some (.int .i64 k4) ∧ w.cell? ⟨g, 4, none⟩ = some (.string k5) ∧ w.cell? ⟨g, 5, none⟩ = some (.string cv) ∧ w.cell? ⟨g, 6, none⟩ = some (.bool cab) := by
  obtain ⟨a, cap, rfl, hc⟩ := h
  obtain ⟨g, rfl, hg⟩ := hc 0 _ rfl
  exact ⟨g, cap, rfl, hg 0 _ rfl, hg 1 _ rfl, hg 2 _ rfl, hg 3 _ rfl, hg 4 _ rfl, hg 5 _ rfl, hg 6 _ rfl⟩
theorem cellF {w w' : World} {x i : Nat} {v : Value} (h : w.cell? ⟨x, i, none⟩ = some v) (hb : Below w.heap.size w w') : w'.cell? ⟨x, i, none⟩ = some v := ((bcell hb).1 x i (World.block_lt_of_cell? w _ h)).trans h
theorem c7F {w w' : World} {g : Nat} {k1 k3 k4 : Int} {k2 k5 cv : ByteArray} {cab : Bool} (h : w.cell? ⟨g, 0, none⟩ = some (.int .i64 k1) ∧ w.cell? ⟨g, 1, none⟩ = some (.string k2) ∧ w.cell? ⟨g, 2, none⟩ = some (.int .i64 k3) ∧ w.cell? ⟨g, 3, none⟩ = some (.int .i64 k4) ∧ w.cell? ⟨g, 4, none⟩ = some (.string k5) ∧ w.cell? ⟨g, 5, none⟩ = some (.string cv) ∧ w.cell? ⟨g, 6, none⟩ = some (.bool cab)) (hb : Below w.heap.size w w') : w'.cell? ⟨g, 0, none⟩ = some (.int .i64 k1) ∧ w'.cell? ⟨g, 1, none⟩ = some (.string k2) ∧ w'.cell? ⟨g, 2, none⟩ = some (.int .i64 k3) ∧ w'.cell? ⟨g, 3, none⟩ = some (.int .i64 k4) ∧ w'.cell? ⟨g, 4, none⟩ = some (.string k5) ∧ w'.cell? ⟨g, 5, none⟩ = some (.string cv) ∧ w'.cell? ⟨g, 6, none⟩ = some (.bool cab) := ⟨cellF h.1 hb, cellF h.2.1 hb, cellF h.2.2.1 hb, cellF h.2.2.2.1 hb, cellF h.2.2.2.2.1 hb, cellF h.2.2.2.2.2.1 hb, cellF h.2.2.2.2.2.2 hb⟩
set_option linter.unusedSimpArgs false in
set_option maxRecDepth 100000 in
set_option maxHeartbeats 25600000 in
theorem dframe_any (a : Option Addr) (n c : Nat) (fo : Nat → OpD) (kd who tw : Nat) (fd nn okd : Int) (omak : ByteArray) (obn onum ooff : Int) (ord owr oap : Bool) (hbd : kd ≤ 255 ∧ who ≤ 255 ∧ tw ≤ 255 ∧ (-9223372036854775808 ≤ nn ∧ nn ≤ 9223372036854775807) ∧ omak.size ≤ 9223372036854775807) (w : World) (hu : Usages w) (hn : n ≤ 9223372036854775807) (hl : OpSlD w a n fo) : Calls Tryz.prog 6 #[.slice a n c, .agg #[.int .u8 kd, .int .u8 who, .int .u8 tw, .int .i64 fd, .int .i64 nn, .int .i64 okd, .string omak, .int .i64 obn, .int .i64 onum, .int .i64 ooff, .bool ord, .bool owr, .bool oap]] w fun r w' => r = .returned (.bool true) ∧ Below w.heap.size w w' := by
  have hb0 : Below w.heap.size w (w.alloc (.cells #[.int .u8 kd, .int .u8 who, .int .u8 tw, .int .i64 fd, .int .i64 nn, .int .i64 okd, .string omak, .int .i64 obn, .int .i64 onum, .int .i64 ooff, .bool ord, .bool owr, .bool oap] 49)) := (Below.refl _ _).alloc (Nat.le_refl _) _
  have HA := Lib.hid (after_any31 a n c fo (w.alloc (.cells #[.int .u8 kd, .int .u8 who, .int .u8 tw, .int .i64 fd, .int .i64 nn, .int .i64 okd, .string omak, .int .i64 obn, .int .i64 onum, .int .i64 ooff, .bool ord, .bool owr, .bool oap] 49)) (hu.below hb0 hu.pos) hn (hl.later hb0))
  have B0 : Hid (RowIs (w.alloc (.cells #[.int .u8 kd, .int .u8 who, .int .u8 tw, .int .i64 fd, .int .i64 nn, .int .i64 okd, .string omak, .int .i64 obn, .int .i64 onum, .int .i64 ooff, .bool ord, .bool owr, .bool oap] 49)) w.heap.size 49 [.int .u8 kd, .int .u8 who, .int .u8 tw, .int .i64 fd, .int .i64 nn, .int .i64 okd, .string omak, .int .i64 obn, .int .i64 onum, .int .i64 ooff, .bool ord, .bool owr, .bool oap]) := new_row w 49 [.int .u8 kd, .int .u8 who, .int .u8 tw, .int .i64 fd, .int .i64 nn, .int .i64 okd, .string omak, .int .i64 obn, .int .i64 onum, .int .i64 ooff, .bool ord, .bool owr, .bool oap]
  have Hp : Hid (0 < w.heap.size) := hu.pos
  have HB0 := Lib.hid hb0
  have Hbd := Lib.hid hbd
  clear hu hn hl hb0 hbd
  go_enter Tryz.func6, Tryz.ntmps6
  go_wp2_with fail
  obtain ⟨wa, hwa⟩ : ∃ wa, w.alloc (.cells #[.int .u8 kd, .int .u8 who, .int .u8 tw, .int .i64 fd, .int .i64 nn, .int .i64 okd, .string omak, .int .i64 obn, .int .i64 onum, .int .i64 ooff, .bool ord, .bool owr, .bool oap] 49) = wa := ⟨_, rfl⟩
  rw [hwa] at HA B0 HB0 ⊢
  clear hwa
  refine HA.out.mono ?_
  rintro r w1 ⟨sp, m, f, rfl, hI⟩
  have B1 := Lib.hid (B0.out.later hI.low)
  have HI1 := Lib.hid hI
  have HKn := Lib.hid (known31_any w1 hI.us)
  clear hI HA B0
  go_wp2_with fail
  refine HKn.out.mono ?_
  rintro r w2 ⟨rfl, hb⟩
  have HI2 := Lib.hid (HI1.out.later hb)
  have B2 := Lib.hid (B1.out.later hb)
  clear hb HI1 HKn B1
  have b5 := B2.out.cell (i := 5) rfl
  have b6 := B2.out.cell (i := 6) rfl
  have b7 := B2.out.cell (i := 7) rfl
  have b8 := B2.out.cell (i := 8) rfl
  have b9 := B2.out.cell (i := 9) rfl
  have b10 := B2.out.cell (i := 10) rfl
  have b11 := B2.out.cell (i := 11) rfl
  have b12 := B2.out.cell (i := 12) rfl
  go_wp2_with fail
  refine (cut31_any okd omak obn onum ooff ord owr oap _ Hbd.out.2.2.2.2).mono ?_
  obtain ⟨m2, hm2⟩ : ∃ m2, cutB omak 80 = m2 := ⟨_, rfl⟩
  rw [hm2]
  have Hm2 : Hid (m2.size ≤ 70368744177664) := by show _ ≤ _; rw [← hm2]; exact Nat.le_trans (cutB_size _ _) (by decide)
  clear hm2
  rintro r w4' ⟨rfl, hb⟩
  obtain ⟨w4, hw4⟩ : ∃ w4, w4' = w4 := ⟨_, rfl⟩
  rw [hw4] at hb ⊢
  clear b5 b6 b7 b8 b9 b10 b11 b12 hw4
  have HI4 := Lib.hid (HI2.out.later hb)
  have B4 := Lib.hid (B2.out.later hb)
  clear hb HI2 B2
  have b5 := B4.out.cell (i := 5) rfl
  have b6 := B4.out.cell (i := 6) rfl
  have b7 := B4.out.cell (i := 7) rfl
  have b8 := B4.out.cell (i := 8) rfl
  have b9 := B4.out.cell (i := 9) rfl
  have b10 := B4.out.cell (i := 10) rfl
  have b11 := B4.out.cell (i := 11) rfl
  have b12 := B4.out.cell (i := 12) rfl
  have q5 := B4.out.free 5
  have q6 := B4.out.free 6
  have q7 := B4.out.free 7
  have q8 := B4.out.free 8
  have q9 := B4.out.free 9
  have q10 := B4.out.free 10
  have q11 := B4.out.free 11
  have q12 := B4.out.free 12
  have hg : w4.grownBy ((((((((w4.setCell ⟨w.heap.size, 5, none⟩ (.int .i64 okd)).setCell ⟨w.heap.size, 6, none⟩ (.string m2)).setCell ⟨w.heap.size, 7, none⟩ (.int .i64 obn)).setCell ⟨w.heap.size, 8, none⟩ (.int .i64 onum)).setCell ⟨w.heap.size, 9, none⟩ (.int .i64 ooff)).setCell ⟨w.heap.size, 10, none⟩ (.bool ord)).setCell ⟨w.heap.size, 11, none⟩ (.bool owr)).setCell ⟨w.heap.size, 12, none⟩ (.bool oap)) (some w.heap.size) := grown_set8 _ _ _ _ _ _ _ _ _ _ _ _ _ _ _ _ _ _
  have B5 : Hid (RowIs ((((((((w4.setCell ⟨w.heap.size, 5, none⟩ (.int .i64 okd)).setCell ⟨w.heap.size, 6, none⟩ (.string m2)).setCell ⟨w.heap.size, 7, none⟩ (.int .i64 obn)).setCell ⟨w.heap.size, 8, none⟩ (.int .i64 onum)).setCell ⟨w.heap.size, 9, none⟩ (.int .i64 ooff)).setCell ⟨w.heap.size, 10, none⟩ (.bool ord)).setCell ⟨w.heap.size, 11, none⟩ (.bool owr)).setCell ⟨w.heap.size, 12, none⟩ (.bool oap)) w.heap.size 49 [.int .u8 kd, .int .u8 who, .int .u8 tw, .int .i64 fd, .int .i64 nn, .int .i64 okd, .string m2, .int .i64 obn, .int .i64 onum, .int .i64 ooff, .bool ord, .bool owr, .bool oap]) := (((((((B4.out.set 5 _).set 6 _).set 7 _).set 8 _).set 9 _).set 10 _).set 11 _).set 12 _
  have HS5 : Hid (BaseN 30 (((((((((w4.setCell ⟨w.heap.size, 5, none⟩ (.int .i64 okd)).setCell ⟨w.heap.size, 6, none⟩ (.string m2)).setCell ⟨w.heap.size, 7, none⟩ (.int .i64 obn)).setCell ⟨w.heap.size, 8, none⟩ (.int .i64 onum)).setCell ⟨w.heap.size, 9, none⟩ (.int .i64 ooff)).setCell ⟨w.heap.size, 10, none⟩ (.bool ord)).setCell ⟨w.heap.size, 11, none⟩ (.bool owr)).setCell ⟨w.heap.size, 12, none⟩ (.bool oap))).heap.size ((((((((w4.setCell ⟨w.heap.size, 5, none⟩ (.int .i64 okd)).setCell ⟨w.heap.size, 6, none⟩ (.string m2)).setCell ⟨w.heap.size, 7, none⟩ (.int .i64 obn)).setCell ⟨w.heap.size, 8, none⟩ (.int .i64 onum)).setCell ⟨w.heap.size, 9, none⟩ (.int .i64 ooff)).setCell ⟨w.heap.size, 10, none⟩ (.bool ord)).setCell ⟨w.heap.size, 11, none⟩ (.bool owr)).setCell ⟨w.heap.size, 12, none⟩ (.bool oap)) sp f) := (HI4.out.base.box B4.out apart_O hg).up hg.size
  have HU5 : Hid (Usages ((((((((w4.setCell ⟨w.heap.size, 5, none⟩ (.int .i64 okd)).setCell ⟨w.heap.size, 6, none⟩ (.string m2)).setCell ⟨w.heap.size, 7, none⟩ (.int .i64 obn)).setCell ⟨w.heap.size, 8, none⟩ (.int .i64 onum)).setCell ⟨w.heap.size, 9, none⟩ (.int .i64 ooff)).setCell ⟨w.heap.size, 10, none⟩ (.bool ord)).setCell ⟨w.heap.size, 11, none⟩ (.bool owr)).setCell ⟨w.heap.size, 12, none⟩ (.bool oap))) := HI4.out.us.below (below_box (B := 1) hg (by have := Hp.out; omega) B4.out.lt) (by decide)
  have HW5 : Hid (Below w.heap.size w ((((((((w4.setCell ⟨w.heap.size, 5, none⟩ (.int .i64 okd)).setCell ⟨w.heap.size, 6, none⟩ (.string m2)).setCell ⟨w.heap.size, 7, none⟩ (.int .i64 obn)).setCell ⟨w.heap.size, 8, none⟩ (.int .i64 onum)).setCell ⟨w.heap.size, 9, none⟩ (.int .i64 ooff)).setCell ⟨w.heap.size, 10, none⟩ (.bool ord)).setCell ⟨w.heap.size, 11, none⟩ (.bool owr)).setCell ⟨w.heap.size, 12, none⟩ (.bool oap))) := (HB0.out.trans (HI4.out.low.mono HB0.out.size)).trans (below_box (B := w.heap.size) hg (Nat.le_refl _) B4.out.lt)
  clear hg
  go_upto_region 5 with fail
  clear b5 b6 b7 b8 b9 b10 b11 b12 q5 q6 q7 q8 q9 q10 q11 q12
  obtain ⟨w5, hw5⟩ : ∃ w5, ((((((((w4.setCell ⟨w.heap.size, 5, none⟩ (.int .i64 okd)).setCell ⟨w.heap.size, 6, none⟩ (.string m2)).setCell ⟨w.heap.size, 7, none⟩ (.int .i64 obn)).setCell ⟨w.heap.size, 8, none⟩ (.int .i64 onum)).setCell ⟨w.heap.size, 9, none⟩ (.int .i64 ooff)).setCell ⟨w.heap.size, 10, none⟩ (.bool ord)).setCell ⟨w.heap.size, 11, none⟩ (.bool owr)).setCell ⟨w.heap.size, 12, none⟩ (.bool oap)) = w5 := ⟨_, rfl⟩
  rw [hw5] at B5 HS5 HU5 HW5 ⊢
  clear hw5 HI4 B4
  go_wp2_with fail
  refine (qmNew (w0 := w5) HU5.out (Below.refl _ _) HS5.out).mono ?_
  rintro r w6 ⟨rfl, s6, -⟩
  have B6 := Lib.hid (B5.out.later s6.below)
  have S6 := Lib.hid s6
  obtain ⟨b, hb⟩ : ∃ b, w5.heap.size + 2 = b := ⟨_, rfl⟩
  rw [hb] at S6 ⊢
  clear hb s6 HS5 HU5
  have b0 := B6.out.cell (i := 0) rfl
  have b1 := B6.out.cell (i := 1) rfl
  have b2 := B6.out.cell (i := 2) rfl
  have b3 := B6.out.cell (i := 3) rfl
  have b4 := B6.out.cell (i := 4) rfl
  have b5 := B6.out.cell (i := 5) rfl
  have b6 := B6.out.cell (i := 6) rfl
  have b7 := B6.out.cell (i := 7) rfl
  have b8 := B6.out.cell (i := 8) rfl
  have b9 := B6.out.cell (i := 9) rfl
  have b10 := B6.out.cell (i := 10) rfl
  have b11 := B6.out.cell (i := 11) rfl
  have b12 := B6.out.cell (i := 12) rfl
  have hvs := S6.out.vals0
  have hlen := pTree_len ⟨kd, who, tw, fd, nn, ⟨okd, m2, obn, onum, ooff, ord, owr, oap⟩⟩ ⟨f, [], []⟩
  have hcl := pTree_len1 ⟨kd, who, tw, fd, nn, ⟨okd, m2, obn, onum, ooff, ord, owr, oap⟩⟩ ⟨f, [], []⟩
  have hrl := touch_reads ⟨kd, who, tw, fd, nn, ⟨okd, m2, obn, onum, ooff, ord, owr, oap⟩⟩ f
  have hfr := fun (cs : List ChangeT) => frame_plainD (cs := cs) ⟨kd, who, tw, fd, nn, ⟨okd, m2, obn, onum, ooff, ord, owr, oap⟩⟩ (f := f) (fun n v h => hvs n v h)
  have HP := Lib.hid (qdPerform S6.out kd who tw fd nn okd m2 obn onum ooff ord owr oap (by have := Hbd.out.1; omega) (by have := Hbd.out.2.1; omega) (by have := Hbd.out.2.2.1; omega) Hbd.out.2.2.2.1 Hm2.out (show (0 : Nat) < 1000000 by decide))
  have HPG : Hid (∀ (w0 w : World) (b M : Nat) (g : NameT → Option ByteArray), QM w0 w b M ⟨g, [], []⟩ (fun _ => False) → Calls Tryz.prog 15 #[.pointer (some ⟨b, 0, none⟩), .agg #[.int .u8 kd, .int .u8 who, .int .u8 tw, .int .i64 fd, .int .i64 nn, .int .i64 okd, .string m2, .int .i64 obn, .int .i64 onum, .int .i64 ooff, .bool ord, .bool owr, .bool oap]] w (QMP w0 b M ((pTree ⟨kd, who, tw, fd, nn, ⟨okd, m2, obn, onum, ooff, ord, owr, oap⟩⟩).run ⟨g, [], []⟩).1 (fun _ => False) w (resDV ((pTree ⟨kd, who, tw, fd, nn, ⟨okd, m2, obn, onum, ooff, ord, owr, oap⟩⟩).run ⟨g, [], []⟩).2))) :=
    fun _ _ _ _ g s => qdPerform s kd who tw fd nn okd m2 obn onum ooff ord owr oap (by have := Hbd.out.1; omega) (by have := Hbd.out.2.1; omega) (by have := Hbd.out.2.2.1; omega) Hbd.out.2.2.2.1 Hm2.out (show (0 : Nat) < 1000000 by decide)
  generalize hTT : pTree ⟨kd, who, tw, fd, nn, ⟨okd, m2, obn, onum, ooff, ord, owr, oap⟩⟩ = TT at hlen hcl hrl hfr HP HPG
  clear hTT
  obtain ⟨⟨V9, rr⟩, hp⟩ : ∃ p, TT.run ⟨f, [], []⟩ = p := ⟨_, rfl⟩
  rw [hp] at hlen hcl hrl hfr HP
  dsimp only at hlen hcl hrl hfr HP
  clear hp hvs
  have Hlen := Lib.hid hlen
  obtain ⟨wl, hwl⟩ : ∃ l, writesU V9.calls = l := ⟨_, rfl⟩
  have Hwl : Hid (wl.length ≤ 1) := by show wl.length ≤ 1; rw [← hwl]; exact writes_le (by simpa using hcl)
  have Hrl := Lib.hid hrl
  have Hfr := Lib.hid hfr
  clear hlen hcl hrl hfr
  go_wp2_with fail
  refine HP.out.mono ?_
  rintro r w7 ⟨rfl, s7, -⟩
  have B7 := Lib.hid (B5.out.later s7.below)
  have S7 := Lib.hid s7
  clear s7 HP S6 B6 B5 b0 b1 b2 b3 b4 b5 b6 b7 b8 b9 b10 b11 b12
  have hst := new_store_res w7 Hlen.out
  have hsz : (resC rr).toArray.size = 138 := by rw [List.size_toArray, resC_len Hlen.out]
  unfold resDV
  go_upto_region 7 with fail
  clear hst hsz
  have hb8 : Below w7.heap.size w7 (w7.alloc (.cells (resC rr).toArray 52)) := (Below.refl _ _).alloc (Nat.le_refl _) _
  have S8 := Lib.hid (S7.out.later hb8)
  have B8 := Lib.hid (B7.out.later hb8)
  have P8 := Lib.hid (new_res_of w7 Hlen.out)
  clear hb8 S7 B7
  obtain ⟨P, hP⟩ : ∃ P, w7.heap.size = P := ⟨_, rfl⟩
  obtain ⟨w8, hw8⟩ : ∃ w8, (w7.alloc (.cells (resC rr).toArray 52)) = w8 := ⟨_, rfl⟩
  rw [hP] at P8 ⊢
  rw [hw8] at S8 B8 P8 ⊢
  clear hw8 hP
  go_wp2_with fail
  refine (stateNew_any w8).mono ?_
  rintro r w9 ⟨rfl, hw9⟩
  have hb9 : Below w8.heap.size w8 w9 := by rw [hw9]; exact (Below.refl _ _).alloc (Nat.le_refl _) _
  have N9 : Hid (BaseN 0 w9.heap.size w9 w8.heap.size (fun _ => none)) := by rw [hw9]; exact baseN_empty w8
  have S9 := Lib.hid (S8.out.later hb9)
  have B9 := Lib.hid (B8.out.later hb9)
  have P9 := Lib.hid (P8.out.later hb9)
  obtain ⟨s0, hs0⟩ : ∃ s0, w8.heap.size = s0 := ⟨_, rfl⟩
  rw [hs0] at N9 ⊢
  clear hw9 hb9 S8 B8 P8 hs0
  go_wp2_with fail
  refine (qmReads S9.out (by have := Hrl.out S9.out.rdkF; omega)).mono ?_
  rintro r w10 ⟨v10, cs, rfl, hr, hp, -, hb, s10⟩
  obtain ⟨aa, pa, rfl⟩ := row_slice hr
  have hfr := Hfr.out cs S9.out.rdkF hp
  have Hco := Lib.hid hfr.1
  have Hdep := Lib.hid hfr.2
  have Hcl : Hid (cs.length ≤ 1000) := by show _ ≤ _; rw [hp.length_eq, List.length_map]; exact Nat.le_trans (Hrl.out S9.out.rdkF) (by decide)
  have S10 := Lib.hid s10
  have N10 := Lib.hid (N9.out.later hb)
  have B10 := Lib.hid (B9.out.later hb)
  have P10 := Lib.hid (P9.out.later hb)
  have Hr10 := Lib.hid hr
  have Hs10 : Hid (w9.heap.size ≤ w10.heap.size) := hb.size
  clear hr hp hb s10 hfr S9 N9 B9 P9 Hfr Hrl
  have HApp := Lib.hid (baseApply S10.out.usages N10.out Hs10.out (by have := Hcl.out; omega) Hr10.out Hco.out)
  clear Hr10 Hco N10 Hs10
  go_wp2_with fail
  refine HApp.out.mono ?_
  rintro r w11 ⟨sp3, rfl, hb11, hbn⟩
  have S11 := Lib.hid (S10.out.later hb11)
  have B11 := Lib.hid (B10.out.later hb11)
  have P11 := Lib.hid (P10.out.later hb11)
  have HBn := Lib.hid hbn
  have hd := Hdep.out (fun _ => none)
  have Hd := Lib.hid hd
  clear hb11 hbn HApp S10 B10 P10 Hdep hd
  obtain ⟨g, hg⟩ : ∃ g, applyF (fun _ => none) cs = g := ⟨_, rfl⟩
  obtain ⟨M2, hM2⟩ : ∃ M, 0 + cs.length = M := ⟨_, rfl⟩
  rw [hg, hM2] at HBn
  rw [hg] at Hd
  clear hg hM2
  go_wp2_with fail
  refine (qmNew (w0 := w11) S11.out.usages (Below.refl _ _) HBn.out).mono ?_
  rintro r w12 ⟨rfl, s12, -⟩
  have B12 := Lib.hid (B11.out.later s12.below)
  have P12 := Lib.hid (P11.out.later s12.below)
  obtain ⟨b2, hb2⟩ : ∃ b, w11.heap.size + 2 = b := ⟨_, rfl⟩
  have S12 := Lib.hid s12
  rw [hb2] at S12 ⊢
  clear hb2 s12 HBn
  go_upto_region 11 with fail
  have HP2 := Lib.hid (HPG.out w11 w12.drew b2 M2 g (S12.out.later (Below.refl _ _).drew))
  rw [Hd.out.1] at HP2
  obtain ⟨V9', hV9⟩ : ∃ V', (TT.run ⟨g, [], []⟩).1 = V' := ⟨_, rfl⟩
  rw [hV9] at HP2
  have hwv : writesU V9'.calls = wl := by rw [← hV9, Hd.out.2.2]; exact hwl
  clear hV9 HPG Hd S12
  unfold resDV at HP2
  have hneq : ∀ W : World, (binOp .neq 52 (.agg (resC rr).toArray) (.agg (resC rr).toArray)).run Tryz.prog W = .ok (.bool false) W := fun W => run_neq_resA W Hlen.out
  refine wp_region_held_drew (S := (fun W => RowIs W w.heap.size 49 [.int .u8 kd, .int .u8 who, .int .u8 tw, .int .i64 fd, .int .i64 nn, .int .i64 okd, .string m2, .int .i64 obn, .int .i64 onum, .int .i64 ooff, .bool ord, .bool owr, .bool oap] ∧ ResAt W P rr)) (by kernel_rfl) (⟨B12.out.later (Below.refl _ _).drew, P12.out.later (Below.refl _ _).drew⟩) (fun hH110 => ?_)
  refine wpAnyH_take (i := 0) (v := ?_) rfl (by kernel_rfl) (by kernel_rfl) (by kernel_rfl) (fun _ _ _ h => h) (Or.inl ⟨by rfl, ?_⟩) (by assumption) ?_
  rotate_left
  · (intro wx hSw; (try dsimp only at hSw); go_simp <;> with_reducible rfl)
  try simp only [Act.put, List.setIfInBounds_toArray, List.set_cons_zero, List.set_cons_succ, List.getElem_toArray, List.getElem_cons_zero, List.getElem_cons_succ]
  refine wpAnyH_take (i := 1) (v := ?_) rfl (by kernel_rfl) (by kernel_rfl) (by kernel_rfl) (fun _ _ _ h => h) (Or.inl ⟨by rfl, ?_⟩) (by assumption) ?_
  rotate_left
  · (intro wx hSw; (try dsimp only at hSw); have b0 := hSw.1.cell (i := 0) rfl; have b1 := hSw.1.cell (i := 1) rfl; have b2 := hSw.1.cell (i := 2) rfl; have b3 := hSw.1.cell (i := 3) rfl; have b4 := hSw.1.cell (i := 4) rfl; have b5 := hSw.1.cell (i := 5) rfl; have b6 := hSw.1.cell (i := 6) rfl; have b7 := hSw.1.cell (i := 7) rfl; have b8 := hSw.1.cell (i := 8) rfl; have b9 := hSw.1.cell (i := 9) rfl; have b10 := hSw.1.cell (i := 10) rfl; have b11 := hSw.1.cell (i := 11) rfl; have b12 := hSw.1.cell (i := 12) rfl; go_simp <;> with_reducible rfl)
  try simp only [Act.put, List.setIfInBounds_toArray, List.set_cons_zero, List.set_cons_succ, List.getElem_toArray, List.getElem_cons_zero, List.getElem_cons_succ]
  refine wpAnyH_take (i := 3) (v := ?_) rfl (by kernel_rfl) (by kernel_rfl) (by kernel_rfl) (fun _ _ _ h => h) (Or.inl ⟨by rfl, ?_⟩) (by assumption) ?_
  rotate_left
  · (intro wx hSw; (try dsimp only at hSw); refine exec_load_resA (x := .tmp 9) (r := rr) (R := P) ?_ ?_ hSw.2 <;> rfl)
  try simp only [Act.put, List.setIfInBounds_toArray, List.set_cons_zero, List.set_cons_succ, List.getElem_toArray, List.getElem_cons_zero, List.getElem_cons_succ]
  refine wpAnyH_ready (rs := [2]) (by kernel_rfl) (by simp) ?_
  refine AllReadyH.cons rfl (fun K hK => ?_) AllReadyH.nil
  go_simp
  go_at_call 15
  with_reducible refine HP2.out.mono ?_
  rintro r x1 ⟨rfl, s1, -⟩
  have T1 := Lib.hid s1
  have hb := s1.below
  have V1 := Lib.hid (S11.out.later hb)
  clear s1 HP2
  go_wp2_with fail
  refine hK.out _ _ (⟨B11.out.later hb, P11.out.later hb⟩) (fun hH111 => ?_)
  clear hK K hH110
  try simp only [Act.put, List.setIfInBounds_toArray, List.set_cons_zero, List.set_cons_succ, List.getElem_toArray, List.getElem_cons_zero, List.getElem_cons_succ]
  clear hb S11 B11 P11
  refine wpAnyH_take (i := 4) (v := ?_) rfl (by kernel_rfl) (by kernel_rfl) (by kernel_rfl) (fun _ _ _ h => h) (Or.inl ⟨by rfl, ?_⟩) (by assumption) ?_
  rotate_left
  · (intro wx hSw; (try dsimp only at hSw); go_simp <;> with_reducible rfl)
  try simp only [Act.put, List.setIfInBounds_toArray, List.set_cons_zero, List.set_cons_succ, List.getElem_toArray, List.getElem_cons_zero, List.getElem_cons_succ]
  refine wpAnyH_take (i := 5) (v := ?_) rfl (by kernel_rfl) (by kernel_rfl) (by kernel_rfl) (fun _ _ _ h => h) (Or.inl ⟨by rfl, ?_⟩) (by assumption) ?_
  rotate_left
  · (intro wx hSw; (try dsimp only at hSw); go_simp <;> with_reducible rfl)
  try simp only [Act.put, List.setIfInBounds_toArray, List.set_cons_zero, List.set_cons_succ, List.getElem_toArray, List.getElem_cons_zero, List.getElem_cons_succ]
  refine wpAnyH_take (i := 6) (v := ?_) rfl (by kernel_rfl) (by kernel_rfl) (by kernel_rfl) (fun _ _ _ h => h) (Or.inl ⟨by rfl, ?_⟩) (by assumption) ?_
  rotate_left
  · (intro wx hSw; (try dsimp only at hSw); go_simp <;> with_reducible rfl)
  try simp only [Act.put, List.setIfInBounds_toArray, List.set_cons_zero, List.set_cons_succ, List.getElem_toArray, List.getElem_cons_zero, List.getElem_cons_succ]
  refine wpAnyH_take (i := 9) (v := ?_) rfl (by kernel_rfl) (by kernel_rfl) (by kernel_rfl) (fun _ _ _ h => h) (Or.inl ⟨by rfl, ?_⟩) (by assumption) ?_
  rotate_left
  · (intro wx hSw; (try dsimp only at hSw); go_simp <;> with_reducible rfl)
  try simp only [Act.put, List.setIfInBounds_toArray, List.set_cons_zero, List.set_cons_succ, List.getElem_toArray, List.getElem_cons_zero, List.getElem_cons_succ]
  refine wpAnyH_ready (rs := [7]) (by kernel_rfl) (by simp) ?_
  refine AllReadyH.cons rfl (fun K hK => ?_) AllReadyH.nil
  go_simp
  go_at_call 18
  with_reducible refine (qmWrites T1.out).mono ?_
  rintro r x2 ⟨va, ca, rfl, hr, hp, -, hb, s2⟩
  obtain ⟨aa, pa, rfl⟩ := row_slice hr
  have T2 := Lib.hid s2
  have V2 := Lib.hid (V1.out.later hb)
  have hca : ca = wl := perm_le_one (by rw [← hwv]; exact hp) Hwl.out
  subst hca
  clear s2 hr hp T1
  go_wp2_with fail
  refine hK.out _ _ (⟨hH111.1.later hb, hH111.2.later hb⟩) (fun hH112 => ?_)
  clear hK K hH111
  try simp only [Act.put, List.setIfInBounds_toArray, List.set_cons_zero, List.set_cons_succ, List.getElem_toArray, List.getElem_cons_zero, List.getElem_cons_succ]
  clear hb V1
  refine wpAnyH_take (i := 8) (v := ?_) rfl (by kernel_rfl) (by kernel_rfl) (by kernel_rfl) (fun _ _ _ h => h) (Or.inl ⟨by rfl, ?_⟩) (by assumption) ?_
  rotate_left
  · (intro wx hSw; (try dsimp only at hSw); go_simp <;> with_reducible rfl)
  try simp only [Act.put, List.setIfInBounds_toArray, List.set_cons_zero, List.set_cons_succ, List.getElem_toArray, List.getElem_cons_zero, List.getElem_cons_succ]
  refine wpAnyH_ready (rs := [10]) (by kernel_rfl) (by simp) ?_
  refine AllReadyH.cons rfl (fun K hK => ?_) AllReadyH.nil
  go_simp
  go_at_call 18
  with_reducible refine (qmWrites V2.out).mono ?_
  rintro r x3 ⟨vb, cb, rfl, hr, hp, -, hb, s3⟩
  obtain ⟨ab, pb, rfl⟩ := row_slice hr
  have V3 := Lib.hid s3
  have T3 := Lib.hid (T2.out.later hb)
  have hcb : cb = ca := perm_le_one (by rw [← hwl]; exact hp) Hwl.out
  subst hcb
  clear s3 hr hp V2
  go_wp2_with fail
  refine hK.out _ _ (⟨hH112.1.later hb, hH112.2.later hb⟩) (fun hH113 => ?_)
  clear hK K hH112
  try simp only [Act.put, List.setIfInBounds_toArray, List.set_cons_zero, List.set_cons_succ, List.getElem_toArray, List.getElem_cons_zero, List.getElem_cons_succ]
  clear hb T2
  refine wpAnyH_take (i := 11) (v := ?_) rfl (by kernel_rfl) (by kernel_rfl) (by kernel_rfl) (fun _ _ _ h => h) (Or.inl ⟨by rfl, ?_⟩) (by assumption) ?_
  rotate_left
  · (intro wx hSw; (try dsimp only at hSw); go_simp <;> with_reducible rfl)
  try simp only [Act.put, List.setIfInBounds_toArray, List.set_cons_zero, List.set_cons_succ, List.getElem_toArray, List.getElem_cons_zero, List.getElem_cons_succ]
  refine wpAnyH_take (i := 12) (v := ?_) rfl (by kernel_rfl) (by kernel_rfl) (by kernel_rfl) (fun _ _ _ h => h) (Or.inl ⟨by rfl, ?_⟩) (by assumption) ?_
  rotate_left
  · (intro wx hSw; (try dsimp only at hSw); go_simp <;> with_reducible rfl)
  try simp only [Act.put, List.setIfInBounds_toArray, List.set_cons_zero, List.set_cons_succ, List.getElem_toArray, List.getElem_cons_zero, List.getElem_cons_succ]
  refine wpAnyH_take (i := 13) (v := ?_) rfl (by kernel_rfl) (by kernel_rfl) (by kernel_rfl) (fun _ _ _ h => h) (Or.inl ⟨by rfl, ?_⟩) (by assumption) ?_
  rotate_left
  · (intro wx hSw; (try dsimp only at hSw); go_simp <;> with_reducible rfl)
  try simp only [Act.put, List.setIfInBounds_toArray, List.set_cons_zero, List.set_cons_succ, List.getElem_toArray, List.getElem_cons_zero, List.getElem_cons_succ]
  refine wpAnyH_done (by kernel_rfl) ?_ _
  go_wp2_with fail
  go_loopg [13] cb.length (fun gk iv wr => ∃ k : Nat, k + gk = cb.length ∧ iv = .int .i64 k ∧ Hid (QM w5 wr b 30 V9 (fun _ => False)) ∧ Hid (QM w11 wr b2 M2 V9' (fun _ => False)))
  case atStart => exact ⟨0, by omega, rfl, V3, T3⟩
  case round =>
    obtain ⟨k, hk, rfl, HV, HT⟩ := hrel
    have Hk := Lib.hid hk
    clear hk
    go_wp2_with fail
    refine (qmWrites HT.out).mono ?_
    rintro r y1 ⟨v1, c1, rfl, hr, hp, -, hb, s1⟩
    obtain ⟨a1, p1, rfl⟩ := row_slice hr
    have hc1 : c1 = cb := perm_le_one (by rw [← hwv]; exact hp) Hwl.out
    rw [hc1]
    have HT1 := Lib.hid s1
    have HV1 := Lib.hid (HV.out.later hb)
    clear hr hp hb s1 HT HV hc1
    by_cases hlt : k < cb.length
    · have hk0 : k = 0 := by have := Hwl.out; omega
      subst hk0
      obtain ⟨c, hc⟩ : ∃ c, cb = [c] := by
        match cb, Hwl.out, hlt with
        | [c], _, _ => exact ⟨c, rfl⟩
        | [], _, h => simp at h
        | _ :: _ :: _, h, _ => simp at h
      obtain ⟨⟨k1, k2, k3, k4, k5⟩, cv, cab⟩ := c
      have hnq : neqCB ⟨⟨k1, k2, k3, k4, k5⟩, cv, cab⟩ ⟨⟨k1, k2, k3, k4, k5⟩, cv, cab⟩ = false := neqCB_self _
      have hl1 : (0 : Int) < (cb.length : Int) := by omega
      have Hc := Lib.hid hc
      clear hc
      clear hlt
      go_upto_region 16 with fail
      refine wp_region_held_drew (S := (fun _ => True)) (by kernel_rfl) (trivial) (fun hH160 => ?_)
      refine wpAnyH_take (i := 0) (v := ?_) rfl (by kernel_rfl) (by kernel_rfl) (by kernel_rfl) (fun _ _ _ h => h) (Or.inl ⟨by rfl, ?_⟩) (by assumption) ?_
      rotate_left
      · (intro wx hSw; (try dsimp only at hSw); go_simp <;> with_reducible rfl)
      try simp only [Act.put, List.setIfInBounds_toArray, List.set_cons_zero, List.set_cons_succ, List.getElem_toArray, List.getElem_cons_zero, List.getElem_cons_succ]
      refine wpAnyH_take (i := 2) (v := ?_) rfl (by kernel_rfl) (by kernel_rfl) (by kernel_rfl) (fun _ _ _ h => h) (Or.inl ⟨by rfl, ?_⟩) (by assumption) ?_
      rotate_left
      · (intro wx hSw; (try dsimp only at hSw); go_simp <;> with_reducible rfl)
      try simp only [Act.put, List.setIfInBounds_toArray, List.set_cons_zero, List.set_cons_succ, List.getElem_toArray, List.getElem_cons_zero, List.getElem_cons_succ]
      refine wpAnyH_take (i := 5) (v := ?_) rfl (by kernel_rfl) (by kernel_rfl) (by kernel_rfl) (fun _ _ _ h => h) (Or.inl ⟨by rfl, ?_⟩) (by assumption) ?_
      rotate_left
      · (intro wx hSw; (try dsimp only at hSw); go_simp <;> with_reducible rfl)
      try simp only [Act.put, List.setIfInBounds_toArray, List.set_cons_zero, List.set_cons_succ, List.getElem_toArray, List.getElem_cons_zero, List.getElem_cons_succ]
      refine wpAnyH_take (i := 7) (v := ?_) rfl (by kernel_rfl) (by kernel_rfl) (by kernel_rfl) (fun _ _ _ h => h) (Or.inl ⟨by rfl, ?_⟩) (by assumption) ?_
      rotate_left
      · (intro wx hSw; (try dsimp only at hSw); go_simp <;> with_reducible rfl)
      try simp only [Act.put, List.setIfInBounds_toArray, List.set_cons_zero, List.set_cons_succ, List.getElem_toArray, List.getElem_cons_zero, List.getElem_cons_succ]
      refine wpAnyH_ready (rs := [1]) (by kernel_rfl) (by simp) ?_
      refine AllReadyH.cons rfl (fun K hK => ?_) AllReadyH.nil
      go_simp
      go_at_call 18
      with_reducible refine (qmWrites (HT1.out.later (Below.refl _ _).drew)).mono ?_
      rintro r x1 ⟨va, ca, rfl, hr, hp, -, hb, s1⟩
      have hca : ca = cb := perm_le_one (by rw [← hwv]; exact hp) Hwl.out
      rw [hca, Hc.out] at hr
      obtain ⟨g1, q1, rfl, hcs⟩ := rowC_one hr
      have T2 := Lib.hid s1
      have V2 := Lib.hid ((HV1.out.later (Below.refl _ _).drew).later hb)
      clear s1 hr hp hca hb HT1 HV1
      go_wp2_with fail
      refine hK.out _ _ (trivial) (fun hH161 => ?_)
      clear hK K hH160
      try simp only [Act.put, List.setIfInBounds_toArray, List.set_cons_zero, List.set_cons_succ, List.getElem_toArray, List.getElem_cons_zero, List.getElem_cons_succ]
      refine wpAnyH_monoN (S2 := (fun W => W.cell? ⟨g1, 0, none⟩ = some (.int .i64 k1) ∧ W.cell? ⟨g1, 1, none⟩ = some (.string k2) ∧ W.cell? ⟨g1, 2, none⟩ = some (.int .i64 k3) ∧ W.cell? ⟨g1, 3, none⟩ = some (.int .i64 k4) ∧ W.cell? ⟨g1, 4, none⟩ = some (.string k5) ∧ W.cell? ⟨g1, 5, none⟩ = some (.string cv) ∧ W.cell? ⟨g1, 6, none⟩ = some (.bool cab))) (fun _ _ => trivial) _ _ _ _ ?_
      have hH161 := hcs
      clear hcs
      refine wpAnyH_take (i := 3) (v := ?_) rfl (by kernel_rfl) (by kernel_rfl) (by kernel_rfl) (fun _ _ _ h => h) (Or.inl ⟨by rfl, ?_⟩) (by assumption) ?_
      rotate_left
      · (intro wx hSw; (try dsimp only at hSw); go_simp <;> with_reducible rfl)
      try simp only [Act.put, List.setIfInBounds_toArray, List.set_cons_zero, List.set_cons_succ, List.getElem_toArray, List.getElem_cons_zero, List.getElem_cons_succ]
      refine wpAnyH_take (i := 4) (v := ?_) rfl (by kernel_rfl) (by kernel_rfl) (by kernel_rfl) (fun _ _ _ h => h) (Or.inl ⟨by rfl, ?_⟩) (by assumption) ?_
      rotate_left
      · (intro wx hSw; (try dsimp only at hSw); go_simp <;> with_reducible rfl)
      try simp only [Act.put, List.setIfInBounds_toArray, List.set_cons_zero, List.set_cons_succ, List.getElem_toArray, List.getElem_cons_zero, List.getElem_cons_succ]
      refine wpAnyH_ready (rs := [6]) (by kernel_rfl) (by simp) ?_
      refine AllReadyH.cons rfl (fun K hK => ?_) AllReadyH.nil
      go_simp
      go_at_call 18
      with_reducible refine (qmWrites V2.out).mono ?_
      rintro r x2 ⟨va, ca, rfl, hr, hp, -, hb, s1⟩
      have hca : ca = cb := perm_le_one (by rw [← hwl]; exact hp) Hwl.out
      rw [hca, Hc.out] at hr
      obtain ⟨g2, q2, rfl, hcs⟩ := rowC_one hr
      have V3 := Lib.hid s1
      have T3 := Lib.hid (T2.out.later hb)
      clear s1 hr hp hca T2 V2
      go_wp2_with fail
      refine hK.out _ _ (c7F hH161 hb) (fun hH162 => ?_)
      clear hK K hH161
      try simp only [Act.put, List.setIfInBounds_toArray, List.set_cons_zero, List.set_cons_succ, List.getElem_toArray, List.getElem_cons_zero, List.getElem_cons_succ]
      clear hb
      refine wpAnyH_monoN (S2 := (fun W => (W.cell? ⟨g1, 0, none⟩ = some (.int .i64 k1) ∧ W.cell? ⟨g1, 1, none⟩ = some (.string k2) ∧ W.cell? ⟨g1, 2, none⟩ = some (.int .i64 k3) ∧ W.cell? ⟨g1, 3, none⟩ = some (.int .i64 k4) ∧ W.cell? ⟨g1, 4, none⟩ = some (.string k5) ∧ W.cell? ⟨g1, 5, none⟩ = some (.string cv) ∧ W.cell? ⟨g1, 6, none⟩ = some (.bool cab)) ∧ W.cell? ⟨g2, 0, none⟩ = some (.int .i64 k1) ∧ W.cell? ⟨g2, 1, none⟩ = some (.string k2) ∧ W.cell? ⟨g2, 2, none⟩ = some (.int .i64 k3) ∧ W.cell? ⟨g2, 3, none⟩ = some (.int .i64 k4) ∧ W.cell? ⟨g2, 4, none⟩ = some (.string k5) ∧ W.cell? ⟨g2, 5, none⟩ = some (.string cv) ∧ W.cell? ⟨g2, 6, none⟩ = some (.bool cab))) (fun _ h => h.1) _ _ _ _ ?_
      have hH162 := And.intro hH162 hcs
      clear hcs
      refine wpAnyH_take (i := 8) (v := ?_) rfl (by kernel_rfl) (by kernel_rfl) (by kernel_rfl) (fun _ _ _ h => h) (Or.inl ⟨by rfl, ?_⟩) (by assumption) ?_
      rotate_left
      · (intro wx hSw; (try dsimp only at hSw); go_simp <;> with_reducible rfl)
      try simp only [Act.put, List.setIfInBounds_toArray, List.set_cons_zero, List.set_cons_succ, List.getElem_toArray, List.getElem_cons_zero, List.getElem_cons_succ]
      refine wpAnyH_take (i := 9) (v := ?_) rfl (by kernel_rfl) (by kernel_rfl) (by kernel_rfl) (fun _ _ _ h => h) (Or.inl ⟨by rfl, ?_⟩) (by assumption) ?_
      rotate_left
      · (intro wx hSw; (try dsimp only at hSw); go_simp <;> with_reducible rfl)
      try simp only [Act.put, List.setIfInBounds_toArray, List.set_cons_zero, List.set_cons_succ, List.getElem_toArray, List.getElem_cons_zero, List.getElem_cons_succ]
      refine wpAnyH_take (i := 10) (v := ?_) rfl (by kernel_rfl) (by kernel_rfl) (by kernel_rfl) (fun _ _ _ h => h) (Or.inl ⟨by rfl, ?_⟩) (by assumption) ?_
      rotate_left
      · (intro wx hSw; (try dsimp only at hSw); go_simp <;> with_reducible rfl)
      try simp only [Act.put, List.setIfInBounds_toArray, List.set_cons_zero, List.set_cons_succ, List.getElem_toArray, List.getElem_cons_zero, List.getElem_cons_succ]
      refine wpAnyH_done (by kernel_rfl) ?_ _
      go_wp2
      go_roundg 0
      case measure => have := Hk.out; omega
      case rel => exact ⟨1, by have := Hk.out; have := Hwl.out; omega, rfl, V3, T3⟩
    · go_wp2
      go_ret
      exact ⟨rfl, HW5.out.trans (HV1.out.below.mono HW5.out.size)⟩
end Go.Proofs.YtfchfjipkggnkaaGreatDoor
