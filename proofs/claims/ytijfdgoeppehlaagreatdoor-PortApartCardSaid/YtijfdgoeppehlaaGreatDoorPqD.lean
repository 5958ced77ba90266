/- Law 37: PortApart. (printed by wip/gen_pqd.py) -/
import Derived.Test.YtijfdgoeppehlaaGreatDoorPqA
import Derived.Test.YtijfdgoeppehlaaGreatDoorNeqC
import Derived.Deep.RegionHeld3
import Derived.Laws.AppendOwnNone
namespace Go.Proofs.YtijfdgoeppehlaaGreatDoor
open Go.RowKit
attribute [local go_sem ↓] Go.wp_at_zero Go.wp_at_succ
attribute [local go_sem ↓] run_neq_name

theorem OwnC.later {base : Nat} {w w' : World} {v : Value} {cs : List ChangeT} (h : OwnC base w v cs) (hb : Below w.heap.size w w') : OwnC base w' v cs := by
  obtain ⟨h1, h2⟩ := h
  refine ⟨h1, ?_⟩
  rcases h2 with h2 | ⟨g, cap, cur, hv, hg, hh, r⟩
  · exact .inl h2
  · exact .inr ⟨g, cap, cur, hv, hg, (hb.block g (lt_of_heap hh)).trans hh, r⟩
theorem flat_app (a c : List ChangeT) : (a ++ c).flatMap changeCells = a.flatMap changeCells ++ c.flatMap changeCells := List.flatMap_append
/-- The fields of a name in a row of changes. -/
theorem RowC.name {w : World} {a : Option Addr} {n cap : Nat} {cs : List ChangeT} (h : RowC w (.slice a n cap) cs) {i : Nat} {c : ChangeT} (hi : cs[i]? = some c) : ∃ g, a = some ⟨g, 0, none⟩ ∧ n = cs.length ∧
    w.cell? ⟨g, i * 7, none⟩ = some (.int .i64 c.name.kind) ∧ w.cell? ⟨g, i * 7 + 1, none⟩ = some (.string c.name.owner) ∧ w.cell? ⟨g, i * 7 + 2, none⟩ = some (.int .i64 c.name.number) ∧ w.cell? ⟨g, i * 7 + 3, none⟩ = some (.int .i64 c.name.index) ∧ w.cell? ⟨g, i * 7 + 4, none⟩ = some (.string c.name.text) := by
  obtain ⟨a', cap', hv, hc⟩ := h
  cases hv
  obtain ⟨g, rfl, hg⟩ := hc i c hi
  exact ⟨g, rfl, rfl, hg 0 _ rfl, hg 1 _ rfl, hg 2 _ rfl, hg 3 _ rfl, hg 4 _ rfl⟩

/-- What the last region of a round reads. -/
abbrev ApS (X g k : Nat) (nu : Int) (k1 : Int) (k2 : ByteArray) (k3 k4 : Int) (k5 : ByteArray) (w : World) : Prop :=
  w.cell? ⟨g, k * 7, none⟩ = some (.int .i64 k1) ∧ w.cell? ⟨g, k * 7 + 1, none⟩ = some (.string k2) ∧ w.cell? ⟨g, k * 7 + 2, none⟩ = some (.int .i64 k3) ∧ w.cell? ⟨g, k * 7 + 3, none⟩ = some (.int .i64 k4) ∧ w.cell? ⟨g, k * 7 + 4, none⟩ = some (.string k5) ∧ w.cell? ⟨X, 3, none⟩ = some (.int .i64 nu)
theorem ApS.later {X g k : Nat} {nu k1 : Int} {k2 : ByteArray} {k3 k4 : Int} {k5 : ByteArray} {w w' : World} (h : ApS X g k nu k1 k2 k3 k4 k5 w) (hb : Below w.heap.size w w') : ApS X g k nu k1 k2 k3 k4 k5 w' := by
  obtain ⟨h0, h1, h2, h3, h4, h5⟩ := h
  have hg := World.block_lt_of_cell? w _ h0
  have hx := World.block_lt_of_cell? w _ h5
  exact ⟨((bcell hb).1 _ _ hg).trans h0, ((bcell hb).1 _ _ hg).trans h1, ((bcell hb).1 _ _ hg).trans h2, ((bcell hb).1 _ _ hg).trans h3, ((bcell hb).1 _ _ hg).trans h4, ((bcell hb).1 _ _ hx).trans h5⟩
theorem own_app {base : Nat} {w : World} {v : Value} {cs1 cs2 : List ChangeT} (h : w.ownsRow base 53 7 v (cs1.length + cs2.length) (cs1.flatMap changeCells ++ cs2.flatMap changeCells)) : OwnC base w v (cs1 ++ cs2) := by
  unfold OwnC
  rw [List.length_append, flat_app]
  exact h

set_option maxRecDepth 100000 in
/-- append of a row of changes onto an own row of changes. -/
theorem wpList_append_rows {ops : Array Oper} {rest : List Oper} {o : Oper} {a : Act} {Q : Exit → Act → World → Prop} (hgd : o.guard = none) (s x : Operand)
    (ho : o.op = .call { callee := .builtin .append, args := #[s, x], argTypes := #[45, 45] }) {w : World} (base : Nat) (v1 v2 : Value) (cs1 cs2 : List ChangeT) (hs : a.eval s = v1) (hown : OwnC base w v1 cs1)
    (hx : a.eval x = v2) (hr : RowC w v2 cs2) (hno : NilOr v2) (hlen : cs1.length + cs2.length ≤ 1000000) (hbase : base ≤ w.heap.size)
    (h : ∀ v' w', OwnC base w' v' (cs1 ++ cs2) → w.grownBy w' v1.ownBlock → wpList Tryz.prog ops Q rest (a.put o.dst v') w') : wpList Tryz.prog ops Q (o :: rest) a w := by
  obtain ⟨i0, hi, hz0, hz1, hz2⟩ := info_parts Tryz.infoChange
  obtain ⟨a2, cap, rfl, hc⟩ := hr
  rcases hno with hv | ⟨g2, n2, cap2, hv⟩
  · have h0 : cs2.length = 0 := by injection hv
    obtain rfl : cs2 = [] := List.eq_nil_of_length_eq_zero h0
    rw [hv] at hx
    refine wpList_append_own_none hgd s x _ ho base _ i0 7 Tryz.underlying45 hi v1 cs1.length (cs1.flatMap changeCells) hs hown hx ?_
    exact h v1 w (by simpa using hown) (grown_refl _ _)
  · have ha : a2 = some ⟨g2, 0, none⟩ := by injection hv
    subst ha
    refine wpList_append_own w hgd s x _ ho base _ i0 changeZ 7 80 Tryz.underlying45 hi hz0 hz1 hz2 rfl (by decide) v1 cs1.length (cs1.flatMap changeCells) hs hown ⟨g2, 0, none⟩ cs2.length cap (cs2.flatMap changeCells) hx (flat_len cs2) ?_ ?_ (by unfold maxLen; omega) (by omega) hbase ?_
    · intro j u hj
      have hlt : j < cs2.length * 7 := by rw [← flat_len]; exact (List.getElem?_eq_some_iff.1 hj).1
      have hi7 : j / 7 < cs2.length := by omega
      obtain ⟨g, hg, hcell⟩ := hc (j / 7) cs2[j / 7] (List.getElem?_eq_getElem hi7)
      cases hg
      have hjl : j % 7 < (changeCells cs2[j / 7]).length := Nat.mod_lt _ (by decide)
      have hfl := flat_get cs2 (j / 7) (j % 7) _ (List.getElem?_eq_getElem hi7) (Nat.mod_lt _ (by decide)) (List.getElem?_eq_getElem hjl)
      rw [show j / 7 * 7 + j % 7 = j by omega, hj] at hfl
      have := hcell (j % 7) _ (List.getElem?_eq_getElem hjl)
      rw [show j / 7 * 7 + j % 7 = j by omega, ← hfl] at this
      have e : (⟨g2, 0, none⟩ : Addr).add j = ⟨g2, j, none⟩ := by
        unfold Addr.add
        split
        · rename_i h; subst h; rfl
        · simp
      rw [e]
      exact this
    · intro u hu
      obtain ⟨c, _, hc⟩ := List.mem_flatMap.1 hu
      simp [changeCells] at hc
      rcases hc with rfl | rfl | rfl | rfl | rfl | rfl | rfl <;> rfl
    · intro v' w' h1 h2 _
      exact h v' w' (own_app h1) h2

set_option linter.unusedSimpArgs false in
set_option maxRecDepth 100000 in
set_option maxHeartbeats 6400000 in
theorem apart37_any (a : Option Addr) (n c : Nat) (fo : Nat → OpP) (kd wh us : Nat) (nu ep : Int) (sr by_ : ByteArray) (hkd : kd ≤ 255) (hwh : wh ≤ 255) (hsr : sr.size ≤ 9223372036854775807) (hby : by_.size ≤ 9223372036854775807) (w : World) (hu : Usages w) (hn : n ≤ 9223372036854775807) (hl : OpSlP w a n fo) :
    Calls Tryz.prog 5 #[.slice a n c, .agg #[.int .u8 kd, .int .u8 wh, .int .u8 us, .int .i64 nu, .int .i64 ep, .string sr, .string by_]] w (TruePost w) := by
  have HO := Lib.hid hl
  have Hu := Lib.hid hu
  have Hkd := Lib.hid hkd
  have Hwh := Lib.hid hwh
  have Hsr := Lib.hid hsr
  have Hby := Lib.hid hby
  clear hl hu hkd hwh hsr hby
  have HB0 : Hid (∀ o, Below w.heap.size w (w.alloc o)) := fun o => (Below.refl _ _).alloc (Nat.le_refl _) _
  have HX0 : Hid (∀ o, (w.alloc o).heap[w.heap.size]? = some o) := fun o => heap_alloc_new w o
  go_enter Tryz.func5, Tryz.ntmps5
  go_wp2_with fail
  have HBa := Lib.hid (HB0.out (.cells #[.int .u8 kd, .int .u8 wh, .int .u8 us, .int .i64 nu, .int .i64 ep, .string sr, .string by_] 35))
  have HXa := Lib.hid (HX0.out (.cells #[.int .u8 kd, .int .u8 wh, .int .u8 us, .int .i64 nu, .int .i64 ep, .string sr, .string by_] 35))
  clear HB0 HX0
  generalize w.alloc (.cells #[.int .u8 kd, .int .u8 wh, .int .u8 us, .int .i64 nu, .int .i64 ep, .string sr, .string by_] 35) = wa at *
  refine (qKnown_any _ (Hu.out.below HBa.out Hu.out.pos)).mono ?_
  rintro r w1 ⟨rfl, hb1⟩
  have HB1 := Lib.hid (HBa.out.trans (hb1.mono HBa.out.size))
  have HX1 := Lib.hid ((hb1.block w.heap.size (lt_of_heap HXa.out)).trans HXa.out)
  clear hb1 HBa HXa
  go_wp2_with fail
  refine (base37_any a n c fo w1 (Hu.out.below HB1.out Hu.out.pos) hn (HO.out.later HB1.out)).mono ?_
  rintro r w2 ⟨sp, f, rfl, hb2, hbn⟩
  have HB2 := Lib.hid (HB1.out.trans (hb2.mono HB1.out.size))
  have HX2 := Lib.hid ((hb2.block w.heap.size (lt_of_heap HX1.out)).trans HX1.out)
  have Hbn := Lib.hid hbn
  clear hb2 hbn HB1 HX1
  go_wp2_with fail
  refine (qmNew (w0 := w2) (Hu.out.below HB2.out Hu.out.pos) (Below.refl _ _) Hbn.out).mono ?_
  rintro r w3 ⟨rfl, s3, -⟩
  have S3 := Lib.hid s3
  clear s3 Hbn
  generalize w2.heap.size + 2 = b at *
  have hx3 := (S3.out.below.block w.heap.size (lt_of_heap HX2.out)).trans HX2.out
  have x0 := cell_of_heap hx3 0
  have x1 := cell_of_heap hx3 1
  have x2 := cell_of_heap hx3 2
  have x3 := cell_of_heap hx3 3
  have x4 := cell_of_heap hx3 4
  have x5 := cell_of_heap hx3 5
  have x6 := cell_of_heap hx3 6
  have HX3 := Lib.hid hx3
  clear hx3
  go_wp2_with fail
  have HN : Hid ((⟨f, [], []⟩ : AV).calls.length < 1000000) := by show 0 < 1000000; decide
  have HP := Lib.hid (@qapart_names f kd wh us nu ep sr by_)
  have Htw := Lib.hid (qapart_plain f kd wh us nu ep sr by_)
  refine (pCall_any (N := ⟨20, ⟨f, [], []⟩⟩) S3.out HN.out kd wh us nu ep sr by_ Hwh.out Hsr.out Hby.out).mono ?_
  rintro r w4 ⟨rfl, s4, -⟩
  have HX4 := Lib.hid ((s4.below.block w.heap.size (lt_of_heap HX2.out)).trans HX2.out)
  clear x0 x1 x2 x3 x4 x5 x6 S3 HX3
  have HR4 := Lib.hid s4.rdk
  generalize (pCallN ⟨20, ⟨f, [], []⟩⟩ kd wh us nu ep sr by_).1.V = V1 at *
  obtain ⟨rs, hrs⟩ : ∃ rs, (pCallN ⟨20, ⟨f, [], []⟩⟩ kd wh us nu ep sr by_).2 = rs := ⟨_, rfl⟩
  rw [hrs] at HP Htw ⊢
  clear hrs
  obtain ⟨⟨rsr, rby⟩, rt, re⟩ := rs
  dsimp only [presCells] at *
  have S4 : Hid (∀ o, QM w2 (w4.alloc o) b 20 V1 (fun _ => False)) := fun o => s4.later ((Below.refl _ _).alloc (Nat.le_refl _) _)
  have HXb : Hid (∀ o, (w4.alloc o).heap[w.heap.size]? = some (.cells #[.int .u8 kd, .int .u8 wh, .int .u8 us, .int .i64 nu, .int .i64 ep, .string sr, .string by_] 35 (0, 0))) := fun o => (Below.heap_alloc w4 o w.heap.size (lt_of_heap HX4.out)).trans HX4.out
  clear s4 HX4
  have HR0 : Hid (∀ o, (w4.alloc o).heap[w4.heap.size]? = some o) := fun o => heap_alloc_new w4 o
  have hways : re = 0 ∨ (re ≠ 0 ∧ ((re : Int) == 0) = false ∧ ((re : Int) != 0) = true) := by
    by_cases h : re = 0
    · exact .inl h
    · exact .inr ⟨h, beq_eq_false_iff_ne.2 (by omega), bne_iff_ne.2 (by omega)⟩
  rcases hways with rfl | ⟨hne, hbeq, hbne⟩
  case' inl =>
    go_upto_region 7 with fail
    have S5 := Lib.hid (S4.out (.cells #[.string rsr, .string rby, .string rt, .int .i64 0] 42))
    have HX5 := Lib.hid (HXb.out (.cells #[.string rsr, .string rby, .string rt, .int .i64 0] 42))
    clear S4 HXb HR0
    generalize w4.alloc (.cells #[.string rsr, .string rby, .string rt, .int .i64 0] 42) = w5 at *
  case' inr =>
    go_wp2_with fail
    refine (qmWrites (S4.out _)).mono ?_
    rintro r w5 ⟨v5, cs5, rfl, hr5, hp5, -, hb5, s5⟩
    have hcase : cs5 = [] ∨ (0 < cs5.length ∧ kd % 5 = 2 ∧ re = 9) := by
      rcases Htw.out.2.2.1 hne with h | h
      · rw [h] at hp5
        exact .inl (List.Perm.eq_nil hp5)
      · by_cases h0 : cs5 = []
        · exact .inl h0
        · exact .inr ⟨List.length_pos_iff.2 h0, h⟩
    have hr5c := (hb5.block w4.heap.size (lt_of_heap (HR0.out _))).trans (HR0.out _)
    have HX5 := Lib.hid ((hb5.block w.heap.size (lt_of_heap (HXb.out _))).trans (HXb.out _))
    have S5 := Lib.hid s5
    obtain ⟨a5, c5, rfl, -⟩ := hr5
    clear hp5 s5 hb5 S4 HXb HR0
    have rc : w5.cell? ⟨w4.heap.size, 3, none⟩ = some (.int .i64 re) := cell_of_heap hr5c 3
    have xk : w5.cell? ⟨w.heap.size, 0, none⟩ = some (.int .u8 kd) := cell_of_heap HX5.out 0
    clear hr5c
    rcases hcase with rfl | ⟨hpos, hk2, rfl⟩
    case' inl =>
      go_upto_region 7 with fail
      clear hne hbeq hbne rc xk
    case' inr =>
      have hkm : (kd : Int) % 5 = 2 := by omega
      have hp' : decide ((cs5.length : Int) > 0) = true := decide_eq_true (by omega)
      have hkd255 : (kd : Int) ≤ 255 := by have := Hkd.out; omega
      go_upto_region 7 with fail
      clear hne hbeq hbne rc xk hkm hp' hpos hk2 hkd255
  all_goals
    have HL : Hid (V1.reads.length ≤ 1000000) := by
      show _ ≤ _
      have h2 := two_names (x := ofPortN nu) (y := ofPortN nu) HR4.out.1 (fun m hm => by
        obtain ⟨p, hp, rfl⟩ := List.mem_map.1 hm
        exact .inl (Htw.out.1 p hp))
      rw [List.length_map] at h2
      omega
    clear Htw
    go_wp2_with fail
    refine (qmReadsO S5.out HL.out).mono ?_
    rintro r w6 ⟨v1, cs1, rfl, ho1, hp1, -, hb6, s6⟩
    have Hw5 : Hid (w2.heap.size ≤ w5.heap.size) := S5.out.below.size
    have HX6 := Lib.hid ((hb6.block w.heap.size (lt_of_heap HX5.out)).trans HX5.out)
    have S6 := Lib.hid s6
    have S6s : Hid (w5.heap.size ≤ w6.heap.size) := hb6.size
    have Ho1 := Lib.hid ho1
    have Hp1 := Lib.hid hp1
    clear ho1 hp1 hb6 s6 S5 HX5
    go_wp2_with fail
    refine (qmWritesO S6.out).mono ?_
    rintro r w7 ⟨v2, cs2, rfl, hr2, hp2, -, hb7, s7, hno⟩
    have HX7 := Lib.hid ((hb7.block w.heap.size (lt_of_heap HX6.out)).trans HX6.out)
    have Ho7 := Lib.hid (Ho1.out.later hb7)
    have S7 := Lib.hid s7
    have Hb7s : Hid (w6.heap.size ≤ w7.heap.size) := hb7.size
    have HQ := Lib.hid (HP.out HR4.out Hp1.out hp2)
    clear hp2 hb7 s7 S6 HX6 Ho1 HP Hp1
    have Hr2 := Lib.hid hr2
    clear hr2
    have Hlen : Hid (cs1.length + cs2.length ≤ 3) := by
      show _ ≤ _
      have h1 := HQ.out.2.1
      have h2 := HQ.out.2.2.2
      omega
    have HB7 : Hid (Below w.heap.size w w7) := HB2.out.trans (S7.out.below.mono HB2.out.size)
    have Hno := Lib.hid hno
    clear hno
    go_wp2_with (first
      | (at_builtin; go_loud (refine wpList_append_rows rfl _ _ rfl w5.heap.size v1 v2 cs1 cs2 rfl Ho7.out rfl Hr2.out Hno.out (by have := Hlen.out; omega) (Nat.le_trans S6s.out Hb7s.out) ?_; intro v8 w8 ho8 hg8; have Ho8 := Lib.hid ho8; have Hg8 := Lib.hid hg8; clear ho8 hg8))
      | go_in)
    have HB8 : Hid (Below w.heap.size w w8) := by
      refine HB7.out.trans ⟨Hg8.out.os, Hg8.out.tape, Hg8.out.output, Hg8.out.size, fun k hk => Hg8.out.block k (Nat.lt_of_lt_of_le hk HB7.out.size) (fun e => ?_)⟩
      rcases Ho7.out.2 with ⟨hv, _⟩ | ⟨g, cap, cur, hv, hg, _⟩
      · rw [hv] at e; cases e
      · rw [hv] at e
        have hkg : k = g := by simpa [Value.ownBlock] using e
        have h2 := HB2.out.size
        have h5 := Hw5.out
        omega
    have HX8 : Hid (w8.heap[w.heap.size]? = some (.cells #[.int .u8 kd, .int .u8 wh, .int .u8 us, .int .i64 nu, .int .i64 ep, .string sr, .string by_] 35 (0, 0))) := by
      refine (Hg8.out.block _ (lt_of_heap HX7.out) (fun e => ?_)).trans HX7.out
      rcases Ho7.out.2 with ⟨hv, _⟩ | ⟨g, cap, cur, hv, hg, _⟩
      · rw [hv] at e; cases e
      · rw [hv] at e
        have hkg : w.heap.size = g := by simpa [Value.ownBlock] using e
        have h2 := HB2.out.size
        have h5 := Hw5.out
        have h9 := lt_of_heap HX2.out
        omega
    have HN8 : Hid (∀ c ∈ cs1 ++ cs2, c.name = ofPortN nu) := HQ.out.1
    have HL8 : Hid ((cs1 ++ cs2).length ≤ 3) := by show _ ≤ _; rw [List.length_append]; exact Hlen.out
    obtain ⟨a8, cap8, rfl, hr8⟩ := Ho8.out.row
    have Hr8 : Hid (RowC w8 (.slice a8 (cs1 ++ cs2).length cap8) (cs1 ++ cs2)) := ⟨a8, cap8, rfl, hr8⟩
    clear hr8 Ho8 Hg8 HQ Hlen HB7 Hno Hr2 Ho7 S7 HX7 S6s Hb7s HL
    generalize cs1 ++ cs2 = cs at *
    clear cs1 cs2
    generalize hnl : cs.length = nl at *
    have Hnl := Lib.hid hnl; clear hnl
    go_wp2_with fail
    go_loopg [8] nl (fun gk iv wr => ∃ k : Nat, k + gk = nl ∧ iv = .int .i64 k ∧ Hid (Below w8.heap.size w8 wr))
    case atStart => exact ⟨0, by omega, rfl, Below.refl _ _⟩
    case round =>
      obtain ⟨k, hk, rfl, HI⟩ := hrel
      have Hk := Lib.hid hk; clear hk
      by_cases hlt : k < nl
      · obtain ⟨c, hc⟩ : ∃ c, cs[k]? = some c := ⟨cs[k]'(by rw [Hnl.out]; exact hlt), List.getElem?_eq_getElem _⟩
        obtain ⟨g, rfl, -, r0, r1, r2, r3, r4⟩ := (Hr8.out.later HI.out).name hc
        have hname := HN8.out c (List.mem_of_getElem? hc)
        obtain ⟨⟨k1, k2, k3, k4, k5⟩, cv, cab⟩ := c
        dsimp only at r0 r1 r2 r3 r4 hname
        have hx := (HI.out.block _ (lt_of_heap HX8.out)).trans HX8.out
        have x3 : wr.cell? ⟨w.heap.size, 3, none⟩ = some (.int .i64 nu) := cell_of_heap hx 3
        have DA : Hid (ApS w.heap.size g k nu k1 k2 k3 k4 k5 wr) := ⟨r0, r1, r2, r3, r4, x3⟩
        have Dd := Lib.hid (DA.out.later ((Below.refl _ _).drew))
        have Bd : Hid (Below wr.heap.size wr wr.drew) := (Below.refl _ _).drew
        clear hc hx
        have hlt3 : k < 3 := by have := HL8.out; omega
        have hq2 : neqNB ⟨k1, k2, k3, k4, k5⟩ ⟨16, ⟨#[]⟩, nu, 0, ⟨#[]⟩⟩ = false := by
          rw [show (⟨k1, k2, k3, k4, k5⟩ : NameT) = ⟨16, ⟨#[]⟩, nu, 0, ⟨#[]⟩⟩ from hname]
          exact neqNB_self _
        clear hname
        go_wp2_with fail
        go_region_held3 (fun w' => w'.cell? ⟨g, k * 7, none⟩ = some (.int .i64 k1) ∧ w'.cell? ⟨g, k * 7 + 1, none⟩ = some (.string k2) ∧ w'.cell? ⟨g, k * 7 + 2, none⟩ = some (.int .i64 k3) ∧ w'.cell? ⟨g, k * 7 + 3, none⟩ = some (.int .i64 k4) ∧ w'.cell? ⟨g, k * 7 + 4, none⟩ = some (.string k5) ∧ w'.cell? ⟨w.heap.size, 3, none⟩ = some (.int .i64 nu)) (first | with_reducible exact DA.out | with_reducible exact Dd.out | with_reducible exact D1.out | go_keep)
          (first
            | (go_at_call 17; refine (ofPort_any _ _).mono ?_; rintro r w9 ⟨rfl, hb9⟩; have D1 := Lib.hid (Dd.out.later hb9); have B1 := Lib.hid (Bd.out.trans (hb9.mono Bd.out.size)); clear hb9)
            | fail)
        all_goals go_wp2
        go_roundg (nl - (k + 1))
        case measure => have := Hk.out; omega
        case rel => exact ⟨k + 1, by have := Hk.out; omega, by go_num, HI.out.trans (B1.out.mono HI.out.size)⟩
      · have HF : Hid (Below w.heap.size w wr) := HB8.out.trans (HI.out.mono HB8.out.size)
        go_wp2
        go_ret
        exact ⟨rfl, HF.out⟩
end Go.Proofs.YtijfdgoeppehlaaGreatDoor
