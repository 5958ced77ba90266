/- codec: Flag of the Writer and of the Reader; Birth.Check; a thing that is open: hasBirth, isFormed, Check, ==. (printed by wip/gen_dscb.py) -/
import Derived.Test.YtfchfjipkggnkaaDoorDscA
import Derived.Test.YtfchfjipkggnkaaDoorObjA
import Derived.Test.YtfchfjipkggnkaaDoorMaps
import Derived.Deep.RegionLaw
namespace Go.Proofs.YtfchfjipkggnkaaDoor
open Go.RowKit

set_option maxRecDepth 100000 in
set_option maxHeartbeats 1600000 in
theorem flag_any (B b : Nat) (bs : List UInt8) (f : Bool) (w : World) (hlen : bs.length ≤ 35184372088832) (hB : B ≤ w.heap.size) (h : Wr B b w bs) :
    Calls Tryd.prog 34 #[.pointer (some ⟨b, 0, none⟩), .bool f] w (WrPost B b w (bs ++ flagB f)) := by
  obtain ⟨hBb, v, hh, hrow, hlie⟩ := h
  have hc0 : w.cell? ⟨b, 0, none⟩ = some v := by simp [World.cell?, hh]
  have Hh := Lib.hid hh; clear hh
  have Hlie := Lib.hid hlie; clear hlie
  have Hlen := Lib.hid hlen; clear hlen
  have Hrow := Lib.hid hrow; clear hrow
  go_enter Tryd.func34, Tryd.ntmps34
  go_wp2_with fail
  refine (works_any b 0 v _ Hh.out).mono ?_
  rintro e w' ⟨rfl, rfl⟩
  cases f
  · go_wp2_with (at_builtin; refine wpList_append_byte rfl _ _ rfl v bs rfl Hrow.out (0 : UInt8) _ (by rfl) rfl Hlen.out ?_; intro g m cap w1 hrow1 hg1 hl1; have hb1 := wr_later Hh.out Hlie.out hg1; have hc1 : w1.cell? ⟨b, 0, none⟩ = some v := cell_of_heap hb1 0; have hf1 : w1.frozen? ⟨b, 0, none⟩ = false := frozen_of_heap hb1 0; have Hb1 := Lib.hid hb1; clear hb1; have Hg1 := Lib.hid hg1; clear hg1; have Hl1 := Lib.hid hl1; clear hl1; have Hrow1 := Lib.hid hrow1; clear hrow1)
    go_end0
    exact ⟨rfl, wr_stored hBb hB Hh.out Hlie.out Hg1.out Hl1.out Hrow1.out⟩
  · go_wp2_with (at_builtin; refine wpList_append_byte rfl _ _ rfl v bs rfl Hrow.out (1 : UInt8) _ (by rfl) rfl Hlen.out ?_; intro g m cap w1 hrow1 hg1 hl1; have hb1 := wr_later Hh.out Hlie.out hg1; have hc1 : w1.cell? ⟨b, 0, none⟩ = some v := cell_of_heap hb1 0; have hf1 : w1.frozen? ⟨b, 0, none⟩ = false := frozen_of_heap hb1 0; have Hb1 := Lib.hid hb1; clear hb1; have Hg1 := Lib.hid hg1; clear hg1; have Hl1 := Lib.hid hl1; clear hl1; have Hrow1 := Lib.hid hrow1; clear hrow1)
    go_end0
    exact ⟨rfl, wr_stored hBb hB Hh.out Hlie.out Hg1.out Hl1.out Hrow1.out⟩

/-- What Flag's closure parses. -/
def flagParse : List UInt8 → Bool × Nat × Nat
  | [] => (false, 0, 28)
  | b :: _ => if 1 < b.toNat then (false, 0, 3) else (decide (b.toNat = 1), 1, 0)
theorem rdFlag_eq (s : RdS) : rdFlag s = if s.fail ≠ 0 then (false, s) else if (flagParse s.rest).2.2 ≠ 0 then (false, ⟨s.rest, (flagParse s.rest).2.2⟩) else ((flagParse s.rest).1, ⟨s.rest.drop (flagParse s.rest).2.1, 0⟩) := by
  unfold rdFlag
  by_cases h : s.fail ≠ 0
  · rw [if_pos h, if_pos h]
  rw [if_neg h, if_neg h]
  cases s.rest with
  | nil => rfl
  | cons b r =>
    dsimp only
    by_cases h2 : 1 < b.toNat
    · have hf : flagParse (b :: r) = (false, 0, 3) := if_pos h2
      rw [if_pos h2, hf]; rfl
    · have hf : flagParse (b :: r) = (decide (b.toNat = 1), 1, 0) := if_neg h2
      rw [if_neg h2, hf]; rfl
theorem flagParse_small (bs : List UInt8) : (flagParse bs).2.1 ≤ bs.length ∧ (flagParse bs).2.2 ≤ 28 ∧ (flagParse bs).2.1 ≤ 1 := by
  unfold flagParse
  split
  · simp
  · split <;> simp
set_option maxRecDepth 100000 in
set_option maxHeartbeats 1600000 in
theorem flag1_any (g off n c : Nat) (bs : List UInt8) (w : World) (hlen : bs.length ≤ 70368744177664) (hb : BSl w g off n bs) :
    Calls Tryd.prog 68 #[.slice (some ⟨g, off, none⟩) n c] w fun r w' =>
      r = .returned (.tuple #[.bool (flagParse bs).1, .int .i64 (flagParse bs).2.1, .int .i64 (flagParse bs).2.2]) ∧ w = w' := by
  obtain ⟨rfl, hb⟩ := hb
  cases bs with
  | nil =>
    clear hb
    go_enter Tryd.func68, Tryd.ntmps68
    go_wp2
    go_ret3
    exact ⟨rfl, rfl⟩
  | cons b r =>
    have h0 : w.cell? ⟨g, off, none⟩ = some (.int .u8 b.toNat) := hb 0 (by simp)
    clear hb
    have hlt := b.toNat_lt
    have hne : ((r.length : Int) + 1 == 0) = false := beq_eq_false_iff_ne.2 (by omega)
    have hne2 : (((b :: r).length : Int) == 0) = false := beq_eq_false_iff_ne.2 (by simp; omega)
    have hl1 : 0 < (b :: r).length := by simp
    have Hf : Hid (flagParse (b :: r) = if 1 < b.toNat then (false, 0, 3) else (decide (b.toNat = 1), 1, 0)) := rfl
    generalize (b :: r).length = L at *
    clear hne
    by_cases h1 : 1 < b.toNat
    · have hf : Hid (flagParse (b :: r) = (false, 0, 3)) := Hf.out.trans (if_pos h1)
      have h2 : (1 : Int) < (b.toNat : Int) := by omega
      clear Hf h1
      generalize flagParse (b :: r) = q at *
      generalize b.toNat = x at *
      go_enter Tryd.func68, Tryd.ntmps68
      go_wp2
      go_ret3
      rw [hf.out]
      exact ⟨rfl, rfl⟩
    · have hf : Hid (flagParse (b :: r) = (decide (b.toNat = 1), 1, 0)) := Hf.out.trans (if_neg h1)
      have h2 : ¬ (1 : Int) < (b.toNat : Int) := by omega
      have h3 : ((b.toNat : Int) == 1) = decide (b.toNat = 1) := by
        by_cases h : b.toNat = 1
        · rw [h]; rfl
        · rw [decide_eq_false h]; exact beq_eq_false_iff_ne.2 (by omega)
      clear Hf h1
      generalize flagParse (b :: r) = q at *
      generalize decide (b.toNat = 1) = d at *
      generalize b.toNat = x at *
      go_enter Tryd.func68, Tryd.ntmps68
      go_wp2
      go_ret3
      rw [hf.out]
      exact ⟨rfl, rfl⟩
set_option maxRecDepth 100000 in
set_option maxHeartbeats 1600000 in
theorem readBool_any (B : Nat → Prop) (b : Nat) (s : RdS) (w : World) (h : Rd B b w s) :
    Calls Tryd.prog 67 #[.pointer (some ⟨b, 0, none⟩), .func (.func 68) #[] #[]] w
      (RdPost B b w (.bool (rdFlag s).1) (rdFlag s).2) := by
  obtain ⟨hBb, g, off, n, c, p, hh, hsl, hnc, hBg, hgb, hlen⟩ := h
  have hc0 : w.cell? ⟨b, 0, none⟩ = some (.slice (some ⟨g, off, none⟩) n c) := cell_of_heap hh 0
  have hc1 : w.cell? ⟨b, 1, none⟩ = some (.int .i64 p) := cell_of_heap hh 1
  have hc2 : w.cell? ⟨b, 2, none⟩ = some (.int .i64 s.fail) := cell_of_heap hh 2
  have hf0 : w.frozen? ⟨b, 0, none⟩ = false := frozen_of_heap hh 0
  have hf1 : w.frozen? ⟨b, 1, none⟩ = false := frozen_of_heap hh 1
  have hf2 : w.frozen? ⟨b, 2, none⟩ = false := frozen_of_heap hh 2
  have Hh := Lib.hid hh; clear hh
  have Hsl := Lib.hid hsl; clear hsl
  have Hlen := Lib.hid hlen; clear hlen
  have Hs := Lib.hid (flagParse_small s.rest)
  have Hgb := Lib.hid hgb; clear hgb
  by_cases h0 : s.fail = 0
  · have hn2 : n ≤ 70368744177664 := by have := Hsl.out.1; have := Hlen.out; omega
    rw [h0] at hc2
    have hc2' : w.cell? ⟨b, 2, none⟩ = some (.int .i64 0) := hc2
    clear hc2
    go_enter Tryd.func67, Tryd.ntmps67
    go_wp2_with fail
    refine (flag1_any g off n c s.rest _ Hlen.out Hsl.out).mono ?_
    rintro e w1 ⟨rfl, rfl⟩
    have h1 := Hs.out
    have hq2n : (flagParse s.rest).2.1 ≤ n := by have := Hsl.out.1; omega
    clear Hs
    have Hfin : Hid (rdFlag s = if (flagParse s.rest).2.2 ≠ 0 then (false, ⟨s.rest, (flagParse s.rest).2.2⟩) else ((flagParse s.rest).1, ⟨s.rest.drop (flagParse s.rest).2.1, 0⟩)) := (rdFlag_eq s).trans (if_neg (by omega))
    generalize flagParse s.rest = q at *
    have H0 := Lib.hid h0; clear h0
    obtain ⟨q1, q2, q3⟩ := q
    dsimp only at *
    by_cases h3 : q3 = 0
    · subst h3
      have hfin : Hid (rdFlag s = (q1, ⟨s.rest.drop q2, 0⟩)) := Hfin.out.trans (if_neg (by simp))
      by_cases hcq : c = q2
      · subst hcq
        obtain rfl : n = c := by omega
        go_wp2
        go_ret
        rw [hfin.out]
        refine ⟨rfl, rd_stored hBb hBg Hgb.out Hh.out (by rw [H0.out]; rfl) _ _ _ _ _ ⟨?_, fun j hj => by omega⟩ (by omega) (by have := Hlen.out; simp; omega)⟩
        have := Hsl.out.1
        simp; omega
      · go_wp2
        go_ret
        rw [hfin.out]
        exact ⟨rfl, rd_stored hBb hBg Hgb.out Hh.out (by rw [H0.out]; rfl) _ _ _ _ _ (Hsl.out.drop q2) (by omega) (by have := Hlen.out; simp; omega)⟩
    · have hfin : Hid (rdFlag s = (false, ⟨s.rest, q3⟩)) := Hfin.out.trans (if_pos h3)
      have h3' : ((q3 : Int) != 0) = true := bne_iff_ne.2 (by omega)
      clear h3
      go_wp2
      go_ret
      rw [hfin.out]
      exact ⟨rfl, rd_failed hBb hBg Hgb.out Hh.out _ Hsl.out hnc Hlen.out _⟩
  · have hfin : Hid (rdFlag s = (false, s)) := (rdFlag_eq s).trans (if_pos h0)
    generalize hfl : s.fail = f at *
    have Hfl := Lib.hid hfl; clear hfl
    have h0' : ((f : Int) != 0) = true := bne_iff_ne.2 (by omega)
    clear h0
    go_enter Tryd.func67, Tryd.ntmps67
    go_wp2
    go_ret
    rw [hfin.out]
    exact ⟨rfl, ⟨hBb, g, off, n, c, p, by rw [Hfl.out]; exact Hh.out, Hsl.out, hnc, hBg, Hgb.out, Hlen.out⟩, grown_refl _ _⟩
set_option maxRecDepth 100000 in
set_option maxHeartbeats 1600000 in
theorem rFlag_any (B : Nat → Prop) (b : Nat) (s : RdS) (w : World) (h : Rd B b w s) :
    Calls Tryd.prog 41 #[.pointer (some ⟨b, 0, none⟩)] w (RdPost B b w (.bool (rdFlag s).1) (rdFlag s).2) := by
  have H := Lib.hid h; clear h
  go_enter Tryd.func41, Tryd.ntmps41
  go_wp2_with fail
  refine (readBool_any B b s _ H.out).mono ?_
  rintro e w1 ⟨rfl, hr, hb⟩
  have Hr := Lib.hid hr; clear hr
  have Hb := Lib.hid hb; clear hb
  go_wp2
  go_ret
  exact ⟨rfl, Hr.out, Hb.out⟩

/-! ### Birth.Check -/
set_option maxRecDepth 100000 in
set_option maxHeartbeats 1600000 in
theorem birthO_any (m : ByteArray) (k : Int) (w : World) (hmz : m.size ≤ 70368744177664) : Calls Tryd.prog 30 #[.agg #[.string m, .int .i64 k]] w fun r w' => r = .returned (.int .i64 (birthO m k)) ∧ Below w.heap.size w w' := by
  have Ha : Hid (∀ o, Below w.heap.size w (w.alloc o)) := fun o => (Below.refl _ _).alloc (Nat.le_refl _) _
  cases h1 : validB m with
  | false =>
    have he : Hid (birthO m k = 12) := by show _ = _; simp [birthO, h1]
    go_enter Tryd.func30, Tryd.ntmps30
    go_wp2_with fail
    refine (valid_is m _ hmz h1 _).mono ?_
    rintro e w1 ⟨rfl, hb1⟩
    have HB1 : Hid (Below w.heap.size w w1) := (Ha.out _).trans (hb1.mono (by simp))
    clear hb1
    go_wp2
    go_ret
    rw [he.out]
    exact ⟨rfl, HB1.out⟩
  | true =>
    go_enter Tryd.func30, Tryd.ntmps30
    go_wp2_with fail
    refine (valid_is m _ hmz h1 _).mono ?_
    rintro e w1 ⟨rfl, hb1⟩
    have HB1 : Hid (Below w.heap.size w w1) := (Ha.out _).trans (hb1.mono (by simp))
    have c1 : w1.cell? ⟨w.heap.size, 1, none⟩ = some (.int .i64 k) := ((bcell hb1).1 _ _ (by simp)).trans (cell_of_heap (World.alloc_heap_new w _) 1)
    clear hb1
    go_wp2_with fail
    refine (oWithin_any k 1073741824 _).mono ?_
    rintro e w2 ⟨rfl, rfl⟩
    by_cases h2 : 0 ≤ k ∧ k ≤ 1073741824
    · have he : Hid (birthO m k = 0) := by show _ = _; simp [birthO, h1, h2]
      rw [decide_eq_true h2]
      go_wp2
      go_ret
      rw [he.out]
      exact ⟨rfl, HB1.out⟩
    · have he : Hid (birthO m k = 2) := by show _ = _; simp [birthO, h1, h2]
      rw [decide_eq_false h2]
      clear h2
      go_wp2
      go_ret
      rw [he.out]
      exact ⟨rfl, HB1.out⟩

/-! ### Comparison -/
set_option maxRecDepth 100000 in
theorem run_equal_opn (d : Nat) (w : World) (a b : OpnT) : (Op.equalIn (d + 4) 26 (.agg #[.int .i64 a.kd, .string a.mak, .int .i64 a.bn, .int .i64 a.num, .int .i64 a.off, .bool a.rd, .bool a.wr, .bool a.ap]) (.agg #[.int .i64 b.kd, .string b.mak, .int .i64 b.bn, .int .i64 b.num, .int .i64 b.off, .bool b.rd, .bool b.wr, .bool b.ap])).run Tryd.prog w = .ok (sameO a b) w := by
  have hu : Tryd.prog.underlying 26 = some (.struct (Tryd.prog.fieldsOf 26)) := by kernel_rfl
  have hst : Tryd.prog.stoodInHeld 26 = false := by kernel_rfl
  rw [run_equalIn_struct w (d + 3) _ _ _ hu hst]
  simp [go_sem, Tryd.underlying26, Tryd.underlying24, Tryd.underlying3, Tryd.underlying22, Tryd.underlying4]
  have hb : ∀ x y : ByteArray, x.toList = y.toList ↔ x = y := fun x y => by have := str_beq x y; rw [Bool.eq_iff_iff] at this; simpa using this
  obtain ⟨a1, a2, a3, a4, a5, a6, a7, a8⟩ := a
  obtain ⟨b1, b2, b3, b4, b5, b6, b7, b8⟩ := b
  simp only [hb, sameO]
  by_cases h1 : a1 = b1 <;> by_cases h2 : a2 = b2 <;> by_cases h3 : a3 = b3 <;> by_cases h4 : a4 = b4 <;> by_cases h5 : a5 = b5 <;> simp [h1, h2, h3, h4, h5]
  cases a6 <;> cases b6 <;> cases a7 <;> cases b7 <;> cases a8 <;> cases b8 <;> rfl
set_option maxRecDepth 100000 in
theorem run_eql_opn (w : World) (a1 : Int) (a2 : ByteArray) (a3 a4 a5 : Int) (a6 a7 a8 : Bool) (b1 : Int) (b2 : ByteArray) (b3 b4 b5 : Int) (b6 b7 b8 : Bool) : (binOp .eql 26 (.agg #[.int .i64 a1, .string a2, .int .i64 a3, .int .i64 a4, .int .i64 a5, .bool a6, .bool a7, .bool a8]) (.agg #[.int .i64 b1, .string b2, .int .i64 b3, .int .i64 b4, .int .i64 b5, .bool b6, .bool b7, .bool b8])).run Tryd.prog w = .ok (.bool (sameO ⟨a1, a2, a3, a4, a5, a6, a7, a8⟩ ⟨b1, b2, b3, b4, b5, b6, b7, b8⟩)) w := by
  have h : (Op.equalIn 10000 26 (.agg #[.int .i64 a1, .string a2, .int .i64 a3, .int .i64 a4, .int .i64 a5, .bool a6, .bool a7, .bool a8]) (.agg #[.int .i64 b1, .string b2, .int .i64 b3, .int .i64 b4, .int .i64 b5, .bool b6, .bool b7, .bool b8])).run Tryd.prog w = .ok (sameO ⟨a1, a2, a3, a4, a5, a6, a7, a8⟩ ⟨b1, b2, b3, b4, b5, b6, b7, b8⟩) w := run_equal_opn 9996 w ⟨a1, a2, a3, a4, a5, a6, a7, a8⟩ ⟨b1, b2, b3, b4, b5, b6, b7, b8⟩
  rw [run_eql_struct, h]
  rfl
set_option maxRecDepth 100000 in
theorem run_neq_opn (w : World) (a1 : Int) (a2 : ByteArray) (a3 a4 a5 : Int) (a6 a7 a8 : Bool) (b1 : Int) (b2 : ByteArray) (b3 b4 b5 : Int) (b6 b7 b8 : Bool) : (binOp .neq 26 (.agg #[.int .i64 a1, .string a2, .int .i64 a3, .int .i64 a4, .int .i64 a5, .bool a6, .bool a7, .bool a8]) (.agg #[.int .i64 b1, .string b2, .int .i64 b3, .int .i64 b4, .int .i64 b5, .bool b6, .bool b7, .bool b8])).run Tryd.prog w = .ok (.bool (!sameO ⟨a1, a2, a3, a4, a5, a6, a7, a8⟩ ⟨b1, b2, b3, b4, b5, b6, b7, b8⟩)) w := by
  have h : (Op.equalIn 10000 26 (.agg #[.int .i64 a1, .string a2, .int .i64 a3, .int .i64 a4, .int .i64 a5, .bool a6, .bool a7, .bool a8]) (.agg #[.int .i64 b1, .string b2, .int .i64 b3, .int .i64 b4, .int .i64 b5, .bool b6, .bool b7, .bool b8])).run Tryd.prog w = .ok (sameO ⟨a1, a2, a3, a4, a5, a6, a7, a8⟩ ⟨b1, b2, b3, b4, b5, b6, b7, b8⟩) w := run_equal_opn 9996 w ⟨a1, a2, a3, a4, a5, a6, a7, a8⟩ ⟨b1, b2, b3, b4, b5, b6, b7, b8⟩
  rw [run_neq_struct, h]
  rfl

/-! ### A thing that is open -/
def namedB (k : Int) : Bool := decide (k = 1 ∨ k = 2 ∨ k = 3)
set_option maxRecDepth 100000 in
theorem hasBirth_any (kd : Int) (mak : ByteArray) (bn num off : Int) (rd wr ap : Bool) (w : World) : Calls Tryd.prog 37 #[.agg #[.int .i64 kd, .string mak, .int .i64 bn, .int .i64 num, .int .i64 off, .bool rd, .bool wr, .bool ap]] w fun r w' => r = .returned (.bool (namedB kd)) ∧ Below w.heap.size w w' := by
  have Hbx : Hid (∀ v t, Below w.heap.size w (w.alloc (.cells v t))) := fun v t => (Below.refl _ _).alloc (Nat.le_refl _) _
  by_cases h1 : kd = 1
  · subst h1
    go_enter Tryd.func37, Tryd.ntmps37
    go_wp2
    go_ret
    exact ⟨rfl, Hbx.out _ _⟩
  by_cases h2 : kd = 2
  · subst h2
    clear h1
    go_enter Tryd.func37, Tryd.ntmps37
    go_wp2
    go_ret
    exact ⟨rfl, Hbx.out _ _⟩
  by_cases h3 : kd = 3
  · subst h3
    clear h1 h2
    go_enter Tryd.func37, Tryd.ntmps37
    go_wp2
    go_ret
    exact ⟨rfl, Hbx.out _ _⟩
  have hf : Hid (namedB kd = false) := decide_eq_false (by omega)
  have e1 : (kd == 1) = false := beq_eq_false_iff_ne.2 h1
  have e2 : (kd == 2) = false := beq_eq_false_iff_ne.2 h2
  have e3 : (kd == 3) = false := beq_eq_false_iff_ne.2 h3
  clear h1 h2 h3
  go_enter Tryd.func37, Tryd.ntmps37
  go_wp2
  go_ret
  rw [hf.out]
  exact ⟨rfl, Hbx.out _ _⟩
theorem hasBirth_is (kd : Int) (mak : ByteArray) (bn num off : Int) (rd wr ap : Bool) (b : Bool) (h : namedB kd = b) (w : World) : Calls Tryd.prog 37 #[.agg #[.int .i64 kd, .string mak, .int .i64 bn, .int .i64 num, .int .i64 off, .bool rd, .bool wr, .bool ap]] w fun r w' => r = .returned (.bool b) ∧ Below w.heap.size w w' := by
  subst h; exact hasBirth_any kd mak bn num off rd wr ap w
end Go.Proofs.YtfchfjipkggnkaaDoor
