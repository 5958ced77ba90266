/- The reference of layer 32: Check. The reference of layer 32: take. The reference of layer 32: Encode. The reference of layer 32: Encode. -/
import Derived.Test.YtemmeopaihmlcaaGreatDoorRefB
import Derived.Test.YtemmeopaihmlcaaGreatDoorPipB
import Derived.BigQuiet
import Derived.Deep.RegionHeld3
import Derived.Deep.DeepCutAuto
namespace Go.Proofs.YtemmeopaihmlcaaGreatDoor
open Go.RowKit

set_option maxRecDepth 100000 in
set_option maxHeartbeats 4000000 in
theorem rfCheck_any (ep re wr : Int) (by_ : ByteArray) (w : World) :
    Calls Tryz.prog 152 #[.agg #[.int .i64 ep, .int .i64 re, .int .i64 wr, .string by_]] w fun r w' => r = .returned (.int .i64 (checkP ⟨ep, re, wr, by_⟩)) ∧ Below w.heap.size w w' := by
  have Hbx : Hid (∀ v t, Below w.heap.size w (w.alloc (.cells v t))) := fun v t => (Below.refl _ _).alloc (Nat.le_refl _) _
  by_cases hr : ep < 0 ∨ 1073741824 < ep ∨ re < 0 ∨ 64 < re ∨ wr < 0 ∨ 64 < wr
  · have he : Hid (checkP ⟨ep, re, wr, by_⟩ = 2) := by
      show _ = _
      unfold checkP pEpochB pEndsB
      rw [if_pos]
      simp
      omega
    have hways : ep < 0 ∨ (0 ≤ ep ∧ 1073741824 < ep) ∨ (0 ≤ ep ∧ ep ≤ 1073741824 ∧ re < 0) ∨ (0 ≤ ep ∧ ep ≤ 1073741824 ∧ 0 ≤ re ∧ 64 < re) ∨ (0 ≤ ep ∧ ep ≤ 1073741824 ∧ 0 ≤ re ∧ re ≤ 64 ∧ wr < 0) ∨ (0 ≤ ep ∧ ep ≤ 1073741824 ∧ 0 ≤ re ∧ re ≤ 64 ∧ 0 ≤ wr ∧ 64 < wr) := by omega
    clear hr
    rcases hways with a1 | ⟨a1, a2⟩ | ⟨a1, a2, a3⟩ | ⟨a1, a2, a3, a4⟩ | ⟨a1, a2, a3, a4, a5⟩ | ⟨a1, a2, a3, a4, a5, a6⟩
    all_goals
      go_enter Tryz.func152, Tryz.ntmps152
      go_wp2
      go_ret
      rw [he.out]
      exact ⟨rfl, Hbx.out _ _⟩
  · obtain ⟨a1, a2, a3, a4, a5, a6⟩ : 0 ≤ ep ∧ ep ≤ 1073741824 ∧ 0 ≤ re ∧ re ≤ 64 ∧ 0 ≤ wr ∧ wr ≤ 64 := by omega
    clear hr
    have h1 : pEpochB ep = true := by simp [pEpochB, a1, a2]
    have h2 : pEndsB re = true := by simp [pEndsB, a3, a4]
    have h3 : pEndsB wr = true := by simp [pEndsB, a5, a6]
    by_cases h4 : re = 0 ∧ wr = 0
    · have he : Hid (checkP ⟨ep, re, wr, by_⟩ = 1) := by show _ = _; simp [checkP, h1, h4.1, h4.2]; decide
      obtain ⟨rfl, rfl⟩ := h4
      clear h1 h2 h3
      go_enter Tryz.func152, Tryz.ntmps152
      go_wp2
      go_ret
      rw [he.out]
      exact ⟨rfl, Hbx.out _ _⟩
    · have hways : ((re == 0) = false) ∨ ((re == 0) = true ∧ (wr == 0) = false) := by
        by_cases h : re = 0
        · exact .inr ⟨by simp [h], by simp; intro h'; exact h4 ⟨h, h'⟩⟩
        · exact .inl (by simp [h])
      by_cases h5 : 256 < by_.size
      · have he : Hid (checkP ⟨ep, re, wr, by_⟩ = 5) := by show _ = _; simp [checkP, h1, h2, h3, h4, h5]
        clear h4 h1 h2 h3
        rcases hways with h4 | ⟨h4, h6⟩
        all_goals
          go_enter Tryz.func152, Tryz.ntmps152
          go_wp2
          go_ret
          rw [he.out]
          exact ⟨rfl, Hbx.out _ _⟩
      · have he : Hid (checkP ⟨ep, re, wr, by_⟩ = 0) := by show _ = _; simp [checkP, h1, h2, h3, h4, h5]
        clear h4 h1 h2 h3
        rcases hways with h4 | ⟨h4, h6⟩
        all_goals
          go_enter Tryz.func152, Tryz.ntmps152
          go_wp2
          go_ret
          rw [he.out]
          exact ⟨rfl, Hbx.out _ _⟩
theorem rfCheck_is (ep re wr : Int) (by_ : ByteArray) (q : Nat) (h : checkP ⟨ep, re, wr, by_⟩ = q) (w : World) :
    Calls Tryz.prog 152 #[.agg #[.int .i64 ep, .int .i64 re, .int .i64 wr, .string by_]] w fun r w' => r = .returned (.int .i64 q) ∧ Below w.heap.size w w' := by
  subst h; exact rfCheck_any ep re wr by_ w

end Go.Proofs.YtemmeopaihmlcaaGreatDoor

namespace Go.Proofs.YtemmeopaihmlcaaGreatDoor
open Go.RowKit

/-- The number at the beginning of a string, and the rest. -/
def rTake (s : ByteArray) : Int × ByteArray :=
  if (parseNat 9 s.data.toList).2.2 = 0 then ((parseNat 9 s.data.toList).1, s.extract (parseNat 9 s.data.toList).2.1 s.size) else (-1, ⟨#[]⟩)

theorem rfTake_fst (s : ByteArray) (h : (parseNat 9 s.data.toList).2.2 = 0) : rTake s = (((parseNat 9 s.data.toList).1 : Int), s.extract (parseNat 9 s.data.toList).2.1 s.size) := by unfold rTake; rw [if_pos h]
theorem rfTake_bad (s : ByteArray) (h : ¬ (parseNat 9 s.data.toList).2.2 = 0) : rTake s = (-1, ⟨#[]⟩) := by unfold rTake; rw [if_neg h]
theorem bytes_BSl (w : World) (s : ByteArray) : BSl (Lib.bytesWorld w 5 s) w.heap.size 0 s.size s.data.toList :=
  ⟨(size_toList s).symm, fun j hj => by rw [Nat.zero_add]; exact Lib.bytesWorld_cell w 5 s j hj⟩

set_option maxRecDepth 100000 in
set_option maxHeartbeats 1000000 in
theorem rfTake_any (s : ByteArray) (w : World) (hs : s.size ≤ 35184372088832) :
    Calls Tryz.prog 79 #[.string s] w fun r w' => r = .returned (.tuple #[.int .i64 (rTake s).1, .string (rTake s).2]) ∧ Below w.heap.size w w' := by
  have hconv := Lib.run_convert_string_bytes (P := Tryz.prog) w 9 106 5 s Tryz.underlying9 Tryz.underlying106 Tryz.underlying5
  have Hsl := Lib.hid (bytes_BSl w s)
  have Hb := Lib.hid (pBytes_below w 5 s)
  have Hlen : Hid (s.data.toList.length ≤ 70368744177664) := by show _ ≤ _; rw [size_toList]; omega
  go_enter Tryz.func79, Tryz.ntmps79
  go_wp2_with fail
  refine (rfParse_any _ _ _ _ _ _ Hlen.out Hsl.out).mono ?_
  rintro e w1 ⟨rfl, rfl⟩
  clear hconv Hsl
  obtain ⟨h1, h2, h3, h4⟩ := parse9_small s.data.toList
  rw [size_toList] at h2
  have T1 := Lib.hid (rfTake_fst s)
  have T2 := Lib.hid (rfTake_bad s)
  generalize hq : parseNat 9 s.data.toList = q at *
  obtain ⟨q1, q2, q3⟩ := q
  dsimp only at *
  clear hq
  by_cases h0 : q3 = 0
  · have he := Lib.hid (T1.out h0)
    subst h0
    clear T1 T2
    go_wp2_with fail
    go_quiet (fail)
    go_wp2
    go_ret2
    rw [he.out]
    exact ⟨rfl, Hb.out.trans ((below_drewN (Below.refl _ _) _).mono Hb.out.size)⟩
  · have he := Lib.hid (T2.out h0)
    have h0' : ((q3 : Int) == 0) = false := beq_eq_false_iff_ne.2 (by omega)
    clear T1 T2 h0
    go_wp2
    go_ret2
    rw [he.out]
    exact ⟨rfl, Hb.out⟩

end Go.Proofs.YtemmeopaihmlcaaGreatDoor

namespace Go.Proofs.YtemmeopaihmlcaaGreatDoor
open Go.RowKit
attribute [local go_sem ↓] Go.wp_at_zero Go.wp_at_succ

theorem brow_src {w : World} {g n cap : Nat} {bs : List UInt8} (h : BRow w (.slice (some ⟨g, 0, none⟩) n cap) bs) : n = bs.length ∧ ∀ j u, (bs.map byteV)[j]? = some u → w.cell? ((⟨g, 0, none⟩ : Addr).add j) = some u := by
  obtain ⟨h1, h2⟩ := h
  rcases h2 with ⟨h2, _⟩ | ⟨g', cap', cur, hv, _, hh, _, _, _, ht⟩
  · cases h2
  · cases hv
    refine ⟨rfl, fun j u hu => World.news_of_block hh j u ?_⟩
    rw [← ht, List.getElem?_take] at hu
    split at hu
    · exact hu
    · cases hu

theorem step_append_row {ops : Array Oper} {o : Oper} {a : Act} {K : Act → World → Prop} {Q : Exit → Act → World → Prop} {E : Prop} (hgd : o.guard = none) (s x : Operand)
    (ho : o.op = .call { callee := .builtin .append, args := #[s, x], argTypes := #[106, 106] }) {w : World} (v : Value) (bs : List UInt8) (hs : a.eval s = v) (hrow : BRow w v bs)
    (g2 n2 c2 : Nat) (cs : List UInt8) (hx : a.eval x = .slice (some ⟨g2, 0, none⟩) n2 c2) (hsrc : BRow w (.slice (some ⟨g2, 0, none⟩) n2 c2) cs) (hne : cs ≠ []) (hlen : bs.length + cs.length ≤ 35184372088832)
    (h : ∀ g n cap w', BRow w' (.slice (some ⟨g, 0, none⟩) n cap) (bs ++ cs) → w.grownBy w' v.ownBlock → LiesAt w v g → K (a.put o.dst (.slice (some ⟨g, 0, none⟩) n cap)) w') :
    if Region.wanted o (yielded ops a.tmps) = true then Oper.wp Tryz.prog o a w K Q else E := by
  obtain ⟨i0, hi, hz0, hz1, hz2⟩ := info_parts Tryz.infoByte
  obtain ⟨hn, hcell⟩ := brow_src hsrc
  have hpos : 0 < cs.length := by cases cs; exact absurd rfl hne; simp
  refine step_append_lies _ hgd s x 106 ho 0 5 i0 (.int .u8 0) 1 1 Tryz.underlying106 hi hz0 hz1 hz2 rfl (by decide) v bs.length (bs.map byteV) hs hrow ⟨g2, 0, none⟩ n2 c2 (cs.map byteV) hx (by simp; omega)
    hcell (by intro u hu; obtain ⟨c, _, rfl⟩ := List.mem_map.1 hu; rfl) (by omega) (by unfold maxLen; omega) (by omega) (Nat.zero_le _) w.heap.size rfl ?_
  intro g cap w' h2 h3 h4 _
  refine h g _ cap w' ?_ h3 ?_
  · unfold BRow
    have e : (bs ++ cs).length = bs.length + n2 := by simp; omega
    rw [e, List.map_append]
    exact h2
  · rcases h4 with h4 | h4
    · exact .inl h4
    · exact .inr (by omega)
theorem wpList_append_row {ops : Array Oper} {rest : List Oper} {o : Oper} {a : Act} {Q : Exit → Act → World → Prop} (hgd : o.guard = none) (s x : Operand)
    (ho : o.op = .call { callee := .builtin .append, args := #[s, x], argTypes := #[106, 106] }) {w : World} (v : Value) (bs : List UInt8) (hs : a.eval s = v) (hrow : BRow w v bs)
    (g2 n2 c2 : Nat) (cs : List UInt8) (hx : a.eval x = .slice (some ⟨g2, 0, none⟩) n2 c2) (hsrc : BRow w (.slice (some ⟨g2, 0, none⟩) n2 c2) cs) (hne : cs ≠ []) (hlen : bs.length + cs.length ≤ 35184372088832)
    (h : ∀ g n cap w', BRow w' (.slice (some ⟨g, 0, none⟩) n cap) (bs ++ cs) → w.grownBy w' v.ownBlock → LiesAt w v g → wpList Tryz.prog ops Q rest (a.put o.dst (.slice (some ⟨g, 0, none⟩) n cap)) w') :
    wpList Tryz.prog ops Q (o :: rest) a w := by
  obtain ⟨i0, hi, hz0, hz1, hz2⟩ := info_parts Tryz.infoByte
  obtain ⟨hn, hcell⟩ := brow_src hsrc
  have hpos : 0 < cs.length := by cases cs; exact absurd rfl hne; simp
  refine wpList_append_lies _ hgd s x 106 ho 0 5 i0 (.int .u8 0) 1 1 Tryz.underlying106 hi hz0 hz1 hz2 rfl (by decide) v bs.length (bs.map byteV) hs hrow ⟨g2, 0, none⟩ n2 c2 (cs.map byteV) hx (by simp; omega)
    hcell (by intro u hu; obtain ⟨c, _, rfl⟩ := List.mem_map.1 hu; rfl) (by omega) (by unfold maxLen; omega) (by omega) (Nat.zero_le _) w.heap.size rfl ?_
  intro g cap w' h2 h3 h4 _
  refine h g _ cap w' ?_ h3 ?_
  · unfold BRow
    have e : (bs ++ cs).length = bs.length + n2 := by simp; omega
    rw [e, List.map_append]
    exact h2
  · rcases h4 with h4 | h4
    · exact .inl h4
    · exact .inr (by omega)

end Go.Proofs.YtemmeopaihmlcaaGreatDoor

namespace Go.Proofs.YtemmeopaihmlcaaGreatDoor
open Go.RowKit
attribute [local go_sem ↓] Go.wp_at_zero Go.wp_at_succ

theorem brow_kept {w w' : World} {v : Value} {bs : List UInt8} (h : BRow w v bs) (hg : w.grownBy w' none) : BRow w' v bs := by
  refine World.ownsRow.kept h hg ?_
  cases hv : v.ownBlock with
  | none => exact .inl rfl
  | some g => exact .inr (by simp)

theorem rfNatural_w (u : Nat) (w : World) (hu : u < 18446744073709551616) : Calls Tryz.prog 153 #[.int .u64 (IntKind.u64.wrap u)] w (Appended w (.slice none 0 0) (natBytes u)) := by
  rw [IntWalk.u64_in (u : Int) ⟨by omega, by omega⟩]
  exact rfNatural_any u w hu
theorem far_cells {w w' : World} {b : Nat} {x y : Value} (hb : b < w.heap.size) (h : w.cell? ⟨b, 0, none⟩ = some x ∧ w.cell? ⟨b, 1, none⟩ = some y) (hg : w.grownBy w' none) : w'.cell? ⟨b, 0, none⟩ = some x ∧ w'.cell? ⟨b, 1, none⟩ = some y :=
  ⟨(hg.cell_far ⟨b, 0, none⟩ hb (by simp)).trans h.1, (hg.cell_far ⟨b, 1, none⟩ hb (by simp)).trans h.2⟩
theorem lies_new {w : World} {g : Nat} (h : LiesAt w (.slice none 0 0) g) : w.heap.size ≤ g := h.resolve_left (by simp [Value.ownBlock])
theorem far_row {w w' : World} {b g n c : Nat} {x y : Value} (hb : b < w.heap.size) (h : w.cell? ⟨b, 0, none⟩ = some x ∧ w.cell? ⟨b, 1, none⟩ = some y) (hg : w.grownBy w' (Value.slice (some ⟨g, 0, none⟩) n c).ownBlock) (hne : b < g) : w'.cell? ⟨b, 0, none⟩ = some x ∧ w'.cell? ⟨b, 1, none⟩ = some y :=
  ⟨(hg.cell_far ⟨b, 0, none⟩ hb (by simp [Value.ownBlock]; omega)).trans h.1, (hg.cell_far ⟨b, 1, none⟩ hb (by simp [Value.ownBlock]; omega)).trans h.2⟩

set_option maxRecDepth 100000 in
set_option maxHeartbeats 4000000 in
theorem rfEncode_any (ep re wr : Int) (by_ : ByteArray) (w : World) :
    Calls Tryz.prog 80 #[.agg #[.int .i64 ep, .int .i64 re, .int .i64 wr, .string by_]] w fun r w' => r = .returned (.tuple #[.string (encP ⟨ep, re, wr, by_⟩).1, .int .i64 (encP ⟨ep, re, wr, by_⟩).2]) ∧ Below w.heap.size w w' := by
  have Hbx : Hid (∀ v t, Below w.heap.size w (w.alloc (.cells v t))) := fun v t => (Below.refl _ _).alloc (Nat.le_refl _) _
  generalize hq : checkP ⟨ep, re, wr, by_⟩ = q at *
  have Hq := Lib.hid hq; clear hq
  go_enter Tryz.func80, Tryz.ntmps80
  go_wp2_with fail
  refine (rfCheck_is ep re wr by_ q Hq.out _).mono ?_
  rintro e w1 ⟨rfl, hb1⟩
  have hqc : ∀ j, w1.cell? ⟨w.heap.size, j, none⟩ = (#[.int .i64 ep, .int .i64 re, .int .i64 wr, .string by_] : Array Value)[j]? := fun j => ((bcell hb1).1 _ _ (by simp)).trans (cell_of_heap (World.alloc_heap_new w _) j)
  have Hb1 : Hid (Below w.heap.size w w1) := (Hbx.out _ _).trans (hb1.mono (by simp))
  have hsz1 : w.heap.size < w1.heap.size := by have := hb1.size; simp at this; omega
  clear hb1
  by_cases h0 : q = 0
  · obtain ⟨hep, hre, hwr, _, hby⟩ := checkP_ok (Hq.out.trans h0)
    dsimp only at hep hre hwr hby
    subst h0
    have he : Hid (encP ⟨ep, re, wr, by_⟩ = (strOf (encPB ⟨ep, re, wr, by_⟩), 0)) := by show _ = _; simp [encP, Hq.out]
    clear Hq
    obtain ⟨me, rfl⟩ := Int.eq_ofNat_of_zero_le hep.1
    obtain ⟨mr, rfl⟩ := Int.eq_ofNat_of_zero_le hre.1
    obtain ⟨mw, rfl⟩ := Int.eq_ofNat_of_zero_le hwr.1
    have hme : me ≤ 1073741824 := by omega
    have hmr : mr ≤ 64 := by omega
    have hmw : mw ≤ 64 := by omega
    clear hep hre hwr
    have Hl : Hid ((natBytes me).length ≤ 10 ∧ (natBytes mr).length ≤ 10 ∧ (natBytes mw).length ≤ 10 ∧ (natBytes by_.size).length ≤ 10) := ⟨natBytes_length _, natBytes_length _, natBytes_length _, natBytes_length _⟩
    have c0 : w1.cell? ⟨w.heap.size, 0, none⟩ = some (.int .i64 me) := hqc 0
    have c1 : w1.cell? ⟨w.heap.size, 1, none⟩ = some (.int .i64 mr) := hqc 1
    have Hqc := Lib.hid hqc; clear hqc
    have Hll : Hid ((natBytes me).length + (natBytes mr).length ≤ 35184372088832) := by show _ ≤ _; have := Hl.out; omega
    have Hme : Hid (me < 18446744073709551616) := by show _ < _; omega
    have Hmr : Hid (mr < 18446744073709551616) := by show _ < _; omega
    go_wp2_with fail
    go_region_held3 (fun w' => w'.cell? ⟨w.heap.size, 0, none⟩ = some (.int .i64 me) ∧ w'.cell? ⟨w.heap.size, 1, none⟩ = some (.int .i64 mr)) (first | with_reducible exact S4.out | with_reducible exact S3.out | with_reducible exact S2.out | with_reducible exact S1.out | go_keep)
      (first
        | (go_at_call 153; have _g := c0; clear _g; refine (rfNatural_w me _ Hme.out).mono ?_; rintro r w2 ⟨g2, n2, k2, rfl, row2, gr2, lie2⟩; have G2 := Lib.hid gr2; have R2 := Lib.hid row2; have L2 := Lib.hid lie2; clear gr2 row2 lie2; have S2 := Lib.hid (far_cells (w := w1.drew) hsz1 ⟨c0, c1⟩ G2.out); clear c0 c1)
        | (go_at_call 153; refine (rfNatural_w mr _ Hmr.out).mono ?_; rintro r w3 ⟨g3, n3, k3, rfl, row3, gr3, lie3⟩; have G3 := Lib.hid gr3; have R3 := Lib.hid row3; have L3 := Lib.hid lie3; clear gr3 row3 lie3; have S3 := Lib.hid (far_cells (Nat.lt_of_lt_of_le hsz1 G2.out.size) S2.out G3.out))
        | (refine step_append_row rfl _ _ rfl _ _ rfl (brow_kept R2.out G3.out) _ _ _ _ rfl R3.out (pNat_ne _) Hll.out ?_; intro g4 n4 k4 w4 row4 gr4 lie4; have G4 := Lib.hid gr4; have R4 := Lib.hid row4; have L4 := Lib.hid lie4; clear gr4 row4 lie4; have S4 := Lib.hid (far_row (Nat.lt_of_lt_of_le hsz1 (Nat.le_trans G2.out.size G3.out.size)) S3.out G4.out (Nat.lt_of_lt_of_le hsz1 (lies_new L2.out))))
        | fail)
    have HB4 : Hid (Below w1.heap.size w1 w4) := pBelow_row (pBelow_row (pBelow_row (Below.drew (Below.refl _ _)) G2.out (Nat.le_refl _) (fun k hk => by cases hk)) G3.out (Nat.le_refl _) (fun k hk => by cases hk)) G4.out (Nat.le_refl _) (fun k hk => by cases hk; exact lies_new L2.out)
    have L4' : Hid (w1.heap.size ≤ g4) := by
      show _ ≤ _
      rcases L4.out with h | h
      · cases h; exact lies_new L2.out
      · exact Nat.le_trans G2.out.size (Nat.le_trans G3.out.size h)
    have c2 : w4.cell? ⟨w.heap.size, 2, none⟩ = some (.int .i64 mw) := ((bcell HB4.out).1 _ _ hsz1).trans (Hqc.out 2)
    clear S2 S3 S4 G2 G3 G4 R2 R3 L2 L3 L4
    have Hmw : Hid (mw < 18446744073709551616) := by show _ < _; omega
    have Hll3 : Hid ((natBytes me ++ natBytes mr).length + (natBytes mw).length ≤ 35184372088832) := by show _ ≤ _; have := Hl.out; simp; omega
    have hmw' : IntKind.u64.wrap (mw : Int) = mw := IntWalk.u64_in _ ⟨by omega, by omega⟩
    go_wp2_with fail
    refine (rfNatural_any mw _ Hmw.out).mono ?_
    rintro r w5 ⟨g5, n5, k5, rfl, row5, gr5, lie5⟩
    have R5 := Lib.hid row5; have G5 := Lib.hid gr5; clear row5 gr5 lie5 c2 hmw'
    go_wp2_with (at_builtin; refine wpList_append_row rfl _ _ rfl _ _ rfl (brow_kept R4.out G5.out) _ _ _ _ rfl R5.out (pNat_ne _) Hll3.out ?_; intro g6 n6 k6 w6 row6 gr6 lie6; have c3 : w6.cell? ⟨w.heap.size, 3, none⟩ = some (.string by_) := ((bcell (pBelow_row (pBelow_row HB4.out G5.out (Nat.le_refl _) (fun k hk => by cases hk)) gr6 (Nat.le_refl _) (fun k hk => by cases hk; exact L4'.out))).1 _ _ hsz1).trans (Hqc.out 3))
    have HB6 : Hid (Below w1.heap.size w1 w6) := pBelow_row (pBelow_row HB4.out G5.out (Nat.le_refl _) (fun k hk => by cases hk)) gr6 (Nat.le_refl _) (fun k hk => by cases hk; exact L4'.out)
    have R6 := Lib.hid row6
    have L6 : Hid (w1.heap.size ≤ g6) := by
      show _ ≤ _
      rcases lie6 with h | h
      · cases h; exact L4'.out
      · exact Nat.le_trans HB4.out.size (Nat.le_trans G5.out.size h)
    clear row6 gr6 lie6 G5 R5 HB4 R4 L4'
    have Hby : Hid (by_.size ≤ 1099511627776) := by show _ ≤ _; omega
    have Hll4 : Hid ((natBytes me ++ natBytes mr ++ natBytes mw).length + (natBytes by_.size ++ by_.data.toList).length ≤ 35184372088832) := by show _ ≤ _; have := Hl.out; simp; omega
    have Hne : Hid (natBytes by_.size ++ by_.data.toList ≠ []) := by show _ ≠ _; intro h; exact pNat_ne _ (List.append_eq_nil_iff.1 h).1
    refine (rfText_any by_ _ Hby.out).mono ?_
    rintro r w7 ⟨g7, n7, k7, rfl, row7, gr7, lie7⟩
    have R7 := Lib.hid row7; have G7 := Lib.hid gr7; clear row7 gr7 lie7 c3
    go_wp2_with (at_builtin; refine wpList_append_row rfl _ _ rfl _ _ rfl (brow_kept R6.out G7.out) _ _ _ _ rfl R7.out Hne.out Hll4.out ?_; intro g8 n8 k8 w8 row8 gr8 lie8; have hconv := run_bytes_str w8 g8 0 n8 k8 _ row8.sl.1)
    have HB8 : Hid (Below w1.heap.size w1 w8) := pBelow_row (pBelow_row HB6.out G7.out (Nat.le_refl _) (fun k hk => by cases hk)) gr8 (Nat.le_refl _) (fun k hk => by cases hk; exact L6.out)
    have hfull : natBytes me ++ (natBytes mr ++ (natBytes mw ++ (natBytes by_.size ++ by_.data.toList))) = encPB ⟨me, mr, mw, by_⟩ := by simp [encPB]
    go_ret2
    rw [he.out, ← hfull]
    exact ⟨rfl, Hb1.out.trans (HB8.out.mono Hb1.out.size)⟩
  · have he : Hid (encP ⟨ep, re, wr, by_⟩ = (⟨#[]⟩, q)) := by show _ = _; simp [encP, Hq.out, h0]
    have h0' : ((q : Int) != 0) = true := bne_iff_ne.2 (by omega)
    clear h0
    go_wp2
    go_ret2
    rw [he.out]
    exact ⟨rfl, Hb1.out⟩

end Go.Proofs.YtemmeopaihmlcaaGreatDoor
