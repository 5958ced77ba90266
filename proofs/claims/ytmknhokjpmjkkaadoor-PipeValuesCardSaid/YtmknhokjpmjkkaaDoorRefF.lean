/- The reference of layer 32: Encode. -/
import Derived.Test.YtmknhokjpmjkkaaDoorRefE
namespace Go.Proofs.YtmknhokjpmjkkaaDoor
open Go.RowKit
attribute [local go_sem ↓] Go.wp_at_zero Go.wp_at_succ

theorem brow_kept {w w' : World} {v : Value} {bs : List UInt8} (h : BRow w v bs) (hg : w.grownBy w' none) : BRow w' v bs := by
  refine World.ownsRow.kept h hg ?_
  cases hv : v.ownBlock with
  | none => exact .inl rfl
  | some g => exact .inr (by simp)

theorem rfNatural_w (u : Nat) (w : World) (hu : u < 18446744073709551616) : Calls Tryd.prog 92 #[.int .u64 (IntKind.u64.wrap u)] w (Appended w (.slice none 0 0) (natBytes u)) := by
  rw [IntWalk.u64_in (u : Int) ⟨by omega, by omega⟩]
  exact rfNatural_any u w hu
theorem far_cells {w w' : World} {b : Nat} {x y : Value} (hb : b < w.heap.size) (h : w.cell? ⟨b, 0, none⟩ = some x ∧ w.cell? ⟨b, 1, none⟩ = some y) (hg : w.grownBy w' none) : w'.cell? ⟨b, 0, none⟩ = some x ∧ w'.cell? ⟨b, 1, none⟩ = some y :=
  ⟨(hg.cell_far ⟨b, 0, none⟩ hb (by simp)).trans h.1, (hg.cell_far ⟨b, 1, none⟩ hb (by simp)).trans h.2⟩
theorem lies_new {w : World} {g : Nat} (h : LiesAt w (.slice none 0 0) g) : w.heap.size ≤ g := h.resolve_left (by simp [Value.ownBlock])
theorem far_row {w w' : World} {b g n c : Nat} {x y : Value} (hb : b < w.heap.size) (h : w.cell? ⟨b, 0, none⟩ = some x ∧ w.cell? ⟨b, 1, none⟩ = some y) (hg : w.grownBy w' (Value.slice (some ⟨g, 0, none⟩) n c).ownBlock) (hne : b < g) : w'.cell? ⟨b, 0, none⟩ = some x ∧ w'.cell? ⟨b, 1, none⟩ = some y :=
  ⟨(hg.cell_far ⟨b, 0, none⟩ hb (by simp [Value.ownBlock]; omega)).trans h.1, (hg.cell_far ⟨b, 1, none⟩ hb (by simp [Value.ownBlock]; omega)).trans h.2⟩

set_option maxRecDepth 100000 in
set_option maxHeartbeats 4000000 in
theorem rfEncode_any (ep re wr : Int) (by_ : ByteArray) (w : World) :
    Calls Tryd.prog 47 #[.agg #[.int .i64 ep, .int .i64 re, .int .i64 wr, .string by_]] w fun r w' => r = .returned (.tuple #[.string (encP ⟨ep, re, wr, by_⟩).1, .int .i64 (encP ⟨ep, re, wr, by_⟩).2]) ∧ Below w.heap.size w w' := by
  have Hbx : Hid (∀ v t, Below w.heap.size w (w.alloc (.cells v t))) := fun v t => (Below.refl _ _).alloc (Nat.le_refl _) _
  generalize hq : checkP ⟨ep, re, wr, by_⟩ = q at *
  have Hq := Lib.hid hq; clear hq
  go_enter Tryd.func47, Tryd.ntmps47
  go_wp2_with fail
  refine (rfCheck_is ep re wr by_ q Hq.out _).mono ?_
  rintro e w1 ⟨rfl, hb1⟩
  have hqc : ∀ j, w1.cell? ⟨w.heap.size, j, none⟩ = (#[.int .i64 ep, .int .i64 re, .int .i64 wr, .string by_] : Array Value)[j]? := fun j => ((bcell hb1).1 _ _ (by simp)).trans (cell_of_heap (World.alloc_heap_new w _) j)
  have Hb1 : Hid (Below w.heap.size w w1) := (Hbx.out _ _).trans (hb1.mono (by simp))
  have hsz1 : w.heap.size < w1.heap.size := by have := hb1.size; simp at this; omega
  clear hb1
  by_cases h0 : q = 0
  · obtain ⟨hep, hre, hwr, _, hby⟩ := checkP_ok (Hq.out.trans h0)
    dsimp only at hep hre hwr hby
    subst h0
    have he : Hid (encP ⟨ep, re, wr, by_⟩ = (strOf (encPB ⟨ep, re, wr, by_⟩), 0)) := by show _ = _; simp [encP, Hq.out]
    clear Hq
    obtain ⟨me, rfl⟩ := Int.eq_ofNat_of_zero_le hep.1
    obtain ⟨mr, rfl⟩ := Int.eq_ofNat_of_zero_le hre.1
    obtain ⟨mw, rfl⟩ := Int.eq_ofNat_of_zero_le hwr.1
    have hme : me ≤ 1073741824 := by omega
    have hmr : mr ≤ 64 := by omega
    have hmw : mw ≤ 64 := by omega
    clear hep hre hwr
    have Hl : Hid ((natBytes me).length ≤ 10 ∧ (natBytes mr).length ≤ 10 ∧ (natBytes mw).length ≤ 10 ∧ (natBytes by_.size).length ≤ 10) := ⟨natBytes_length _, natBytes_length _, natBytes_length _, natBytes_length _⟩
    have c0 : w1.cell? ⟨w.heap.size, 0, none⟩ = some (.int .i64 me) := hqc 0
    have c1 : w1.cell? ⟨w.heap.size, 1, none⟩ = some (.int .i64 mr) := hqc 1
    have Hqc := Lib.hid hqc; clear hqc
    have Hll : Hid ((natBytes me).length + (natBytes mr).length ≤ 35184372088832) := by show _ ≤ _; have := Hl.out; omega
    have Hme : Hid (me < 18446744073709551616) := by show _ < _; omega
    have Hmr : Hid (mr < 18446744073709551616) := by show _ < _; omega
    go_wp2_with fail
    go_region_held3 (fun w' => w'.cell? ⟨w.heap.size, 0, none⟩ = some (.int .i64 me) ∧ w'.cell? ⟨w.heap.size, 1, none⟩ = some (.int .i64 mr)) (first | with_reducible exact S4.out | with_reducible exact S3.out | with_reducible exact S2.out | with_reducible exact S1.out | go_keep)
      (first
        | (go_at_call 92; have _g := c0; clear _g; refine (rfNatural_w me _ Hme.out).mono ?_; rintro r w2 ⟨g2, n2, k2, rfl, row2, gr2, lie2⟩; have G2 := Lib.hid gr2; have R2 := Lib.hid row2; have L2 := Lib.hid lie2; clear gr2 row2 lie2; have S2 := Lib.hid (far_cells (w := w1.drew) hsz1 ⟨c0, c1⟩ G2.out); clear c0 c1)
        | (go_at_call 92; refine (rfNatural_w mr _ Hmr.out).mono ?_; rintro r w3 ⟨g3, n3, k3, rfl, row3, gr3, lie3⟩; have G3 := Lib.hid gr3; have R3 := Lib.hid row3; have L3 := Lib.hid lie3; clear gr3 row3 lie3; have S3 := Lib.hid (far_cells (Nat.lt_of_lt_of_le hsz1 G2.out.size) S2.out G3.out))
        | (refine step_append_row rfl _ _ rfl _ _ rfl (brow_kept R2.out G3.out) _ _ _ _ rfl R3.out (pNat_ne _) Hll.out ?_; intro g4 n4 k4 w4 row4 gr4 lie4; have G4 := Lib.hid gr4; have R4 := Lib.hid row4; have L4 := Lib.hid lie4; clear gr4 row4 lie4; have S4 := Lib.hid (far_row (Nat.lt_of_lt_of_le hsz1 (Nat.le_trans G2.out.size G3.out.size)) S3.out G4.out (Nat.lt_of_lt_of_le hsz1 (lies_new L2.out))))
        | fail)
    have HB4 : Hid (Below w1.heap.size w1 w4) := pBelow_row (pBelow_row (pBelow_row (Below.drew (Below.refl _ _)) G2.out (Nat.le_refl _) (fun k hk => by cases hk)) G3.out (Nat.le_refl _) (fun k hk => by cases hk)) G4.out (Nat.le_refl _) (fun k hk => by cases hk; exact lies_new L2.out)
    have L4' : Hid (w1.heap.size ≤ g4) := by
      show _ ≤ _
      rcases L4.out with h | h
      · cases h; exact lies_new L2.out
      · exact Nat.le_trans G2.out.size (Nat.le_trans G3.out.size h)
    have c2 : w4.cell? ⟨w.heap.size, 2, none⟩ = some (.int .i64 mw) := ((bcell HB4.out).1 _ _ hsz1).trans (Hqc.out 2)
    clear S2 S3 S4 G2 G3 G4 R2 R3 L2 L3 L4
    have Hmw : Hid (mw < 18446744073709551616) := by show _ < _; omega
    have Hll3 : Hid ((natBytes me ++ natBytes mr).length + (natBytes mw).length ≤ 35184372088832) := by show _ ≤ _; have := Hl.out; simp; omega
    have hmw' : IntKind.u64.wrap (mw : Int) = mw := IntWalk.u64_in _ ⟨by omega, by omega⟩
    go_wp2_with fail
    refine (rfNatural_any mw _ Hmw.out).mono ?_
    rintro r w5 ⟨g5, n5, k5, rfl, row5, gr5, lie5⟩
    have R5 := Lib.hid row5; have G5 := Lib.hid gr5; clear row5 gr5 lie5 c2 hmw'
    go_wp2_with (at_builtin; refine wpList_append_row rfl _ _ rfl _ _ rfl (brow_kept R4.out G5.out) _ _ _ _ rfl R5.out (pNat_ne _) Hll3.out ?_; intro g6 n6 k6 w6 row6 gr6 lie6; have c3 : w6.cell? ⟨w.heap.size, 3, none⟩ = some (.string by_) := ((bcell (pBelow_row (pBelow_row HB4.out G5.out (Nat.le_refl _) (fun k hk => by cases hk)) gr6 (Nat.le_refl _) (fun k hk => by cases hk; exact L4'.out))).1 _ _ hsz1).trans (Hqc.out 3))
    have HB6 : Hid (Below w1.heap.size w1 w6) := pBelow_row (pBelow_row HB4.out G5.out (Nat.le_refl _) (fun k hk => by cases hk)) gr6 (Nat.le_refl _) (fun k hk => by cases hk; exact L4'.out)
    have R6 := Lib.hid row6
    have L6 : Hid (w1.heap.size ≤ g6) := by
      show _ ≤ _
      rcases lie6 with h | h
      · cases h; exact L4'.out
      · exact Nat.le_trans HB4.out.size (Nat.le_trans G5.out.size h)
    clear row6 gr6 lie6 G5 R5 HB4 R4 L4'
    have Hby : Hid (by_.size ≤ 1099511627776) := by show _ ≤ _; omega
    have Hll4 : Hid ((natBytes me ++ natBytes mr ++ natBytes mw).length + (natBytes by_.size ++ by_.data.toList).length ≤ 35184372088832) := by show _ ≤ _; have := Hl.out; simp; omega
    have Hne : Hid (natBytes by_.size ++ by_.data.toList ≠ []) := by show _ ≠ _; intro h; exact pNat_ne _ (List.append_eq_nil_iff.1 h).1
    refine (rfText_any by_ _ Hby.out).mono ?_
    rintro r w7 ⟨g7, n7, k7, rfl, row7, gr7, lie7⟩
    have R7 := Lib.hid row7; have G7 := Lib.hid gr7; clear row7 gr7 lie7 c3
    go_wp2_with (at_builtin; refine wpList_append_row rfl _ _ rfl _ _ rfl (brow_kept R6.out G7.out) _ _ _ _ rfl R7.out Hne.out Hll4.out ?_; intro g8 n8 k8 w8 row8 gr8 lie8; have hconv := run_bytes_str w8 g8 0 n8 k8 _ row8.sl.1)
    have HB8 : Hid (Below w1.heap.size w1 w8) := pBelow_row (pBelow_row HB6.out G7.out (Nat.le_refl _) (fun k hk => by cases hk)) gr8 (Nat.le_refl _) (fun k hk => by cases hk; exact L6.out)
    have hfull : natBytes me ++ (natBytes mr ++ (natBytes mw ++ (natBytes by_.size ++ by_.data.toList))) = encPB ⟨me, mr, mw, by_⟩ := by simp [encPB]
    go_ret2
    rw [he.out, ← hfull]
    exact ⟨rfl, Hb1.out.trans (HB8.out.mono Hb1.out.size)⟩
  · have he : Hid (encP ⟨ep, re, wr, by_⟩ = (⟨#[]⟩, q)) := by show _ = _; simp [encP, Hq.out, h0]
    have h0' : ((q : Int) != 0) = true := bne_iff_ne.2 (by omega)
    clear h0
    go_wp2
    go_ret2
    rw [he.out]
    exact ⟨rfl, Hb1.out⟩

end Go.Proofs.YtmknhokjpmjkkaaDoor
