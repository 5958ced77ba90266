/- Law 37: decode. -/
import Derived.Test.YtemmeopaihmlcaaDoorPorI
import Derived.Test.YtemmeopaihmlcaaDoorPorS
namespace Go.Proofs.YtemmeopaihmlcaaDoor
open Go.RowKit
attribute [local go_sem ↓] Go.wp_at_zero Go.wp_at_succ

theorem rd_mono {S S' : Nat → Prop} {b : Nat} {w : World} {s : RdS} (h : Rd S b w s) (hS : ∀ k, S k → S' k) : Rd S' b w s := by
  obtain ⟨h1, g, off, n, c, p, h2, h3, h4, h5, h6⟩ := h
  exact ⟨hS _ h1, g, off, n, c, p, h2, h3, h4, hS _ h5, h6⟩

set_option maxRecDepth 100000 in
set_option maxHeartbeats 4000000 in
theorem lDecode_any (s : ByteArray) (w : World) (hs2 : s.size ≤ 35184372088832) : Calls Tryd.prog 20 #[.string s] w (PortPost w (decQ s).1 (decQ s).2) := by
  have hconv := Lib.run_convert_string_bytes (P := Tryd.prog) (w.alloc (.cells #[.string ⟨#[]⟩, .int .i64 0, .int .i64 0, .slice none 0 0] 54)) 9 78 5 s Tryd.underlying9 Tryd.underlying78 Tryd.underlying5
  have hR : (w.alloc (.cells #[.string ⟨#[]⟩, .int .i64 0, .int .i64 0, .slice none 0 0] 54)).heap[w.heap.size]? = some (.cells #[.string ⟨#[]⟩, .int .i64 0, .int .i64 0, .slice none 0 0] 54 (0, 0)) := World.alloc_heap_new w _
  have hbw := bytesWorld_below (w.alloc (.cells #[.string ⟨#[]⟩, .int .i64 0, .int .i64 0, .slice none 0 0] 54)) 5 s
  have hsrc : BSrc (Lib.bytesWorld (w.alloc (.cells #[.string ⟨#[]⟩, .int .i64 0, .int .i64 0, .slice none 0 0] 54)) 5 s) (.slice (some ⟨w.heap.size + 1, 0, none⟩) s.size (grownCap (w.alloc (.cells #[.string ⟨#[]⟩, .int .i64 0, .int .i64 0, .slice none 0 0] 54)) s.size 0 5)) s.data.toList := by
    refine .inr ⟨_, _, _, rfl, (size_toList s).symm, fun j u hu => ?_⟩
    have hj : j < s.size := by
      rw [← size_toList]
      rcases Nat.lt_or_ge j s.data.toList.length with h | h
      · exact h
      · rw [List.getElem?_eq_none (by simpa using h)] at hu; cases hu
    have hadd : (⟨w.heap.size + 1, 0, none⟩ : Addr).add j = ⟨w.heap.size + 1, j, none⟩ := by unfold Addr.add; split <;> simp_all
    rw [hadd]
    have := Lib.bytesWorld_cell (w.alloc (.cells #[.string ⟨#[]⟩, .int .i64 0, .int .i64 0, .slice none 0 0] 54)) 5 s j hj
    rw [World.size_alloc] at this
    rw [this, ← hu]
    have hj' : j < s.data.toList.length := by rw [size_toList]; exact hj
    simp only [List.getElem?_map, List.getElem?_eq_getElem hj', Option.map_some, byteV, List.getD_eq_getElem?_getD, Option.getD_some]
  rw [World.size_alloc] at hconv
  have hRb := (hbw.block w.heap.size (by simp)).trans hR
  have Hwb : Hid (Below w.heap.size w (Lib.bytesWorld (w.alloc (.cells #[.string ⟨#[]⟩, .int .i64 0, .int .i64 0, .slice none 0 0] 54)) 5 s)) := ((Below.refl _ _).alloc (Nat.le_refl _) _).trans (hbw.mono (by simp))
  have hwsz : w.heap.size < (Lib.bytesWorld (w.alloc (.cells #[.string ⟨#[]⟩, .int .i64 0, .int .i64 0, .slice none 0 0] 54)) 5 s).heap.size := by rw [Lib.bytesWorld_size]; simp; omega
  have Hsrc := Lib.hid hsrc; clear hsrc hbw hR
  have HRb := Lib.hid hRb; clear hRb
  have Hlen : Hid (s.data.toList.length ≤ 35184372088832) := by show _ ≤ _; rw [size_toList]; exact hs2
  clear hs2
  go_enter Tryd.func20, Tryd.ntmps20
  go_wp2_with fail
  generalize Lib.bytesWorld (w.alloc (.cells #[.string ⟨#[]⟩, .int .i64 0, .int .i64 0, .slice none 0 0] 54)) 5 s = wb at *
  refine (newReader_any _ s.data.toList _ Hlen.out Hsrc.out (by simp)).mono ?_
  rintro e w1 ⟨b, rfl, hrd, hb1⟩
  clear hconv Hsrc
  have R1 := Lib.hid hrd
  have B1 : Hid (Below wb.heap.size wb w1) := hb1
  clear hrd hb1
  generalize hbs : s.data.toList = bs at *
  have Hbs := Lib.hid hbs; clear hbs
  go_wp2_with fail
  refine (rText_any _ b 64 _ _ R1.out).mono ?_
  rintro e w2 ⟨rfl, hr, hg⟩
  have R2 := Lib.hid hr
  have B2 : Hid (Below wb.heap.size wb w2) := Below.grownRow B1.out hg (Nat.le_refl _) (fun k hk => by cases hk; exact hr.1.1)
  have Hz2 : Hid (w1.heap.size ≤ w2.heap.size) := hg.size
  clear hr hg
  have e1 : rdText 64 ⟨bs, 0⟩ = q1 bs := rfl
  rw [e1] at R2
  rw [e1]
  clear e1
  go_wp2_with fail
  refine (rNumber_any _ b 1073741824 _ _ R2.out).mono ?_
  rintro e w3 ⟨rfl, hr, hg⟩
  have R3 := Lib.hid hr
  have B3 : Hid (Below wb.heap.size wb w3) := Below.grownRow B2.out hg (Nat.le_refl _) (fun k hk => by cases hk; exact hr.1.1)
  have Hz3 : Hid (w1.heap.size ≤ w3.heap.size) := Nat.le_trans Hz2.out hg.size
  clear hr hg R2 B2 Hz2
  have e2 : rdNum 1073741824 (q1 bs).2 = q2 bs := rfl
  rw [e2]
  rw [e2] at R3
  clear e2
  go_wp2_with fail
  refine (rNumber_any _ b 1073741824 _ _ R3.out).mono ?_
  rintro e w4 ⟨rfl, hr, hg⟩
  have R4 := Lib.hid hr
  have B4 : Hid (Below wb.heap.size wb w4) := Below.grownRow B3.out hg (Nat.le_refl _) (fun k hk => by cases hk; exact hr.1.1)
  have Hz4 : Hid (w1.heap.size ≤ w4.heap.size) := Nat.le_trans Hz3.out hg.size
  clear hr hg R3 B3 Hz3
  have e3 : rdNum 1073741824 (q2 bs).2 = q3 bs := rfl
  rw [e3]
  rw [e3] at R4
  clear e3
  have D3 : Hid (∀ ow : ByteArray, ∀ ep lo : Int, QDec wb wb.heap.size w4.heap.size b (w4.alloc (.cells #[.string ow, .int .i64 ep, .int .i64 lo, .slice none 0 0] 54)) ow ep lo [] (q3 bs).2 (.slice none 0 0)) := fun ow ep lo =>
    ⟨heap_alloc_new w4 _, World.ownsRow_nil _ _ _ _, (fun g hg => by cases hg), Rd.later (rd_mono R4.out (fun k hk => ⟨hk.1, Nat.lt_of_lt_of_le hk.2 Hz4.out⟩)) ((Below.refl _ _).alloc (Nat.le_refl _) _), B4.out.alloc B4.out.size _, B4.out.size, Nat.le_refl _⟩
  clear R4 B4 R1 B1
  go_wp2_with fail
  refine (rNumber_any _ b 16 _ _ (D3.out _ _ _).rd).mono ?_
  rintro e w5 ⟨rfl, hr, hg⟩
  have D4 := Lib.hid ((D3.out _ _ _).read hr hg); clear hr hg D3
  have e4 : rdNum 16 (q3 bs).2 = q4 bs := rfl
  have h16 : (q4 bs).1 ≤ 16 := rdNum_le 16 _
  rw [e4]
  rw [e4] at D4
  clear e4
  generalize hn : (q4 bs).1 = n at *
  have Hn := Lib.hid hn; clear hn
  have hT1 : w1.heap.size ≤ w4.heap.size := Hz4.out
  go_wp2
  go_loopw [7] (fun i wr => ∃ (k : Nat) (tv : Value), k ≤ n ∧ i = .int .i64 k ∧ Hid (QDec wb wb.heap.size w4.heap.size b wr (strOf (q1 bs).1) (q2 bs).1 (q3 bs).1 (rdPacks k (q4 bs).2).1 (rdPacks k (q4 bs).2).2 tv)) (fun i _ => n - (intOf i).toNat)
  case atStart => exact ⟨0, _, by omega, rfl, D4.out⟩
  case round =>
    obtain ⟨k, tv, hk, rfl, D⟩ := hrel
    clear D4
    by_cases h4 : k < n
    · have Dd := Lib.hid D.out.drew
      obtain ⟨⟨-, -, -, c3⟩, -⟩ := D.out.cell
      have Hl : Hid ((rdPacks k (q4 bs).2).1.length ≤ 1000000) := by show _ ≤ _; rw [rdPacks_length]; omega
      have Htl : Hid (∀ g, tv.ownBlock = some g → w4.heap.size < g) := D.out.lie
      have Hnext : Hid (rdPacks (k + 1) (q4 bs).2 = ((rdPacks k (q4 bs).2).1 ++ [⟨strOf (rdText 32 (rdPacks k (q4 bs).2).2).1, strOf (rdText 512 (rdText 32 (rdPacks k (q4 bs).2).2).2).1⟩], (rdText 512 (rdText 32 (rdPacks k (q4 bs).2).2).2).2)) := rfl
      go_wp2
      go_region_law (first
        | (refine step_append_pack (by rfl) _ _ (by rfl) tv (rdPacks k (q4 bs).2).1 (by rfl) (Drow.out _) ⟨strOf (rdText 32 (rdPacks k (q4 bs).2).2).1, strOf (rdText 512 (rdText 32 (rdPacks k (q4 bs).2).2).2).1⟩ w7.heap.size (by rfl) (heap_alloc_new w7 _) Hl.out ?_; intro g m cap w8 hrow8 hg8 hat8; have D8 := Lib.hid (D7.out.append hrow8 hg8 hat8); have hh8 := (hg8.block w4.heap.size (by simp; omega) (fun e => absurd (Htl.out _ e.symm) (Nat.lt_irrefl _))).trans ((Below.heap_alloc w7 _ w4.heap.size hlt7).trans D7.out.heap); have c8 : w8.cell? ⟨w4.heap.size, 3, none⟩ = some tv := cell_of_heap hh8 3; have f8 : w8.frozen? ⟨w4.heap.size, 3, none⟩ = false := frozen_of_heap hh8 3; clear hrow8 hg8 hat8 hh8)
        | (go_simp; go_at_call 52; refine (rText_any _ b 32 _ _ Dd.out.rd).mono ?_; rintro e w6 ⟨rfl, hr, hg⟩; have D6 := Lib.hid (Dd.out.read hr hg); clear hr hg; have c6 := D6.out.cell.1.2.2.2)
        | (go_simp; go_at_call 52; refine (rText_any _ b 512 _ _ D6.out.rd).mono ?_; rintro e w7 ⟨rfl, hr, hg⟩; have D7 := Lib.hid (D6.out.read hr hg); clear hr hg; have c7 := D7.out.cell.1.2.2.2; have hlt7 := lt_of_heap D7.out.heap; have hne7 := World.new_ne w7 ⟨w4.heap.size, 3, none⟩ c7; have Drow : Hid (∀ o, PRow (w7.alloc o) tv (rdPacks k (q4 bs).2).1) := fun o => World.ownsRow.alloc D7.out.row o))
      all_goals
        go_wp2
        go_roundw
        case rel => exact ⟨k + 1, _, by omega, by go_num, by show QDec _ _ _ _ _ _ _ _ _ _ _; rw [Hnext.out]; exact D8.out⟩
        case measure => simp [intOf]; omega
    · obtain rfl : k = n := by omega
      have e4 : rdPacks k (q4 bs).2 = q5 bs := by rw [← Hn.out]; rfl
      rw [e4] at D
      clear e4
      go_wp2_with fail
      refine (rClose_any _ b _ _ D.out.rd).mono ?_
      rintro e w6 ⟨rfl, rfl⟩
      obtain ⟨av, cv, hcv, hform⟩ := row_form D.out.row
      generalize hnl : (q5 bs).1.length = nl at *
      subst hcv
      clear hform
      obtain ⟨⟨c0, c1, c2, c3⟩, -⟩ := D.out.cell
      have hR6 := (D.out.below.block w.heap.size hwsz).trans HRb.out
      have r0 : wr.cell? ⟨w.heap.size, 0, none⟩ = some (.string ⟨#[]⟩) := cell_of_heap hR6 0
      have r1 : wr.cell? ⟨w.heap.size, 1, none⟩ = some (.int .i64 0) := cell_of_heap hR6 1
      have r2 : wr.cell? ⟨w.heap.size, 2, none⟩ = some (.int .i64 0) := cell_of_heap hR6 2
      have r3 : wr.cell? ⟨w.heap.size, 3, none⟩ = some (.slice none 0 0) := cell_of_heap hR6 3
      have g0 : wr.frozen? ⟨w.heap.size, 0, none⟩ = false := frozen_of_heap hR6 0
      have g1 : wr.frozen? ⟨w.heap.size, 1, none⟩ = false := frozen_of_heap hR6 1
      have g2 : wr.frozen? ⟨w.heap.size, 2, none⟩ = false := frozen_of_heap hR6 2
      have g3 : wr.frozen? ⟨w.heap.size, 3, none⟩ = false := frozen_of_heap hR6 3
      have HR6 := Lib.hid hR6; clear hR6
      have HBr : Hid (Below w.heap.size w wr) := Hwb.out.trans (D.out.below.mono (Nat.le_of_lt hwsz))
      generalize hcl : rdClose (q5 bs).2 = q at *
      have Hcl := Lib.hid hcl; clear hcl
      by_cases hq : q = 0
      · subst hq
        have hck : Hid (checkQ ⟨strOf (q1 bs).1, (q2 bs).1, (q3 bs).1, (q5 bs).1⟩ = checkQ (decQP bs)) := rfl
        have hz1 : (strOf (q1 bs).1).size ≤ 70368744177664 := Nat.le_trans (rdText_size 64 _) (by decide)
        have hz4 : Hid (∀ x ∈ (q5 bs).1, x.src.size ≤ 70368744177664 ∧ x.bytes.size ≤ 70368744177664) := fun x hx => by have := rdPacks_size _ _ x hx; omega
        have hnl' : nl ≤ 16 := by rw [← hnl]; unfold q5; rw [rdPacks_length]; rw [Hn.out]; exact h16
        have Hnl := Lib.hid hnl; clear hnl
        obtain ⟨cq, hcq⟩ : ∃ cq, checkQ (decQP bs) = cq := ⟨_, rfl⟩
        have Hcq := Lib.hid hcq; clear hcq
        rw [Hcq.out] at hck
        have e6 : Hid ((⟨strOf (q1 bs).1, (q2 bs).1, (q3 bs).1, (q5 bs).1⟩ : PortT) = decQP bs) := rfl
        have Hdec : Hid (decQ s = if cq ≠ 0 then (zeroQ, cq) else (decQP bs, 0)) := by
          show _ = _
          unfold decQ
          rw [Hbs.out, Hcl.out, Hcq.out, if_neg (by simp)]
        generalize strOf (q1 bs).1 = ow at *
        generalize ((q2 bs).1 : Int) = ep at *
        generalize ((q3 bs).1 : Int) = lo at *
        go_wp2_with fail
        refine (lCheck_is ow ep lo _ nl _ _ _ hck.out _ D.out.row.sl hz1 (by omega) hz4.out).mono ?_
        rintro e w7 ⟨rfl, hb7⟩
        have hR7 := (hb7.block w.heap.size (lt_of_heap HR6.out)).trans HR6.out
        have hT7 := (hb7.block w4.heap.size (lt_of_heap D.out.heap)).trans D.out.heap
        have H7 : Hid (Below w.heap.size w w7) := HBr.out.trans (hb7.mono (Nat.le_of_lt (lt_of_heap HR6.out)))
        have Hrow7 : Hid (PRow w7 (.slice av nl cv) (q5 bs).1) := D.out.row.grown (grown_of_below hb7 none) (fun k hk => by cases hk)
        clear r0 r1 r2 r3 g0 g1 g2 g3 c0 c1 c2 c3
        have c0 : w7.cell? ⟨w4.heap.size, 0, none⟩ = some (.string ow) := cell_of_heap hT7 0
        have c1 : w7.cell? ⟨w4.heap.size, 1, none⟩ = some (.int .i64 ep) := cell_of_heap hT7 1
        have c2 : w7.cell? ⟨w4.heap.size, 2, none⟩ = some (.int .i64 lo) := cell_of_heap hT7 2
        have c3 : w7.cell? ⟨w4.heap.size, 3, none⟩ = some (.slice av nl cv) := cell_of_heap hT7 3
        have r0 : w7.cell? ⟨w.heap.size, 0, none⟩ = some (.string ⟨#[]⟩) := cell_of_heap hR7 0
        have r1 : w7.cell? ⟨w.heap.size, 1, none⟩ = some (.int .i64 0) := cell_of_heap hR7 1
        have r2 : w7.cell? ⟨w.heap.size, 2, none⟩ = some (.int .i64 0) := cell_of_heap hR7 2
        have r3 : w7.cell? ⟨w.heap.size, 3, none⟩ = some (.slice none 0 0) := cell_of_heap hR7 3
        have g0 : w7.frozen? ⟨w.heap.size, 0, none⟩ = false := frozen_of_heap hR7 0
        have g1 : w7.frozen? ⟨w.heap.size, 1, none⟩ = false := frozen_of_heap hR7 1
        have g2 : w7.frozen? ⟨w.heap.size, 2, none⟩ = false := frozen_of_heap hR7 2
        have g3 : w7.frozen? ⟨w.heap.size, 3, none⟩ = false := frozen_of_heap hR7 3
        clear hR7 hT7 hb7
        by_cases hq : cq = 0
        · subst hq
          have he : Hid (decQ s = (decQP bs, 0)) := Hdec.out.trans (by simp)
          go_wp2
          refine bodyPost_ret (v := .tuple #[.agg #[.string ow, .int .i64 ep, .int .i64 lo, .slice av nl cv], .int .i64 0]) (by simp [results, Tryd.results20, go_sem, r0, r1, r2, r3]) rfl ?_
          rw [he.out]
          have hlie := D.out.lie
          have hlow := D.out.low
          show PortPost w (decQP bs) 0 _ _
          rw [← e6.out]
          exact port_post (p := ⟨ow, ep, lo, (q5 bs).1⟩) (e := 0) H7.out (grown_set4 _ _ (.string ow) (.int .i64 ep) (.int .i64 lo) (.slice av nl cv)) Hrow7.out (fun g hg => by have := hlie g hg; omega)
        · have hq' : ((cq : Int) != 0) = true := bne_iff_ne.2 (by omega)
          have he : Hid (decQ s = (zeroQ, cq)) := Hdec.out.trans (if_pos hq)
          clear hq
          go_wp2
          refine bodyPost_ret (v := .tuple #[.agg #[.string ⟨#[]⟩, .int .i64 0, .int .i64 0, .slice none 0 0], .int .i64 cq]) (by simp [results, Tryd.results20, go_sem, r0, r1, r2, r3]) rfl ?_
          rw [he.out]
          exact nilQ_post H7.out (grown_set4 _ _ _ _ _ _)
      · have hq' : ((q : Int) != 0) = true := bne_iff_ne.2 (by omega)
        have he : Hid (decQ s = (zeroQ, q)) := by
          show _ = _
          unfold decQ
          rw [Hbs.out, Hcl.out, if_pos hq]
        clear hq
        go_wp2
        refine bodyPost_ret (v := .tuple #[.agg #[.string ⟨#[]⟩, .int .i64 0, .int .i64 0, .slice none 0 0], .int .i64 q]) (by simp [results, Tryd.results20, go_sem, r0, r1, r2, r3]) rfl ?_
        rw [he.out]
        exact nilQ_post HBr.out (grown_set4 _ _ _ _ _ _)

end Go.Proofs.YtemmeopaihmlcaaDoor
