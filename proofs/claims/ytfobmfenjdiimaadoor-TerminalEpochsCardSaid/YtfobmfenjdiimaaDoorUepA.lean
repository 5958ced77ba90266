/- Law 36: TerminalEpochs. (printed by wip/gen_uep.py) -/
import Derived.Test.YtfobmfenjdiimaaDoorUpaA
namespace Go.Proofs.YtfobmfenjdiimaaDoor
open Go.RowKit
attribute [local go_sem ↓] Go.wp_at_zero Go.wp_at_succ

theorem run_field_T (w : World) (x0 x1 x2 x3 : Value) : (Instr.field 24 (.agg #[x0, x1, x2, x3]) 0).run Tryd.prog w = .ok x0 w := by
  simp [Instr.field, asAgg, go_sem]
attribute [local go_sem ↓] run_field_T
set_option linter.unusedSimpArgs false in
set_option maxRecDepth 100000 in
set_option maxHeartbeats 12800000 in
theorem tepochs_any (a : Option Addr) (n c : Nat) (f : Nat → OpU) (num ep : Int) (w : World) (hu : Usages w) (hops : OpSlU w a n f) :
    Calls Tryd.prog 5 #[.slice a n c, .int .i64 num, .int .i64 ep] w fun r w' => r = .returned (.bool true) ∧ Below w.heap.size w w' := by
  have HU : Hid (∀ W, Below w.heap.size w W → Usages W) := fun W hW => hu.below hW hu.pos
  have HO : Hid (∀ W, Below w.heap.size w W → OpSlU W a n f) := fun W hW => hops.later hW
  clear hu hops
  go_enter Tryd.func5, Tryd.ntmps5
  go_wp2_with fail
  refine (known_any w (HU.out w (Below.refl _ _))).mono ?_
  rintro r w1 ⟨rfl, hb⟩
  have HB1 : Hid (Below w.heap.size w w1) := hb
  clear hb
  go_wp2_with fail
  refine (qmEmpty36 w1 (HU.out w1 HB1.out)).mono ?_
  rintro r w2 ⟨rfl, hnew⟩
  have HNew := Lib.hid hnew
  clear hnew
  go_wp2_with fail
  refine HNew.out.mono ?_
  rintro r w3 ⟨rfl, s3⟩
  have HS3 := Lib.hid s3
  clear s3 HNew
  go_wp2_with fail
  refine (play36_any HS3.out relU_empty a n c f (fun W hW => HO.out W (HB1.out.trans (hW.mono HB1.out.size)))).mono ?_
  rintro r w4 ⟨V, l, rfl, hp, hr⟩
  have HI0 : Hid (PU w1 w3 w4 (w1.heap.size + 3) 0 V (fun _ => False) w3.heap.size l ∧ RelU V (funR l) 30) := ⟨hp, hr⟩
  clear hp hr HS3 HO HU
  generalize w1.heap.size + 3 = b at *
  have HG := qtGet HI0.out.1.s num ep
  have HB4 : Hid (Below w.heap.size w w4) := HB1.out.trans (HI0.out.1.s.below.mono HB1.out.size)
  cases hr : inRange num ep with
  | false =>
    have hways : num < 1 ∨ (¬ num < 1 ∧ 99 < num) ∨ (¬ num < 1 ∧ ¬ 99 < num ∧ ep < 0) ∨ (¬ num < 1 ∧ ¬ 99 < num ∧ ¬ ep < 0 ∧ 1073741824 < ep) := by
      have h : ¬ (1 ≤ num ∧ num ≤ 99 ∧ 0 ≤ ep ∧ ep ≤ 1073741824) := fun h => (Bool.eq_false_iff.1 hr) (inRange_iff.2 h)
      omega
    have hg : tGet V num ep = (zeroT, 2) := if_pos hr
    rw [hg] at HG
    clear hg hr
    have HG2 := Lib.hid HG
    clear HG
    go_wp2_with fail
    refine HG2.out.mono ?_
    rintro r w5 ⟨ga, gn, gc, rfl, hrow, -, hs5, -⟩
    have HRow : Hid (SSl w5 ga gn []) := hrow.sl
    have HB5 : Hid (Below w.heap.size w w5) := HB1.out.trans (hs5.below.mono HB1.out.size)
    clear hrow hs5 HG2
    dsimp only [zeroT]
    have HA : Hid (∀ o, Below w5.heap.size w5 (w5.alloc o)) := fun o => (Below.refl _ _).alloc (Nat.le_refl _) _
    have HX : Hid (∀ o, (w5.alloc o).heap[w5.heap.size]? = some o) := fun o => World.alloc_heap_new w5 o
    have HEq : Hid (∀ W, Below w5.heap.size w5 W → Calls Tryd.prog 18 #[.agg #[.int .i64 0, .string ⟨#[]⟩, .slice ga gn gc, .string ⟨#[]⟩], .agg #[.int .i64 0, .string ⟨#[]⟩, .slice none 0 0, .string ⟨#[]⟩]] W fun r w' => r = .returned (.bool true) ∧ Below W.heap.size W w') := fun W hW => by
      have h1 := HRow.out.later hW
      refine (tEqual_any 0 ⟨#[]⟩ ⟨#[]⟩ ga gn gc [] 0 ⟨#[]⟩ ⟨#[]⟩ none 0 0 [] W h1 (SSl.nil _) (by have := h1.1; simp at this; omega)).mono ?_
      rintro r w' ⟨rfl, h⟩
      exact ⟨by rw [decide_eq_true rfl], h⟩
    rcases hways with h1 | ⟨h1, h2⟩ | ⟨h1, h2, h3⟩ | ⟨h1, h2, h3, h4⟩
    all_goals
      go_wp2_with fail
      refine (HEq.out _ (HA.out _)).mono ?_
      rintro r w6 ⟨rfl, hb6⟩
      have HF : Hid (Below w.heap.size w w6) := HB5.out.trans (((HA.out _).trans (hb6.mono (HA.out _).size)).mono HB5.out.size)
      clear hb6
      go_wp2
      go_ret
      exact ⟨rfl, HF.out⟩
  | true =>
    obtain ⟨n1, n2, n3, n4⟩ := inRange_iff.1 hr
    obtain ⟨x0, hx, hxt, hxr, hxo, hxz⟩ := HI0.out.1.get ⟨30, HI0.out.2⟩ num
    obtain ⟨hg, hgc⟩ := hasT_get (HI0.out.2.has num) hr
    rw [hg] at HG
    rw [← hxt] at HG
    clear hg hr hxt
    obtain ⟨⟨xe, xs, xl, xc⟩, xa, xn, xk⟩ := x0
    dsimp only [encR] at hx hxr hxz HG
    have HG2 := Lib.hid HG
    clear HG
    have HLk : Hid (∀ W, MapZ encR W w3.heap.size l → (Instr.lookup 52 (.map (some w3.heap.size)) (.int .i64 num) false).run Tryd.prog W = .ok (.agg #[.int .i64 xe, .string xs, .slice xa xn xk, .string xc]) W) := fun W hW => by
      have h := run_lookup1_int encR W 52 24 Tryd.underlying52 (.agg #[.int .i64 0, .string ⟨#[]⟩, .slice none 0 0, .string ⟨#[]⟩]) (by kernel_rfl) w3.heap.size l hW num
      rw [hx] at h
      exact h
    have HXr : Hid (RowK kStr w4 (.slice xa xn xk) xl) := hxr
    have HXo : Hid (∀ k, ownR ⟨⟨xe, xs, xl, xc⟩, xa, xn, xk⟩ k → GP (fun _ => False) w3.heap.size l k) := fun k hk => (hxo k hk).2
    have HXz : Hid (xl.length ≤ 100000) := hxz.2.2
    clear hx hxr hxo hxz hgc
    go_wp2_with fail
    refine HG2.out.mono ?_
    rintro r w5 ⟨ga, gn, gc, rfl, hrow, -, hs5, hk5⟩
    have HRow : Hid (SSl w5 ga gn (inT ⟨xe, xs, xl, xc⟩ ep).typed) := hrow.sl
    have HB5 : Hid (Below w.heap.size w w5) := HB1.out.trans (hs5.below.mono HB1.out.size)
    have HP5 : Hid (PU w1 w3 w5 b 0 (tSeen V num ep) (fun _ => False) w3.heap.size l) := HI0.out.1.step hs5 hk5
    have HX5 : Hid (RowK kStr w5 (.slice xa xn xk) xl) := HXr.out.same (fun k hk => hk5 k (HXo.out k hk))
    clear hrow hs5 hk5 HG2 HXr HXo HI0 HB4
    have HA : Hid (∀ o, Below w5.heap.size w5 (w5.alloc o)) := fun o => (Below.refl _ _).alloc (Nat.le_refl _) _
    have HX : Hid (∀ o, (w5.alloc o).heap[w5.heap.size]? = some o) := fun o => World.alloc_heap_new w5 o
    by_cases he : xe = ep
    · have hin : inT ⟨xe, xs, xl, xc⟩ ep = ⟨xe, xs, xl, xc⟩ := if_pos he
      rw [hin] at HRow ⊢
      dsimp only at HRow ⊢
      have heq : (xe == ep) = true := by rw [he]; exact beq_self_eq_true _
      clear hin he
      have HSm : Hid (∀ W, Below w5.heap.size w5 W → W.heap[w5.heap.size]? = some (.cells #[.int .i64 xe, .string xs, .slice ga gn gc, .string xc] 33 (0, 0)) → (W.cell? ⟨w5.heap.size, 0, none⟩ = some (.int .i64 xe) ∧ W.cell? ⟨w5.heap.size, 1, none⟩ = some (.string xs) ∧ W.cell? ⟨w5.heap.size, 2, none⟩ = some (.slice ga gn gc) ∧ W.cell? ⟨w5.heap.size, 3, none⟩ = some (.string xc) ∧ (Instr.lookup 52 (.map (some w3.heap.size)) (.int .i64 num) false).run Tryd.prog W = .ok (.agg #[.int .i64 xe, .string xs, .slice xa xn xk, .string xc]) W)) := fun W hW hc => ⟨cell_of_heap hc 0, cell_of_heap hc 1, cell_of_heap hc 2, cell_of_heap hc 3, HLk.out W (HP5.out.later hW).m⟩
      have HOf : Hid (∀ W, Below w5.heap.size w5 W → Calls Tryd.prog 17 #[.agg #[.int .i64 xe, .string xs, .slice ga gn gc, .string xc]] W fun r w' => ∃ b d, r = .returned (.agg #[.int .i64 xe, .string xs, .slice b gn d, .string xc]) ∧ SSl w' b gn xl ∧ Below W.heap.size W w') := fun W hW => by
        have h1 := HRow.out.later hW
        have h2 := h1.1
        refine (of36_any xe xs xc ga gn gc xl W h1 (by have := HXz.out; omega)).mono ?_
        rintro r w' ⟨b, d, h3, h4, -, h6⟩
        dsimp only at h3 h4
        rw [h2] at h3 h4
        exact ⟨b, d, h3, h4.sl, h6⟩
      have HIn : Hid (∀ W, Below w5.heap.size w5 W → Calls Tryd.prog 25 #[.agg #[.int .i64 xe, .string xs, .slice xa xn xk, .string xc], .int .i64 ep] W fun r w' => ∃ a' n' c', r = .returned (.agg #[.int .i64 xe, .string xs, .slice a' n' c', .string xc]) ∧ SSl w' a' n' xl ∧ Below W.heap.size W w') := fun W hW => by
        have h := in36_is xe xs xc xa xn xk xl ep W (HX5.out.later hW)
        rw [show inT ⟨xe, xs, xl, xc⟩ ep = ⟨xe, xs, xl, xc⟩ from if_pos (beq_iff_eq.1 heq)] at h
        refine h.mono ?_
        rintro r w' ⟨a', n', c', h1, h2, -, h4⟩
        exact ⟨a', n', c', h1, h2.ssl, h4⟩
      have HSame : Hid (∀ W b d a' n' c', SSl W b gn xl → SSl W a' n' xl → Calls Tryd.prog 16 #[.agg #[.int .i64 xe, .string xs, .slice b gn d, .string xc], .agg #[.int .i64 xe, .string xs, .slice a' n' c', .string xc]] W fun r w' => r = .returned (.bool true) ∧ Below W.heap.size W w') := fun W b d a' n' c' h1 h2 => by
        have h3 := h1.1
        refine (rSame36_any xe xs xc b gn d xl xe xs xc a' n' c' xl W h1 h2 (by have := HXz.out; omega)).mono ?_
        rintro r w' ⟨rfl, h⟩
        exact ⟨by rw [decide_eq_true rfl], h⟩
      go_upto_region 10 with fail
      have hcx := HX.out (.cells #[.int .i64 xe, .string xs, .slice ga gn gc, .string xc] 33)
      have Hcx := Lib.hid hcx
      clear hcx
      have HA6 : Hid (Below w5.heap.size w5 (w5.alloc (.cells #[.int .i64 xe, .string xs, .slice ga gn gc, .string xc] 33))) := HA.out _
      clear HA HX
      generalize w5.alloc (.cells #[.int .i64 xe, .string xs, .slice ga gn gc, .string xc] 33) = w6 at *
      have HD0 : Hid (Below w5.heap.size w5 w6.drew) := HA6.out.drew
      have Hcd : Hid (∀ W, Below w6.heap.size w6 W → W.heap[w5.heap.size]? = some (.cells #[.int .i64 xe, .string xs, .slice ga gn gc, .string xc] 33 (0, 0))) := fun W hW => (hW.block _ (lt_of_heap Hcx.out)).trans Hcx.out
      have HE0 : Hid (Below w6.heap.size w6 w6.drew) := (Below.refl _ _).drew
      refine wp_region_held_drew (S := (fun W => W.cell? ⟨w5.heap.size, 0, none⟩ = some (.int .i64 xe) ∧ W.cell? ⟨w5.heap.size, 1, none⟩ = some (.string xs) ∧ W.cell? ⟨w5.heap.size, 2, none⟩ = some (.slice ga gn gc) ∧ W.cell? ⟨w5.heap.size, 3, none⟩ = some (.string xc) ∧ (Instr.lookup 52 (.map (some w3.heap.size)) (.int .i64 num) false).run Tryd.prog W = .ok (.agg #[.int .i64 xe, .string xs, .slice xa xn xk, .string xc]) W)) (by kernel_rfl) (HSm.out _ (HA6.out.trans (HE0.out.mono HA6.out.size)) (Hcd.out _ HE0.out)) (fun hHeld0 => ?_)
      refine wpAnyH_take (i := 0) (v := ?_) rfl (by kernel_rfl) (by kernel_rfl) (by kernel_rfl) (fun _ _ _ h => h) (Or.inl ⟨by rfl, ?_⟩) (by assumption) ?_
      rotate_left
      · (intro wx hSw; (try dsimp only at hSw); go_simp <;> with_reducible rfl)
      try simp only [Act.put, List.setIfInBounds_toArray, List.set_cons_zero, List.set_cons_succ, List.getElem_toArray, List.getElem_cons_zero, List.getElem_cons_succ]
      refine wpAnyH_take (i := 1) (v := ?_) rfl (by kernel_rfl) (by kernel_rfl) (by kernel_rfl) (fun _ _ _ h => h) (Or.inl ⟨by rfl, ?_⟩) (by assumption) ?_
      rotate_left
      · (intro wx hSw; (try dsimp only at hSw); go_simp <;> with_reducible rfl)
      try simp only [Act.put, List.setIfInBounds_toArray, List.set_cons_zero, List.set_cons_succ, List.getElem_toArray, List.getElem_cons_zero, List.getElem_cons_succ]
      refine wpAnyH_take (i := 2) (v := ?_) rfl (by kernel_rfl) (by kernel_rfl) (by kernel_rfl) (fun _ _ _ h => h) (Or.inl ⟨by rfl, ?_⟩) (by assumption) ?_
      rotate_left
      · (intro wx hSw; (try dsimp only at hSw); go_simp <;> with_reducible rfl)
      try simp only [Act.put, List.setIfInBounds_toArray, List.set_cons_zero, List.set_cons_succ, List.getElem_toArray, List.getElem_cons_zero, List.getElem_cons_succ]
      refine wpAnyH_take (i := 3) (v := ?_) rfl (by kernel_rfl) (by kernel_rfl) (by kernel_rfl) (fun _ _ _ h => h) (Or.inl ⟨by rfl, ?_⟩) (by assumption) ?_
      rotate_left
      · (intro wx hSw; (try dsimp only at hSw); go_simp <;> with_reducible rfl)
      try simp only [Act.put, List.setIfInBounds_toArray, List.set_cons_zero, List.set_cons_succ, List.getElem_toArray, List.getElem_cons_zero, List.getElem_cons_succ]
      refine wpAnyH_take (i := 5) (v := ?_) rfl (by kernel_rfl) (by kernel_rfl) (by kernel_rfl) (fun _ _ _ h => h) (Or.inl ⟨by rfl, ?_⟩) (by assumption) ?_
      rotate_left
      · (intro wx hSw; (try dsimp only at hSw); go_simp <;> with_reducible rfl)
      try simp only [Act.put, List.setIfInBounds_toArray, List.set_cons_zero, List.set_cons_succ, List.getElem_toArray, List.getElem_cons_zero, List.getElem_cons_succ]
      refine wpAnyH_take (i := 6) (v := ?_) rfl (by kernel_rfl) (by kernel_rfl) (by kernel_rfl) (fun _ _ _ h => h) (Or.inl ⟨by rfl, ?_⟩) (by assumption) ?_
      rotate_left
      · (intro wx hSw; (try dsimp only at hSw); go_simp <;> with_reducible rfl)
      try simp only [Act.put, List.setIfInBounds_toArray, List.set_cons_zero, List.set_cons_succ, List.getElem_toArray, List.getElem_cons_zero, List.getElem_cons_succ]
      refine wpAnyH_take (i := 7) (v := ?_) rfl (by kernel_rfl) (by kernel_rfl) (by kernel_rfl) (fun _ _ _ h => h) (Or.inl ⟨by rfl, ?_⟩) (by assumption) ?_
      rotate_left
      · (intro wx hSw; (try dsimp only at hSw); go_simp <;> with_reducible rfl)
      try simp only [Act.put, List.setIfInBounds_toArray, List.set_cons_zero, List.set_cons_succ, List.getElem_toArray, List.getElem_cons_zero, List.getElem_cons_succ]
      refine wpAnyH_take (i := 8) (v := ?_) rfl (by kernel_rfl) (by kernel_rfl) (by kernel_rfl) (fun _ _ _ h => h) (Or.inl ⟨by rfl, ?_⟩) (by assumption) ?_
      rotate_left
      · (intro wx hSw; (try dsimp only at hSw); go_simp <;> with_reducible rfl)
      try simp only [Act.put, List.setIfInBounds_toArray, List.set_cons_zero, List.set_cons_succ, List.getElem_toArray, List.getElem_cons_zero, List.getElem_cons_succ]
      refine wpAnyH_ready (rs := [4]) (by kernel_rfl) (by simp) ?_
      refine AllReadyH.cons rfl (fun K hK => ?_) AllReadyH.nil
      go_simp
      go_at_call 17
      (with_reducible refine (HOf.out _ (HA6.out.trans (HE0.out.mono HA6.out.size))).mono ?_)
      rintro r v1 ⟨b1, d1, rfl, hr1, hb⟩
      have HE1 : Hid (Below w6.heap.size w6 v1) := HE0.out.trans (hb.mono HE0.out.size)
      have R1 := Lib.hid hr1
      clear hr1 hb
      go_wp2_with fail
      refine hK.out _ _ (HSm.out _ (HA6.out.trans (HE1.out.mono HA6.out.size)) (Hcd.out _ HE1.out)) (fun hHeld1 => ?_)
      clear hK K hHeld0
      try simp only [Act.put, List.setIfInBounds_toArray, List.set_cons_zero, List.set_cons_succ, List.getElem_toArray, List.getElem_cons_zero, List.getElem_cons_succ]
      refine wpAnyH_ready (rs := [9]) (by kernel_rfl) (by simp) ?_
      refine AllReadyH.cons rfl (fun K hK => ?_) AllReadyH.nil
      go_simp
      go_at_call 25
      (with_reducible refine (HIn.out _ (HA6.out.trans (HE1.out.mono HA6.out.size))).mono ?_)
      rintro r v2 ⟨a2, n2', c2, rfl, hr2, hb⟩
      have HE2 : Hid (Below w6.heap.size w6 v2) := HE1.out.trans (hb.mono HE1.out.size)
      have R2 := Lib.hid hr2
      have R1b := Lib.hid (R1.out.later hb)
      clear hr2 hb R1
      go_wp2_with fail
      refine hK.out _ _ (HSm.out _ (HA6.out.trans (HE2.out.mono HA6.out.size)) (Hcd.out _ HE2.out)) (fun hHeld2 => ?_)
      clear hK K hHeld1
      try simp only [Act.put, List.setIfInBounds_toArray, List.set_cons_zero, List.set_cons_succ, List.getElem_toArray, List.getElem_cons_zero, List.getElem_cons_succ]
      refine wpAnyH_ready (rs := [10]) (by kernel_rfl) (by simp) ?_
      refine AllReadyH.cons rfl (fun K hK => ?_) AllReadyH.nil
      go_simp
      go_at_call 16
      (with_reducible refine (HSame.out _ _ _ _ _ _ R1b.out R2.out).mono ?_)
      rintro r v3 ⟨rfl, hb⟩
      have HE3 : Hid (Below w6.heap.size w6 v3) := HE2.out.trans (hb.mono HE2.out.size)
      clear hb R1b R2
      go_wp2_with fail
      refine hK.out _ _ (HSm.out _ (HA6.out.trans (HE3.out.mono HA6.out.size)) (Hcd.out _ HE3.out)) (fun hHeld3 => ?_)
      clear hK K hHeld2
      try simp only [Act.put, List.setIfInBounds_toArray, List.set_cons_zero, List.set_cons_succ, List.getElem_toArray, List.getElem_cons_zero, List.getElem_cons_succ]
      refine wpAnyH_take (i := 11) (v := ?_) rfl (by kernel_rfl) (by kernel_rfl) (by kernel_rfl) (fun _ _ _ h => h) (Or.inl ⟨by rfl, ?_⟩) (by assumption) ?_
      rotate_left
      · (intro wx hSw; (try dsimp only at hSw); go_simp <;> with_reducible rfl)
      try simp only [Act.put, List.setIfInBounds_toArray, List.set_cons_zero, List.set_cons_succ, List.getElem_toArray, List.getElem_cons_zero, List.getElem_cons_succ]
      refine wpAnyH_take (i := 12) (v := ?_) rfl (by kernel_rfl) (by kernel_rfl) (by kernel_rfl) (fun _ _ _ h => h) (Or.inl ⟨by rfl, ?_⟩) (by assumption) ?_
      rotate_left
      · (intro wx hSw; (try dsimp only at hSw); go_simp <;> with_reducible rfl)
      try simp only [Act.put, List.setIfInBounds_toArray, List.set_cons_zero, List.set_cons_succ, List.getElem_toArray, List.getElem_cons_zero, List.getElem_cons_succ]
      refine wpAnyH_take (i := 13) (v := ?_) rfl (by kernel_rfl) (by kernel_rfl) (by kernel_rfl) (fun _ _ _ h => h) (Or.inl ⟨by rfl, ?_⟩) (by assumption) ?_
      rotate_left
      · (intro wx hSw; (try dsimp only at hSw); go_simp <;> with_reducible rfl)
      try simp only [Act.put, List.setIfInBounds_toArray, List.set_cons_zero, List.set_cons_succ, List.getElem_toArray, List.getElem_cons_zero, List.getElem_cons_succ]
      refine wpAnyH_take (i := 14) (v := ?_) rfl (by kernel_rfl) (by kernel_rfl) (by kernel_rfl) (fun _ _ _ h => h) (Or.inl ⟨by rfl, ?_⟩) (by assumption) ?_
      rotate_left
      · (intro wx hSw; (try dsimp only at hSw); go_simp <;> with_reducible rfl)
      try simp only [Act.put, List.setIfInBounds_toArray, List.set_cons_zero, List.set_cons_succ, List.getElem_toArray, List.getElem_cons_zero, List.getElem_cons_succ]
      refine wpAnyH_take (i := 15) (v := ?_) rfl (by kernel_rfl) (by kernel_rfl) (by kernel_rfl) (fun _ _ _ h => h) (Or.inl ⟨by rfl, ?_⟩) (by assumption) ?_
      rotate_left
      · (intro wx hSw; (try dsimp only at hSw); go_simp <;> with_reducible rfl)
      try simp only [Act.put, List.setIfInBounds_toArray, List.set_cons_zero, List.set_cons_succ, List.getElem_toArray, List.getElem_cons_zero, List.getElem_cons_succ]
      refine wpAnyH_take (i := 16) (v := ?_) rfl (by kernel_rfl) (by kernel_rfl) (by kernel_rfl) (fun _ _ _ h => h) (Or.inl ⟨by rfl, ?_⟩) (by assumption) ?_
      rotate_left
      · (intro wx hSw; (try dsimp only at hSw); go_simp <;> with_reducible rfl)
      try simp only [Act.put, List.setIfInBounds_toArray, List.set_cons_zero, List.set_cons_succ, List.getElem_toArray, List.getElem_cons_zero, List.getElem_cons_succ]
      refine wpAnyH_take (i := 17) (v := ?_) rfl (by kernel_rfl) (by kernel_rfl) (by kernel_rfl) (fun _ _ _ h => h) (Or.inl ⟨by rfl, ?_⟩) (by assumption) ?_
      rotate_left
      · (intro wx hSw; (try dsimp only at hSw); go_simp <;> with_reducible rfl)
      try simp only [Act.put, List.setIfInBounds_toArray, List.set_cons_zero, List.set_cons_succ, List.getElem_toArray, List.getElem_cons_zero, List.getElem_cons_succ]
      refine wpAnyH_take (i := 18) (v := ?_) rfl (by kernel_rfl) (by kernel_rfl) (by kernel_rfl) (fun _ _ _ h => h) (Or.inl ⟨by rfl, ?_⟩) (by assumption) ?_
      rotate_left
      · (intro wx hSw; (try dsimp only at hSw); go_simp <;> with_reducible rfl)
      try simp only [Act.put, List.setIfInBounds_toArray, List.set_cons_zero, List.set_cons_succ, List.getElem_toArray, List.getElem_cons_zero, List.getElem_cons_succ]
      refine wpAnyH_take (i := 19) (v := ?_) rfl (by kernel_rfl) (by kernel_rfl) (by kernel_rfl) (fun _ _ _ h => h) (Or.inl ⟨by rfl, ?_⟩) (by assumption) ?_
      rotate_left
      · (intro wx hSw; (try dsimp only at hSw); go_simp <;> with_reducible rfl)
      try simp only [Act.put, List.setIfInBounds_toArray, List.set_cons_zero, List.set_cons_succ, List.getElem_toArray, List.getElem_cons_zero, List.getElem_cons_succ]
      refine wpAnyH_take (i := 20) (v := undef) rfl (by kernel_rfl) (by kernel_rfl) (by kernel_rfl) (fun _ _ _ h => h) (Or.inr ⟨by simp [Region.wanted, yielded, undef], rfl⟩) (by assumption) ?_
      try simp only [Act.put, List.setIfInBounds_toArray, List.set_cons_zero, List.set_cons_succ, List.getElem_toArray, List.getElem_cons_zero, List.getElem_cons_succ]
      refine wpAnyH_take (i := 21) (v := undef) rfl (by kernel_rfl) (by kernel_rfl) (by kernel_rfl) (fun _ _ _ h => h) (Or.inr ⟨by simp [Region.wanted, yielded, undef], rfl⟩) (by assumption) ?_
      try simp only [Act.put, List.setIfInBounds_toArray, List.set_cons_zero, List.set_cons_succ, List.getElem_toArray, List.getElem_cons_zero, List.getElem_cons_succ]
      refine wpAnyH_take (i := 22) (v := undef) rfl (by kernel_rfl) (by kernel_rfl) (by kernel_rfl) (fun _ _ _ h => h) (Or.inr ⟨by simp [Region.wanted, yielded, undef], rfl⟩) (by assumption) ?_
      try simp only [Act.put, List.setIfInBounds_toArray, List.set_cons_zero, List.set_cons_succ, List.getElem_toArray, List.getElem_cons_zero, List.getElem_cons_succ]
      refine wpAnyH_take (i := 23) (v := undef) rfl (by kernel_rfl) (by kernel_rfl) (by kernel_rfl) (fun _ _ _ h => h) (Or.inr ⟨by simp [Region.wanted, yielded, undef], rfl⟩) (by assumption) ?_
      try simp only [Act.put, List.setIfInBounds_toArray, List.set_cons_zero, List.set_cons_succ, List.getElem_toArray, List.getElem_cons_zero, List.getElem_cons_succ]
      refine wpAnyH_take (i := 24) (v := undef) rfl (by kernel_rfl) (by kernel_rfl) (by kernel_rfl) (fun _ _ _ h => h) (Or.inr ⟨by simp [Region.wanted, yielded, undef], rfl⟩) (by assumption) ?_
      try simp only [Act.put, List.setIfInBounds_toArray, List.set_cons_zero, List.set_cons_succ, List.getElem_toArray, List.getElem_cons_zero, List.getElem_cons_succ]
      refine wpAnyH_take (i := 25) (v := undef) rfl (by kernel_rfl) (by kernel_rfl) (by kernel_rfl) (fun _ _ _ h => h) (Or.inr ⟨by simp [Region.wanted, yielded, undef], rfl⟩) (by assumption) ?_
      try simp only [Act.put, List.setIfInBounds_toArray, List.set_cons_zero, List.set_cons_succ, List.getElem_toArray, List.getElem_cons_zero, List.getElem_cons_succ]
      refine wpAnyH_take (i := 26) (v := undef) rfl (by kernel_rfl) (by kernel_rfl) (by kernel_rfl) (fun _ _ _ h => h) (Or.inr ⟨by simp [Region.wanted, yielded, undef], rfl⟩) (by assumption) ?_
      try simp only [Act.put, List.setIfInBounds_toArray, List.set_cons_zero, List.set_cons_succ, List.getElem_toArray, List.getElem_cons_zero, List.getElem_cons_succ]
      refine wpAnyH_take (i := 27) (v := undef) rfl (by kernel_rfl) (by kernel_rfl) (by kernel_rfl) (fun _ _ _ h => h) (Or.inr ⟨by simp [Region.wanted, yielded, undef], rfl⟩) (by assumption) ?_
      try simp only [Act.put, List.setIfInBounds_toArray, List.set_cons_zero, List.set_cons_succ, List.getElem_toArray, List.getElem_cons_zero, List.getElem_cons_succ]
      refine wpAnyH_take (i := 28) (v := undef) rfl (by kernel_rfl) (by kernel_rfl) (by kernel_rfl) (fun _ _ _ h => h) (Or.inr ⟨by simp [Region.wanted, yielded, undef], rfl⟩) (by assumption) ?_
      try simp only [Act.put, List.setIfInBounds_toArray, List.set_cons_zero, List.set_cons_succ, List.getElem_toArray, List.getElem_cons_zero, List.getElem_cons_succ]
      refine wpAnyH_take (i := 29) (v := undef) rfl (by kernel_rfl) (by kernel_rfl) (by kernel_rfl) (fun _ _ _ h => h) (Or.inr ⟨by simp [Region.wanted, yielded, undef], rfl⟩) (by assumption) ?_
      try simp only [Act.put, List.setIfInBounds_toArray, List.set_cons_zero, List.set_cons_succ, List.getElem_toArray, List.getElem_cons_zero, List.getElem_cons_succ]
      refine wpAnyH_take (i := 30) (v := undef) rfl (by kernel_rfl) (by kernel_rfl) (by kernel_rfl) (fun _ _ _ h => h) (Or.inr ⟨by simp [Region.wanted, yielded, undef], rfl⟩) (by assumption) ?_
      try simp only [Act.put, List.setIfInBounds_toArray, List.set_cons_zero, List.set_cons_succ, List.getElem_toArray, List.getElem_cons_zero, List.getElem_cons_succ]
      refine wpAnyH_take (i := 31) (v := undef) rfl (by kernel_rfl) (by kernel_rfl) (by kernel_rfl) (fun _ _ _ h => h) (Or.inr ⟨by simp [Region.wanted, yielded, undef], rfl⟩) (by assumption) ?_
      try simp only [Act.put, List.setIfInBounds_toArray, List.set_cons_zero, List.set_cons_succ, List.getElem_toArray, List.getElem_cons_zero, List.getElem_cons_succ]
      refine wpAnyH_take (i := 32) (v := undef) rfl (by kernel_rfl) (by kernel_rfl) (by kernel_rfl) (fun _ _ _ h => h) (Or.inr ⟨by simp [Region.wanted, yielded, undef], rfl⟩) (by assumption) ?_
      try simp only [Act.put, List.setIfInBounds_toArray, List.set_cons_zero, List.set_cons_succ, List.getElem_toArray, List.getElem_cons_zero, List.getElem_cons_succ]
      refine wpAnyH_take (i := 33) (v := undef) rfl (by kernel_rfl) (by kernel_rfl) (by kernel_rfl) (fun _ _ _ h => h) (Or.inr ⟨by simp [Region.wanted, yielded, undef], rfl⟩) (by assumption) ?_
      try simp only [Act.put, List.setIfInBounds_toArray, List.set_cons_zero, List.set_cons_succ, List.getElem_toArray, List.getElem_cons_zero, List.getElem_cons_succ]
      refine wpAnyH_take (i := 34) (v := ?_) rfl (by kernel_rfl) (by kernel_rfl) (by kernel_rfl) (fun _ _ _ h => h) (Or.inl ⟨by rfl, ?_⟩) (by assumption) ?_
      rotate_left
      · (intro wx hSw; (try dsimp only at hSw); go_simp <;> with_reducible rfl)
      try simp only [Act.put, List.setIfInBounds_toArray, List.set_cons_zero, List.set_cons_succ, List.getElem_toArray, List.getElem_cons_zero, List.getElem_cons_succ]
      refine wpAnyH_take (i := 35) (v := ?_) rfl (by kernel_rfl) (by kernel_rfl) (by kernel_rfl) (fun _ _ _ h => h) (Or.inl ⟨by rfl, ?_⟩) (by assumption) ?_
      rotate_left
      · (intro wx hSw; (try dsimp only at hSw); go_simp <;> with_reducible rfl)
      try simp only [Act.put, List.setIfInBounds_toArray, List.set_cons_zero, List.set_cons_succ, List.getElem_toArray, List.getElem_cons_zero, List.getElem_cons_succ]
      refine wpAnyH_take (i := 36) (v := ?_) rfl (by kernel_rfl) (by kernel_rfl) (by kernel_rfl) (fun _ _ _ h => h) (Or.inl ⟨by rfl, ?_⟩) (by assumption) ?_
      rotate_left
      · (intro wx hSw; (try dsimp only at hSw); go_simp <;> with_reducible rfl)
      try simp only [Act.put, List.setIfInBounds_toArray, List.set_cons_zero, List.set_cons_succ, List.getElem_toArray, List.getElem_cons_zero, List.getElem_cons_succ]
      refine wpAnyH_done (by kernel_rfl) ?_ _
      have HF : Hid (Below w.heap.size w v3) := HB5.out.trans ((HA6.out.trans (HE3.out.mono HA6.out.size)).mono HB5.out.size)
      go_wp2
      go_ret
      exact ⟨rfl, HF.out⟩
    · have hin : inT ⟨xe, xs, xl, xc⟩ ep = ⟨ep, ⟨#[]⟩, [], ⟨#[]⟩⟩ := if_neg he
      rw [hin] at HRow ⊢
      dsimp only at HRow ⊢
      have heq : (xe == ep) = false := beq_eq_false_iff_ne.2 he
      clear he
      have hgn : gn = 0 := by have := HRow.out.1; simpa using this.symm
      subst hgn
      have HSm : Hid (∀ W, Below w5.heap.size w5 W → W.heap[w5.heap.size]? = some (.cells #[.int .i64 ep, .string ⟨#[]⟩, .slice ga 0 gc, .string ⟨#[]⟩] 33 (0, 0)) → (W.cell? ⟨w5.heap.size, 0, none⟩ = some (.int .i64 ep) ∧ W.cell? ⟨w5.heap.size, 1, none⟩ = some (.string ⟨#[]⟩) ∧ W.cell? ⟨w5.heap.size, 2, none⟩ = some (.slice ga 0 gc) ∧ W.cell? ⟨w5.heap.size, 3, none⟩ = some (.string ⟨#[]⟩) ∧ (Instr.lookup 52 (.map (some w3.heap.size)) (.int .i64 num) false).run Tryd.prog W = .ok (.agg #[.int .i64 xe, .string xs, .slice xa xn xk, .string xc]) W)) := fun W hW hc => ⟨cell_of_heap hc 0, cell_of_heap hc 1, cell_of_heap hc 2, cell_of_heap hc 3, HLk.out W (HP5.out.later hW).m⟩
      have HOf : Hid (∀ W, Below w5.heap.size w5 W → Calls Tryd.prog 17 #[.agg #[.int .i64 ep, .string ⟨#[]⟩, .slice ga 0 gc, .string ⟨#[]⟩]] W fun r w' => ∃ b d, r = .returned (.agg #[.int .i64 ep, .string ⟨#[]⟩, .slice b 0 d, .string ⟨#[]⟩]) ∧ SSl w' b 0 [] ∧ Below W.heap.size W w') := fun W hW => by
        have h1 := HRow.out.later hW
        have h2 := h1.1
        refine (of36_any ep ⟨#[]⟩ ⟨#[]⟩ ga 0 gc [] W h1 (Nat.zero_le _)).mono ?_
        rintro r w' ⟨b, d, h3, h4, -, h6⟩
        dsimp only at h3 h4
        rw [h2] at h3 h4
        exact ⟨b, d, h3, h4.sl, h6⟩
      have HIn : Hid (∀ W, Below w5.heap.size w5 W → Calls Tryd.prog 25 #[.agg #[.int .i64 xe, .string xs, .slice xa xn xk, .string xc], .int .i64 ep] W fun r w' => ∃ a' n' c', r = .returned (.agg #[.int .i64 ep, .string ⟨#[]⟩, .slice a' n' c', .string ⟨#[]⟩]) ∧ SSl w' a' n' [] ∧ Below W.heap.size W w') := fun W hW => by
        have h := in36_is xe xs xc xa xn xk xl ep W (HX5.out.later hW)
        rw [hin] at h
        refine h.mono ?_
        rintro r w' ⟨a', n', c', h1, h2, -, h4⟩
        exact ⟨a', n', c', h1, h2.ssl, h4⟩
      have HSame : Hid (∀ W b d a' n' c', SSl W b 0 [] → SSl W a' n' [] → Calls Tryd.prog 16 #[.agg #[.int .i64 ep, .string ⟨#[]⟩, .slice b 0 d, .string ⟨#[]⟩], .agg #[.int .i64 ep, .string ⟨#[]⟩, .slice a' n' c', .string ⟨#[]⟩]] W fun r w' => r = .returned (.bool true) ∧ Below W.heap.size W w') := fun W b d a' n' c' h1 h2 => by
        have h3 := h1.1
        refine (rSame36_any ep ⟨#[]⟩ ⟨#[]⟩ b 0 d [] ep ⟨#[]⟩ ⟨#[]⟩ a' n' c' [] W h1 h2 (Nat.zero_le _)).mono ?_
        rintro r w' ⟨rfl, h⟩
        exact ⟨by rw [decide_eq_true rfl], h⟩
      clear hin
      go_upto_region 10 with fail
      have hcx := HX.out (.cells #[.int .i64 ep, .string ⟨#[]⟩, .slice ga 0 gc, .string ⟨#[]⟩] 33)
      have Hcx := Lib.hid hcx
      clear hcx
      have HA6 : Hid (Below w5.heap.size w5 (w5.alloc (.cells #[.int .i64 ep, .string ⟨#[]⟩, .slice ga 0 gc, .string ⟨#[]⟩] 33))) := HA.out _
      clear HA HX
      generalize w5.alloc (.cells #[.int .i64 ep, .string ⟨#[]⟩, .slice ga 0 gc, .string ⟨#[]⟩] 33) = w6 at *
      have HD0 : Hid (Below w5.heap.size w5 w6.drew) := HA6.out.drew
      have Hcd : Hid (∀ W, Below w6.heap.size w6 W → W.heap[w5.heap.size]? = some (.cells #[.int .i64 ep, .string ⟨#[]⟩, .slice ga 0 gc, .string ⟨#[]⟩] 33 (0, 0))) := fun W hW => (hW.block _ (lt_of_heap Hcx.out)).trans Hcx.out
      have HE0 : Hid (Below w6.heap.size w6 w6.drew) := (Below.refl _ _).drew
      refine wp_region_held_drew (S := (fun W => W.cell? ⟨w5.heap.size, 0, none⟩ = some (.int .i64 ep) ∧ W.cell? ⟨w5.heap.size, 1, none⟩ = some (.string ⟨#[]⟩) ∧ W.cell? ⟨w5.heap.size, 2, none⟩ = some (.slice ga 0 gc) ∧ W.cell? ⟨w5.heap.size, 3, none⟩ = some (.string ⟨#[]⟩) ∧ (Instr.lookup 52 (.map (some w3.heap.size)) (.int .i64 num) false).run Tryd.prog W = .ok (.agg #[.int .i64 xe, .string xs, .slice xa xn xk, .string xc]) W)) (by kernel_rfl) (HSm.out _ (HA6.out.trans (HE0.out.mono HA6.out.size)) (Hcd.out _ HE0.out)) (fun hHeld0 => ?_)
      refine wpAnyH_take (i := 0) (v := ?_) rfl (by kernel_rfl) (by kernel_rfl) (by kernel_rfl) (fun _ _ _ h => h) (Or.inl ⟨by rfl, ?_⟩) (by assumption) ?_
      rotate_left
      · (intro wx hSw; (try dsimp only at hSw); go_simp <;> with_reducible rfl)
      try simp only [Act.put, List.setIfInBounds_toArray, List.set_cons_zero, List.set_cons_succ, List.getElem_toArray, List.getElem_cons_zero, List.getElem_cons_succ]
      refine wpAnyH_take (i := 1) (v := ?_) rfl (by kernel_rfl) (by kernel_rfl) (by kernel_rfl) (fun _ _ _ h => h) (Or.inl ⟨by rfl, ?_⟩) (by assumption) ?_
      rotate_left
      · (intro wx hSw; (try dsimp only at hSw); go_simp <;> with_reducible rfl)
      try simp only [Act.put, List.setIfInBounds_toArray, List.set_cons_zero, List.set_cons_succ, List.getElem_toArray, List.getElem_cons_zero, List.getElem_cons_succ]
      refine wpAnyH_take (i := 2) (v := ?_) rfl (by kernel_rfl) (by kernel_rfl) (by kernel_rfl) (fun _ _ _ h => h) (Or.inl ⟨by rfl, ?_⟩) (by assumption) ?_
      rotate_left
      · (intro wx hSw; (try dsimp only at hSw); go_simp <;> with_reducible rfl)
      try simp only [Act.put, List.setIfInBounds_toArray, List.set_cons_zero, List.set_cons_succ, List.getElem_toArray, List.getElem_cons_zero, List.getElem_cons_succ]
      refine wpAnyH_take (i := 3) (v := ?_) rfl (by kernel_rfl) (by kernel_rfl) (by kernel_rfl) (fun _ _ _ h => h) (Or.inl ⟨by rfl, ?_⟩) (by assumption) ?_
      rotate_left
      · (intro wx hSw; (try dsimp only at hSw); go_simp <;> with_reducible rfl)
      try simp only [Act.put, List.setIfInBounds_toArray, List.set_cons_zero, List.set_cons_succ, List.getElem_toArray, List.getElem_cons_zero, List.getElem_cons_succ]
      refine wpAnyH_take (i := 5) (v := ?_) rfl (by kernel_rfl) (by kernel_rfl) (by kernel_rfl) (fun _ _ _ h => h) (Or.inl ⟨by rfl, ?_⟩) (by assumption) ?_
      rotate_left
      · (intro wx hSw; (try dsimp only at hSw); go_simp <;> with_reducible rfl)
      try simp only [Act.put, List.setIfInBounds_toArray, List.set_cons_zero, List.set_cons_succ, List.getElem_toArray, List.getElem_cons_zero, List.getElem_cons_succ]
      refine wpAnyH_take (i := 6) (v := ?_) rfl (by kernel_rfl) (by kernel_rfl) (by kernel_rfl) (fun _ _ _ h => h) (Or.inl ⟨by rfl, ?_⟩) (by assumption) ?_
      rotate_left
      · (intro wx hSw; (try dsimp only at hSw); go_simp <;> with_reducible rfl)
      try simp only [Act.put, List.setIfInBounds_toArray, List.set_cons_zero, List.set_cons_succ, List.getElem_toArray, List.getElem_cons_zero, List.getElem_cons_succ]
      refine wpAnyH_take (i := 7) (v := ?_) rfl (by kernel_rfl) (by kernel_rfl) (by kernel_rfl) (fun _ _ _ h => h) (Or.inl ⟨by rfl, ?_⟩) (by assumption) ?_
      rotate_left
      · (intro wx hSw; (try dsimp only at hSw); go_simp <;> with_reducible rfl)
      try simp only [Act.put, List.setIfInBounds_toArray, List.set_cons_zero, List.set_cons_succ, List.getElem_toArray, List.getElem_cons_zero, List.getElem_cons_succ]
      refine wpAnyH_take (i := 8) (v := ?_) rfl (by kernel_rfl) (by kernel_rfl) (by kernel_rfl) (fun _ _ _ h => h) (Or.inl ⟨by rfl, ?_⟩) (by assumption) ?_
      rotate_left
      · (intro wx hSw; (try dsimp only at hSw); go_simp <;> with_reducible rfl)
      try simp only [Act.put, List.setIfInBounds_toArray, List.set_cons_zero, List.set_cons_succ, List.getElem_toArray, List.getElem_cons_zero, List.getElem_cons_succ]
      refine wpAnyH_ready (rs := [4]) (by kernel_rfl) (by simp) ?_
      refine AllReadyH.cons rfl (fun K hK => ?_) AllReadyH.nil
      go_simp
      go_at_call 17
      (with_reducible refine (HOf.out _ (HA6.out.trans (HE0.out.mono HA6.out.size))).mono ?_)
      rintro r v1 ⟨b1, d1, rfl, hr1, hb⟩
      have HE1 : Hid (Below w6.heap.size w6 v1) := HE0.out.trans (hb.mono HE0.out.size)
      have R1 := Lib.hid hr1
      clear hr1 hb
      go_wp2_with fail
      refine hK.out _ _ (HSm.out _ (HA6.out.trans (HE1.out.mono HA6.out.size)) (Hcd.out _ HE1.out)) (fun hHeld1 => ?_)
      clear hK K hHeld0
      try simp only [Act.put, List.setIfInBounds_toArray, List.set_cons_zero, List.set_cons_succ, List.getElem_toArray, List.getElem_cons_zero, List.getElem_cons_succ]
      refine wpAnyH_ready (rs := [9]) (by kernel_rfl) (by simp) ?_
      refine AllReadyH.cons rfl (fun K hK => ?_) AllReadyH.nil
      go_simp
      go_at_call 25
      (with_reducible refine (HIn.out _ (HA6.out.trans (HE1.out.mono HA6.out.size))).mono ?_)
      rintro r v2 ⟨a2, n2', c2, rfl, hr2, hb⟩
      have HE2 : Hid (Below w6.heap.size w6 v2) := HE1.out.trans (hb.mono HE1.out.size)
      have R2 := Lib.hid hr2
      have R1b := Lib.hid (R1.out.later hb)
      clear hr2 hb R1
      go_wp2_with fail
      refine hK.out _ _ (HSm.out _ (HA6.out.trans (HE2.out.mono HA6.out.size)) (Hcd.out _ HE2.out)) (fun hHeld2 => ?_)
      clear hK K hHeld1
      try simp only [Act.put, List.setIfInBounds_toArray, List.set_cons_zero, List.set_cons_succ, List.getElem_toArray, List.getElem_cons_zero, List.getElem_cons_succ]
      refine wpAnyH_ready (rs := [10]) (by kernel_rfl) (by simp) ?_
      refine AllReadyH.cons rfl (fun K hK => ?_) AllReadyH.nil
      go_simp
      go_at_call 16
      (with_reducible refine (HSame.out _ _ _ _ _ _ R1b.out R2.out).mono ?_)
      rintro r v3 ⟨rfl, hb⟩
      have HE3 : Hid (Below w6.heap.size w6 v3) := HE2.out.trans (hb.mono HE2.out.size)
      clear hb R1b R2
      go_wp2_with fail
      refine hK.out _ _ (HSm.out _ (HA6.out.trans (HE3.out.mono HA6.out.size)) (Hcd.out _ HE3.out)) (fun hHeld3 => ?_)
      clear hK K hHeld2
      try simp only [Act.put, List.setIfInBounds_toArray, List.set_cons_zero, List.set_cons_succ, List.getElem_toArray, List.getElem_cons_zero, List.getElem_cons_succ]
      refine wpAnyH_take (i := 11) (v := ?_) rfl (by kernel_rfl) (by kernel_rfl) (by kernel_rfl) (fun _ _ _ h => h) (Or.inl ⟨by rfl, ?_⟩) (by assumption) ?_
      rotate_left
      · (intro wx hSw; (try dsimp only at hSw); go_simp <;> with_reducible rfl)
      try simp only [Act.put, List.setIfInBounds_toArray, List.set_cons_zero, List.set_cons_succ, List.getElem_toArray, List.getElem_cons_zero, List.getElem_cons_succ]
      refine wpAnyH_take (i := 12) (v := ?_) rfl (by kernel_rfl) (by kernel_rfl) (by kernel_rfl) (fun _ _ _ h => h) (Or.inl ⟨by rfl, ?_⟩) (by assumption) ?_
      rotate_left
      · (intro wx hSw; (try dsimp only at hSw); go_simp <;> with_reducible rfl)
      try simp only [Act.put, List.setIfInBounds_toArray, List.set_cons_zero, List.set_cons_succ, List.getElem_toArray, List.getElem_cons_zero, List.getElem_cons_succ]
      refine wpAnyH_take (i := 13) (v := ?_) rfl (by kernel_rfl) (by kernel_rfl) (by kernel_rfl) (fun _ _ _ h => h) (Or.inl ⟨by rfl, ?_⟩) (by assumption) ?_
      rotate_left
      · (intro wx hSw; (try dsimp only at hSw); go_simp <;> with_reducible rfl)
      try simp only [Act.put, List.setIfInBounds_toArray, List.set_cons_zero, List.set_cons_succ, List.getElem_toArray, List.getElem_cons_zero, List.getElem_cons_succ]
      refine wpAnyH_take (i := 14) (v := ?_) rfl (by kernel_rfl) (by kernel_rfl) (by kernel_rfl) (fun _ _ _ h => h) (Or.inl ⟨by rfl, ?_⟩) (by assumption) ?_
      rotate_left
      · (intro wx hSw; (try dsimp only at hSw); go_simp <;> with_reducible rfl)
      try simp only [Act.put, List.setIfInBounds_toArray, List.set_cons_zero, List.set_cons_succ, List.getElem_toArray, List.getElem_cons_zero, List.getElem_cons_succ]
      refine wpAnyH_take (i := 15) (v := ?_) rfl (by kernel_rfl) (by kernel_rfl) (by kernel_rfl) (fun _ _ _ h => h) (Or.inl ⟨by rfl, ?_⟩) (by assumption) ?_
      rotate_left
      · (intro wx hSw; (try dsimp only at hSw); go_simp <;> with_reducible rfl)
      try simp only [Act.put, List.setIfInBounds_toArray, List.set_cons_zero, List.set_cons_succ, List.getElem_toArray, List.getElem_cons_zero, List.getElem_cons_succ]
      refine wpAnyH_take (i := 16) (v := ?_) rfl (by kernel_rfl) (by kernel_rfl) (by kernel_rfl) (fun _ _ _ h => h) (Or.inl ⟨by rfl, ?_⟩) (by assumption) ?_
      rotate_left
      · (intro wx hSw; (try dsimp only at hSw); go_simp <;> with_reducible rfl)
      try simp only [Act.put, List.setIfInBounds_toArray, List.set_cons_zero, List.set_cons_succ, List.getElem_toArray, List.getElem_cons_zero, List.getElem_cons_succ]
      refine wpAnyH_take (i := 17) (v := ?_) rfl (by kernel_rfl) (by kernel_rfl) (by kernel_rfl) (fun _ _ _ h => h) (Or.inl ⟨by rfl, ?_⟩) (by assumption) ?_
      rotate_left
      · (intro wx hSw; (try dsimp only at hSw); go_simp <;> with_reducible rfl)
      try simp only [Act.put, List.setIfInBounds_toArray, List.set_cons_zero, List.set_cons_succ, List.getElem_toArray, List.getElem_cons_zero, List.getElem_cons_succ]
      refine wpAnyH_take (i := 18) (v := ?_) rfl (by kernel_rfl) (by kernel_rfl) (by kernel_rfl) (fun _ _ _ h => h) (Or.inl ⟨by rfl, ?_⟩) (by assumption) ?_
      rotate_left
      · (intro wx hSw; (try dsimp only at hSw); go_simp <;> with_reducible rfl)
      try simp only [Act.put, List.setIfInBounds_toArray, List.set_cons_zero, List.set_cons_succ, List.getElem_toArray, List.getElem_cons_zero, List.getElem_cons_succ]
      refine wpAnyH_take (i := 19) (v := ?_) rfl (by kernel_rfl) (by kernel_rfl) (by kernel_rfl) (fun _ _ _ h => h) (Or.inl ⟨by rfl, ?_⟩) (by assumption) ?_
      rotate_left
      · (intro wx hSw; (try dsimp only at hSw); go_simp <;> with_reducible rfl)
      try simp only [Act.put, List.setIfInBounds_toArray, List.set_cons_zero, List.set_cons_succ, List.getElem_toArray, List.getElem_cons_zero, List.getElem_cons_succ]
      refine wpAnyH_take (i := 20) (v := ?_) rfl (by kernel_rfl) (by kernel_rfl) (by kernel_rfl) (fun _ _ _ h => h) (Or.inl ⟨by rfl, ?_⟩) (by assumption) ?_
      rotate_left
      · (intro wx hSw; (try dsimp only at hSw); go_simp <;> with_reducible rfl)
      try simp only [Act.put, List.setIfInBounds_toArray, List.set_cons_zero, List.set_cons_succ, List.getElem_toArray, List.getElem_cons_zero, List.getElem_cons_succ]
      refine wpAnyH_take (i := 21) (v := ?_) rfl (by kernel_rfl) (by kernel_rfl) (by kernel_rfl) (fun _ _ _ h => h) (Or.inl ⟨by rfl, ?_⟩) (by assumption) ?_
      rotate_left
      · (intro wx hSw; (try dsimp only at hSw); go_simp <;> with_reducible rfl)
      try simp only [Act.put, List.setIfInBounds_toArray, List.set_cons_zero, List.set_cons_succ, List.getElem_toArray, List.getElem_cons_zero, List.getElem_cons_succ]
      refine wpAnyH_take (i := 22) (v := ?_) rfl (by kernel_rfl) (by kernel_rfl) (by kernel_rfl) (fun _ _ _ h => h) (Or.inl ⟨by rfl, ?_⟩) (by assumption) ?_
      rotate_left
      · (intro wx hSw; (try dsimp only at hSw); go_simp <;> with_reducible rfl)
      try simp only [Act.put, List.setIfInBounds_toArray, List.set_cons_zero, List.set_cons_succ, List.getElem_toArray, List.getElem_cons_zero, List.getElem_cons_succ]
      refine wpAnyH_take (i := 23) (v := ?_) rfl (by kernel_rfl) (by kernel_rfl) (by kernel_rfl) (fun _ _ _ h => h) (Or.inl ⟨by rfl, ?_⟩) (by assumption) ?_
      rotate_left
      · (intro wx hSw; (try dsimp only at hSw); go_simp <;> with_reducible rfl)
      try simp only [Act.put, List.setIfInBounds_toArray, List.set_cons_zero, List.set_cons_succ, List.getElem_toArray, List.getElem_cons_zero, List.getElem_cons_succ]
      refine wpAnyH_take (i := 24) (v := ?_) rfl (by kernel_rfl) (by kernel_rfl) (by kernel_rfl) (fun _ _ _ h => h) (Or.inl ⟨by rfl, ?_⟩) (by assumption) ?_
      rotate_left
      · (intro wx hSw; (try dsimp only at hSw); go_simp <;> with_reducible rfl)
      try simp only [Act.put, List.setIfInBounds_toArray, List.set_cons_zero, List.set_cons_succ, List.getElem_toArray, List.getElem_cons_zero, List.getElem_cons_succ]
      refine wpAnyH_take (i := 25) (v := ?_) rfl (by kernel_rfl) (by kernel_rfl) (by kernel_rfl) (fun _ _ _ h => h) (Or.inl ⟨by rfl, ?_⟩) (by assumption) ?_
      rotate_left
      · (intro wx hSw; (try dsimp only at hSw); go_simp <;> with_reducible rfl)
      try simp only [Act.put, List.setIfInBounds_toArray, List.set_cons_zero, List.set_cons_succ, List.getElem_toArray, List.getElem_cons_zero, List.getElem_cons_succ]
      refine wpAnyH_take (i := 26) (v := ?_) rfl (by kernel_rfl) (by kernel_rfl) (by kernel_rfl) (fun _ _ _ h => h) (Or.inl ⟨by rfl, ?_⟩) (by assumption) ?_
      rotate_left
      · (intro wx hSw; (try dsimp only at hSw); go_simp <;> with_reducible rfl)
      try simp only [Act.put, List.setIfInBounds_toArray, List.set_cons_zero, List.set_cons_succ, List.getElem_toArray, List.getElem_cons_zero, List.getElem_cons_succ]
      refine wpAnyH_take (i := 27) (v := ?_) rfl (by kernel_rfl) (by kernel_rfl) (by kernel_rfl) (fun _ _ _ h => h) (Or.inl ⟨by rfl, ?_⟩) (by assumption) ?_
      rotate_left
      · (intro wx hSw; (try dsimp only at hSw); go_simp <;> with_reducible rfl)
      try simp only [Act.put, List.setIfInBounds_toArray, List.set_cons_zero, List.set_cons_succ, List.getElem_toArray, List.getElem_cons_zero, List.getElem_cons_succ]
      refine wpAnyH_take (i := 28) (v := ?_) rfl (by kernel_rfl) (by kernel_rfl) (by kernel_rfl) (fun _ _ _ h => h) (Or.inl ⟨by rfl, ?_⟩) (by assumption) ?_
      rotate_left
      · (intro wx hSw; (try dsimp only at hSw); go_simp <;> with_reducible rfl)
      try simp only [Act.put, List.setIfInBounds_toArray, List.set_cons_zero, List.set_cons_succ, List.getElem_toArray, List.getElem_cons_zero, List.getElem_cons_succ]
      refine wpAnyH_take (i := 29) (v := ?_) rfl (by kernel_rfl) (by kernel_rfl) (by kernel_rfl) (fun _ _ _ h => h) (Or.inl ⟨by rfl, ?_⟩) (by assumption) ?_
      rotate_left
      · (intro wx hSw; (try dsimp only at hSw); go_simp <;> with_reducible rfl)
      try simp only [Act.put, List.setIfInBounds_toArray, List.set_cons_zero, List.set_cons_succ, List.getElem_toArray, List.getElem_cons_zero, List.getElem_cons_succ]
      refine wpAnyH_take (i := 30) (v := ?_) rfl (by kernel_rfl) (by kernel_rfl) (by kernel_rfl) (fun _ _ _ h => h) (Or.inl ⟨by rfl, ?_⟩) (by assumption) ?_
      rotate_left
      · (intro wx hSw; (try dsimp only at hSw); go_simp <;> with_reducible rfl)
      try simp only [Act.put, List.setIfInBounds_toArray, List.set_cons_zero, List.set_cons_succ, List.getElem_toArray, List.getElem_cons_zero, List.getElem_cons_succ]
      refine wpAnyH_take (i := 31) (v := ?_) rfl (by kernel_rfl) (by kernel_rfl) (by kernel_rfl) (fun _ _ _ h => h) (Or.inl ⟨by rfl, ?_⟩) (by assumption) ?_
      rotate_left
      · (intro wx hSw; (try dsimp only at hSw); go_simp <;> with_reducible rfl)
      try simp only [Act.put, List.setIfInBounds_toArray, List.set_cons_zero, List.set_cons_succ, List.getElem_toArray, List.getElem_cons_zero, List.getElem_cons_succ]
      refine wpAnyH_take (i := 32) (v := ?_) rfl (by kernel_rfl) (by kernel_rfl) (by kernel_rfl) (fun _ _ _ h => h) (Or.inl ⟨by rfl, ?_⟩) (by assumption) ?_
      rotate_left
      · (intro wx hSw; (try dsimp only at hSw); go_simp <;> with_reducible rfl)
      try simp only [Act.put, List.setIfInBounds_toArray, List.set_cons_zero, List.set_cons_succ, List.getElem_toArray, List.getElem_cons_zero, List.getElem_cons_succ]
      refine wpAnyH_take (i := 33) (v := ?_) rfl (by kernel_rfl) (by kernel_rfl) (by kernel_rfl) (fun _ _ _ h => h) (Or.inl ⟨by rfl, ?_⟩) (by assumption) ?_
      rotate_left
      · (intro wx hSw; (try dsimp only at hSw); go_simp <;> with_reducible rfl)
      try simp only [Act.put, List.setIfInBounds_toArray, List.set_cons_zero, List.set_cons_succ, List.getElem_toArray, List.getElem_cons_zero, List.getElem_cons_succ]
      refine wpAnyH_take (i := 34) (v := ?_) rfl (by kernel_rfl) (by kernel_rfl) (by kernel_rfl) (fun _ _ _ h => h) (Or.inl ⟨by rfl, ?_⟩) (by assumption) ?_
      rotate_left
      · (intro wx hSw; (try dsimp only at hSw); go_simp <;> with_reducible rfl)
      try simp only [Act.put, List.setIfInBounds_toArray, List.set_cons_zero, List.set_cons_succ, List.getElem_toArray, List.getElem_cons_zero, List.getElem_cons_succ]
      refine wpAnyH_take (i := 35) (v := ?_) rfl (by kernel_rfl) (by kernel_rfl) (by kernel_rfl) (fun _ _ _ h => h) (Or.inl ⟨by rfl, ?_⟩) (by assumption) ?_
      rotate_left
      · (intro wx hSw; (try dsimp only at hSw); go_simp <;> with_reducible rfl)
      try simp only [Act.put, List.setIfInBounds_toArray, List.set_cons_zero, List.set_cons_succ, List.getElem_toArray, List.getElem_cons_zero, List.getElem_cons_succ]
      refine wpAnyH_take (i := 36) (v := ?_) rfl (by kernel_rfl) (by kernel_rfl) (by kernel_rfl) (fun _ _ _ h => h) (Or.inl ⟨by rfl, ?_⟩) (by assumption) ?_
      rotate_left
      · (intro wx hSw; (try dsimp only at hSw); go_simp <;> with_reducible rfl)
      try simp only [Act.put, List.setIfInBounds_toArray, List.set_cons_zero, List.set_cons_succ, List.getElem_toArray, List.getElem_cons_zero, List.getElem_cons_succ]
      refine wpAnyH_done (by kernel_rfl) ?_ _
      have HF : Hid (Below w.heap.size w v3) := HB5.out.trans ((HA6.out.trans (HE3.out.mono HA6.out.size)).mono HB5.out.size)
      go_wp2
      go_ret
      exact ⟨rfl, HF.out⟩
end Go.Proofs.YtfobmfenjdiimaaDoor
