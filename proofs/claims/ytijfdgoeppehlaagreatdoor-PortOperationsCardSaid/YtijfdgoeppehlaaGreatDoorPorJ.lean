/- port: Open. port: Close. -/
import Derived.Test.YtijfdgoeppehlaaGreatDoorPorG
namespace Go.Proofs.YtijfdgoeppehlaaGreatDoor
open Go.RowKit
attribute [local go_sem ↓] Go.wp_at_zero Go.wp_at_succ

/-- What Open makes of a port: the port, the error, the number of calls. -/
def openStep (who : ByteArray) (us m e : Int) (o : Option PortT) : Option PortT × Nat × Nat :=
  if qArgs who m e ≠ 0 then (o, qArgs who m e, 0) else if m ≤ 99 ∧ us ≠ 0 then (o, 14, 0) else if (qHas e o).2 = 0 then (o, 19, 0) else (some ⟨who, e, 0, []⟩, 0, 1)
theorem open_check {who : ByteArray} {m e : Int} (h : qArgs who m e = 0) : checkQ ⟨who, e, 0, []⟩ = 0 := by
  obtain ⟨h1, _, h3⟩ := qArgs_ok h
  unfold checkQ
  dsimp only
  rw [if_neg (by rw [h1]; simp), if_neg (by rw [h3]; simp [numB]), if_neg (by simp)]
  rfl

set_option maxRecDepth 100000 in
set_option maxHeartbeats 1600000 in
theorem sqOpen (w0 w : World) (b N : Nat) (m : Int) (o : Option PortT) (G : Nat → Prop) (s : SQ w0 w b N m o G) (hN : N < 1000000) (who : ByteArray) (us e : Int) (hw : who.size ≤ 64) (o' : Option PortT) (q d : Nat) (hst : openStep who us m e o = (o', q, d)) :
    Calls Tryz.prog 18 #[.pointer (some ⟨b, 0, none⟩), .string who, .agg #[.int .i64 us, .slice none 0 0], .int .i64 m, .int .i64 e] w (SQP w0 b (N + d) m o' G w (.int .i64 q)) := by
  have Hst := Lib.hid hst; clear hst
  obtain ⟨qa, hqa⟩ : ∃ qa, qArgs who m e = qa := ⟨_, rfl⟩
  have Hqa := Lib.hid hqa; clear hqa
  have S0 : Hid (∀ o', SQ w0 (w.alloc o') b N m o G) := fun o' => s.later ((Below.refl _ _).alloc (Nat.le_refl _) _)
  have HG0 : Hid (∀ o', ∀ k, G k → (w.alloc o').heap[k]? = w.heap[k]?) := fun o' => s.gk ((Below.refl _ _).alloc (Nat.le_refl _) _)
  have HU0 : Hid (∀ o', (w.alloc o').heap[w.heap.size]? = some o') := fun o' => heap_alloc_new w o'
  clear s
  go_enter Tryz.func18, Tryz.ntmps18
  go_wp2_with fail
  refine (qCheck_any b who m e qa Hqa.out _ (by omega)).mono ?_
  rintro r w1 ⟨rfl, hb⟩
  have S1 := Lib.hid ((S0.out _).later hb)
  have HG1 : Hid (∀ k, G k → w1.heap[k]? = w.heap[k]?) := fun k hk => ((S0.out _).gk hb k hk).trans (HG0.out _ k hk)
  have u0 : w1.cell? ⟨w.heap.size, 0, none⟩ = some (.int .i64 us) := cell_of_heap ((hb.block _ (lt_of_heap (HU0.out _))).trans (HU0.out _)) 0
  clear hb S0 HG0 HU0
  by_cases h0 : qa = 0
  · subst h0
    obtain ⟨hv, hm, he⟩ := qArgs_ok Hqa.out
    have Hck := Lib.hid (open_check Hqa.out)
    by_cases h1 : m ≤ 99 ∧ us ≠ 0
    · have hr : o' = o ∧ q = 14 ∧ d = 0 := by
        have := Hst.out
        unfold openStep at this
        rw [Hqa.out, if_neg (by simp), if_pos h1] at this
        simp only [Prod.mk.injEq] at this
        exact ⟨this.1.symm, this.2.1.symm, this.2.2.symm⟩
      obtain ⟨rfl, rfl, rfl⟩ := hr
      obtain ⟨h2, h3⟩ := h1
      have h3' : (us != 0) = true := bne_iff_ne.2 h3
      clear h3
      go_wp2
      go_ret
      exact ⟨rfl, S1.out, HG1.out⟩
    · have hways : 99 < m ∨ (m ≤ 99 ∧ us = 0) := by omega
      obtain ⟨p, g, hpg⟩ : ∃ p g, qHas e o = (p, g) := ⟨_, _, rfl⟩
      have Hpg := Lib.hid hpg; clear hpg
      have Hst2 : Hid ((if g = 0 then (o, 19, 0) else (some ⟨who, e, 0, []⟩, 0, 1)) = (o', q, d)) := by
        have := Hst.out
        unfold openStep at this
        rw [Hqa.out, if_neg (by simp), if_neg h1, Hpg.out] at this
        exact this
      clear h1 Hst
      rcases hways with h1 | ⟨h1, rfl⟩
      all_goals
        go_wp2_with fail
        refine (sqGet w0 w1 b N m o G S1.out e hm he p g Hpg.out).mono ?_
        rintro r w2 ⟨a, n, c, rfl, hrow, hl, s2, hk2⟩
        have S2 : Hid (∀ o'', SQ w0 (w2.alloc o'') b N m o G) := fun o'' => s2.fresh ((Below.refl _ _).alloc (Nat.le_refl _) _) (fun k hk => .inl (.inl hk))
        have HG2 : Hid (∀ o'', ∀ k, G k → (w2.alloc o'').heap[k]? = w.heap[k]?) := fun o'' k hk => (s2.gk ((Below.refl _ _).alloc (Nat.le_refl _) _) k (.inl hk)).trans ((hk2 k hk).trans (HG1.out k hk))
        clear hrow hl s2 hk2
        by_cases hg : g = 0
        · subst hg
          have hr : o' = o ∧ q = 19 ∧ d = 0 := by
            have := Hst2.out
            simp only [if_true, Prod.mk.injEq] at this
            exact ⟨this.1.symm, this.2.1.symm, this.2.2.symm⟩
          obtain ⟨rfl, rfl, rfl⟩ := hr
          go_wp2
          go_ret
          exact ⟨rfl, S2.out _, HG2.out _⟩
        · have hr : o' = some ⟨who, e, 0, []⟩ ∧ q = 0 ∧ d = 1 := by
            have := Hst2.out
            rw [if_neg hg] at this
            simp only [Prod.mk.injEq] at this
            exact ⟨this.1.symm, this.2.1.symm, this.2.2.symm⟩
          obtain ⟨rfl, rfl, rfl⟩ := hr
          have hg' : ((g : Int) == 0) = false := beq_eq_false_iff_ne.2 (by omega)
          clear hg
          go_wp2_with fail
          refine (sqPut w0 _ b N m o G (S2.out _) (by omega) hN who e 0 none 0 0 [] (PSl.nil _) Hck.out hw).mono ?_
          rintro r w3 ⟨rfl, s3, hk3⟩
          have S3 := Lib.hid s3
          have HG3 : Hid (∀ k, G k → w3.heap[k]? = w.heap[k]?) := fun k hk => (hk3 k hk).trans (HG2.out _ k hk)
          clear s3 hk3
          go_wp2
          go_ret
          exact ⟨rfl, S3.out, HG3.out⟩
  · have hr : o' = o ∧ q = qa ∧ d = 0 := by
      have := Hst.out
      unfold openStep at this
      rw [Hqa.out, if_pos h0] at this
      simp only [Prod.mk.injEq] at this
      exact ⟨this.1.symm, this.2.1.symm, this.2.2.symm⟩
    obtain ⟨rfl, rfl, rfl⟩ := hr
    have h0' : ((q : Int) != 0) = true := bne_iff_ne.2 (by omega)
    clear h0
    go_wp2
    go_ret
    exact ⟨rfl, S1.out, HG1.out⟩

end Go.Proofs.YtijfdgoeppehlaaGreatDoor

namespace Go.Proofs.YtijfdgoeppehlaaGreatDoor
open Go.RowKit
attribute [local go_sem ↓] Go.wp_at_zero Go.wp_at_succ

/-- What Close makes of a port. -/
def closeStep (who : ByteArray) (m e : Int) (o : Option PortT) : Option PortT × Nat × Nat :=
  if qArgs who m e ≠ 0 then (o, qArgs who m e, 0) else if (qHas e o).2 ≠ 0 then (o, (qHas e o).2, 0) else if (qHas e o).1.owner ≠ who then (o, 14, 0) else (none, 0, 1)

set_option maxRecDepth 100000 in
set_option maxHeartbeats 1600000 in
theorem sqClose (w0 w : World) (b N : Nat) (m : Int) (o : Option PortT) (G : Nat → Prop) (s : SQ w0 w b N m o G) (hN : N < 1000000) (who : ByteArray) (e : Int) (hw : who.size ≤ 64) (o' : Option PortT) (q d : Nat) (hst : closeStep who m e o = (o', q, d)) :
    Calls Tryz.prog 27 #[.pointer (some ⟨b, 0, none⟩), .string who, .int .i64 m, .int .i64 e] w (SQP w0 b (N + d) m o' G w (.int .i64 q)) := by
  have Hst := Lib.hid hst; clear hst
  obtain ⟨qa, hqa⟩ : ∃ qa, qArgs who m e = qa := ⟨_, rfl⟩
  have Hqa := Lib.hid hqa; clear hqa
  have S0 := Lib.hid s; clear s
  go_enter Tryz.func27, Tryz.ntmps27
  go_wp2_with fail
  refine (qCheck_any b who m e qa Hqa.out _ (by omega)).mono ?_
  rintro r w1 ⟨rfl, hb⟩
  have S1 := Lib.hid (S0.out.later hb)
  have HG1 : Hid (∀ k, G k → w1.heap[k]? = w.heap[k]?) := S0.out.gk hb
  clear hb S0
  by_cases h0 : qa = 0
  · subst h0
    obtain ⟨hv, hm, he⟩ := qArgs_ok Hqa.out
    obtain ⟨p, g, hpg⟩ : ∃ p g, qHas e o = (p, g) := ⟨_, _, rfl⟩
    have Hpg := Lib.hid hpg; clear hpg
    have Hst2 : Hid ((if g ≠ 0 then (o, g, 0) else if p.owner ≠ who then (o, 14, 0) else (none, 0, 1)) = (o', q, d)) := by
      have := Hst.out
      unfold closeStep at this
      rw [Hqa.out, if_neg (by simp), Hpg.out] at this
      exact this
    clear Hst
    go_wp2_with fail
    refine (sqGet w0 w1 b N m o G S1.out e hm he p g Hpg.out).mono ?_
    rintro r w2 ⟨a, n, c, rfl, hrow, hl, s2, hk2⟩
    have S2 : Hid (∀ o'', SQ w0 (w2.alloc o'') b N m o G) := fun o'' => s2.fresh ((Below.refl _ _).alloc (Nat.le_refl _) _) (fun k hk => .inl (.inl hk))
    have HG2 : Hid (∀ o'', ∀ k, G k → (w2.alloc o'').heap[k]? = w.heap[k]?) := fun o'' k hk => (s2.gk ((Below.refl _ _).alloc (Nat.le_refl _) _) k (.inl hk)).trans ((hk2 k hk).trans (HG1.out k hk))
    clear hrow hl s2 hk2
    obtain ⟨ow, ep, lo, ls⟩ := p
    dsimp only at *
    by_cases hg : g = 0
    · subst hg
      by_cases hw2 : ow = who
      · subst hw2
        have hr : o' = none ∧ q = 0 ∧ d = 1 := by
          have := Hst2.out
          simp only [ne_eq, not_true_eq_false, if_false, Prod.mk.injEq] at this
          exact ⟨this.1.symm, this.2.1.symm, this.2.2.symm⟩
        obtain ⟨rfl, rfl, rfl⟩ := hr
        go_wp2_with fail
        refine (ofPort_any m _).mono ?_
        rintro r w3 ⟨rfl, hb⟩
        have S3 := Lib.hid ((S2.out _).later hb)
        have HG3 : Hid (∀ k, G k → w3.heap[k]? = w.heap[k]?) := fun k hk => ((S2.out _).gk hb k hk).trans (HG2.out _ k hk)
        clear hb
        go_wp2_with fail
        refine (sqVDel w0 w3 b N m o G S3.out (by omega) hN).mono ?_
        rintro r w4 ⟨rfl, s4, hk4⟩
        have S4 := Lib.hid s4
        have HG4 : Hid (∀ k, G k → w4.heap[k]? = w.heap[k]?) := fun k hk => (hk4 k hk).trans (HG3.out k hk)
        clear s4 hk4
        go_wp2
        go_ret
        exact ⟨rfl, S4.out, HG4.out⟩
      · have hr : o' = o ∧ q = 14 ∧ d = 0 := by
          have := Hst2.out
          simp only [ne_eq, not_true_eq_false, if_false, hw2, not_false_eq_true, if_true, Prod.mk.injEq] at this
          exact ⟨this.1.symm, this.2.1.symm, this.2.2.symm⟩
        obtain ⟨rfl, rfl, rfl⟩ := hr
        have hx : (ow.toList == who.toList) = false := by rw [str_beq]; exact decide_eq_false hw2
        clear hw2
        go_wp2
        go_ret
        exact ⟨rfl, S2.out _, HG2.out _⟩
    · have hr : o' = o ∧ q = g ∧ d = 0 := by
        have := Hst2.out
        rw [if_pos hg] at this
        simp only [Prod.mk.injEq] at this
        exact ⟨this.1.symm, this.2.1.symm, this.2.2.symm⟩
      obtain ⟨rfl, rfl, rfl⟩ := hr
      have hg' : ((q : Int) != 0) = true := bne_iff_ne.2 (by omega)
      clear hg
      go_wp2
      go_ret
      exact ⟨rfl, S2.out _, HG2.out _⟩
  · have hr : o' = o ∧ q = qa ∧ d = 0 := by
      have := Hst.out
      unfold closeStep at this
      rw [Hqa.out, if_pos h0] at this
      simp only [Prod.mk.injEq] at this
      exact ⟨this.1.symm, this.2.1.symm, this.2.2.symm⟩
    obtain ⟨rfl, rfl, rfl⟩ := hr
    have h0' : ((q : Int) != 0) = true := bne_iff_ne.2 (by omega)
    clear h0
    go_wp2
    go_ret
    exact ⟨rfl, S1.out, HG1.out⟩

end Go.Proofs.YtijfdgoeppehlaaGreatDoor
