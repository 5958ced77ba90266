/- port: Receive. -/
import Derived.Test.YtemmeopaihmlcaaDoorPorL
namespace Go.Proofs.YtemmeopaihmlcaaDoor
open Go.RowKit
attribute [local go_sem ↓] Go.wp_at_zero Go.wp_at_succ

def receiveStep (who : ByteArray) (m e : Int) (o : Option PortT) : Option PortT × PackT × Nat × Nat := if qArgs who m e ≠ 0 then (o, zeroPk, qArgs who m e, 0) else recvStep who e o
theorem recv_err {who : ByteArray} {e : Int} {o o' : Option PortT} {x : PackT} {q d : Nat} (h : recvStep who e o = (o', x, q, d)) (hq : q ≠ 0) : x = zeroPk := by
  unfold recvStep at h
  by_cases h1 : (qHas e o).2 ≠ 0
  · rw [if_pos h1] at h; simp only [Prod.mk.injEq] at h; exact h.2.1.symm
  rw [if_neg h1] at h
  by_cases h2 : (qHas e o).1.owner ≠ who
  · rw [if_pos h2] at h; simp only [Prod.mk.injEq] at h; exact h.2.1.symm
  rw [if_neg h2] at h
  by_cases h3 : (qHas e o).1.queue.length = 0
  · rw [if_pos h3] at h; simp only [Prod.mk.injEq] at h; exact h.2.1.symm
  rw [if_neg h3] at h
  simp only [Prod.mk.injEq] at h
  exact absurd h.2.2.1.symm hq
theorem rec_fin {w0 w w2 X : World} {b N R : Nat} {m : Int} {o : Option PortT} {G Gx : Nat → Prop} (S2 : SQ w0 w2 b N m o Gx) (hR : Gx R) (hGG : ∀ k, G k → Gx k ∧ k ≠ R) (hG : ∀ k, G k → w2.heap[k]? = w.heap[k]?) (hg : w2.grownBy X (some R)) :
    SQ w0 X b N m o G ∧ ∀ k, G k → X.heap[k]? = w.heap[k]? := by
  have hK : Kept Gx w2 X := Kept.of_grown hg _ (fun k hk => by cases hk; exact hR)
  refine ⟨S2.guarded hK (fun k hk => .inl (hGG k hk).1), fun k hk => ?_⟩
  exact (hg.block k (S2.glt k (hGG k hk).1) (fun e => (hGG k hk).2 (by cases e; rfl))).trans (hG k hk)
theorem grown_set2 (w : World) (R : Nat) (a b : Value) : w.grownBy ((w.setCell ⟨R, 0, none⟩ a).setCell ⟨R, 1, none⟩ b) (some R) := grown_trans (grown_setCell _ _ _ _) (grown_setCell _ _ _ _)

set_option maxRecDepth 100000 in
set_option maxHeartbeats 1600000 in
theorem sqReceive (w0 w : World) (b N : Nat) (m : Int) (o : Option PortT) (G : Nat → Prop) (s : SQ w0 w b N m o G) (hN : N < 1000000) (who : ByteArray) (e : Int) (hw : who.size ≤ 64) (o' : Option PortT) (x : PackT) (q d : Nat) (hst : receiveStep who m e o = (o', x, q, d)) :
    Calls Tryd.prog 50 #[.pointer (some ⟨b, 0, none⟩), .string who, .int .i64 m, .int .i64 e] w (SQP w0 b (N + d) m o' G w (.tuple #[.agg #[.string x.src, .string x.bytes], .int .i64 q])) := by
  have Hst := Lib.hid hst; clear hst
  have HGw : Hid (∀ k, G k → k < w.heap.size) := s.glt
  obtain ⟨qa, hqa⟩ : ∃ qa, qArgs who m e = qa := ⟨_, rfl⟩
  have Hqa := Lib.hid hqa; clear hqa
  have Hb0 : Hid (∀ o1 o2, Below w.heap.size w ((w.alloc o1).alloc o2)) := fun o1 o2 => ((Below.refl _ _).alloc (Nat.le_refl _) _).alloc (by simp) _
  have S0 : Hid (∀ o1 o2, SQ w0 ((w.alloc o1).alloc o2) b N m o (fun k => G k ∨ k = w.heap.size ∨ k = w.heap.size + 1)) := fun o1 o2 => s.fresh (Hb0.out _ _) (fun k hk => hk.imp id (fun h => by simp; omega))
  have HG0 : Hid (∀ o1 o2, ∀ k, G k → ((w.alloc o1).alloc o2).heap[k]? = w.heap[k]?) := fun o1 o2 => s.gk (Hb0.out _ _)
  have HW0 : Hid (∀ o1 o2, ((w.alloc o1).alloc o2).heap[w.heap.size]? = some o1) := fun o1 o2 => (Below.heap_alloc _ _ _ (by simp)).trans (World.alloc_heap_new w _)
  have HR0 : Hid (∀ o1 o2, ((w.alloc o1).alloc o2).heap[w.heap.size + 1]? = some o2) := fun o1 o2 => by have := World.alloc_heap_new (w.alloc o1) o2; rwa [World.size_alloc] at this
  clear s
  go_enter Tryd.func50, Tryd.ntmps50
  go_wp2_with fail
  refine (qCheck_any b who m e qa Hqa.out _ (by omega)).mono ?_
  rintro r w1 ⟨rfl, hb⟩
  have S1 := Lib.hid ((S0.out _ _).later hb)
  have HG1 : Hid (∀ k, G k → w1.heap[k]? = w.heap[k]?) := fun k hk => ((S0.out _ _).gk hb k (.inl hk)).trans (HG0.out _ _ k hk)
  have HW1 := Lib.hid ((hb.block _ (lt_of_heap (HW0.out _ _))).trans (HW0.out _ _))
  have hR1 := (hb.block _ (lt_of_heap (HR0.out _ _))).trans (HR0.out _ _)
  clear hb S0 HG0 HW0 HR0 Hb0
  have HGR : Hid (∀ k, G k → k ≠ w.heap.size + 1) := fun k hk => by have := HGw.out k hk; omega
  obtain ⟨R, hR⟩ : ∃ R, w.heap.size + 1 = R := ⟨_, rfl⟩
  rw [hR] at hR1 HGR S1
  simp only [hR]
  have HRw := Lib.hid hR; clear hR
  have r0 : w1.cell? ⟨R, 0, none⟩ = some (.string ⟨#[]⟩) := cell_of_heap hR1 0
  have r1 : w1.cell? ⟨R, 1, none⟩ = some (.string ⟨#[]⟩) := cell_of_heap hR1 1
  have g0 : w1.frozen? ⟨R, 0, none⟩ = false := frozen_of_heap hR1 0
  have g1 : w1.frozen? ⟨R, 1, none⟩ = false := frozen_of_heap hR1 1
  have HR1 := Lib.hid hR1; clear hR1
  by_cases h0 : qa = 0
  · subst h0
    obtain ⟨hv, hm, he⟩ := qArgs_ok Hqa.out
    have Hst2 : Hid (recvStep who e o = (o', x, q, d)) := by
      have := Hst.out
      unfold receiveStep at this
      rw [Hqa.out, if_neg (by simp)] at this
      exact this
    clear Hst r0 r1 g0 g1
    have Sa : Hid (∀ o1, SQ w0 (w1.alloc o1) b N m o (fun k => (G k ∨ k = w.heap.size ∨ k = R) ∨ k = w1.heap.size)) := fun o1 => S1.out.fresh ((Below.refl _ _).alloc (Nat.le_refl _) _) (fun k hk => hk.imp id (fun h => by subst h; simp))
    have HGa : Hid (∀ o1, ∀ k, (G k ∨ k = w.heap.size ∨ k = R) → (w1.alloc o1).heap[k]? = w1.heap[k]?) := fun o1 => S1.out.gk ((Below.refl _ _).alloc (Nat.le_refl _) _)
    have HFa : Hid (∀ o1, (w1.alloc o1).heap[w1.heap.size]? = some o1) := fun o1 => heap_alloc_new w1 o1
    have Hlt1 : Hid (∀ k, (G k ∨ k = w.heap.size ∨ k = R) → k ≠ w1.heap.size) := fun k hk => by have := S1.out.glt k hk; omega
    have hmf : ∀ (fn : Fn) (first cap : Array Value) (w : World), (Instr.makeFunc fn first cap).run Tryd.prog w = .ok (.func fn first cap) w := fun _ _ _ _ => rfl
    go_wp2_with fail
    refine (sqChange w0 _ b N m o _ (Sa.out _) hN e hm he who w.heap.size w1.heap.size (.inl (.inr (.inl rfl))) (.inr rfl) ((HGa.out _ _ (.inr (.inl rfl))).trans HW1.out) (HFa.out _) o' x q d Hst2.out).mono ?_
    rintro r w2 ⟨rfl, s2, hk2, hF2⟩
    have S2 := Lib.hid s2
    have hR2 := (hk2 R (.inl (.inr (.inr rfl))) (Hlt1.out _ (.inr (.inr rfl)))).trans ((HGa.out _ _ (.inr (.inr rfl))).trans HR1.out)
    have HG2 : Hid (∀ k, G k → w2.heap[k]? = w.heap[k]?) := fun k hk => (hk2 k (.inl (.inl hk)) (Hlt1.out _ (.inl hk))).trans ((HGa.out _ _ (.inl hk)).trans (HG1.out k hk))
    have HF2 := Lib.hid hF2
    clear s2 hk2 hF2
    have r0 : w2.cell? ⟨R, 0, none⟩ = some (.string ⟨#[]⟩) := cell_of_heap hR2 0
    have r1 : w2.cell? ⟨R, 1, none⟩ = some (.string ⟨#[]⟩) := cell_of_heap hR2 1
    have g0 : w2.frozen? ⟨R, 0, none⟩ = false := frozen_of_heap hR2 0
    have g1 : w2.frozen? ⟨R, 1, none⟩ = false := frozen_of_heap hR2 1
    have HR2 := Lib.hid hR2; clear hR2
    by_cases hq : q = 0
    · subst hq
      have hF := HF2.out rfl
      have k0 : w2.cell? ⟨w1.heap.size, 0, none⟩ = some (.string x.src) := cell_of_heap hF 0
      have k1 : w2.cell? ⟨w1.heap.size, 1, none⟩ = some (.string x.bytes) := cell_of_heap hF 1
      clear hF HF2
      generalize x.src = xs at *
      generalize x.bytes = xb at *
      go_wp2
      refine bodyPost_ret (v := .tuple #[.agg #[.string xs, .string xb], .int .i64 0]) (by simp [results, Tryd.results50, go_sem, r0, r1]) rfl ?_
      exact ⟨rfl, rec_fin (R := R) S2.out (.inl (.inr (.inr rfl))) (fun k hk => ⟨.inl (.inl hk), HGR.out k hk⟩) HG2.out (grown_set2 _ _ _ _)⟩
    · obtain rfl := recv_err Hst2.out hq
      have hq' : ((q : Int) != 0) = true := bne_iff_ne.2 (by omega)
      clear hq HF2
      go_wp2
      refine bodyPost_ret (v := .tuple #[.agg #[.string ⟨#[]⟩, .string ⟨#[]⟩], .int .i64 q]) (by simp [results, Tryd.results50, go_sem, r0, r1]) rfl ?_
      exact ⟨rfl, rec_fin (R := R) S2.out (.inl (.inr (.inr rfl))) (fun k hk => ⟨.inl (.inl hk), HGR.out k hk⟩) HG2.out (grown_set2 _ _ _ _)⟩
  · have hr : o' = o ∧ x = zeroPk ∧ q = qa ∧ d = 0 := by
      have := Hst.out
      unfold receiveStep at this
      rw [Hqa.out, if_pos h0] at this
      simp only [Prod.mk.injEq] at this
      exact ⟨this.1.symm, this.2.1.symm, this.2.2.1.symm, this.2.2.2.symm⟩
    obtain ⟨rfl, rfl, rfl, rfl⟩ := hr
    have h0' : ((q : Int) != 0) = true := bne_iff_ne.2 (by omega)
    clear h0
    go_wp2
    refine bodyPost_ret (v := .tuple #[.agg #[.string ⟨#[]⟩, .string ⟨#[]⟩], .int .i64 q]) (by simp [results, Tryd.results50, go_sem, r0, r1]) rfl ?_
    exact ⟨rfl, rec_fin (R := R) S1.out (.inr (.inr rfl)) (fun k hk => ⟨.inl hk, HGR.out k hk⟩) HG1.out (grown_set2 _ _ _ _)⟩

end Go.Proofs.YtemmeopaihmlcaaDoor
