/- signal: Send. -/
import Derived.Test.YtemmeopaihmlcaaDoorSigJ
namespace Go.Proofs.YtemmeopaihmlcaaDoor
open Go.RowKit
attribute [local go_sem ↓] Go.wp_at_zero Go.wp_at_succ

def orP (p n : Int) : Int := bits BinOp.or IntKind.i64 p (wrap64 (2 ^ n.toNat))
theorem SR.setX {w0 w : World} {b N : Nat} {m : ByteArray} {o : Option RecT} {G : Nat → Prop} (S : SR w0 w b N m o G) (X : Nat) (hX : G X) (i : Nat) (v : Value) : SR w0 (w.setCell ⟨X, i, none⟩ v).drew b N m o G := by
  have h1 := Kept.of_grown (grown_setCell w X i v) G (fun k hk => by cases hk; exact hX)
  exact S.guarded (w' := (w.setCell ⟨X, i, none⟩ v).drew) ⟨h1.os, h1.tape, h1.output, h1.size, h1.block⟩ (fun k hk => .inl hk)
theorem setX_heap {w : World} {X : Nat} {r : RecT} {T : TypeId} (h : w.heap[X]? = some (.cells (rCells r) T (0, 0))) (v : Int) : (w.setCell ⟨X, 0, none⟩ (.int .i64 v)).drew.heap[X]? = some (.cells (rCells { r with p := v }) T (0, 0)) := by
  have := heap_setCell_same h 0 (.int .i64 v)
  exact this.trans (by simp [rCells])
theorem setX_other {w : World} {X k : Nat} (hk : k ≠ X) (i : Nat) (v : Value) : (w.setCell ⟨X, i, none⟩ v).drew.heap[k]? = w.heap[k]? := Below.heap_setCell _ _ _ _ hk
def two (a b : ByteArray) (k : Nat) : ByteArray := if k = 0 then a else b
set_option maxRecDepth 100000 in
set_option maxHeartbeats 1600000 in
theorem sSend_denied (w : World) (b : Nat) (from_ to_ : ByteArray) (n : Int) (h1 : validB from_ = true ∧ from_.size ≤ 70368744177664) (h2 : validB to_ = true ∧ to_.size ≤ 70368744177664) (hn : sigB n = true) (hnear : nearB from_ to_ = false) :
    Calls Tryd.prog 14 #[.pointer (some ⟨b, 0, none⟩), .string from_, .string to_, .int .i64 n] w fun r w' => r = .returned (.int .i64 14) ∧ Below w.heap.size w w' := by
  have Ha : Hid (∀ o, Below w.heap.size w (w.alloc o)) := fun o => (Below.refl _ _).alloc (Nat.le_refl _) _
  have HX0 : Hid (∀ v u T (j : Nat), (w.alloc (.cells #[v, u] T)).cell? ⟨w.heap.size, j, none⟩ = (#[v, u] : Array Value)[j]?) := fun v u T j => cell_of_heap (heap_alloc_new w _) j
  go_enter Tryd.func14, Tryd.ntmps14
  go_wp2_with fail
  refine (sCheck_any b w.heap.size 2 2 (two from_ to_) 0 _ (fun k hk => by
    rcases (by omega : k = 0 ∨ k = 1) with rfl | rfl
    · exact HX0.out _ _ _ 0
    · exact HX0.out _ _ _ 1) (fun k _ => by unfold two; split; exact h1.2; exact h2.2) (by omega) (.inr ⟨rfl, fun k _ => by unfold two; split; exact h1.1; exact h2.1⟩)).mono ?_
  rintro r w1 ⟨rfl, hb⟩
  have HB1 : Hid (Below w.heap.size w w1) := (Ha.out _).trans (hb.mono (by simp))
  clear hb Ha HX0
  go_wp2_with fail
  refine (isSignal_is n _ hn _).mono ?_
  rintro r w2 ⟨rfl, rfl⟩
  go_wp2_with fail
  refine (isNear_is from_ to_ _ hnear _ h1.2 h2.2).mono ?_
  rintro r w2 ⟨rfl, hb⟩
  have HB2 : Hid (Below w.heap.size w w2) := HB1.out.trans (hb.mono HB1.out.size)
  clear hb
  go_wp2
  go_ret
  exact ⟨rfl, HB2.out⟩

set_option maxRecDepth 100000 in
set_option maxHeartbeats 1600000 in
theorem srSend (w0 w : World) (b N : Nat) (m : ByteArray) (G : Nat → Prop) (p bl i h0 h1 h2 h3 h4 h5 h6 h7 : Int) (s : SR w0 w b N m (some ⟨p, bl, i, h0, h1, h2, h3, h4, h5, h6, h7⟩) G) (hm : validB m = true ∧ m.size ≤ 70368744177664) (hN : N < 1000000)
    (from_ : ByteArray) (n : Int) (hf : validB from_ = true ∧ from_.size ≤ 70368744177664) (hn : 1 ≤ n ∧ n < 8) (hnear : nearB from_ m = true) (hwo : withoutB ⟨p, bl, i, h0, h1, h2, h3, h4, h5, h6, h7⟩ n = false) (p' : Int) (hp' : orP p n = p') (hc : checkR ⟨p', bl, i, h0, h1, h2, h3, h4, h5, h6, h7⟩ = 0) :
    Calls Tryd.prog 14 #[.pointer (some ⟨b, 0, none⟩), .string from_, .string m, .int .i64 n] w (SRP w0 b (N + 1) m (some ⟨p', bl, i, h0, h1, h2, h3, h4, h5, h6, h7⟩) G w (.int .i64 0)) := by
  have S0 : Hid (∀ o', SR w0 (w.alloc o') b N m (some ⟨p, bl, i, h0, h1, h2, h3, h4, h5, h6, h7⟩) G) := fun o' => s.later ((Below.refl _ _).alloc (Nat.le_refl _) _)
  have HG0 : Hid (∀ o', ∀ k, G k → (w.alloc o').heap[k]? = w.heap[k]?) := fun o' => s.gk ((Below.refl _ _).alloc (Nat.le_refl _) _)
  have HX0 : Hid (∀ v u T (j : Nat), (w.alloc (.cells #[v, u] T)).cell? ⟨w.heap.size, j, none⟩ = (#[v, u] : Array Value)[j]?) := fun v u T j => cell_of_heap (heap_alloc_new w _) j
  have Hc := Lib.hid hc; clear hc
  have Hp' := Lib.hid hp'; clear hp'
  have hsg : sigB n = true := by simp [sigB, hn.1, hn.2]
  clear s
  go_enter Tryd.func14, Tryd.ntmps14
  go_wp2_with fail
  refine (sCheck_any b w.heap.size 2 2 (two from_ m) 0 _ (fun k hk => by
    rcases (by omega : k = 0 ∨ k = 1) with rfl | rfl
    · exact HX0.out _ _ _ 0
    · exact HX0.out _ _ _ 1) (fun k _ => by unfold two; split; exact hf.2; exact hm.2) (by omega) (.inr ⟨rfl, fun k _ => by unfold two; split; exact hf.1; exact hm.1⟩)).mono ?_
  rintro r w1 ⟨rfl, hb⟩
  have S1 := Lib.hid ((S0.out _).later hb)
  have HG1 : Hid (∀ k, G k → w1.heap[k]? = w.heap[k]?) := fun k hk => ((S0.out _).gk hb k hk).trans (HG0.out _ k hk)
  clear hb S0 HG0 HX0
  go_wp2_with fail
  refine (isSignal_is n _ hsg _).mono ?_
  rintro r w2 ⟨rfl, rfl⟩
  clear hsg
  go_wp2_with fail
  refine (isNear_is from_ m _ hnear _ hf.2 hm.2).mono ?_
  rintro r w2 ⟨rfl, hb⟩
  have S2 := Lib.hid (S1.out.later hb)
  have HG2 : Hid (∀ k, G k → w2.heap[k]? = w.heap[k]?) := fun k hk => (S1.out.gk hb k hk).trans (HG1.out k hk)
  clear hb S1 HG1
  go_wp2_with fail
  refine (srGet w0 w2 b N m _ G S2.out hm).mono ?_
  rintro r w3 ⟨rfl, s3, hk3⟩
  have HG3 : Hid (∀ k, G k → w3.heap[k]? = w.heap[k]?) := fun k hk => (hk3 k hk).trans (HG2.out k hk)
  have S3 : Hid (∀ o', SR w0 (w3.alloc o') b N m (some ⟨p, bl, i, h0, h1, h2, h3, h4, h5, h6, h7⟩) (fun k => G k ∨ k = w3.heap.size)) := fun o' => s3.fresh ((Below.refl _ _).alloc (Nat.le_refl _) _) (fun k hk => hk.imp id (fun h => by subst h; simp))
  have HG3' : Hid (∀ o', ∀ k, G k → (w3.alloc o').heap[k]? = w.heap[k]?) := fun o' k hk => (s3.gk ((Below.refl _ _).alloc (Nat.le_refl _) _) k hk).trans (HG3.out k hk)
  have HGX : Hid (∀ k, G k → k ≠ w3.heap.size) := fun k hk e => absurd (s3.glt k hk) (by omega)
  have HX3 : Hid (∀ o', (w3.alloc o').heap[w3.heap.size]? = some o') := fun o' => heap_alloc_new w3 o'
  clear s3 hk3 S2 HG2 HG3
  dsimp only [rHas, recV, rCells]
  go_wp2_with fail
  refine (withoutEffect_is p bl i h0 h1 h2 h3 h4 h5 h6 h7 n (by omega) _ hwo _).mono ?_
  rintro r w4 ⟨rfl, hb⟩
  have S4 := Lib.hid ((S3.out _).later hb)
  have HG4 : Hid (∀ k, G k → w4.heap[k]? = w.heap[k]?) := fun k hk => ((S3.out _).gk hb k (.inl hk)).trans (HG3'.out _ k hk)
  have hX4 : w4.heap[w3.heap.size]? = some (.cells (rCells ⟨p, bl, i, h0, h1, h2, h3, h4, h5, h6, h7⟩) 35 (0, 0)) := (hb.block _ (by simp)).trans (HX3.out _)
  clear hb S3 HG3' HX3
  obtain ⟨c0, c1, c2, c3, c4, c5, c6, c7, c8, c9, c10⟩ := at11 hX4
  dsimp only at c0 c1 c2 c3 c4 c5 c6 c7 c8 c9 c10
  have f0 : w4.frozen? ⟨w3.heap.size, 0, none⟩ = false := frozen_of_heap hX4 0
  have HX4 := Lib.hid hX4; clear hX4
  generalize w3.heap.size = X at *
  have Hor : Hid (bits BinOp.or IntKind.i64 p (wrap64 (2 ^ n.toNat)) = p') := Hp'.out
  go_wp2_with fail
  go_region
  rw [Hor.out]
  clear c0 c1 c2 c3 c4 c5 c6 c7 c8 c9 c10 f0
  have hw5 : ∃ w5, w5 = (w4.setCell ⟨X, 0, none⟩ (.int .i64 p')).drew := ⟨_, rfl⟩
  obtain ⟨w5, hw5⟩ := hw5
  have S5 : Hid (SR w0 w5 b N m (some ⟨p, bl, i, h0, h1, h2, h3, h4, h5, h6, h7⟩) G) := by rw [hw5]; exact (S4.out.setX X (.inr rfl) 0 _).fresh (Below.refl _ _) (fun k hk => .inl (.inl hk))
  have HG5 : Hid (∀ k, G k → w5.heap[k]? = w.heap[k]?) := by rw [hw5]; exact fun k hk => (setX_other (HGX.out k hk) 0 _).trans (HG4.out k hk)
  have hX5 : w5.heap[X]? = some (.cells (rCells ⟨p', bl, i, h0, h1, h2, h3, h4, h5, h6, h7⟩) 35 (0, 0)) := by rw [hw5]; exact setX_heap HX4.out p'
  rw [← hw5]
  clear hw5 S4 HG4 HX4
  obtain ⟨c0, c1, c2, c3, c4, c5, c6, c7, c8, c9, c10⟩ := at11 hX5
  dsimp only at c0 c1 c2 c3 c4 c5 c6 c7 c8 c9 c10
  clear hX5
  go_wp2_with fail
  refine (srPut w0 w5 b N m _ G S5.out hm hN p' bl i h0 h1 h2 h3 h4 h5 h6 h7 Hc.out).mono ?_
  rintro r w6 ⟨rfl, s6, hk6⟩
  have S6 := Lib.hid s6; clear s6
  have HG6 : Hid (∀ k, G k → w6.heap[k]? = w.heap[k]?) := fun k hk => (hk6 k hk).trans (HG5.out k hk)
  clear hk6 c0 c1 c2 c3 c4 c5 c6 c7 c8 c9 c10
  go_wp2
  go_ret
  exact ⟨rfl, S6.out, HG6.out⟩

end Go.Proofs.YtemmeopaihmlcaaDoor
