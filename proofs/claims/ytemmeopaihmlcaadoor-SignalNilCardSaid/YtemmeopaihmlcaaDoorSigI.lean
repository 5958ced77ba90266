/- signal: put, add, Make, Get, at the record that a view holds. -/
import Derived.Test.YtemmeopaihmlcaaDoorSigH
namespace Go.Proofs.YtemmeopaihmlcaaDoor
open Go.RowKit
attribute [local go_sem ↓] Go.wp_at_zero Go.wp_at_succ

theorem SR.gk {w0 w w' : World} {b N : Nat} {m : ByteArray} {o : Option RecT} {G : Nat → Prop} (s : SR w0 w b N m o G) (hb : Below w.heap.size w w') : ∀ k, G k → w'.heap[k]? = w.heap[k]? := by
  obtain ⟨⟨V, h, hv, h1, h2, h3, h4⟩, h5⟩ := s
  exact fun k hk => hb.block k (h4 k hk).2.1
theorem SR.glt {w0 w : World} {b N : Nat} {m : ByteArray} {o : Option RecT} {G : Nat → Prop} (s : SR w0 w b N m o G) : ∀ k, G k → k < w.heap.size := by
  obtain ⟨⟨V, h, hv, h1, h2, h3, h4⟩, h5⟩ := s
  exact fun k hk => (h4 k hk).2.1
/-- What goes on: the view as it was, the guarded blocks as at w. -/
structure SRG (w0 : World) (b N : Nat) (m : ByteArray) (o : Option RecT) (G : Nat → Prop) (w w' : World) : Prop where
  s : SR w0 w' b N m o G
  g : ∀ k, G k → w'.heap[k]? = w.heap[k]?
  le : w.heap.size ≤ w'.heap.size
section
variable {w0 w w1 w2 : World} {b N : Nat} {m : ByteArray} {o : Option RecT} {G : Nat → Prop}
theorem SR.start (s : SR w0 w b N m o G) : SRG w0 b N m o G w w := ⟨s, fun _ _ => rfl, Nat.le_refl _⟩
theorem SRG.later (s : SRG w0 b N m o G w w1) (hb : Below w1.heap.size w1 w2) : SRG w0 b N m o G w w2 :=
  ⟨s.s.later hb, fun k hk => (s.s.gk hb k hk).trans (s.g k hk), Nat.le_trans s.le hb.size⟩
theorem SRG.then_ {N' : Nat} {o' : Option RecT} (s : SRG w0 b N m o G w w1) (h : SR w0 w2 b N' m o' G ∧ ∀ k, G k → w2.heap[k]? = w1.heap[k]?) (hz : w1.heap.size ≤ w2.heap.size) : SRG w0 b N' m o' G w w2 :=
  ⟨h.1, fun k hk => (h.2 k hk).trans (s.g k hk), Nat.le_trans s.le hz⟩
end

set_option maxRecDepth 100000 in
set_option maxHeartbeats 1600000 in
theorem srPut (w0 w : World) (b N : Nat) (m : ByteArray) (o : Option RecT) (G : Nat → Prop) (s : SR w0 w b N m o G) (hm : validB m = true ∧ m.size ≤ 70368744177664) (hN : N < 1000000)
    (p bl i h0 h1 h2 h3 h4 h5 h6 h7 : Int) (hc : checkR ⟨p, bl, i, h0, h1, h2, h3, h4, h5, h6, h7⟩ = 0) :
    Calls Tryd.prog 39 #[.pointer (some ⟨b, 0, none⟩), .string m, .agg #[.int .i64 p, .int .i64 bl, .int .i64 i, .int .i64 h0, .int .i64 h1, .int .i64 h2, .int .i64 h3, .int .i64 h4, .int .i64 h5, .int .i64 h6, .int .i64 h7]] w (SRP w0 b (N + 1) m (some ⟨p, bl, i, h0, h1, h2, h3, h4, h5, h6, h7⟩) G w (.int .i64 0)) := by
  have Hc := Lib.hid hc; clear hc
  have S := Lib.hid s; clear s
  have he : Hid (encR ⟨p, bl, i, h0, h1, h2, h3, h4, h5, h6, h7⟩ = (strOf (encRB ⟨p, bl, i, h0, h1, h2, h3, h4, h5, h6, h7⟩), 0)) := if_pos Hc.out
  have Ha : Hid (∀ o', Below w.heap.size w (w.alloc o')) := fun o' => (Below.refl _ _).alloc (Nat.le_refl _) _
  go_enter Tryd.func39, Tryd.ntmps39
  go_wp2_with fail
  refine (rEncode_any p bl i h0 h1 h2 h3 h4 h5 h6 h7 _).mono ?_
  rw [he.out]
  rintro r w1 ⟨rfl, hb1⟩
  have hb1' := (Ha.out _).trans (hb1.mono (Ha.out _).size)
  have S1 := Lib.hid (S.out.later hb1')
  have HG : Hid (∀ k, G k → w1.heap[k]? = w.heap[k]?) := S.out.gk hb1'
  clear hb1 hb1'
  go_wp2_with fail
  refine (ofPend_any m _).mono ?_
  rintro r w2 ⟨rfl, hb2⟩
  have S2 := Lib.hid (S1.out.later hb2)
  have HG2 : Hid (∀ k, G k → w2.heap[k]? = w.heap[k]?) := fun k hk => (S1.out.gk hb2 k hk).trans (HG.out k hk)
  clear hb2 S1 HG
  go_wp2_with fail
  refine (srVSet w0 w2 b N m o G S2.out hm hN _ Hc.out).mono ?_
  rintro r w3 ⟨rfl, s3, hk3⟩
  have S3 := Lib.hid s3; clear s3
  have HG3 : Hid (∀ k, G k → w3.heap[k]? = w.heap[k]?) := fun k hk => (hk3 k hk).trans (HG2.out k hk)
  clear hk3
  go_wp2
  go_ret
  exact ⟨rfl, S3.out, HG3.out⟩

def rHas : Option RecT → RecT × Nat
  | none => (zeroR, 8)
  | some r => (r, 0)
/-- What Get leaves. -/
def RGetPost (w0 : World) (b N : Nat) (m : ByteArray) (o : Option RecT) (G : Nat → Prop) (w : World) (r : Ending) (w' : World) : Prop :=
  r = .returned (.tuple #[recV (rHas o).1, .int .i64 (rHas o).2]) ∧ SR w0 w' b N m o G ∧ ∀ k, G k → w'.heap[k]? = w.heap[k]?
theorem rget_fin {w0 w w3 w4 X : World} {b N : Nat} {m : ByteArray} {o : Option RecT} {G : Nat → Prop} (hsz : w.heap.size ≤ w3.heap.size)
    (S3 : SR w0 w3 b N m o (fun k => G k ∨ k = w.heap.size)) (hG3 : ∀ k, G k → w3.heap[k]? = w.heap[k]?) (hGw : ∀ k, G k → k < w.heap.size) (hb : Below w3.heap.size w3 w4) (hg : w4.grownBy X (some w.heap.size)) :
    SR w0 X b N m o G ∧ ∀ k, G k → X.heap[k]? = w.heap[k]? := by
  have hlt : w.heap.size < w3.heap.size := S3.glt _ (.inr rfl)
  have hK : Kept (fun k => G k ∨ k = w.heap.size) w3 X := (Kept.of_below hb _).trans (Kept.of_grown hg _ (fun k hk => by cases hk; exact .inr rfl)) (fun _ _ hs => hs)
  refine ⟨S3.guarded hK (fun k hk => .inl (.inl hk)), fun k hk => ?_⟩
  have hkw := hGw k hk
  exact (hg.block k (Nat.lt_of_lt_of_le hkw (Nat.le_trans hsz hb.size)) (fun e => by cases e; exact absurd hkw (Nat.lt_irrefl _))).trans ((hb.block k (Nat.lt_of_lt_of_le hkw hsz)).trans (hG3 k hk))

set_option maxRecDepth 100000 in
set_option maxHeartbeats 1600000 in
theorem srGet (w0 w : World) (b N : Nat) (m : ByteArray) (o : Option RecT) (G : Nat → Prop) (s : SR w0 w b N m o G) (hm : validB m = true ∧ m.size ≤ 70368744177664) :
    Calls Tryd.prog 37 #[.pointer (some ⟨b, 0, none⟩), .string m] w (RGetPost w0 b N m o G w) := by
  have HGw : Hid (∀ k, G k → k < w.heap.size) := s.glt
  have S0 : Hid (∀ o' o2, SR w0 ((w.alloc o').alloc o2) b N m o (fun k => G k ∨ k = w.heap.size)) := fun o' o2 => s.fresh (((Below.refl _ _).alloc (Nat.le_refl _) _).alloc (by simp) _) (fun k hk => hk.imp id (fun h => by subst h; simp; omega))
  have HG0 : Hid (∀ o' o2, ∀ k, G k → ((w.alloc o').alloc o2).heap[k]? = w.heap[k]?) := fun o' o2 => s.gk (((Below.refl _ _).alloc (Nat.le_refl _) _).alloc (by simp) _)
  have HR0 : Hid (∀ o' o2, ((w.alloc o').alloc o2).heap[w.heap.size]? = some o') := fun o' o2 => (Below.heap_alloc _ _ _ (by simp)).trans (World.alloc_heap_new w _)
  have HX0 : Hid (∀ o' v T, ((w.alloc o').alloc (.cells #[v] T)).cell? ⟨w.heap.size + 1, 0, none⟩ = some v) := fun o' v T => cell_of_heap (second_newS w _ _) 0
  clear s
  go_enter Tryd.func37, Tryd.ntmps37
  go_wp2_with fail
  refine (sCheck_any b (w.heap.size + 1) 1 1 (fun _ => m) 0 _ (fun k hk => by obtain rfl : k = 0 := by omega
                                                                              exact HX0.out _ _ _) (fun _ _ => hm.2) (by omega) (.inr ⟨rfl, fun _ _ => hm.1⟩)).mono ?_
  rintro r w1 ⟨rfl, hb⟩
  have S1 := Lib.hid ((S0.out _ _).later hb)
  have HG1 : Hid (∀ k, G k → w1.heap[k]? = w.heap[k]?) := fun k hk => ((S0.out _ _).gk hb k (.inl hk)).trans (HG0.out _ _ k hk)
  have HR1 := Lib.hid ((hb.block _ (lt_of_heap (HR0.out _ _))).trans (HR0.out _ _))
  clear hb S0 HG0 HR0 HX0
  go_wp2_with fail
  refine (ofPend_any m _).mono ?_
  rintro r w2 ⟨rfl, hb⟩
  have S2 := Lib.hid (S1.out.later hb)
  have HG2 : Hid (∀ k, G k → w2.heap[k]? = w.heap[k]?) := fun k hk => (S1.out.gk hb k (.inl hk)).trans (HG1.out k hk)
  have HR2 := Lib.hid ((hb.block _ (lt_of_heap HR1.out)).trans HR1.out)
  clear hb S1 HG1 HR1
  go_wp2_with fail
  refine (srVGet w0 w2 b N m o _ S2.out hm).mono ?_
  rintro r w3 ⟨sv, rfl, hsv, s3, hk3⟩
  have S3 := Lib.hid s3
  have HG3 : Hid (∀ k, G k → w3.heap[k]? = w.heap[k]?) := fun k hk => (hk3 k (.inl hk)).trans (HG2.out k hk)
  have hR3 : w3.heap[w.heap.size]? = some (.cells (rCells zeroR) 35 (0, 0)) := (hk3 w.heap.size (.inr rfl)).trans HR2.out
  have Hsv := Lib.hid hsv
  clear s3 hk3 S2 HG2 HR2 hsv
  have Hz3 : Hid (w.heap.size ≤ w3.heap.size) := Nat.le_of_lt (lt_of_heap hR3)
  have HR3 := Lib.hid hR3; clear hR3
  cases o with
  | none =>
    obtain ⟨r0, r1, r2, r3, r4, r5, r6, r7, r8, r9, r10⟩ := at11 HR3.out
    obtain ⟨g0, g1, g2, g3, g4, g5, g6, g7, g8, g9, g10⟩ := free11 HR3.out
    dsimp only [Option.isSome]
    go_wp2
    refine bodyPost_ret (v := .tuple #[.agg #[.int .i64 0, .int .i64 0, .int .i64 0, .int .i64 0, .int .i64 0, .int .i64 0, .int .i64 0, .int .i64 0, .int .i64 0, .int .i64 0, .int .i64 0], .int .i64 8]) (by simp [results, Tryd.results37, go_sem, r0, r1, r2, r3, r4, r5, r6, r7, r8, r9, r10]) rfl ?_
    exact ⟨rfl, rget_fin Hz3.out S3.out HG3.out HGw.out (Below.refl _ _) (set11_grown _ _ _ _ _ _ _ _ _ _ _ _ _)⟩
  | some p' =>
    obtain rfl := Hsv.out p' rfl
    have hck := S3.out.check
    have hdec := rdec_enc p' hck
    have hsz : (strOf (encRB p')).size ≤ 35184372088832 := Nat.le_trans (encRB_size p') (by decide)
    have Hdec := Lib.hid hdec; clear hdec hck Hsv
    dsimp only [Option.isSome]
    go_wp2_with fail
    refine (rDecode_any _ _ hsz).mono ?_
    rw [Hdec.out]
    rintro r w4 ⟨rfl, hb⟩
    have HB := Lib.hid hb
    have hR4 := (hb.block w.heap.size (lt_of_heap HR3.out)).trans HR3.out
    clear hb
    obtain ⟨r0, r1, r2, r3, r4, r5, r6, r7, r8, r9, r10⟩ := at11 hR4
    obtain ⟨g0, g1, g2, g3, g4, g5, g6, g7, g8, g9, g10⟩ := free11 hR4
    clear hR4
    obtain ⟨p, bl, i, h0, h1, h2, h3, h4, h5, h6, h7⟩ := p'
    dsimp only [recV, rCells] at *
    go_wp2
    refine bodyPost_ret (v := .tuple #[.agg #[.int .i64 p, .int .i64 bl, .int .i64 i, .int .i64 h0, .int .i64 h1, .int .i64 h2, .int .i64 h3, .int .i64 h4, .int .i64 h5, .int .i64 h6, .int .i64 h7], .int .i64 0]) (by simp [results, Tryd.results37, go_sem, r0, r1, r2, r3, r4, r5, r6, r7, r8, r9, r10]) rfl ?_
    exact ⟨rfl, rget_fin Hz3.out S3.out HG3.out HGw.out HB.out (set11_grown _ _ _ _ _ _ _ _ _ _ _ _ _)⟩

set_option maxRecDepth 100000 in
set_option maxHeartbeats 1600000 in
theorem srAdd (w0 w : World) (b N : Nat) (m : ByteArray) (G : Nat → Prop) (s : SR w0 w b N m none G) (hm : validB m = true ∧ m.size ≤ 70368744177664) (hN : N < 1000000)
    (p bl i h0 h1 h2 h3 h4 h5 h6 h7 : Int) (hc : checkR ⟨p, bl, i, h0, h1, h2, h3, h4, h5, h6, h7⟩ = 0) :
    Calls Tryd.prog 46 #[.pointer (some ⟨b, 0, none⟩), .string m, .agg #[.int .i64 p, .int .i64 bl, .int .i64 i, .int .i64 h0, .int .i64 h1, .int .i64 h2, .int .i64 h3, .int .i64 h4, .int .i64 h5, .int .i64 h6, .int .i64 h7]] w (SRP w0 b (N + 1) m (some ⟨p, bl, i, h0, h1, h2, h3, h4, h5, h6, h7⟩) G w (.int .i64 0)) := by
  have Hc := Lib.hid hc; clear hc
  have HGw : Hid (∀ k, G k → k < w.heap.size) := s.glt
  have S0 : Hid (∀ o', SR w0 (w.alloc o') b N m none (fun k => G k ∨ k = w.heap.size)) := fun o' => s.fresh ((Below.refl _ _).alloc (Nat.le_refl _) _) (fun k hk => hk.imp id (fun h => by subst h; simp))
  have HG0 : Hid (∀ o', ∀ k, G k → (w.alloc o').heap[k]? = w.heap[k]?) := fun o' => s.gk ((Below.refl _ _).alloc (Nat.le_refl _) _)
  have HR0 : Hid (∀ o', (w.alloc o').heap[w.heap.size]? = some o') := fun o' => heap_alloc_new w o'
  clear s
  go_enter Tryd.func46, Tryd.ntmps46
  go_wp2_with fail
  refine (ofPend_any m _).mono ?_
  rintro r w2 ⟨rfl, hb⟩
  have S2 := Lib.hid ((S0.out _).later hb)
  have HG2 : Hid (∀ k, G k → w2.heap[k]? = w.heap[k]?) := fun k hk => ((S0.out _).gk hb k (.inl hk)).trans (HG0.out _ k hk)
  have HR2 := Lib.hid ((hb.block _ (lt_of_heap (HR0.out _))).trans (HR0.out _))
  clear hb S0 HG0 HR0
  go_wp2_with fail
  refine (srVHas w0 w2 b N m none _ S2.out hm).mono ?_
  rintro r w3 ⟨rfl, s3, hk3⟩
  have S3 : Hid (SR w0 w3 b N m none G) := s3.fresh (Below.refl _ _) (fun k hk => .inl (.inl hk))
  have HG3 : Hid (∀ k, G k → w3.heap[k]? = w.heap[k]?) := fun k hk => (hk3 k (.inl hk)).trans (HG2.out k hk)
  have hR3 : w3.heap[w.heap.size]? = some (.cells (rCells ⟨p, bl, i, h0, h1, h2, h3, h4, h5, h6, h7⟩) 35 (0, 0)) := (hk3 w.heap.size (.inr rfl)).trans HR2.out
  clear s3 hk3 S2 HG2 HR2
  obtain ⟨c0, c1, c2, c3, c4, c5, c6, c7, c8, c9, c10⟩ := at11 hR3
  dsimp only at c0 c1 c2 c3 c4 c5 c6 c7 c8 c9 c10
  clear hR3
  dsimp only [Option.isSome]
  go_wp2_with fail
  refine (srPut w0 w3 b N m none G S3.out hm hN p bl i h0 h1 h2 h3 h4 h5 h6 h7 Hc.out).mono ?_
  rintro r w4 ⟨rfl, s4, hk4⟩
  have S4 := Lib.hid s4; clear s4
  have HG4 : Hid (∀ k, G k → w4.heap[k]? = w.heap[k]?) := fun k hk => (hk4 k hk).trans (HG3.out k hk)
  clear hk4 c0 c1 c2 c3 c4 c5 c6 c7 c8 c9 c10
  go_wp2
  go_ret
  exact ⟨rfl, S4.out, HG4.out⟩

theorem zero_ok : checkR ⟨0, 0, 0, 0, 0, 0, 0, 0, 0, 0, 0⟩ = 0 := by decide +kernel
set_option maxRecDepth 100000 in
set_option maxHeartbeats 1600000 in
theorem srMake (w0 w : World) (b N : Nat) (m : ByteArray) (G : Nat → Prop) (s : SR w0 w b N m none G) (hm : validB m = true ∧ m.size ≤ 70368744177664) (hN : N < 1000000) :
    Calls Tryd.prog 16 #[.pointer (some ⟨b, 0, none⟩), .string m] w (SRP w0 b (N + 1) m (some ⟨0, 0, 0, 0, 0, 0, 0, 0, 0, 0, 0⟩) G w (.int .i64 0)) := by
  have S0 : Hid (∀ o', SR w0 (w.alloc o') b N m none G) := fun o' => s.later ((Below.refl _ _).alloc (Nat.le_refl _) _)
  have HG0 : Hid (∀ o', ∀ k, G k → (w.alloc o').heap[k]? = w.heap[k]?) := fun o' => s.gk ((Below.refl _ _).alloc (Nat.le_refl _) _)
  have HX0 : Hid (∀ v T, (w.alloc (.cells #[v] T)).cell? ⟨w.heap.size, 0, none⟩ = some v) := fun v T => cell_box _ _ _
  clear s
  go_enter Tryd.func16, Tryd.ntmps16
  go_wp2_with fail
  refine (sCheck_any b w.heap.size 1 1 (fun _ => m) 0 _ (fun k hk => by obtain rfl : k = 0 := by omega
                                                                        exact HX0.out _ _) (fun _ _ => hm.2) (by omega) (.inr ⟨rfl, fun _ _ => hm.1⟩)).mono ?_
  rintro r w1 ⟨rfl, hb⟩
  have S1 := Lib.hid ((S0.out _).later hb)
  have HG1 : Hid (∀ k, G k → w1.heap[k]? = w.heap[k]?) := fun k hk => ((S0.out _).gk hb k hk).trans (HG0.out _ k hk)
  clear hb S0 HG0 HX0
  go_wp2_with fail
  refine (srAdd w0 w1 b N m G S1.out hm hN 0 0 0 0 0 0 0 0 0 0 0 zero_ok).mono ?_
  rintro r w4 ⟨rfl, s4, hk4⟩
  have S4 := Lib.hid s4; clear s4
  have HG4 : Hid (∀ k, G k → w4.heap[k]? = w.heap[k]?) := fun k hk => (hk4 k hk).trans (HG1.out k hk)
  clear hk4
  go_wp2
  go_ret
  exact ⟨rfl, S4.out, HG4.out⟩

end Go.Proofs.YtemmeopaihmlcaaDoor
