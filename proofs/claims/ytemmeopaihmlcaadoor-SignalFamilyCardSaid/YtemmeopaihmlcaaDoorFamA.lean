/- SignalFamily: Send with names or numbers that are not valid; a view of a state with a record. -/
import Derived.Test.YtemmeopaihmlcaaDoorSigN
import Derived.Test.YtemmeopaihmlcaaDoorStaG
namespace Go.Proofs.YtemmeopaihmlcaaDoor
open Go.RowKit
attribute [local go_sem ↓] Go.wp_at_zero Go.wp_at_succ

set_option maxRecDepth 100000 in
set_option maxHeartbeats 1600000 in
theorem sSend_name (w : World) (b : Nat) (from_ to_ : ByteArray) (n : Int) (h1 : from_.size ≤ 70368744177664) (h2 : to_.size ≤ 70368744177664) (hv : validB from_ = false ∨ validB to_ = false) :
    Calls Tryd.prog 14 #[.pointer (some ⟨b, 0, none⟩), .string from_, .string to_, .int .i64 n] w fun r w' => r = .returned (.int .i64 12) ∧ Below w.heap.size w w' := by
  have Ha : Hid (∀ o, Below w.heap.size w (w.alloc o)) := fun o => (Below.refl _ _).alloc (Nat.le_refl _) _
  have HX0 : Hid (∀ v u T (j : Nat), (w.alloc (.cells #[v, u] T)).cell? ⟨w.heap.size, j, none⟩ = (#[v, u] : Array Value)[j]?) := fun v u T j => cell_of_heap (heap_alloc_new w _) j
  have Hv : Hid (∃ k, k < 2 ∧ validB (two from_ to_ k) = false) := hv.elim (fun h => ⟨0, by decide, h⟩) (fun h => ⟨1, by decide, h⟩)
  clear hv
  go_enter Tryd.func14, Tryd.ntmps14
  go_wp2_with fail
  refine (sCheck_any b w.heap.size 2 2 (two from_ to_) 12 _ (fun k hk => by
    rcases (by omega : k = 0 ∨ k = 1) with rfl | rfl
    · exact HX0.out _ _ _ 0
    · exact HX0.out _ _ _ 1) (fun k _ => by unfold two; split; exact h1; exact h2) (by omega) (.inl ⟨rfl, Hv.out⟩)).mono ?_
  rintro r w1 ⟨rfl, hb⟩
  have HB1 : Hid (Below w.heap.size w w1) := (Ha.out _).trans (hb.mono (by simp))
  clear hb Ha HX0
  go_wp2_with fail
  go_ret
  exact ⟨rfl, HB1.out⟩

set_option maxRecDepth 100000 in
set_option maxHeartbeats 1600000 in
theorem sSend_range (w : World) (b : Nat) (from_ to_ : ByteArray) (n : Int) (h1 : validB from_ = true ∧ from_.size ≤ 70368744177664) (h2 : validB to_ = true ∧ to_.size ≤ 70368744177664) (hn : sigB n = false) :
    Calls Tryd.prog 14 #[.pointer (some ⟨b, 0, none⟩), .string from_, .string to_, .int .i64 n] w fun r w' => r = .returned (.int .i64 2) ∧ Below w.heap.size w w' := by
  have Ha : Hid (∀ o, Below w.heap.size w (w.alloc o)) := fun o => (Below.refl _ _).alloc (Nat.le_refl _) _
  have HX0 : Hid (∀ v u T (j : Nat), (w.alloc (.cells #[v, u] T)).cell? ⟨w.heap.size, j, none⟩ = (#[v, u] : Array Value)[j]?) := fun v u T j => cell_of_heap (heap_alloc_new w _) j
  go_enter Tryd.func14, Tryd.ntmps14
  go_wp2_with fail
  refine (sCheck_any b w.heap.size 2 2 (two from_ to_) 0 _ (fun k hk => by
    rcases (by omega : k = 0 ∨ k = 1) with rfl | rfl
    · exact HX0.out _ _ _ 0
    · exact HX0.out _ _ _ 1) (fun k _ => by unfold two; split; exact h1.2; exact h2.2) (by omega) (.inr ⟨rfl, fun k _ => by unfold two; split; exact h1.1; exact h2.1⟩)).mono ?_
  rintro r w1 ⟨rfl, hb⟩
  have HB1 : Hid (Below w.heap.size w w1) := (Ha.out _).trans (hb.mono (by simp))
  clear hb Ha HX0
  go_wp2_with fail
  refine (isSignal_is n _ hn _).mono ?_
  rintro r w2 ⟨rfl, rfl⟩
  go_wp2_with fail
  go_ret
  exact ⟨rfl, HB1.out⟩

/-- A view of a state that has a record. -/
theorem sr_new {w W w' : World} {sp : Nat} {f : NameT → Option ByteArray} {m : ByteArray} {p : RecT} (hb : Below w.heap.size w W) (hlow : Below W.heap.size W w') (hv : ViewAt w' ⟨W.heap.size + 2, W.heap.size, W.heap.size + 1, .slice none 0 0, sp, W.heap.size⟩ ⟨f, [], []⟩) (hf : f (ofPendN m) = some (strOf (encRB p))) (hc : checkR p = 0) :
    SR w w' (W.heap.size + 2) 0 m (some p) (fun _ => False) := by
  refine ⟨⟨_, _, hv, rfl, hb.size, ⟨rfl, (fun e => by cases e), fun q e => ?_⟩, fun k hk => hk.elim⟩, hb.trans (hlow.mono hb.size)⟩
  cases e
  refine ⟨?_, hc⟩
  show avGet ⟨f, [], []⟩ (ofPendN m) = _
  unfold avGet
  simp [lastCall, hf]
set_option maxRecDepth 100000 in
set_option maxHeartbeats 1600000 in
theorem srSend_without (w0 w : World) (b N : Nat) (m : ByteArray) (G : Nat → Prop) (p bl i h0 h1 h2 h3 h4 h5 h6 h7 : Int) (s : SR w0 w b N m (some ⟨p, bl, i, h0, h1, h2, h3, h4, h5, h6, h7⟩) G) (hm : validB m = true ∧ m.size ≤ 70368744177664)
    (from_ : ByteArray) (n : Int) (hf : validB from_ = true ∧ from_.size ≤ 70368744177664) (hn : 1 ≤ n ∧ n < 8) (hnear : nearB from_ m = true) (hwo : withoutB ⟨p, bl, i, h0, h1, h2, h3, h4, h5, h6, h7⟩ n = true) :
    Calls Tryd.prog 14 #[.pointer (some ⟨b, 0, none⟩), .string from_, .string m, .int .i64 n] w (SRP w0 b N m (some ⟨p, bl, i, h0, h1, h2, h3, h4, h5, h6, h7⟩) G w (.int .i64 0)) := by
  have S0 : Hid (∀ o', SR w0 (w.alloc o') b N m (some ⟨p, bl, i, h0, h1, h2, h3, h4, h5, h6, h7⟩) G) := fun o' => s.later ((Below.refl _ _).alloc (Nat.le_refl _) _)
  have HG0 : Hid (∀ o', ∀ k, G k → (w.alloc o').heap[k]? = w.heap[k]?) := fun o' => s.gk ((Below.refl _ _).alloc (Nat.le_refl _) _)
  have HX0 : Hid (∀ v u T (j : Nat), (w.alloc (.cells #[v, u] T)).cell? ⟨w.heap.size, j, none⟩ = (#[v, u] : Array Value)[j]?) := fun v u T j => cell_of_heap (heap_alloc_new w _) j
  have hsg : sigB n = true := by simp [sigB, hn.1, hn.2]
  clear s
  go_enter Tryd.func14, Tryd.ntmps14
  go_wp2_with fail
  refine (sCheck_any b w.heap.size 2 2 (two from_ m) 0 _ (fun k hk => by
    rcases (by omega : k = 0 ∨ k = 1) with rfl | rfl
    · exact HX0.out _ _ _ 0
    · exact HX0.out _ _ _ 1) (fun k _ => by unfold two; split; exact hf.2; exact hm.2) (by omega) (.inr ⟨rfl, fun k _ => by unfold two; split; exact hf.1; exact hm.1⟩)).mono ?_
  rintro r w1 ⟨rfl, hb⟩
  have S1 := Lib.hid ((S0.out _).later hb)
  have HG1 : Hid (∀ k, G k → w1.heap[k]? = w.heap[k]?) := fun k hk => ((S0.out _).gk hb k hk).trans (HG0.out _ k hk)
  clear hb S0 HG0 HX0
  go_wp2_with fail
  refine (isSignal_is n _ hsg _).mono ?_
  rintro r w2 ⟨rfl, rfl⟩
  clear hsg
  go_wp2_with fail
  refine (isNear_is from_ m _ hnear _ hf.2 hm.2).mono ?_
  rintro r w2 ⟨rfl, hb⟩
  have S2 := Lib.hid (S1.out.later hb)
  have HG2 : Hid (∀ k, G k → w2.heap[k]? = w.heap[k]?) := fun k hk => (S1.out.gk hb k hk).trans (HG1.out k hk)
  clear hb S1 HG1
  go_wp2_with fail
  refine (srGet w0 w2 b N m _ G S2.out hm).mono ?_
  rintro r w3 ⟨rfl, s3, hk3⟩
  have HG3 : Hid (∀ k, G k → w3.heap[k]? = w.heap[k]?) := fun k hk => (hk3 k hk).trans (HG2.out k hk)
  have S3 : Hid (∀ o', SR w0 (w3.alloc o') b N m (some ⟨p, bl, i, h0, h1, h2, h3, h4, h5, h6, h7⟩) (fun k => G k ∨ k = w3.heap.size)) := fun o' => s3.fresh ((Below.refl _ _).alloc (Nat.le_refl _) _) (fun k hk => hk.imp id (fun h => by subst h; simp))
  have HG3' : Hid (∀ o', ∀ k, G k → (w3.alloc o').heap[k]? = w.heap[k]?) := fun o' k hk => (s3.gk ((Below.refl _ _).alloc (Nat.le_refl _) _) k hk).trans (HG3.out k hk)
  clear s3 hk3 S2 HG2 HG3
  dsimp only [rHas, recV, rCells]
  go_wp2_with fail
  refine (withoutEffect_is p bl i h0 h1 h2 h3 h4 h5 h6 h7 n (by omega) _ hwo _).mono ?_
  rintro r w4 ⟨rfl, hb⟩
  have S4 : Hid (SR w0 w4 b N m (some ⟨p, bl, i, h0, h1, h2, h3, h4, h5, h6, h7⟩) G) := ((S3.out _).later hb).fresh (Below.refl _ _) (fun k hk => .inl (.inl hk))
  have HG4 : Hid (∀ k, G k → w4.heap[k]? = w.heap[k]?) := fun k hk => ((S3.out _).gk hb k (.inl hk)).trans (HG3'.out _ k hk)
  clear hb S3 HG3'
  go_wp2_with fail
  go_ret
  exact ⟨rfl, S4.out, HG4.out⟩

set_option maxRecDepth 100000 in
set_option maxHeartbeats 2000000 in
theorem checkPend_bad (m : ByteArray) (w : World) (hu : Usages w) (hm : validB m = false) (hmz : m.size ≤ 70368744177664) :
    Calls Tryd.prog 25 #[.agg #[.int .i64 6, .string m, .int .i64 0, .int .i64 0, .string ⟨#[]⟩]] w fun r w' => r = .returned (.int .i64 12) ∧ Below w.heap.size w w' := by
  have hp := hu.pos
  obtain ⟨u0, u1, u2, u3, u4, u5⟩ := hu 6 (by decide)
  have v0 : w.cell? ⟨0, 36, none⟩ = some (.string ⟨#[112, 101, 110, 100, 105, 110, 103]⟩) := u0
  have v1 : w.cell? ⟨0, 37, none⟩ = some (.bool true) := u1
  have v2 : w.cell? ⟨0, 38, none⟩ = some (.bool false) := u2
  have v3 : w.cell? ⟨0, 39, none⟩ = some (.bool false) := u3
  have v4 : w.cell? ⟨0, 40, none⟩ = some (.bool false) := u4
  have v5 : w.cell? ⟨0, 41, none⟩ = some (.int .i64 0) := u5
  clear u0 u1 u2 u3 u4 u5
  have Hu := Lib.hid hu; clear hu
  go_enter Tryd.func25, Tryd.ntmps25
  go_wp2_with fail
  refine (isKind_any 6 _ (by decide) (by decide)).mono ?_
  rintro e w1 ⟨rfl, rfl⟩
  go_wp2_with fail
  refine (valid_is m _ hmz hm _).mono ?_
  rintro e w1 ⟨rfl, hb1⟩
  have hn1 := (hb1.block w.heap.size (by simp; omega)).trans ((Below.heap_alloc _ _ _ (by simp)).trans (World.alloc_heap_new w _))
  have hu1 := (hb1.block (w.heap.size + 1) (by simp)).trans (second_newS w _ _)
  have t2 : w1.cell? ⟨w.heap.size + 1, 2, none⟩ = some (.bool false) := cell_of_heap hu1 2
  have t3 : w1.cell? ⟨w.heap.size + 1, 3, none⟩ = some (.bool false) := cell_of_heap hu1 3
  have t4 : w1.cell? ⟨w.heap.size + 1, 4, none⟩ = some (.bool false) := cell_of_heap hu1 4
  have q2 : w1.cell? ⟨w.heap.size, 2, none⟩ = some (.int .i64 0) := cell_of_heap hn1 2
  have q3 : w1.cell? ⟨w.heap.size, 3, none⟩ = some (.int .i64 0) := cell_of_heap hn1 3
  have q4 : w1.cell? ⟨w.heap.size, 4, none⟩ = some (.string ⟨#[]⟩) := cell_of_heap hn1 4
  have HB1 : Hid (Below w.heap.size w w1) := (((Below.refl _ _).alloc (Nat.le_refl _) _).alloc (by simp) _).trans (hb1.mono (by simp; omega))
  clear hb1 hn1 hu1 v0 v1 v2 v3 v4 v5
  go_wp2
  go_ret
  exact ⟨rfl, HB1.out⟩
end Go.Proofs.YtemmeopaihmlcaaDoor
