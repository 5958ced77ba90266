/- port: put, Get, at the port that a view holds. -/
import Derived.Test.YtijfdgoeppehlaaGreatDoorPorC
import Derived.Test.YtijfdgoeppehlaaGreatDoorPorE
import Derived.Test.YtijfdgoeppehlaaGreatDoorPorI
namespace Go.Proofs.YtijfdgoeppehlaaGreatDoor
open Go.RowKit
attribute [local go_sem ↓] Go.wp_at_zero Go.wp_at_succ

theorem SQ.gk {w0 w w' : World} {b N : Nat} {m : Int} {o : Option PortT} {G : Nat → Prop} (s : SQ w0 w b N m o G) (hb : Below w.heap.size w w') : ∀ k, G k → w'.heap[k]? = w.heap[k]? := by
  obtain ⟨⟨V, h, hv, h1, h2, h3, h4⟩, h5⟩ := s
  exact fun k hk => hb.block k (h4 k hk).2.1
theorem SQ.glt {w0 w : World} {b N : Nat} {m : Int} {o : Option PortT} {G : Nat → Prop} (s : SQ w0 w b N m o G) : ∀ k, G k → k < w.heap.size := by
  obtain ⟨⟨V, h, hv, h1, h2, h3, h4⟩, h5⟩ := s
  exact fun k hk => (h4 k hk).2.1

set_option maxRecDepth 100000 in
set_option maxHeartbeats 1600000 in
theorem sqPut (w0 w : World) (b N : Nat) (m : Int) (o : Option PortT) (G : Nat → Prop) (s : SQ w0 w b N m o G) (hm : 0 ≤ m ∧ m ≤ 1073741824) (hN : N < 1000000)
    (ow : ByteArray) (ep lo : Int) (a : Option Addr) (n c : Nat) (ls : List PackT) (hs : PSl w a n ls) (hc : checkQ ⟨ow, ep, lo, ls⟩ = 0) (ho : ow.size ≤ 64) :
    Calls Tryz.prog 37 #[.pointer (some ⟨b, 0, none⟩), .int .i64 m, .agg #[.string ow, .int .i64 ep, .int .i64 lo, .slice a n c]] w (SQP w0 b (N + 1) m (some ⟨ow, ep, lo, ls⟩) G w (.int .i64 0)) := by
  have Hs := Lib.hid hs; clear hs
  have Hc := Lib.hid hc; clear hc
  have S := Lib.hid s; clear s
  have he : Hid (encQ ⟨ow, ep, lo, ls⟩ = (strOf (encQB ⟨ow, ep, lo, ls⟩), 0)) := if_pos Hc.out
  have hk := checkQ_ok Hc.out
  have Hls : Hid (∀ x ∈ ls, x.src.size ≤ 70368744177664 ∧ x.bytes.size ≤ 70368744177664) := fun x hx => by have := packE_size (packsE_size hk.2.2.2.2 x hx); omega
  have hn : n ≤ 16 := by rw [← Hs.out.1]; exact hk.2.2.2.1
  clear hk
  have Ha : Hid (∀ o', Below w.heap.size w (w.alloc o')) := fun o' => (Below.refl _ _).alloc (Nat.le_refl _) _
  go_enter Tryz.func37, Tryz.ntmps37
  go_wp2_with fail
  refine (qEncode_any ow ep lo a n c ls _ (Hs.out.later (Ha.out _)) (by omega) (by omega) Hls.out).mono ?_
  rw [he.out]
  rintro r w1 ⟨rfl, hb1⟩
  have hb1' := (Ha.out _).trans (hb1.mono (Ha.out _).size)
  have S1 := Lib.hid (S.out.later hb1')
  have HG : Hid (∀ k, G k → w1.heap[k]? = w.heap[k]?) := S.out.gk hb1'
  clear hb1 hb1'
  go_wp2_with fail
  refine (ofPort_any m _).mono ?_
  rintro r w2 ⟨rfl, hb2⟩
  have S2 := Lib.hid (S1.out.later hb2)
  have HG2 : Hid (∀ k, G k → w2.heap[k]? = w.heap[k]?) := fun k hk => (S1.out.gk hb2 k hk).trans (HG.out k hk)
  clear hb2 S1 HG
  go_wp2_with fail
  refine (sqVSet w0 w2 b N m o G S2.out hm hN _ Hc.out ho).mono ?_
  rintro r w3 ⟨rfl, s3, hk3⟩
  have S3 := Lib.hid s3; clear s3
  have HG3 : Hid (∀ k, G k → w3.heap[k]? = w.heap[k]?) := fun k hk => (hk3 k hk).trans (HG2.out k hk)
  clear hk3
  go_wp2
  go_ret
  exact ⟨rfl, S3.out, HG3.out⟩

/-- What Get leaves. -/
def QGetPost (w0 : World) (b N : Nat) (m : Int) (o : Option PortT) (G : Nat → Prop) (w : World) (p : PortT) (q : Nat) (r : Ending) (w' : World) : Prop :=
  ∃ a n c, r = .returned (.tuple #[.agg #[.string p.owner, .int .i64 p.epoch, .int .i64 p.lost, .slice a n c], .int .i64 q]) ∧ PRow w' (.slice a n c) p.queue ∧ (∀ g, (Value.slice a n c).ownBlock = some g → w.heap.size ≤ g) ∧
    SQ w0 w' b N m o (fun k => G k ∨ (Value.slice a n c).ownBlock = some k) ∧ ∀ k, G k → w'.heap[k]? = w.heap[k]?
theorem get_fin {w0 w w3 w4 X : World} {b N : Nat} {m : Int} {o : Option PortT} {G : Nat → Prop} {p : PortT} {q : Nat} {a : Option Addr} {n c : Nat} (hsz : w.heap.size ≤ w3.heap.size)
    (S3 : SQ w0 w3 b N m o (fun k => G k ∨ k = w.heap.size)) (hG3 : ∀ k, G k → w3.heap[k]? = w.heap[k]?) (hGw : ∀ k, G k → k < w.heap.size) (hb : Below w3.heap.size w3 w4) (hg : w4.grownBy X (some w.heap.size))
    (hr : PRow w4 (.slice a n c) p.queue) (hl : ∀ g, (Value.slice a n c).ownBlock = some g → w3.heap.size ≤ g) :
    QGetPost w0 b N m o G w p q (.returned (.tuple #[.agg #[.string p.owner, .int .i64 p.epoch, .int .i64 p.lost, .slice a n c], .int .i64 q])) X := by
  have hlt : w.heap.size < w3.heap.size := S3.glt _ (.inr rfl)
  have hK : Kept (fun k => G k ∨ k = w.heap.size) w3 X := (Kept.of_below hb _).trans (Kept.of_grown hg _ (fun k hk => by cases hk; exact .inr rfl)) (fun _ _ hs => hs)
  have hrX : PRow X (.slice a n c) p.queue := hr.grown hg (fun k hk e => by cases hk; have := hl _ e; omega)
  refine ⟨a, n, c, rfl, hrX, fun g hg' => Nat.le_trans hsz (hl g hg'), S3.guarded hK (fun k hk => ?_), fun k hk => ?_⟩
  · rcases hk with h | h
    · exact .inl (.inl h)
    · obtain ⟨cur, hc⟩ := row_lt hrX h
      exact .inr ⟨hl k h, lt_of_heap hc⟩
  · have hkw := hGw k hk
    refine (hg.block k (Nat.lt_of_lt_of_le hkw (Nat.le_trans hsz hb.size)) (fun e => by cases e; exact absurd hkw (Nat.lt_irrefl _))).trans ((hb.block k (Nat.lt_of_lt_of_le hkw hsz)).trans (hG3 k hk))

theorem qSet4_alloc {w : World} {R : Nat} {p0 p1 p2 p3 : Value} {T : TypeId} (hR : w.heap[R]? = some (.cells #[p0, p1, p2, p3] T (0, 0))) (a b c d : Value) (o : Obj) (j : Nat) :
    (((((w.setCell ⟨R, 0, none⟩ a).setCell ⟨R, 1, none⟩ b).setCell ⟨R, 2, none⟩ c).setCell ⟨R, 3, none⟩ d).alloc o).cell? ⟨R, j, none⟩ = (#[a, b, c, d] : Array Value)[j]? := by
  have h1 := heap_setCell_same (heap_setCell_same (heap_setCell_same (heap_setCell_same hR 0 a) 1 b) 2 c) 3 d
  have h2 := (Below.heap_alloc ((((w.setCell ⟨R, 0, none⟩ a).setCell ⟨R, 1, none⟩ b).setCell ⟨R, 2, none⟩ c).setCell ⟨R, 3, none⟩ d) o R (lt_of_heap h1)).trans h1
  exact cell_of_heap h2 j
theorem qGrown_set4_alloc (w : World) (R : Nat) (a b c d : Value) (o : Obj) : w.grownBy (((((w.setCell ⟨R, 0, none⟩ a).setCell ⟨R, 1, none⟩ b).setCell ⟨R, 2, none⟩ c).setCell ⟨R, 3, none⟩ d).alloc o) (some R) :=
  grown_trans (grown_set4 w R a b c d) (World.grownBy_alloc _ _ _)

set_option maxRecDepth 100000 in
set_option maxHeartbeats 1600000 in
theorem sqGet (w0 w : World) (b N : Nat) (m : Int) (o : Option PortT) (G : Nat → Prop) (s : SQ w0 w b N m o G) (e : Int) (hm : 1 ≤ m ∧ m ≤ 9999) (he : numB e = true) (p : PortT) (q : Nat) (hst : qHas e o = (p, q)) :
    Calls Tryz.prog 29 #[.pointer (some ⟨b, 0, none⟩), .int .i64 m, .int .i64 e] w (QGetPost w0 b N m o G w p q) := by
  have Hargs : Hid (qArgs ⟨#[]⟩ m e = 0) := by
    show _ = _
    unfold qArgs
    rw [if_neg (by rw [valid_emp]; simp), if_neg (by rw [he]; simp; omega)]
  have Hst := Lib.hid hst; clear hst
  have HGw : Hid (∀ k, G k → k < w.heap.size) := s.glt
  have S0 : Hid (∀ o', SQ w0 (w.alloc o') b N m o (fun k => G k ∨ k = w.heap.size)) := fun o' => s.fresh ((Below.refl _ _).alloc (Nat.le_refl _) _) (fun k hk => hk.imp id (fun h => by subst h; simp))
  have HG0 : Hid (∀ o', ∀ k, G k → (w.alloc o').heap[k]? = w.heap[k]?) := fun o' => s.gk ((Below.refl _ _).alloc (Nat.le_refl _) _)
  have HR0 : Hid (∀ o', (w.alloc o').heap[w.heap.size]? = some o') := fun o' => heap_alloc_new w o'
  clear s
  go_enter Tryz.func29, Tryz.ntmps29
  go_wp2_with fail
  refine (qCheck_any b ⟨#[]⟩ m e 0 Hargs.out _ (by decide)).mono ?_
  rintro r w1 ⟨rfl, hb⟩
  have S1 := Lib.hid ((S0.out _).later hb)
  have HG1 : Hid (∀ k, G k → w1.heap[k]? = w.heap[k]?) := fun k hk => ((S0.out _).gk hb k (.inl hk)).trans (HG0.out _ k hk)
  have HR1 := Lib.hid ((hb.block _ (lt_of_heap (HR0.out _))).trans (HR0.out _))
  have Hz1 : Hid (w.heap.size ≤ w1.heap.size) := Nat.le_of_lt (lt_of_heap HR1.out)
  clear hb S0 HG0 HR0
  go_wp2_with fail
  refine (ofPort_any m _).mono ?_
  rintro r w2 ⟨rfl, hb⟩
  have S2 := Lib.hid (S1.out.later hb)
  have HG2 : Hid (∀ k, G k → w2.heap[k]? = w.heap[k]?) := fun k hk => (S1.out.gk hb k (.inl hk)).trans (HG1.out k hk)
  have HR2 := Lib.hid ((hb.block _ (lt_of_heap HR1.out)).trans HR1.out)
  clear hb S1 HG1 HR1
  go_wp2_with fail
  refine (sqVGet w0 w2 b N m o _ S2.out (by omega)).mono ?_
  rintro r w3 ⟨sv, tv, rfl, hsv, hno, s3, hk3⟩
  have S3 := Lib.hid s3
  have HG3 : Hid (∀ k, G k → w3.heap[k]? = w.heap[k]?) := fun k hk => (hk3 k (.inl hk)).trans (HG2.out k hk)
  have hR3 := (hk3 w.heap.size (.inr rfl)).trans HR2.out
  have Hsv := Lib.hid hsv
  have Hno := Lib.hid hno
  clear s3 hk3 S2 HG2 HR2 hsv hno Hz1
  have Hz3 : Hid (w.heap.size ≤ w3.heap.size) := Nat.le_of_lt (lt_of_heap hR3)
  have HR3 := Lib.hid hR3; clear hR3
  have HRR : Hid (w.heap.size = w.heap.size) := rfl
  obtain ⟨R, hRw⟩ : ∃ R, w.heap.size = R := ⟨_, rfl⟩
  rw [hRw] at HR3
  rw [hRw]
  have HRw := Lib.hid hRw; clear hRw HRR
  cases o with
  | none =>
    have hno := Hno.out rfl
    clear Hno Hsv
    rcases hno with rfl | ⟨rfl, hdq, hsz⟩
    · have hR3 := HR3.out
      have r0 : w3.cell? ⟨R, 0, none⟩ = some (.string ⟨#[]⟩) := cell_of_heap hR3 0
      have r1 : w3.cell? ⟨R, 1, none⟩ = some (.int .i64 0) := cell_of_heap hR3 1
      have r2 : w3.cell? ⟨R, 2, none⟩ = some (.int .i64 0) := cell_of_heap hR3 2
      have r3 : w3.cell? ⟨R, 3, none⟩ = some (.slice none 0 0) := cell_of_heap hR3 3
      have g0 : w3.frozen? ⟨R, 0, none⟩ = false := frozen_of_heap hR3 0
      have g1 : w3.frozen? ⟨R, 1, none⟩ = false := frozen_of_heap hR3 1
      have g2 : w3.frozen? ⟨R, 2, none⟩ = false := frozen_of_heap hR3 2
      have g3 : w3.frozen? ⟨R, 3, none⟩ = false := frozen_of_heap hR3 3
      clear hR3
      have hpq : p = zeroQ ∧ q = 8 := by have := Hst.out; simp only [qHas, Prod.mk.injEq] at this; exact ⟨this.1.symm, this.2.symm⟩
      obtain ⟨rfl, rfl⟩ := hpq
      go_wp2
      refine bodyPost_ret (v := .tuple #[.agg #[.string ⟨#[]⟩, .int .i64 0, .int .i64 0, .slice none 0 0], .int .i64 8]) (by simp [results, Tryz.results29, go_sem, r0, r1, r2, r3]) rfl ?_
      rw [← HRw.out]
      exact get_fin (p := zeroQ) (q := 8) Hz3.out S3.out HG3.out HGw.out (Below.refl _ _) (grown_set4 _ _ _ _ _ _) (World.ownsRow_nil _ _ _ _) (fun g hg => by cases hg)
    · have Hdq := Lib.hid hdq; clear hdq
      have Hsz := Lib.hid hsz; clear hsz
      go_wp2_with fail
      refine (qDecode_any _ _ (by have := Hsz.out; omega)).mono ?_
      obtain ⟨⟨⟨ow, ep, lo, ls⟩, q'⟩, hdec⟩ : ∃ x, decQ sv = x := ⟨_, rfl⟩
      rw [hdec] at Hdq ⊢
      clear hdec
      rintro r w4 ⟨a, n, c, rfl, hrow, hl, hb⟩
      have Hrow := Lib.hid hrow; clear hrow
      have Hl := Lib.hid hl; clear hl
      have HB := Lib.hid hb
      have hR4 := (hb.block R (lt_of_heap HR3.out)).trans HR3.out
      clear hb
      have r0 : w4.cell? ⟨R, 0, none⟩ = some (.string ⟨#[]⟩) := cell_of_heap hR4 0
      have r1 : w4.cell? ⟨R, 1, none⟩ = some (.int .i64 0) := cell_of_heap hR4 1
      have r2 : w4.cell? ⟨R, 2, none⟩ = some (.int .i64 0) := cell_of_heap hR4 2
      have r3 : w4.cell? ⟨R, 3, none⟩ = some (.slice none 0 0) := cell_of_heap hR4 3
      have g0 : w4.frozen? ⟨R, 0, none⟩ = false := frozen_of_heap hR4 0
      have g1 : w4.frozen? ⟨R, 1, none⟩ = false := frozen_of_heap hR4 1
      have g2 : w4.frozen? ⟨R, 2, none⟩ = false := frozen_of_heap hR4 2
      have g3 : w4.frozen? ⟨R, 3, none⟩ = false := frozen_of_heap hR4 3
      have hlt4 := lt_of_heap hR4
      have hne := World.new_ne w4 ⟨R, 0, none⟩ r0
      have HR4 := Lib.hid hR4; clear hR4
      dsimp only at *
      have hq' : ((q' : Int) != 0) = true := bne_iff_ne.2 (by have := Hdq.out; omega)
      have hpq : p = zeroQ ∧ q = 8 := by have := Hst.out; simp only [qHas, Prod.mk.injEq] at this; exact ⟨this.1.symm, this.2.symm⟩
      obtain ⟨rfl, rfl⟩ := hpq
      go_wp2
      have x := qSet4_alloc HR4.out (.string ⟨#[]⟩) (.int .i64 0) (.int .i64 0) (.slice none 0 0) (.cells #[.string ow, .int .i64 ep, .int .i64 lo, .slice a n c] 80)
      have x0 := x 0
      have x1 := x 1
      have x2 := x 2
      have x3 := x 3
      dsimp at x0 x1 x2 x3
      refine bodyPost_ret (v := .tuple #[.agg #[.string ⟨#[]⟩, .int .i64 0, .int .i64 0, .slice none 0 0], .int .i64 8]) (by simp [results, Tryz.results29, go_sem, x0, x1, x2, x3]) rfl ?_
      rw [← HRw.out]
      exact get_fin (p := zeroQ) (q := 8) Hz3.out S3.out HG3.out HGw.out HB.out (qGrown_set4_alloc _ _ _ _ _ _ _) (World.ownsRow_nil _ _ _ _) (fun g hg => by cases hg)
  | some p' =>
    obtain ⟨rfl, rfl⟩ := Hsv.out p' rfl
    clear Hno
    have hck := S3.out.check
    have hdec := qdec_enc p' hck.1 hck.2
    have hsz : (strOf (encQB p')).size ≤ 35184372088832 := Nat.le_trans (encQB_size hck.1 hck.2) (by decide)
    have Hdec := Lib.hid hdec; clear hdec hck Hsv
    go_wp2_with fail
    refine (qDecode_any _ _ hsz).mono ?_
    rw [Hdec.out]
    rintro r w4 ⟨a, n, c, rfl, hrow, hl, hb⟩
    have Hrow := Lib.hid hrow; clear hrow
    have Hl := Lib.hid hl; clear hl
    have HB := Lib.hid hb
    have hR4 := (hb.block R (lt_of_heap HR3.out)).trans HR3.out
    clear hb
    have r0 : w4.cell? ⟨R, 0, none⟩ = some (.string ⟨#[]⟩) := cell_of_heap hR4 0
    have r1 : w4.cell? ⟨R, 1, none⟩ = some (.int .i64 0) := cell_of_heap hR4 1
    have r2 : w4.cell? ⟨R, 2, none⟩ = some (.int .i64 0) := cell_of_heap hR4 2
    have r3 : w4.cell? ⟨R, 3, none⟩ = some (.slice none 0 0) := cell_of_heap hR4 3
    have g0 : w4.frozen? ⟨R, 0, none⟩ = false := frozen_of_heap hR4 0
    have g1 : w4.frozen? ⟨R, 1, none⟩ = false := frozen_of_heap hR4 1
    have g2 : w4.frozen? ⟨R, 2, none⟩ = false := frozen_of_heap hR4 2
    have g3 : w4.frozen? ⟨R, 3, none⟩ = false := frozen_of_heap hR4 3
    have hlt4 := lt_of_heap hR4
    have hne := World.new_ne w4 ⟨R, 0, none⟩ r0
    have HR4 := Lib.hid hR4; clear hR4
    obtain ⟨ow, ep, lo, ls⟩ := p'
    dsimp only at *
    by_cases hep : ep = e
    · subst hep
      have hpq : p = ⟨ow, ep, lo, ls⟩ ∧ q = 0 := by have := Hst.out; simp only [qHas, ne_eq, not_true_eq_false, if_false, Prod.mk.injEq] at this; exact ⟨this.1.symm, this.2.symm⟩
      obtain ⟨rfl, rfl⟩ := hpq
      go_wp2
      have x := qSet4_alloc HR4.out (.string ow) (.int .i64 ep) (.int .i64 lo) (.slice a n c) (.cells #[.string ow, .int .i64 ep, .int .i64 lo, .slice a n c] 80)
      have x0 := x 0
      have x1 := x 1
      have x2 := x 2
      have x3 := x 3
      dsimp at x0 x1 x2 x3
      refine bodyPost_ret (v := .tuple #[.agg #[.string ow, .int .i64 ep, .int .i64 lo, .slice a n c], .int .i64 0]) (by simp [results, Tryz.results29, go_sem, x0, x1, x2, x3]) rfl ?_
      rw [← HRw.out]
      exact get_fin (p := ⟨ow, ep, lo, ls⟩) (q := 0) Hz3.out S3.out HG3.out HGw.out HB.out (qGrown_set4_alloc _ _ _ _ _ _ _) Hrow.out Hl.out
    · have hep' : (ep != e) = true := bne_iff_ne.2 hep
      have hpq : p = zeroQ ∧ q = 8 := by have := Hst.out; simp only [qHas, ne_eq, hep, not_false_eq_true, if_true, Prod.mk.injEq] at this; exact ⟨this.1.symm, this.2.symm⟩
      obtain ⟨rfl, rfl⟩ := hpq
      clear hep
      go_wp2
      have x := qSet4_alloc HR4.out (.string ⟨#[]⟩) (.int .i64 0) (.int .i64 0) (.slice none 0 0) (.cells #[.string ow, .int .i64 ep, .int .i64 lo, .slice a n c] 80)
      have x0 := x 0
      have x1 := x 1
      have x2 := x 2
      have x3 := x 3
      dsimp at x0 x1 x2 x3
      refine bodyPost_ret (v := .tuple #[.agg #[.string ⟨#[]⟩, .int .i64 0, .int .i64 0, .slice none 0 0], .int .i64 8]) (by simp [results, Tryz.results29, go_sem, x0, x1, x2, x3]) rfl ?_
      rw [← HRw.out]
      exact get_fin (p := zeroQ) (q := 8) Hz3.out S3.out HG3.out HGw.out HB.out (qGrown_set4_alloc _ _ _ _ _ _ _) (World.ownsRow_nil _ _ _ _) (fun g hg => by cases hg)

end Go.Proofs.YtijfdgoeppehlaaGreatDoor
