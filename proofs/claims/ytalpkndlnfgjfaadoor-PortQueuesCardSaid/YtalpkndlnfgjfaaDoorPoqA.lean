/- PortQueues: the walk. -/
import Derived.Test.YtalpkndlnfgjfaaDoorPorZ
import Derived.BigQuiet
import Derived.BigRegion
import Derived.Deep.LoopGhost
namespace Go.Proofs.YtalpkndlnfgjfaaDoor
open Go.RowKit
attribute [local go_sem ↓] Go.wp_at_zero Go.wp_at_succ
attribute [local go_sem ↓] run_eql_pack run_neq_pack

/-- A slice of Booleans that can be read. -/
def BSlQ (w : World) (a : Option Addr) (n : Nat) (bs : List Bool) : Prop :=
  bs.length = n ∧ (0 < n → ∃ g off, a = some ⟨g, off, none⟩ ∧ ∀ j, j < n → w.cell? ⟨g, off + j, none⟩ = some (.bool (bs.getD j false)))
theorem BSlQ.later {w w' : World} {a : Option Addr} {n : Nat} {ls : List Bool} (h : BSlQ w a n ls) (hb : Below w.heap.size w w') : BSlQ w' a n ls := by
  refine ⟨h.1, fun h0 => ?_⟩
  obtain ⟨g, off, ha, hc⟩ := h.2 h0
  refine ⟨g, off, ha, fun j hj => ?_⟩
  exact ((bcell hb).1 g _ (World.block_lt_of_cell? w ⟨g, off, none⟩ (hc 0 h0))).trans (hc j hj)

def pq (lv : Int) (q : List PackT) : PortT := ⟨⟨#[49, 46, 50]⟩, 3, lv, q⟩
theorem pq_args0 : qArgs ⟨#[]⟩ 100 3 = 0 := by decide +kernel
theorem pq_args : qArgs ⟨#[49, 46, 50]⟩ 100 3 = 0 := by decide +kernel
theorem pq_open : openStep ⟨#[49, 46, 50]⟩ 5 100 3 none = (some (pq 0 []), 0, 1) := by decide +kernel
theorem pq_sz : (⟨#[49, 46, 50]⟩ : ByteArray).size ≤ 64 := by decide
theorem pq_has (lv : Int) (q : List PackT) : qHas 3 (some (pq lv q)) = (pq lv q, 0) := rfl
theorem pq_bad {lv : Int} {q : List PackT} {x : PackT} {pe : Nat} (h : packE x = pe) (h0 : pe ≠ 0) : arriveStep x 100 3 (some (pq lv q)) = (some (pq lv q), pe, 0) := by
  unfold arriveStep
  rw [pq_args0, if_neg (by simp), h, if_pos h0]
theorem pq_full {lv : Int} {q : List PackT} {x : PackT} (h : packE x = 0) (hq : ¬ q.length < 16) (hl : lv < 1073741824) : arriveStep x 100 3 (some (pq lv q)) = (some (pq (lv + 1) q), 9, 1) := by
  unfold arriveStep
  rw [pq_args0, if_neg (by simp), h, if_neg (by simp), pq_has, if_neg (by simp), if_neg (by exact hq), if_pos (by exact hl)]
  rfl
theorem pq_ok {lv : Int} {q : List PackT} {x : PackT} (h : packE x = 0) (hq : q.length < 16) : arriveStep x 100 3 (some (pq lv q)) = (some (pq lv (q ++ [x])), 0, 1) := by
  unfold arriveStep
  rw [pq_args0, if_neg (by simp), h, if_neg (by simp), pq_has, if_neg (by simp), if_pos (by exact hq)]
  rfl
theorem pq_none (lv : Int) : receiveStep ⟨#[49, 46, 50]⟩ 100 3 (some (pq lv [])) = (some (pq lv []), zeroPk, 19, 0) := by
  unfold receiveStep recvStep
  rw [pq_args, if_neg (by simp), pq_has, if_neg (by simp), if_neg (by simp [pq]), if_pos (by rfl)]
theorem pq_take (lv : Int) (y : PackT) (r : List PackT) : receiveStep ⟨#[49, 46, 50]⟩ 100 3 (some (pq lv (y :: r))) = (some (pq lv r), y, 0, 1) := by
  unfold receiveStep recvStep
  rw [pq_args, if_neg (by simp), pq_has, if_neg (by simp), if_neg (by simp [pq]), if_neg (by simp [pq])]
  rfl

/-- The queue of the law is that of the port. -/
structure QI (w1 wr : World) (b N : Nat) (qv : Value) (lv : Int) (q : List PackT) : Prop where
  sq : SQ w1 wr b N 100 (some (pq lv q)) (fun j => qv.ownBlock = some j)
  win : PWin wr qv q
theorem QI.later {w1 wr wx : World} {b N : Nat} {qv : Value} {lv : Int} {q : List PackT} (h : QI w1 wr b N qv lv q) (hb : Below wr.heap.size wr wx) : QI w1 wx b N qv lv q :=
  ⟨h.sq.later hb, h.win.kept (fun k hk => hb.block k (h.win.lt k hk))⟩
def QInv (w1 wr : World) (b k : Nat) (qv : Value) (lv : Int) : Prop := ∃ N q, N ≤ 2 * k + 1 ∧ q.length ≤ 16 ∧ (0 ≤ lv ∧ lv ≤ k) ∧ QI w1 wr b N qv lv q

set_option maxRecDepth 100000 in
set_option maxHeartbeats 2000000 in
theorem queues_any (a a' : Option Addr) (n c n' c' : Nat) (ls : List PackT) (bs : List Bool) (w : World) (hu : Usages w) (hn : n ≤ 9223372036854775807) (hn' : n' ≤ 9223372036854775807) (hl : PSl w a n ls) (hls : ∀ s ∈ ls, s.src.size ≤ 9223372036854775807 ∧ s.bytes.size ≤ 9223372036854775807) (hbs : BSlQ w a' n' bs) :
    Calls Tryd.prog 5 #[.slice a n c, .slice a' n' c'] w (TruePost w) := by
  have Hu := Lib.hid hu; clear hu
  have Hl := Lib.hid hl; clear hl
  have Hls := Lib.hid hls; clear hls
  have Hbs := Lib.hid hbs; clear hbs
  go_enter Tryd.func5, Tryd.ntmps5
  go_wp2_with fail
  refine (qKnown_any _ Hu.out).mono ?_
  rintro e w1 ⟨rfl, hb1⟩
  have HB1 := Lib.hid hb1; clear hb1
  have Hu1 := Lib.hid (Hu.out.below HB1.out Hu.out.pos)
  go_wp2_with fail
  refine (sqNew w1 Hu1.out 100).mono ?_
  rintro e w2 ⟨rfl, hnew⟩
  have Hnew := Lib.hid hnew; clear hnew
  go_wp2_with fail
  refine Hnew.out.mono ?_
  rintro e w3 ⟨rfl, s0⟩
  clear Hnew Hu1
  have S0 := Lib.hid s0; clear s0
  go_wp2_with fail
  refine (sqOpen w1 w3 _ 0 100 none _ S0.out (by decide) ⟨#[49, 46, 50]⟩ 5 3 pq_sz _ 0 1 pq_open).mono ?_
  rintro e w4 ⟨rfl, s, -⟩
  have A0 : Hid (QInv w1 w4 (w1.heap.size + 3) 0 (.slice none 0 0) 0) := ⟨_, [], Nat.le_refl _, Nat.zero_le _, ⟨Int.le_refl _, Int.le_refl _⟩, s.fresh (Below.refl _ _) (fun k hk => by cases hk), PWin.nil _⟩
  clear s S0
  go_wp2_with fail
  go_loopg [6, 7, 8] n (fun gk qv lv i wr => ∃ (k : Nat) (lost : Int) (qs : Value), k + gk = n ∧ i = .int .i64 k ∧ lv = .int .i64 lost ∧ qs = qv ∧ k ≤ 40 ∧ Hid (QInv w1 wr (w1.heap.size + 3) k qs lost))
  case atStart => exact ⟨0, 0, _, by omega, rfl, rfl, rfl, by omega, A0.out⟩
  case round =>
    clear A0
    obtain ⟨k, lost, qs, hk, rfl, rfl, rfl, hk40, HA⟩ := hrel
    have Hk := Lib.hid hk
    have hkn : k ≤ n := by omega
    clear hk
    obtain ⟨N, q, hN, hq16, hlost, hqi⟩ := HA.out
    obtain ⟨aq, cq, rfl, hqc⟩ := hqi.win.form
    have HQ := Lib.hid hqi; clear hqi HA
    have HB : Hid (Below w.heap.size w wr) := HB1.out.trans (HQ.out.sq.below.mono HB1.out.size)
    by_cases hlt : k < n ∧ k < 40
    · obtain ⟨hlt, hlt40⟩ := hlt
      obtain ⟨g, off, rfl, hc⟩ := (Hl.out.later HB.out).2 (by omega)
      have e0 := (hc k hlt).1
      have e1 := (hc k hlt).2
      have hkl : k < ls.length := by rw [Hl.out.1]; exact hlt
      have hsz := Hls.out (ls.getD k zeroPk) (by rw [List.getD_eq_getElem?_getD, List.getElem?_eq_getElem hkl]; exact List.getElem_mem _)
      clear hc hkl
      generalize ls.getD k zeroPk = lk at *
      obtain ⟨src, by_⟩ := lk
      dsimp only at e0 e1 hsz
      go_wp2_with fail
      refine (small_any src by_ _ hsz.1 hsz.2).mono ?_
      rintro e w2 ⟨rfl, hb2⟩
      have z1 := (cut_size src 60).1
      have z2 := (cut_size by_ 600).1
      generalize cut src 60 = xs at *
      generalize cut by_ 600 = xb at *
      have S2 : Hid (∀ o, SQ w1 (w2.alloc o) (w1.heap.size + 3) N 100 (some (pq lost q)) (fun j => (Value.slice aq q.length cq).ownBlock = some j ∨ j = w2.heap.size)) := fun o => HQ.out.sq.fresh (hb2.alloc hb2.size _) (fun j hj => hj.imp id (fun h => by subst h; have := hb2.size; simp; omega))
      have HX2 : Hid (∀ o, (w2.alloc o).heap[w2.heap.size]? = some o) := fun o => heap_alloc_new w2 o
      have HW2 : Hid (∀ o, PWin (w2.alloc o) (.slice aq q.length cq) q) := fun o => (HQ.out.later (hb2.alloc hb2.size o)).win
      have hNl : N < 1000000 := by omega
      clear hb2 HQ
      obtain ⟨pe, hpe⟩ : ∃ pe, packE ⟨xs, xb⟩ = pe := ⟨_, rfl⟩
      have Hpe := Lib.hid hpe; clear hpe
      have hzs : xs.size ≤ 9223372036854775807 := by omega
      have hzb : xb.size ≤ 9223372036854775807 := by omega
      have hqv := Lib.hid hqc
      generalize hnq : q.length = nq at *
      have Hnq := Lib.hid hnq; clear hnq
      go_wp2_with fail
      have hways : pe ≠ 0 ∨ (pe = 0 ∧ nq = 16) ∨ (pe = 0 ∧ nq < 16) := by omega
      rcases hways with hp | ⟨rfl, hq⟩ | ⟨rfl, hq⟩
      case' inl =>
        have hp' : ((pe : Int) != 0) = true := bne_iff_ne.2 (by omega)
        refine (sqArrive w1 _ _ N 100 _ _ (S2.out _) hNl xs xb 3 hzs hzb _ pe 0 (pq_bad Hpe.out hp)).mono ?_
        rintro e w3 ⟨rfl, s3, hk3⟩
        have hX3 := (hk3 _ (.inr rfl)).trans (HX2.out _)
        have HW3 := Lib.hid ((HW2.out _).kept (fun j hj => hk3 j (.inl hj)))
        have S3 := Lib.hid s3
        have c0 : w3.cell? ⟨w2.heap.size, 0, none⟩ = some (.string xs) := cell_of_heap hX3 0
        have c1 : w3.cell? ⟨w2.heap.size, 1, none⟩ = some (.string xb) := cell_of_heap hX3 1
        have HX3 := Lib.hid hX3
        clear s3 hk3 S2 HX2 HW2 hX3
        go_wp2_with fail
        refine (lPack_is xs xb pe Hpe.out _ hzs hzb).mono ?_
        rintro e w4 ⟨rfl, hb4⟩
        have HX4 := Lib.hid ((hb4.block _ (lt_of_heap HX3.out)).trans HX3.out)
        clear c0 c1
        have c0 : w4.cell? ⟨w2.heap.size, 0, none⟩ = some (.string xs) := cell_of_heap HX4.out 0
        have c1 : w4.cell? ⟨w2.heap.size, 1, none⟩ = some (.string xb) := cell_of_heap HX4.out 1
        have HQ4 : Hid (QI w1 w4 (w1.heap.size + 3) (N + 0) (.slice aq nq cq) lost q) := ⟨S3.out.fresh hb4 (fun j hj => .inl (.inl hj)), HW3.out.kept (fun j hj => hb4.block j (HW3.out.lt j hj))⟩
        clear hb4 S3 HW3 HX3
        go_wp2_with fail
        refine (lPack_is xs xb pe Hpe.out _ hzs hzb).mono ?_
        rintro e wx ⟨rfl, hb5⟩
        have HE : Hid (∃ NN qq, NN ≤ 2 * k + 2 ∧ qq.length = nq ∧ QI w1 wx (w1.heap.size + 3) NN (.slice aq nq cq) lost qq) := ⟨_, q, by omega, Hnq.out, HQ4.out.later hb5⟩
        have hlx : 0 ≤ lost ∧ lost ≤ (k : Int) + 1 := by omega
        have hn16 : nq ≤ 16 := hq16
        clear hb5 HQ4 HX4 c0 c1 hp
        obtain ⟨ax, rfl⟩ : ∃ x, x = aq := ⟨_, rfl⟩
        obtain ⟨cx, rfl⟩ : ∃ x, x = cq := ⟨_, rfl⟩
        obtain ⟨nx, rfl⟩ : ∃ x, x = nq := ⟨_, rfl⟩
        obtain ⟨lx, rfl⟩ : ∃ x, x = lost := ⟨_, rfl⟩
        clear Hnq HB hN hq16 hlost hqc hqv
      case' inr.inl =>
        have Hq := Lib.hid hq; clear hq
        refine (sqArrive w1 _ _ N 100 _ _ (S2.out _) hNl xs xb 3 hzs hzb _ 9 1 (pq_full Hpe.out (by rw [Hnq.out, Hq.out]; omega) (by omega))).mono ?_
        rintro e w3 ⟨rfl, s3, hk3⟩
        have hX3 := (hk3 _ (.inr rfl)).trans (HX2.out _)
        have HW3 := Lib.hid ((HW2.out _).kept (fun j hj => hk3 j (.inl hj)))
        have S3 := Lib.hid s3
        have c0 : w3.cell? ⟨w2.heap.size, 0, none⟩ = some (.string xs) := cell_of_heap hX3 0
        have c1 : w3.cell? ⟨w2.heap.size, 1, none⟩ = some (.string xb) := cell_of_heap hX3 1
        have HX3 := Lib.hid hX3
        clear s3 hk3 S2 HX2 HW2 hX3
        go_wp2_with fail
        refine (lPack_is xs xb 0 Hpe.out _ hzs hzb).mono ?_
        rintro e wx ⟨rfl, hb5⟩
        have HE : Hid (∃ NN qq, NN ≤ 2 * k + 2 ∧ qq.length = nq ∧ QI w1 wx (w1.heap.size + 3) NN (.slice aq nq cq) (lost + 1) qq) := ⟨N + 1, q, by omega, Hnq.out, ⟨S3.out.fresh hb5 (fun j hj => .inl (.inl hj)), HW3.out.kept (fun j hj => hb5.block j (HW3.out.lt j hj))⟩⟩
        have hlx : 0 ≤ lost + 1 ∧ lost + 1 ≤ (k : Int) + 1 := by omega
        have hn16 : nq ≤ 16 := hq16
        clear hb5 S3 HW3 HX3 c0 c1
        have hq' : ((nq : Int) == 16) = true := beq_iff_eq.2 (by rw [Hq.out]; rfl)
        go_upto_region 23 with fail
        obtain ⟨ax, rfl⟩ : ∃ x, x = aq := ⟨_, rfl⟩
        obtain ⟨cx, rfl⟩ : ∃ x, x = cq := ⟨_, rfl⟩
        obtain ⟨nx, rfl⟩ : ∃ x, x = nq := ⟨_, rfl⟩
        clear hlost
        generalize lost + 1 = lx at *
        clear Hnq HB hN hq16 hqc hqv Hq hq'
      case' inr.inr =>
        refine (sqArrive w1 _ _ N 100 _ _ (S2.out _) hNl xs xb 3 hzs hzb _ 0 1 (pq_ok Hpe.out (by rw [Hnq.out]; omega))).mono ?_
        rintro e w3 ⟨rfl, s3, hk3⟩
        have hX3 := (hk3 _ (.inr rfl)).trans (HX2.out _)
        have HW3 := Lib.hid ((HW2.out _).kept (fun j hj => hk3 j (.inl hj)))
        have S3 := Lib.hid s3
        have c0 : w3.cell? ⟨w2.heap.size, 0, none⟩ = some (.string xs) := cell_of_heap hX3 0
        have c1 : w3.cell? ⟨w2.heap.size, 1, none⟩ = some (.string xb) := cell_of_heap hX3 1
        have HX3 := Lib.hid hX3
        clear s3 hk3 S2 HX2 HW2 hX3
        go_wp2_with fail
        refine (lPack_is xs xb 0 Hpe.out _ hzs hzb).mono ?_
        rintro e w4 ⟨rfl, hb4⟩
        have hX4 := (hb4.block _ (lt_of_heap HX3.out)).trans HX3.out
        clear c0 c1
        have c0 : w4.cell? ⟨w2.heap.size, 0, none⟩ = some (.string xs) := cell_of_heap hX4 0
        have c1 : w4.cell? ⟨w2.heap.size, 1, none⟩ = some (.string xb) := cell_of_heap hX4 1
        obtain ⟨q2, hq2⟩ : ∃ q2 : List PackT, q ++ [(⟨xs, xb⟩ : PackT)] = q2 := ⟨_, rfl⟩
        have S4 : Hid (SQ w1 w4 (w1.heap.size + 3) (N + 1) 100 (some (pq lost q2)) (fun j => (Value.slice aq nq cq).ownBlock = some j)) := by rw [← hq2]; exact S3.out.fresh hb4 (fun j hj => .inl (.inl hj))
        have Hq2 := Lib.hid hq2; clear hq2
        have HW4 : Hid (∀ o, PWin (w4.alloc o) (.slice aq nq cq) q) := fun o => HW3.out.kept (fun j hj => (Below.heap_alloc w4 o j (Nat.lt_of_lt_of_le (HW3.out.lt j hj) hb4.size)).trans (hb4.block j (HW3.out.lt j hj)))
        have Hll : Hid (q.length ≤ 1000000) := by show _ ≤ _; rw [Hnq.out]; omega
        have hq' : ((nq : Int) == 16) = false := beq_eq_false_iff_ne.2 (by omega)
        clear hb4 S3 HW3 HX3 hX4
        go_upto_region 23 with (at_builtin; refine wpList_append_win (by rfl) _ _ (by rfl) (.slice aq nq cq) q (by rfl) (HW4.out _) ⟨xs, xb⟩ w4.heap.size (by rfl) (heap_alloc_new w4 _) Hll.out ?_; intro qx wx hwin hg hown; rw [Hq2.out] at hwin; have HK : Hid (Kept (fun j => (Value.slice aq nq cq).ownBlock = some j) w4 wx) := (Kept.of_below ((Below.refl _ _).alloc (Nat.le_refl _) _) _).trans (Kept.of_grown hg _ (fun k hk => hk)) (fun _ _ h => h); obtain ⟨ax, cx, rfl, hcx⟩ := hwin.form; have HI : Hid (QI w1 wx (w1.heap.size + 3) (N + 1) (.slice ax q2.length cx) lost q2) := ⟨S4.out.guarded HK.out (fun j hj => hown.elim (fun h => .inl (by rw [← h]; exact hj)) (fun h => .inr (by rw [h] at hj; cases hj; have hlt := hwin.lt _ h; simp at hlt ⊢; omega))), hwin⟩; clear hwin hg hown HK; generalize hnx : q2.length = nx at *)
        have hlen : nx = nq + 1 := by rw [← hnx, ← Hnq.out, ← Hq2.out, List.length_append]; rfl
        have HE : Hid (∃ NN qq, NN ≤ 2 * k + 2 ∧ qq.length = nx ∧ QI w1 wx (w1.heap.size + 3) NN (.slice ax nx cx) lost qq) := ⟨_, _, by omega, hnx, HI.out⟩
        have hlx : 0 ≤ lost ∧ lost ≤ (k : Int) + 1 := by omega
        have hn16 : nx ≤ 16 := by omega
        clear S4 HW4 c0 c1 HI hnx hlen hcx hq'
        obtain ⟨lx, rfl⟩ : ∃ x, x = lost := ⟨_, rfl⟩
        clear Hnq HB hN hq16 hlost hqc hqv hq
      all_goals
        clear Hpe hzs hzb hsz
        obtain ⟨NN, qq, hNN, hqn, hqi⟩ := HE.out
        have HQ := Lib.hid hqi
        have Hqn := Lib.hid hqn
        clear hqi hqn HE
        have HBx : Hid (Below w.heap.size w wx) := HB1.out.trans (HQ.out.sq.below.mono HB1.out.size)
        by_cases ht : k < n' ∧ bs.getD k false = true
        · obtain ⟨ht1, ht2⟩ := ht
          obtain ⟨gb, offb, rfl, hcb⟩ := (Hbs.out.later HBx.out).2 (by omega)
          have t0 := hcb k ht1
          rw [ht2] at t0
          clear hcb ht2
          cases qq with
          | nil =>
            obtain rfl : nx = 0 := by have := Hqn.out; simpa using this.symm
            have hform : (ax = none ∧ cx = 0) ∨ ∃ g2 off2, ax = some ⟨g2, off2, none⟩ := by
              rcases HQ.out.win with ⟨hv, _⟩ | ⟨g2, off2, cap, cur, hv, _⟩
              · cases hv; exact .inl ⟨rfl, rfl⟩
              · simp only [Value.slice.injEq] at hv
                exact .inr ⟨g2, off2, hv.1⟩
            rcases hform with ⟨rfl, rfl⟩ | ⟨g2, off2, rfl⟩
            all_goals
              go_wp2_with fail
              refine (sqReceive w1 wx _ NN 100 _ _ HQ.out.sq (by omega) ⟨#[49, 46, 50]⟩ 3 pq_sz _ zeroPk 19 0 (pq_none _)).mono ?_
              rintro e w7 ⟨rfl, s7, hk7⟩
              have HA7 := Lib.hid (fun (o : Obj) (j : Nat) => (QI.mk s7 (HQ.out.win.kept (fun j hj => hk7 j hj))).later (below_drewN ((Below.refl _ _).alloc (Nat.le_refl _) o) j))
              clear s7 hk7 HQ
              dsimp only [zeroPk]
              go_wp2
              go_quiet (fail)
              go_wp2
              go_roundg (n - (k + 1))
              case measure => have := Hk.out; omega
              case rel => exact ⟨k + 1, lx, _, by have := Hk.out; omega, by go_num, rfl, rfl, by omega, ⟨NN + 0, [], by omega, Nat.zero_le _, by omega, HA7.out _ _⟩⟩
          | cons y r =>
            have hr1 : r.length + 1 = nx := Hqn.out
            obtain ⟨g2, off2, rfl⟩ : ∃ g2 off2, ax = some ⟨g2, off2, none⟩ := by
              rcases HQ.out.win with ⟨_, hv⟩ | ⟨g2, off2, cap, cur, hv, _⟩
              · cases hv
              · simp only [Value.slice.injEq] at hv
                exact ⟨g2, off2, hv.1⟩
            go_wp2_with fail
            refine (sqReceive w1 wx _ NN 100 _ _ HQ.out.sq (by omega) ⟨#[49, 46, 50]⟩ 3 pq_sz _ y 0 1 (pq_take _ y r)).mono ?_
            rintro e w7 ⟨rfl, s7, hk7⟩
            have HW7 := Lib.hid (HQ.out.win.kept (fun j hj => hk7 j hj))
            obtain ⟨g3, off3, he3, hc3⟩ := HW7.out.sl.1.2 (by omega)
            cases he3
            have y0 := (hc3 0 (by omega)).1
            have y1 := (hc3 0 (by omega)).2
            rw [Nat.zero_mul, Nat.add_zero] at y0 y1
            have hlt7 := World.block_lt_of_cell? w7 _ y0
            have hne7 := World.new_ne w7 ⟨g2, off2, none⟩ y0
            obtain ⟨hT, hT1⟩ := HW7.out.tail (by omega)
            have HA7 : Hid (∀ (o : Obj) (j : Nat), QI w1 ((w7.alloc o).drewN j) (w1.heap.size + 3) (NN + 1) (.slice (some ⟨g2, off2 + 2, none⟩) (nx - 1) (cx - 1)) lx r) := fun o j => (show QI w1 w7 (w1.heap.size + 3) (NN + 1) (.slice (some ⟨g2, off2 + 2, none⟩) (nx - 1) (cx - 1)) lx r from ⟨s7, hT⟩).later (below_drewN ((Below.refl _ _).alloc (Nat.le_refl _) o) j)
            have HC7 : Hid (cx = 1 → ∀ (o : Obj) (j : Nat), QI w1 ((w7.alloc o).drewN j) (w1.heap.size + 3) (NN + 1) (.slice (some ⟨g2, off2, none⟩) 0 0) lx r) := fun hc o j => (show QI w1 w7 (w1.heap.size + 3) (NN + 1) (.slice (some ⟨g2, off2, none⟩) 0 0) lx r from ⟨s7, hT1 hc⟩).later (below_drewN ((Below.refl _ _).alloc (Nat.le_refl _) o) j)
            have hncx := HW7.out.sl.2
            clear s7 hk7 HQ hc3 HW7 hT hT1
            obtain ⟨ys, yb⟩ := y
            have y0 : w7.cell? ⟨g2, off2, none⟩ = some (.string ys) := y0
            have y1 : w7.cell? ⟨g2, off2 + 1, none⟩ = some (.string yb) := y1
            have hz : ((nx : Int) == 0) = false := beq_eq_false_iff_ne.2 (by omega)
            have hgt : decide (0 < (nx : Int)) = true := decide_eq_true (by omega)
            have hsm : samePk ⟨ys, yb⟩ ⟨ys, yb⟩ = true := decide_eq_true rfl
            have hgtN : decide (0 < nx) = true := decide_eq_true (by omega)
            have hnx0 : 0 < nx := by omega
            have hnx1 : 1 ≤ nx := by omega
            have Hr1 := Lib.hid hr1; clear hr1
            by_cases hc1 : cx = 1
            · subst hc1
              obtain rfl : nx = 1 := by omega
              go_wp2
              go_quiet (fail)
              go_wp2
              go_roundg (n - (k + 1))
              case measure => have := Hk.out; omega
              case rel => exact ⟨k + 1, lx, _, by have := Hk.out; omega, by go_num, rfl, rfl, by omega, ⟨NN + 1, r, by omega, by have := Hr1.out; omega, by omega, HC7.out trivial _ _⟩⟩
            · go_wp2
              go_quiet (fail)
              go_wp2
              go_roundg (n - (k + 1))
              case measure => have := Hk.out; omega
              case rel => exact ⟨k + 1, lx, _, by have := Hk.out; omega, by go_num, rfl, rfl, by omega, ⟨NN + 1, r, by omega, by have := Hr1.out; omega, by omega, HA7.out _ _⟩⟩
        · have hways2 : n' ≤ k ∨ (k < n' ∧ bs.getD k false = false) := by
            by_cases h : k < n'
            · exact .inr ⟨h, by simpa [h] using ht⟩
            · exact .inl (by omega)
          have HAx : Hid (QInv w1 wx (w1.heap.size + 3) (k + 1) (.slice ax nx cx) lx) := ⟨NN, qq, by omega, by rw [Hqn.out]; exact hn16, by omega, HQ.out⟩
          clear ht HQ
          rcases hways2 with h | ⟨h, hf⟩
          · go_wp2
            go_roundg (n - (k + 1))
            case measure => have := Hk.out; omega
            case rel => exact ⟨k + 1, lx, _, by have := Hk.out; omega, by go_num, rfl, rfl, by omega, HAx.out⟩
          · obtain ⟨gb, offb, rfl, hcb⟩ := (Hbs.out.later HBx.out).2 (by omega)
            have t0 := hcb k h
            rw [hf] at t0
            clear hcb hf
            go_wp2
            go_roundg (n - (k + 1))
            case measure => have := Hk.out; omega
            case rel => exact ⟨k + 1, lx, _, by have := Hk.out; omega, by go_num, rfl, rfl, by omega, HAx.out⟩
    · have hways : k = n ∨ (k < n ∧ k = 40) := by omega
      clear hlt
      rcases hways with rfl | ⟨h1, rfl⟩
      all_goals
        go_wp2_with fail
        refine (sqGet w1 wr _ N 100 _ _ HQ.out.sq 3 (by decide) (by decide) _ 0 (pq_has lost q)).mono ?_
        rintro e w5 ⟨a2, n2, c2, rfl, hrow, -, s5, hk5⟩
        have HP5 : Hid (∀ o, PSl (w5.alloc o) a2 n2 q) := fun o => hrow.sl.later ((Below.refl _ _).alloc (Nat.le_refl _) _)
        have HW5 : Hid (∀ o, PSl (w5.alloc o) aq q.length q) := fun o => (HQ.out.win.kept (fun j hj => hk5 j hj)).sl.1.later ((Below.refl _ _).alloc (Nat.le_refl _) _)
        have HB5 : Hid (∀ o, Below w.heap.size w (w5.alloc o)) := fun o => HB1.out.trans ((s5.below.alloc s5.below.size _).mono HB1.out.size)
        have hn2 : n2 ≤ 16 := by have := hrow.sl.1; dsimp only [pq] at this; omega
        clear hrow s5 hk5 HQ
        dsimp only [pq]
        generalize hnq : q.length = nq at *
        go_wp2_with fail
        refine (qEqual_any ⟨#[49, 46, 50]⟩ ⟨#[49, 46, 50]⟩ 3 lost 3 lost a2 aq n2 c2 nq cq q q _ (HP5.out _) (HW5.out _) (by omega) (by omega)).mono ?_
        rw [show decide ((⟨⟨#[49, 46, 50]⟩, 3, lost, q⟩ : PortT) = ⟨⟨#[49, 46, 50]⟩, 3, lost, q⟩) = true from decide_eq_true rfl]
        rintro e w6 ⟨rfl, hb⟩
        have HB6 : Hid (Below w.heap.size w w6) := (HB5.out _).trans (hb.mono (HB5.out _).size)
        clear hb
        go_wp2
        go_ret
        exact ⟨rfl, HB6.out⟩

end Go.Proofs.YtalpkndlnfgjfaaDoor
