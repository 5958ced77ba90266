/- signal: records compared; Take, Waiting. signal: Take, Waiting. signal: Waiting; law 33: known. -/
import Derived.Test.YtpieaakdddgdeaaGreatDoorSigK
import Derived.Test.YtpieaakdddgdeaaGreatDoorMem
import Derived.ChangeKeysEq
namespace Go.Proofs.YtpieaakdddgdeaaGreatDoor
open Go.RowKit
attribute [local go_sem ↓] Go.wp_at_zero Go.wp_at_succ

def sameRB (a b : RecT) : Bool := decide (a = b)
set_option maxRecDepth 100000 in
theorem run_equal_h (w : World) (a b : RecT) : (Op.equalIn 9999 28 (.agg (hCells a)) (.agg (hCells b))).run Tryz.prog w = .ok (decide (a.hs = b.hs)) w := by
  have hi0 : (Tryz.prog.info? 3).isSome = true := by kernel_rfl
  obtain ⟨i, hi⟩ := Option.isSome_iff_exists.1 hi0
  have hc : Tryz.prog.cellsOf 3 = 1 := by kernel_rfl
  rw [run_equalIn_array w 9998 _ _ Tryz.underlying28 hi, hc]
  have hr : List.range 8 = [0, 1, 2, 3, 4, 5, 6, 7] := by decide
  rw [hr]
  obtain ⟨p, bl, i, h0, h1, h2, h3, h4, h5, h6, h7⟩ := a
  obtain ⟨p', bl', i', k0, k1, k2, k3, k4, k5, k6, k7⟩ := b
  simp [go_sem, Op.eqItems, part, hCells, RecT.hs, Tryz.underlying3]
  by_cases e0 : h0 = k0 <;> by_cases e1 : h1 = k1 <;> by_cases e2 : h2 = k2 <;> by_cases e3 : h3 = k3 <;> simp [e0, e1, e2, e3]
  by_cases e4 : h4 = k4 <;> by_cases e5 : h5 = k5 <;> by_cases e6 : h6 = k6 <;> by_cases e7 : h7 = k7 <;> simp [e4, e5, e6, e7]
set_option maxRecDepth 100000 in
theorem run_equal_rec (w : World) (a b : RecT) : (Op.equal 30 (recV a) (recV b)).run Tryz.prog w = .ok (decide (a = b)) w := by
  have hu : Tryz.prog.underlying 30 = some (.struct (Tryz.prog.fieldsOf 30)) := by kernel_rfl
  have hst : Tryz.prog.stoodInHeld 30 = false := by kernel_rfl
  simp only [Op.equal, Op.maxDepth, recV, rCells]
  rw [run_equalIn_struct w 9999 _ _ _ hu hst]
  simp [go_sem, Tryz.underlying30, Tryz.underlying3]
  have h := run_equal_h w a b
  simp only [hCells] at h
  rw [h]
  obtain ⟨p, bl, i, h0, h1, h2, h3, h4, h5, h6, h7⟩ := a
  obtain ⟨p', bl', i', k0, k1, k2, k3, k4, k5, k6, k7⟩ := b
  simp only [RecT.hs, RecT.mk.injEq, Result.andThen_ok]
  by_cases e0 : p = p' <;> by_cases e1 : bl = bl' <;> by_cases e2 : i = i' <;> simp [e0, e1, e2]
  split <;> simp_all
theorem run_eql_rec (w : World) (a0 a1 a2 a3 a4 a5 a6 a7 a8 a9 a10 b0 b1 b2 b3 b4 b5 b6 b7 b8 b9 b10 : Int) : (binOp .eql 30 (.agg #[.int .i64 a0, .int .i64 a1, .int .i64 a2, .int .i64 a3, .int .i64 a4, .int .i64 a5, .int .i64 a6, .int .i64 a7, .int .i64 a8, .int .i64 a9, .int .i64 a10]) (.agg #[.int .i64 b0, .int .i64 b1, .int .i64 b2, .int .i64 b3, .int .i64 b4, .int .i64 b5, .int .i64 b6, .int .i64 b7, .int .i64 b8, .int .i64 b9, .int .i64 b10])).run Tryz.prog w = .ok (.bool (sameRB ⟨a0, a1, a2, a3, a4, a5, a6, a7, a8, a9, a10⟩ ⟨b0, b1, b2, b3, b4, b5, b6, b7, b8, b9, b10⟩)) w := by
  have h := run_equal_rec w ⟨a0, a1, a2, a3, a4, a5, a6, a7, a8, a9, a10⟩ ⟨b0, b1, b2, b3, b4, b5, b6, b7, b8, b9, b10⟩
  simp only [recV, rCells] at h
  simp only [binOp]
  simp [h, sameRB]
theorem run_neq_rec (w : World) (a0 a1 a2 a3 a4 a5 a6 a7 a8 a9 a10 b0 b1 b2 b3 b4 b5 b6 b7 b8 b9 b10 : Int) : (binOp .neq 30 (.agg #[.int .i64 a0, .int .i64 a1, .int .i64 a2, .int .i64 a3, .int .i64 a4, .int .i64 a5, .int .i64 a6, .int .i64 a7, .int .i64 a8, .int .i64 a9, .int .i64 a10]) (.agg #[.int .i64 b0, .int .i64 b1, .int .i64 b2, .int .i64 b3, .int .i64 b4, .int .i64 b5, .int .i64 b6, .int .i64 b7, .int .i64 b8, .int .i64 b9, .int .i64 b10])).run Tryz.prog w = .ok (.bool (!sameRB ⟨a0, a1, a2, a3, a4, a5, a6, a7, a8, a9, a10⟩ ⟨b0, b1, b2, b3, b4, b5, b6, b7, b8, b9, b10⟩)) w := by
  have h := run_equal_rec w ⟨a0, a1, a2, a3, a4, a5, a6, a7, a8, a9, a10⟩ ⟨b0, b1, b2, b3, b4, b5, b6, b7, b8, b9, b10⟩
  simp only [recV, rCells] at h
  simp only [binOp]
  simp [h, sameRB]

end Go.Proofs.YtpieaakdddgdeaaGreatDoor

namespace Go.Proofs.YtpieaakdddgdeaaGreatDoor
open Go.RowKit
attribute [local go_sem ↓] Go.wp_at_zero Go.wp_at_succ
attribute [local go_sem ↓] run_eql_rec run_neq_rec

def andnP (p : Int) (n : Nat) : Int := bits BinOp.andNot IntKind.i64 p (wrap64 (2 ^ n))
/-- What is left pending, when the signals to k are gone through. -/
def leftP (r : RecT) (sig : Int) : Nat → Int
  | 0 => r.p
  | k + 1 => if ((k : Int) + 1 = sig) ∨ withoutB r ((k : Int) + 1) = true then andnP (leftP r sig k) (k + 1) else leftP r sig k

/-- In the midst of Take. -/
structure TkI (w0 : World) (b N : Nat) (m : ByteArray) (r : RecT) (G : Nat → Prop) (w : World) (X8 X9 : Nat) (q : Int) (wr : World) : Prop where
  s : SR w0 wr b N m (some r) (fun k => G k ∨ k = X8 ∨ k = X9)
  e : wr.heap[X8]? = some (.cells (rCells r) 30 (0, 0))
  n : wr.heap[X9]? = some (.cells (rCells { r with p := q }) 30 (0, 0))
  g : ∀ k, G k → wr.heap[k]? = w.heap[k]?
section
variable {w0 : World} {b N : Nat} {m : ByteArray} {r : RecT} {G : Nat → Prop} {w : World} {X8 X9 : Nat} {q : Int} {wr w' : World}
theorem TkI.later (h : TkI w0 b N m r G w X8 X9 q wr) (hb : Below wr.heap.size wr w') : TkI w0 b N m r G w X8 X9 q w' :=
  ⟨h.s.later hb, (hb.block _ (lt_of_heap h.e)).trans h.e, (hb.block _ (lt_of_heap h.n)).trans h.n, fun k hk => (h.s.gk hb k (.inl hk)).trans (h.g k hk)⟩
theorem TkI.set (h : TkI w0 b N m r G w X8 X9 q wr) (h1 : X8 ≠ X9) (h2 : ∀ k, G k → k ≠ X9) (q' : Int) : TkI w0 b N m r G w X8 X9 q' (wr.setCell ⟨X9, 0, none⟩ (.int .i64 q')).drew :=
  ⟨h.s.setX X9 (.inr (.inr rfl)) 0 _, (setX_other h1 0 _).trans h.e, setX_heap h.n q', fun k hk => (setX_other (h2 k hk) 0 _).trans (h.g k hk)⟩
end

set_option maxRecDepth 100000 in
set_option maxHeartbeats 4000000 in
theorem srTake (w0 w : World) (b N : Nat) (m : ByteArray) (G : Nat → Prop) (p bl i h0 h1 h2 h3 h4 h5 h6 h7 : Int) (s : SR w0 w b N m (some ⟨p, bl, i, h0, h1, h2, h3, h4, h5, h6, h7⟩) G) (hm : validB m = true ∧ m.size ≤ 70368744177664) (hN : N < 1000000)
    (sig : Nat) (hs : 1 ≤ sig ∧ sig ≤ 7) (hnx : nextB ⟨p, bl, i, h0, h1, h2, h3, h4, h5, h6, h7⟩ = sig) (hh : (RecT.mk p bl i h0 h1 h2 h3 h4 h5 h6 h7).hs.getD sig 0 = 0) (p' : Int) (hp' : leftP ⟨p, bl, i, h0, h1, h2, h3, h4, h5, h6, h7⟩ sig 7 = p') (hne : sameRB ⟨p', bl, i, h0, h1, h2, h3, h4, h5, h6, h7⟩ ⟨p, bl, i, h0, h1, h2, h3, h4, h5, h6, h7⟩ = false) (hc : checkR ⟨p', bl, i, h0, h1, h2, h3, h4, h5, h6, h7⟩ = 0) :
    Calls Tryz.prog 16 #[.pointer (some ⟨b, 0, none⟩), .string m] w (SRP w0 b (N + 1) m (some ⟨p', bl, i, h0, h1, h2, h3, h4, h5, h6, h7⟩) G w (.tuple #[.int .i64 sig, .int .i64 1, .int .i64 0, .int .i64 0])) := by
  have Hc := Lib.hid hc; clear hc
  have Hp' := Lib.hid hp'; clear hp'
  have Hh := Lib.hid hh; clear hh
  go_enter Tryz.func16, Tryz.ntmps16
  go_wp2_with fail
  refine (srGet w0 w b N m _ G s hm).mono ?_
  rintro r w3 ⟨rfl, s3, hk3⟩
  clear s
  have S3 : Hid (∀ o', SR w0 (w3.alloc o') b N m (some ⟨p, bl, i, h0, h1, h2, h3, h4, h5, h6, h7⟩) (fun k => G k ∨ k = w3.heap.size)) := fun o' => s3.fresh ((Below.refl _ _).alloc (Nat.le_refl _) _) (fun k hk => hk.imp id (fun h => by subst h; simp))
  have HG3' : Hid (∀ o', ∀ k, G k → (w3.alloc o').heap[k]? = w.heap[k]?) := fun o' k hk => (s3.gk ((Below.refl _ _).alloc (Nat.le_refl _) _) k hk).trans (hk3 k hk)
  have HGlt : Hid (∀ k, G k → k < w3.heap.size) := s3.glt
  have HX3 : Hid (∀ o', (w3.alloc o').heap[w3.heap.size]? = some o') := fun o' => heap_alloc_new w3 o'
  clear s3 hk3
  dsimp only [rHas, recV, rCells]
  go_wp2_with fail
  refine (next_is p bl i h0 h1 h2 h3 h4 h5 h6 h7 _ hnx _).mono ?_
  rintro r w4 ⟨rfl, hb⟩
  have S4 := Lib.hid ((S3.out _).later hb)
  have HG4 : Hid (∀ k, G k → w4.heap[k]? = w.heap[k]?) := fun k hk => ((S3.out _).gk hb k (.inl hk)).trans (HG3'.out _ k hk)
  have hX4 : w4.heap[w3.heap.size]? = some (.cells (rCells ⟨p, bl, i, h0, h1, h2, h3, h4, h5, h6, h7⟩) 30 (0, 0)) := (hb.block _ (by simp)).trans (HX3.out _)
  have hlt4 : w3.heap.size < w4.heap.size := lt_of_heap hX4
  clear hb S3 HG3' HX3 hnx
  have T0 : Hid (TkI w0 b N m ⟨p, bl, i, h0, h1, h2, h3, h4, h5, h6, h7⟩ G w w3.heap.size w4.heap.size p (w4.alloc (.cells #[.int .i64 p, .int .i64 bl, .int .i64 i, .int .i64 h0, .int .i64 h1, .int .i64 h2, .int .i64 h3, .int .i64 h4, .int .i64 h5, .int .i64 h6, .int .i64 h7] 30))) :=
    ⟨S4.out.fresh ((Below.refl _ _).alloc (Nat.le_refl _) _) (fun k hk => by
      rcases hk with h | h | h
      · exact .inl (.inl h)
      · exact .inl (.inr h)
      · subst h; exact .inr (by simp)), (Below.heap_alloc _ _ _ hlt4).trans hX4, heap_alloc_new w4 _, fun k hk => (S4.out.gk ((Below.refl _ _).alloc (Nat.le_refl _) _) k (.inl hk)).trans (HG4.out k hk)⟩
  obtain ⟨c0, c1, c2, c3, c4, c5, c6, c7, c8, c9, c10⟩ := at11 hX4
  dsimp only at c0 c1 c2 c3 c4 c5 c6 c7 c8 c9 c10
  have HG9 : Hid (∀ k, G k → k ≠ w4.heap.size) := fun k hk e => by have := HGlt.out k hk; omega
  have H89 : Hid (w3.heap.size ≠ w4.heap.size) := fun e => by omega
  clear hX4 S4 HG4 HGlt
  go_wp2
  clear c0 c1 c2 c3 c4 c5 c6 c7 c8 c9 c10
  generalize w4.alloc (.cells #[.int .i64 p, .int .i64 bl, .int .i64 i, .int .i64 h0, .int .i64 h1, .int .i64 h2, .int .i64 h3, .int .i64 h4, .int .i64 h5, .int .i64 h6, .int .i64 h7] 30) = w5 at *
  generalize w3.heap.size = X8 at *
  generalize w4.heap.size = X9 at *
  clear hlt4
  go_loopw [10] (fun s wr => ∃ k : Nat, k ≤ 7 ∧ s = .int .i64 ((k : Int) + 1) ∧ Hid (TkI w0 b N m ⟨p, bl, i, h0, h1, h2, h3, h4, h5, h6, h7⟩ G w X8 X9 (leftP ⟨p, bl, i, h0, h1, h2, h3, h4, h5, h6, h7⟩ sig k) wr)) (fun s _ => 8 - (intOf s).toNat)
  case atStart => exact ⟨0, by omega, rfl, T0.out⟩
  case round =>
    obtain ⟨k, hk, rfl, HT⟩ := hrel
    clear T0
    by_cases h8 : k < 7
    · have Hst : Hid (leftP ⟨p, bl, i, h0, h1, h2, h3, h4, h5, h6, h7⟩ sig (k + 1) = if ((k : Int) + 1 = sig) ∨ withoutB ⟨p, bl, i, h0, h1, h2, h3, h4, h5, h6, h7⟩ ((k : Int) + 1) = true then andnP (leftP ⟨p, bl, i, h0, h1, h2, h3, h4, h5, h6, h7⟩ sig k) (k + 1) else leftP ⟨p, bl, i, h0, h1, h2, h3, h4, h5, h6, h7⟩ sig k) := rfl
      obtain ⟨q, hq⟩ : ∃ q, leftP ⟨p, bl, i, h0, h1, h2, h3, h4, h5, h6, h7⟩ sig k = q := ⟨_, rfl⟩
      rw [hq] at HT Hst
      have Hq := Lib.hid hq; clear hq
      by_cases hks : (k : Int) + 1 = sig
      · have hks' : ((k : Int) + 1 == (sig : Int)) = true := beq_iff_eq.2 hks
        have He : Hid (leftP ⟨p, bl, i, h0, h1, h2, h3, h4, h5, h6, h7⟩ sig (k + 1) = bits BinOp.andNot IntKind.i64 q (wrap64 (2 ^ (k + 1)))) := Hst.out.trans (if_pos (.inl hks))
        obtain ⟨c0, -, -, -, -, -, -, -, -, -, -⟩ := at11 HT.out.n
        have f0 : wr.frozen? ⟨X9, 0, none⟩ = false := frozen_of_heap HT.out.n 0
        dsimp only at c0
        have Hks := Lib.hid hks
        clear hks
        go_wp2_with fail
        go_region
        clear c0 f0
        have HT' := Lib.hid (HT.out.set H89.out HG9.out (bits BinOp.andNot IntKind.i64 q (wrap64 (2 ^ (k + 1)))))
        generalize (wr.setCell ⟨X9, 0, none⟩ (.int .i64 (bits BinOp.andNot IntKind.i64 q (wrap64 (2 ^ (k + 1)))))).drew = wn at *
        rw [← He.out] at HT'
        clear HT
        go_wp2
        go_roundw
        case rel => exact ⟨k + 1, by omega, by go_num, HT'.out⟩
        case measure => simp [intOf]; omega
      · have hks' : ((k : Int) + 1 == (sig : Int)) = false := beq_eq_false_iff_ne.2 hks
        have Hks := Lib.hid hks
        clear hks
        obtain ⟨d0, d1, d2, d3, d4, d5, d6, d7, d8, d9, d10⟩ := at11 HT.out.e
        dsimp only at d0 d1 d2 d3 d4 d5 d6 d7 d8 d9 d10
        go_wp2_with fail
        cases hwo : withoutB ⟨p, bl, i, h0, h1, h2, h3, h4, h5, h6, h7⟩ ((k : Int) + 1) with
        | true =>
          have He : Hid (leftP ⟨p, bl, i, h0, h1, h2, h3, h4, h5, h6, h7⟩ sig (k + 1) = bits BinOp.andNot IntKind.i64 q (wrap64 (2 ^ (k + 1)))) := Hst.out.trans (if_pos (.inr hwo))
          refine (withoutEffect_is p bl i h0 h1 h2 h3 h4 h5 h6 h7 _ (by omega) _ hwo _).mono ?_
          rintro r wb ⟨rfl, hb⟩
          have HTb := Lib.hid (HT.out.later hb)
          clear hb HT d0 d1 d2 d3 d4 d5 d6 d7 d8 d9 d10
          obtain ⟨c0, -, -, -, -, -, -, -, -, -, -⟩ := at11 HTb.out.n
          have f0 : wb.frozen? ⟨X9, 0, none⟩ = false := frozen_of_heap HTb.out.n 0
          dsimp only at c0
          go_wp2_with fail
          go_region
          clear c0 f0
          have HT' := Lib.hid (HTb.out.set H89.out HG9.out (bits BinOp.andNot IntKind.i64 q (wrap64 (2 ^ (k + 1)))))
          generalize (wb.setCell ⟨X9, 0, none⟩ (.int .i64 (bits BinOp.andNot IntKind.i64 q (wrap64 (2 ^ (k + 1)))))).drew = wn at *
          rw [← He.out] at HT'
          clear HTb
          go_wp2
          go_roundw
          case rel => exact ⟨k + 1, by omega, by go_num, HT'.out⟩
          case measure => simp [intOf]; omega
        | false =>
          have He : Hid (leftP ⟨p, bl, i, h0, h1, h2, h3, h4, h5, h6, h7⟩ sig (k + 1) = q) := Hst.out.trans (if_neg (by rw [hwo]; simp [Hks.out]))
          refine (withoutEffect_is p bl i h0 h1 h2 h3 h4 h5 h6 h7 _ (by omega) _ hwo _).mono ?_
          rintro r wb ⟨rfl, hb⟩
          have HT' := Lib.hid (HT.out.later hb)
          rw [← He.out] at HT'
          clear hb HT d0 d1 d2 d3 d4 d5 d6 d7 d8 d9 d10
          go_wp2
          go_roundw
          case rel => exact ⟨k + 1, by omega, by go_num, HT'.out⟩
          case measure => simp [intOf]; omega
    · obtain rfl : k = 7 := by omega
      rw [Hp'.out] at HT
      obtain ⟨d0, d1, d2, d3, d4, d5, d6, d7, d8, d9, d10⟩ := at11 HT.out.e
      dsimp only at d0 d1 d2 d3 d4 d5 d6 d7 d8 d9 d10
      obtain ⟨e0, e1, e2, e3, e4, e5, e6, e7, e8, e9, e10⟩ := at11 HT.out.n
      dsimp only at e0 e1 e2 e3 e4 e5 e6 e7 e8 e9 e10
      go_wp2_with fail
      refine (srPut w0 wr b N m _ _ HT.out.s hm hN p' bl i h0 h1 h2 h3 h4 h5 h6 h7 Hc.out).mono ?_
      rintro r w6 ⟨rfl, s6, hk6⟩
      have hX6 := (hk6 X8 (.inr (.inl rfl))).trans HT.out.e
      have dk : w6.cell? ⟨X8, 3 + sig, none⟩ = some (.int .i64 0) := by
        have h1 := cell_of_heap hX6 (3 + sig)
        rw [rCells_at _ sig (by omega), Hh.out] at h1
        exact h1
      have S6 : Hid (SR w0 w6 b (N + 1) m (some ⟨p', bl, i, h0, h1, h2, h3, h4, h5, h6, h7⟩) G) := s6.fresh (Below.refl _ _) (fun k hk => .inl (.inl hk))
      have HG6 : Hid (∀ k, G k → w6.heap[k]? = w.heap[k]?) := fun k hk => (hk6 k (.inl hk)).trans (HT.out.g k hk)
      clear s6 hk6 hX6 d0 d1 d2 d3 d4 d5 d6 d7 d8 d9 d10 e0 e1 e2 e3 e4 e5 e6 e7 e8 e9 e10 HT
      have hs0 : ((sig : Int) == 0) = false := beq_eq_false_iff_ne.2 (by omega)
      have hs8 : sig < 8 := by omega
      go_wp2
      refine bodyPost_ret (v := .tuple #[.int .i64 sig, .int .i64 1, .int .i64 0, .int .i64 0]) (by simp [results, Tryz.results16, go_sem]) rfl ?_
      exact ⟨rfl, S6.out, HG6.out⟩

end Go.Proofs.YtpieaakdddgdeaaGreatDoor

namespace Go.Proofs.YtpieaakdddgdeaaGreatDoor
open Go.RowKit
attribute [local go_sem ↓] Go.wp_at_zero Go.wp_at_succ

set_option maxRecDepth 100000 in
set_option maxHeartbeats 1600000 in
theorem srWaiting (w0 w : World) (b N : Nat) (m : ByteArray) (G : Nat → Prop) (p bl i h0 h1 h2 h3 h4 h5 h6 h7 : Int) (s : SR w0 w b N m (some ⟨p, bl, i, h0, h1, h2, h3, h4, h5, h6, h7⟩) G) (hm : validB m = true ∧ m.size ≤ 70368744177664) (hnx : nextB ⟨p, bl, i, h0, h1, h2, h3, h4, h5, h6, h7⟩ = 0) :
    Calls Tryz.prog 45 #[.pointer (some ⟨b, 0, none⟩), .string m] w (SRP w0 b N m (some ⟨p, bl, i, h0, h1, h2, h3, h4, h5, h6, h7⟩) G w (.bool false)) := by
  go_enter Tryz.func45, Tryz.ntmps45
  go_wp2_with fail
  refine (srGet w0 w b N m _ G s hm).mono ?_
  rintro r w3 ⟨rfl, s3, hk3⟩
  clear s
  have S3 : Hid (∀ o', SR w0 (w3.alloc o') b N m (some ⟨p, bl, i, h0, h1, h2, h3, h4, h5, h6, h7⟩) G) := fun o' => s3.later ((Below.refl _ _).alloc (Nat.le_refl _) _)
  have HG3 : Hid (∀ o', ∀ k, G k → (w3.alloc o').heap[k]? = w.heap[k]?) := fun o' k hk => (s3.gk ((Below.refl _ _).alloc (Nat.le_refl _) _) k hk).trans (hk3 k hk)
  clear s3 hk3
  dsimp only [rHas, recV, rCells]
  go_wp2_with fail
  refine (next_is p bl i h0 h1 h2 h3 h4 h5 h6 h7 _ hnx _).mono ?_
  rintro r w4 ⟨rfl, hb⟩
  have S4 := Lib.hid ((S3.out _).later hb)
  have HG4 : Hid (∀ k, G k → w4.heap[k]? = w.heap[k]?) := fun k hk => ((S3.out _).gk hb k hk).trans (HG3.out _ k hk)
  clear hb S3 HG3
  go_wp2
  go_ret
  exact ⟨rfl, S4.out, HG4.out⟩

theorem one_ok : validB ⟨#[49]⟩ = true ∧ (⟨#[49]⟩ : ByteArray).size ≤ 70368744177664 := ⟨by decide +kernel, by decide⟩
theorem two_ok : validB ⟨#[49, 46, 50]⟩ = true ∧ (⟨#[49, 46, 50]⟩ : ByteArray).size ≤ 70368744177664 := ⟨by decide +kernel, by decide⟩
theorem three_ok : validB ⟨#[49, 46, 51]⟩ = true ∧ (⟨#[49, 46, 51]⟩ : ByteArray).size ≤ 70368744177664 := ⟨by decide +kernel, by decide⟩
theorem near1 : nearB ⟨#[49, 46, 50]⟩ ⟨#[49]⟩ = true := by decide +kernel
theorem near2 : nearB ⟨#[49, 46, 50]⟩ ⟨#[49, 46, 51]⟩ = false := by decide +kernel
theorem or1 : orP 0 2 = 4 := by decide +kernel
theorem or2 : orP 4 6 = 68 := by decide +kernel
theorem ck4 : checkR ⟨4, 0, 0, 0, 0, 0, 0, 0, 0, 0, 0⟩ = 0 := by decide +kernel
theorem ck68 : checkR ⟨68, 0, 0, 0, 0, 0, 0, 0, 0, 0, 0⟩ = 0 := by decide +kernel
theorem ck64 : checkR ⟨64, 0, 0, 0, 0, 0, 0, 0, 0, 0, 0⟩ = 0 := by decide +kernel
theorem wo1 : withoutB ⟨0, 0, 0, 0, 0, 0, 0, 0, 0, 0, 0⟩ 2 = false := by decide +kernel
theorem wo2 : withoutB ⟨4, 0, 0, 0, 0, 0, 0, 0, 0, 0, 0⟩ 6 = false := by decide +kernel
theorem nx1 : nextB ⟨68, 0, 0, 0, 0, 0, 0, 0, 0, 0, 0⟩ = (2 : Nat) := by decide +kernel
theorem nx2 : nextB ⟨64, 0, 0, 0, 0, 0, 0, 0, 0, 0, 0⟩ = (6 : Nat) := by decide +kernel
theorem nx3 : nextB ⟨0, 0, 0, 0, 0, 0, 0, 0, 0, 0, 0⟩ = 0 := by decide +kernel
theorem lf1 : leftP ⟨68, 0, 0, 0, 0, 0, 0, 0, 0, 0, 0⟩ (2 : Nat) 7 = 64 := by decide +kernel
theorem lf2 : leftP ⟨64, 0, 0, 0, 0, 0, 0, 0, 0, 0, 0⟩ (6 : Nat) 7 = 0 := by decide +kernel
theorem sm1 : sameRB ⟨64, 0, 0, 0, 0, 0, 0, 0, 0, 0, 0⟩ ⟨68, 0, 0, 0, 0, 0, 0, 0, 0, 0, 0⟩ = false := by decide
theorem sm2 : sameRB ⟨0, 0, 0, 0, 0, 0, 0, 0, 0, 0, 0⟩ ⟨64, 0, 0, 0, 0, 0, 0, 0, 0, 0, 0⟩ = false := by decide

set_option maxRecDepth 100000 in
set_option maxHeartbeats 4000000 in
theorem known33 (w : World) (hu : Usages w) : Calls Tryz.prog 11 #[] w fun r w' => r = .returned (.bool true) ∧ Below w.heap.size w w' := by
  go_enter Tryz.func11, Tryz.ntmps11
  go_wp2_with fail
  refine (srNew w hu ⟨#[49]⟩).mono ?_
  rintro r w1 ⟨rfl, hnext⟩
  have Hnext := Lib.hid hnext; clear hnext
  go_wp2_with fail
  refine Hnext.out.mono ?_
  rintro r w2 ⟨rfl, s2⟩
  clear Hnext hu
  have S2 := Lib.hid s2; clear s2
  go_wp2_with fail
  refine (srMake w w2 _ 0 ⟨#[49]⟩ _ S2.out one_ok (by omega)).mono ?_
  rintro r w3 ⟨rfl, s3, -⟩
  have S3 := Lib.hid s3; clear s3 S2
  go_wp2_with fail
  refine (srSend w w3 _ _ ⟨#[49]⟩ _ 0 0 0 0 0 0 0 0 0 0 0 S3.out one_ok (by omega) ⟨#[49, 46, 50]⟩ 2 two_ok (by omega) near1 wo1 4 or1 ck4).mono ?_
  rintro r w4 ⟨rfl, s4, -⟩
  have S4 := Lib.hid s4; clear s4 S3
  go_wp2_with fail
  refine (srSend w w4 _ _ ⟨#[49]⟩ _ 4 0 0 0 0 0 0 0 0 0 0 S4.out one_ok (by omega) ⟨#[49, 46, 50]⟩ 6 two_ok (by omega) near1 wo2 68 or2 ck68).mono ?_
  rintro r w5 ⟨rfl, s5, -⟩
  have S5 := Lib.hid s5; clear s5 S4
  go_wp2_with fail
  refine (sSend_denied w5 _ ⟨#[49, 46, 50]⟩ ⟨#[49, 46, 51]⟩ 6 two_ok three_ok (by decide) near2).mono ?_
  rintro r w6 ⟨rfl, hb⟩
  have S6 := Lib.hid (S5.out.later hb); clear hb S5
  go_wp2_with fail
  refine (srTake w w6 _ _ ⟨#[49]⟩ _ 68 0 0 0 0 0 0 0 0 0 0 S6.out one_ok (by omega) 2 (by omega) nx1 rfl 64 lf1 sm1 ck64).mono ?_
  rintro r w7 ⟨rfl, s7, -⟩
  have S7 := Lib.hid s7; clear s7 S6
  go_wp2_with fail
  refine (srTake w w7 _ _ ⟨#[49]⟩ _ 64 0 0 0 0 0 0 0 0 0 0 S7.out one_ok (by omega) 6 (by omega) nx2 rfl 0 lf2 sm2 zero_ok).mono ?_
  rintro r w8 ⟨rfl, s8, -⟩
  have S8 := Lib.hid s8; clear s8 S7
  go_wp2_with fail
  refine (srWaiting w w8 _ _ ⟨#[49]⟩ _ 0 0 0 0 0 0 0 0 0 0 0 S8.out one_ok nx3).mono ?_
  rintro r w9 ⟨rfl, s9, -⟩
  have S9 := Lib.hid s9; clear s9 S8
  go_wp2
  go_ret
  exact ⟨rfl, S9.out.below⟩

end Go.Proofs.YtpieaakdddgdeaaGreatDoor
