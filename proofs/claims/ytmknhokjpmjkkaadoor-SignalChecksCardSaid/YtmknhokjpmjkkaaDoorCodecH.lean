/- Contracts of codec: the Reader's methods, Bytes of the Writer. -/
import Derived.Test.YtmknhokjpmjkkaaDoorCodecG
namespace Go.Proofs.YtmknhokjpmjkkaaDoor
open Go.RowKit

theorem Rd.later {B : Nat → Prop} {b : Nat} {w w' : World} {s : RdS} (h : Rd B b w s) (hb : Below w.heap.size w w') : Rd B b w' s := by
  obtain ⟨hBb, g, off, n, c, p, hh, hsl, hnc, hBg, hgb, hlen⟩ := h
  have hg : n = 0 ∨ g < w.heap.size := by
    rcases Nat.eq_zero_or_pos n with h0 | h0
    · exact .inl h0
    · exact .inr (World.block_lt_of_cell? w _ (hsl.2 0 h0))
  refine ⟨hBb, g, off, n, c, p, (hb.block b (lt_of_heap hh)).trans hh, ?_, hnc, hBg, hgb, hlen⟩
  rcases hg with rfl | hg
  · exact ⟨hsl.1, fun j hj => by omega⟩
  · exact hsl.kept (hb.block g hg)

set_option maxRecDepth 100000 in
set_option maxHeartbeats 800000 in
theorem rNumber_any (B : Nat → Prop) (b : Nat) (most : Int) (s : RdS) (w : World) (h : Rd B b w s) :
    Calls Tryd.prog 86 #[.pointer (some ⟨b, 0, none⟩), .int .i64 most] w (RdPost B b w (.int .i64 (rdNum most s).1) (rdNum most s).2) := by
  have hmf : ∀ (fn : Fn) (first cap : Array Value) (w : World), (Instr.makeFunc fn first cap).run Tryd.prog w = .ok (.func fn first cap) w := fun _ _ _ _ => rfl
  have H := Lib.hid h; clear h
  go_enter Tryd.func86, Tryd.ntmps86
  go_wp2_with fail
  refine (readInt_any B b w.heap.size most s _ (cell_box _ _ _) (H.out.later ((Below.refl _ _).alloc (Nat.le_refl _) _))).mono ?_
  rintro e w1 ⟨rfl, hr, hb⟩
  have Hr := Lib.hid hr; clear hr
  have Hb := Lib.hid hb; clear hb
  go_wp2
  go_ret
  exact ⟨rfl, Hr.out, grown_trans (World.grownBy_alloc _ _ _) Hb.out⟩

set_option maxRecDepth 100000 in
set_option maxHeartbeats 800000 in
theorem rText_any (B : Nat → Prop) (b : Nat) (most : Int) (s : RdS) (w : World) (h : Rd B b w s) :
    Calls Tryd.prog 94 #[.pointer (some ⟨b, 0, none⟩), .int .i64 most] w (RdPost B b w (.string (strOf (rdText most s).1)) (rdText most s).2) := by
  have hmf : ∀ (fn : Fn) (first cap : Array Value) (w : World), (Instr.makeFunc fn first cap).run Tryd.prog w = .ok (.func fn first cap) w := fun _ _ _ _ => rfl
  have H := Lib.hid h; clear h
  go_enter Tryd.func94, Tryd.ntmps94
  go_wp2_with fail
  refine (readString_any B b w.heap.size most s _ (cell_box _ _ _) (H.out.later ((Below.refl _ _).alloc (Nat.le_refl _) _))).mono ?_
  rintro e w1 ⟨rfl, hr, hb⟩
  have Hr := Lib.hid hr; clear hr
  have Hb := Lib.hid hb; clear hb
  go_wp2
  go_ret
  exact ⟨rfl, Hr.out, grown_trans (World.grownBy_alloc _ _ _) Hb.out⟩

theorem BRow.sl {w : World} {g n c : Nat} {bs : List UInt8} (h : BRow w (.slice (some ⟨g, 0, none⟩) n c) bs) : BSl w g 0 n bs ∧ n ≤ c ∧ g < w.heap.size := by
  have hcs := World.ownsRow.cells h (g := g) rfl
  rcases h.2 with ⟨hv, _⟩ | ⟨g', cap, cur, hv, hb, hg, hnc, hcm, hcs', htake⟩
  · cases hv
  · simp only [Value.slice.injEq, Option.some.injEq, Addr.mk.injEq, and_true] at hv
    obtain ⟨rfl, rfl, rfl⟩ := hv
    refine ⟨⟨rfl, fun j hj => ?_⟩, hnc, lt_of_heap hg⟩
    have h1 := hcs j (byteV (bs.getD j 0)) (by simp [hj])
    have hadd : (⟨g, 0, none⟩ : Addr).add j = ⟨g, 0 + j, none⟩ := by unfold Addr.add; split <;> simp_all
    rw [hadd] at h1
    exact h1

def rdClose (s : RdS) : Nat := if s.fail ≠ 0 then s.fail else if 0 < s.rest.length then 5 else 0

set_option maxRecDepth 100000 in
set_option maxHeartbeats 800000 in
theorem rClose_any (B : Nat → Prop) (b : Nat) (s : RdS) (w : World) (h : Rd B b w s) :
    Calls Tryd.prog 87 #[.pointer (some ⟨b, 0, none⟩)] w fun r w' => r = .returned (.int .i64 (rdClose s)) ∧ w = w' := by
  obtain ⟨hBb, g, off, n, c, p, hh, hsl, hnc, hBg, hgb, hlen⟩ := h
  have hc0 : w.cell? ⟨b, 0, none⟩ = some (.slice (some ⟨g, off, none⟩) n c) := cell_of_heap hh 0
  have hc2 : w.cell? ⟨b, 2, none⟩ = some (.int .i64 s.fail) := cell_of_heap hh 2
  have hl := hsl.1
  clear hh hsl
  unfold rdClose
  by_cases h0 : s.fail = 0
  · rw [h0] at hc2 ⊢
    have hc2' : w.cell? ⟨b, 2, none⟩ = some (.int .i64 0) := hc2
    clear hc2
    by_cases h1 : 0 < s.rest.length
    · have hn : 0 < n := by omega
      rw [if_neg (by simp), if_pos h1]
      clear hl h1 h0 hlen
      go_enter Tryd.func87, Tryd.ntmps87
      go_wp2
      go_ret
      exact ⟨rfl, rfl⟩
    · obtain rfl : n = 0 := by omega
      rw [if_neg (by simp), if_neg h1]
      clear hl h1 h0 hlen
      go_enter Tryd.func87, Tryd.ntmps87
      go_wp2
      go_ret
      exact ⟨rfl, rfl⟩
  · rw [if_pos h0]
    clear hl hlen
    generalize s.fail = f at *
    have h0' : ((f : Int) != 0) = true := bne_iff_ne.2 (by omega)
    clear h0
    go_enter Tryd.func87, Tryd.ntmps87
    go_wp2
    go_ret
    exact ⟨rfl, rfl⟩

set_option maxRecDepth 100000 in
set_option maxHeartbeats 800000 in
theorem newReader_any (v : Value) (bs : List UInt8) (w : World) (hlen : bs.length ≤ 35184372088832) (hsrc : BSrc w v bs) (hv : v ≠ .slice none 0 0) :
    Calls Tryd.prog 85 #[v] w fun r w' => ∃ b, r = .returned (.pointer (some ⟨b, 0, none⟩)) ∧ Rd (fun k => w.heap.size ≤ k ∧ k < w'.heap.size) b w' ⟨bs, 0⟩ ∧ Below w.heap.size w w' := by
  have Hsrc := Lib.hid hsrc; clear hsrc
  have Hlen := Lib.hid hlen; clear hlen
  have Hv := Lib.hid hv; clear hv
  go_enter Tryd.func85, Tryd.ntmps85
  go_wp2_with fail
  refine (clone_any v bs _ Hlen.out Hsrc.out).mono ?_
  rintro e w1 ⟨v1, rfl, hrow, hb, hform⟩
  rcases hform with h | ⟨g, n, c, rfl, hg⟩
  · exact absurd h.1 Hv.out
  have Hrow := Lib.hid hrow; clear hrow
  have Hb := Lib.hid hb; clear hb
  go_wp2
  go_ret
  obtain ⟨hsl, hnc, hgl⟩ := Hrow.out.sl
  refine ⟨w1.heap.size, rfl, ⟨⟨Hb.out.size, by simp⟩, g, 0, n, c, 0, heap_alloc_new w1 _, hsl.kept (Below.heap_alloc _ _ _ hgl), hnc, ⟨hg, by simp; omega⟩, by omega, by show bs.length ≤ _; have := Hlen.out; omega⟩, Hb.out.alloc Hb.out.size _⟩

/-- What Bytes leaves. -/
def BytesPost (w : World) (bs : List UInt8) (r : Ending) (w' : World) : Prop :=
  ∃ v, r = .returned (.tuple #[v, .int .i64 0]) ∧ BRow w' v bs ∧ Below w.heap.size w w' ∧ (v = .slice none 0 0 ∨ ∃ g n c, v = .slice (some ⟨g, 0, none⟩) n c ∧ w.heap.size ≤ g)

set_option maxRecDepth 100000 in
set_option maxHeartbeats 800000 in
theorem bytes_any (B b : Nat) (bs : List UInt8) (w : World) (hlen : bs.length ≤ 35184372088832) (h : Wr B b w bs) :
    Calls Tryd.prog 75 #[.pointer (some ⟨b, 0, none⟩)] w (BytesPost w bs) := by
  obtain ⟨hBb, v, hh, hrow, hlie⟩ := h
  have hc0 : w.cell? ⟨b, 0, none⟩ = some v := cell_of_heap hh 0
  have hc1 : w.cell? ⟨b, 1, none⟩ = some (.int .i64 0) := cell_of_heap hh 1
  have Hh := Lib.hid hh; clear hh
  have Hrow := Lib.hid hrow; clear hrow
  have Hlen := Lib.hid hlen; clear hlen
  clear hlie
  go_enter Tryd.func75, Tryd.ntmps75
  go_wp2_with fail
  refine (clone_any v bs _ Hlen.out Hrow.out.src).mono ?_
  rintro e w1 ⟨v1, rfl, hrow1, hb1, hform⟩
  have Hrow1 := Lib.hid hrow1; clear hrow1
  have Hb1 := Lib.hid hb1; clear hb1
  have Hform := Lib.hid hform; clear hform
  go_wp2
  go_ret2
  refine ⟨v1, rfl, Hrow1.out, Hb1.out, ?_⟩
  rcases Hform.out with h | h
  · exact .inl h.2
  · exact .inr h

end Go.Proofs.YtmknhokjpmjkkaaDoor
