/- The reference of layer 1: Natural, Text. -/
import Derived.Test.YtmknhokjpmjkkaaDoorCodecA
namespace Go.Proofs.YtmknhokjpmjkkaaDoor
open Go.RowKit

theorem ref_high (k : Nat) : ((k : Int) % 128 + 128) = ((128 + k % 128).toUInt8.toNat : Int) := by
  simp; omega

theorem ref_div (k : Nat) (h : k < 18446744073709551616) : IntKind.u64.wrap ((k : Int) / 128) = ((k / 128 : Nat) : Int) := by
  simp [IntKind.wrap, IntKind.signed, IntKind.bits]
  omega

set_option maxRecDepth 100000 in
set_option maxHeartbeats 800000 in
theorem rfNatural_any (u : Nat) (w : World) (hu : u < 18446744073709551616) :
    Calls Tryd.prog 92 #[.int .u64 u] w (Appended w (.slice none 0 0) (natBytes u)) := by
  go_enter Tryd.func92, Tryd.ntmps92
  go_wp2
  go_loopw [0, 3] (fun x b wr => ∃ (pre : List UInt8) (k f : Nat), x = .int .u64 k ∧ k < 18446744073709551616 ∧ k < 128 ^ (f + 1) ∧ pre.length + f ≤ 9 ∧ natBytes u = pre ++ nat7 (f + 1) k ∧ BRow wr b pre ∧ w.grownBy wr none ∧ (∀ g, b.ownBlock = some g → w.heap.size ≤ g)) (fun x _ _ => (intOf x).toNat)
  case atStart => exact ⟨[], u, 9, rfl, hu, by omega, by simp, rfl, World.ownsRow_nil _ _ _ _, ⟨rfl, rfl, rfl, Nat.le_refl _, fun _ _ _ => rfl⟩, fun g hg => by simp [Value.ownBlock] at hg⟩
  case round =>
    obtain ⟨pre, k, f, rfl, hkb, hk, hf, hnb, hrow, hg, hlie⟩ := hrel
    have Hk := Lib.hid hk; clear hk
    have Hkb := Lib.hid hkb; clear hkb
    have Hnb := Lib.hid hnb; clear hnb
    have Hu := Lib.hid hu; clear hu
    have hl2 : pre.length ≤ 35184372088832 := by omega
    have Hl2 := Lib.hid hl2; clear hl2
    by_cases hlt : 128 ≤ k
    · go_wp2_with (at_builtin; refine wpList_append_byte rfl _ _ rfl _ _ rfl hrow _ _ (ref_high k) rfl Hl2.out ?_; intro g n cap w1 hrow1 hg1 hl1)
      go_roundw
      case rel =>
        obtain ⟨f', rfl, hk'⟩ := pow_low hlt Hk.out
        refine ⟨pre ++ [(128 + k % 128).toUInt8], k / 128, f', by rw [ref_div k Hkb.out], by have := Hkb.out; omega, hk', by simp; omega, by rw [Hnb.out, nat7_high _ _ hlt]; simp, hrow1, grown_step (v := .slice none 0 0) hg (fun g hg => .inr (hlie g hg)) hg1, ?_⟩
        intro g' hg'
        obtain rfl : g = g' := by simpa [Value.ownBlock] using hg'
        exact (lies_step (v := .slice none 0 0) hg.size (fun g hg => .inr (hlie g hg)) hl1).resolve_left (by simp [Value.ownBlock])
      case measure =>
        have := Hkb.out
        simp [intOf, ref_div k Hkb.out]; omega
    · go_wp2_with (at_builtin; refine wpList_append_byte rfl _ _ rfl _ _ rfl hrow _ _ (low_byte k hlt) rfl Hl2.out ?_; intro g n cap w1 hrow1 hg1 hl1)
      go_ret
      have hfin : natBytes u = pre ++ [k.toUInt8] := by rw [Hnb.out, nat7_low _ _ hlt]
      rw [hfin]
      exact ⟨g, n, cap, rfl, hrow1, grown_step (v := .slice none 0 0) hg (fun g hg => .inr (hlie g hg)) hg1, lies_step (v := .slice none 0 0) hg.size (fun g hg => .inr (hlie g hg)) hl1⟩

end Go.Proofs.YtmknhokjpmjkkaaDoor
