/- The reference of layer 32: Check. The reference of layer 32: take. The reference of layer 32: Encode. The reference of layer 32: Encode. -/
import Derived.Test.YtfobmfenjdiimaaGreatDoorRefB
import Derived.Test.YtfobmfenjdiimaaGreatDoorPipB
import Derived.BigQuiet
import Derived.Deep.RegionHeld3
import Derived.Deep.DeepCutAuto
namespace Go.Proofs.YtfobmfenjdiimaaGreatDoor
open Go.RowKit

end Go.Proofs.YtfobmfenjdiimaaGreatDoor

namespace Go.Proofs.YtfobmfenjdiimaaGreatDoor
open Go.RowKit

/-- The number at the beginning of a string, and the rest. -/
def rTake (s : ByteArray) : Int × ByteArray :=
  if (parseNat 9 s.data.toList).2.2 = 0 then ((parseNat 9 s.data.toList).1, s.extract (parseNat 9 s.data.toList).2.1 s.size) else (-1, ⟨#[]⟩)

theorem rfTake_fst (s : ByteArray) (h : (parseNat 9 s.data.toList).2.2 = 0) : rTake s = (((parseNat 9 s.data.toList).1 : Int), s.extract (parseNat 9 s.data.toList).2.1 s.size) := by unfold rTake; rw [if_pos h]
theorem rfTake_bad (s : ByteArray) (h : ¬ (parseNat 9 s.data.toList).2.2 = 0) : rTake s = (-1, ⟨#[]⟩) := by unfold rTake; rw [if_neg h]
theorem bytes_BSl (w : World) (s : ByteArray) : BSl (Lib.bytesWorld w 5 s) w.heap.size 0 s.size s.data.toList :=
  ⟨(size_toList s).symm, fun j hj => by rw [Nat.zero_add]; exact Lib.bytesWorld_cell w 5 s j hj⟩

end Go.Proofs.YtfobmfenjdiimaaGreatDoor

namespace Go.Proofs.YtfobmfenjdiimaaGreatDoor
open Go.RowKit
attribute [local go_sem ↓] Go.wp_at_zero Go.wp_at_succ

theorem brow_src {w : World} {g n cap : Nat} {bs : List UInt8} (h : BRow w (.slice (some ⟨g, 0, none⟩) n cap) bs) : n = bs.length ∧ ∀ j u, (bs.map byteV)[j]? = some u → w.cell? ((⟨g, 0, none⟩ : Addr).add j) = some u := by
  obtain ⟨h1, h2⟩ := h
  rcases h2 with ⟨h2, _⟩ | ⟨g', cap', cur, hv, _, hh, _, _, _, ht⟩
  · cases h2
  · cases hv
    refine ⟨rfl, fun j u hu => World.news_of_block hh j u ?_⟩
    rw [← ht, List.getElem?_take] at hu
    split at hu
    · exact hu
    · cases hu

theorem step_append_row {ops : Array Oper} {o : Oper} {a : Act} {K : Act → World → Prop} {Q : Exit → Act → World → Prop} {E : Prop} (hgd : o.guard = none) (s x : Operand)
    (ho : o.op = .call { callee := .builtin .append, args := #[s, x], argTypes := #[48, 48] }) {w : World} (v : Value) (bs : List UInt8) (hs : a.eval s = v) (hrow : BRow w v bs)
    (g2 n2 c2 : Nat) (cs : List UInt8) (hx : a.eval x = .slice (some ⟨g2, 0, none⟩) n2 c2) (hsrc : BRow w (.slice (some ⟨g2, 0, none⟩) n2 c2) cs) (hne : cs ≠ []) (hlen : bs.length + cs.length ≤ 35184372088832)
    (h : ∀ g n cap w', BRow w' (.slice (some ⟨g, 0, none⟩) n cap) (bs ++ cs) → w.grownBy w' v.ownBlock → LiesAt w v g → K (a.put o.dst (.slice (some ⟨g, 0, none⟩) n cap)) w') :
    if Region.wanted o (yielded ops a.tmps) = true then Oper.wp Tryz.prog o a w K Q else E := by
  obtain ⟨i0, hi, hz0, hz1, hz2⟩ := info_parts Tryz.infoByte
  obtain ⟨hn, hcell⟩ := brow_src hsrc
  have hpos : 0 < cs.length := by cases cs; exact absurd rfl hne; simp
  refine step_append_lies _ hgd s x 48 ho 0 5 i0 (.int .u8 0) 1 1 Tryz.underlying48 hi hz0 hz1 hz2 rfl (by decide) v bs.length (bs.map byteV) hs hrow ⟨g2, 0, none⟩ n2 c2 (cs.map byteV) hx (by simp; omega)
    hcell (by intro u hu; obtain ⟨c, _, rfl⟩ := List.mem_map.1 hu; rfl) (by omega) (by unfold maxLen; omega) (by omega) (Nat.zero_le _) w.heap.size rfl ?_
  intro g cap w' h2 h3 h4 _
  refine h g _ cap w' ?_ h3 ?_
  · unfold BRow
    have e : (bs ++ cs).length = bs.length + n2 := by simp; omega
    rw [e, List.map_append]
    exact h2
  · rcases h4 with h4 | h4
    · exact .inl h4
    · exact .inr (by omega)
theorem wpList_append_row {ops : Array Oper} {rest : List Oper} {o : Oper} {a : Act} {Q : Exit → Act → World → Prop} (hgd : o.guard = none) (s x : Operand)
    (ho : o.op = .call { callee := .builtin .append, args := #[s, x], argTypes := #[48, 48] }) {w : World} (v : Value) (bs : List UInt8) (hs : a.eval s = v) (hrow : BRow w v bs)
    (g2 n2 c2 : Nat) (cs : List UInt8) (hx : a.eval x = .slice (some ⟨g2, 0, none⟩) n2 c2) (hsrc : BRow w (.slice (some ⟨g2, 0, none⟩) n2 c2) cs) (hne : cs ≠ []) (hlen : bs.length + cs.length ≤ 35184372088832)
    (h : ∀ g n cap w', BRow w' (.slice (some ⟨g, 0, none⟩) n cap) (bs ++ cs) → w.grownBy w' v.ownBlock → LiesAt w v g → wpList Tryz.prog ops Q rest (a.put o.dst (.slice (some ⟨g, 0, none⟩) n cap)) w') :
    wpList Tryz.prog ops Q (o :: rest) a w := by
  obtain ⟨i0, hi, hz0, hz1, hz2⟩ := info_parts Tryz.infoByte
  obtain ⟨hn, hcell⟩ := brow_src hsrc
  have hpos : 0 < cs.length := by cases cs; exact absurd rfl hne; simp
  refine wpList_append_lies _ hgd s x 48 ho 0 5 i0 (.int .u8 0) 1 1 Tryz.underlying48 hi hz0 hz1 hz2 rfl (by decide) v bs.length (bs.map byteV) hs hrow ⟨g2, 0, none⟩ n2 c2 (cs.map byteV) hx (by simp; omega)
    hcell (by intro u hu; obtain ⟨c, _, rfl⟩ := List.mem_map.1 hu; rfl) (by omega) (by unfold maxLen; omega) (by omega) (Nat.zero_le _) w.heap.size rfl ?_
  intro g cap w' h2 h3 h4 _
  refine h g _ cap w' ?_ h3 ?_
  · unfold BRow
    have e : (bs ++ cs).length = bs.length + n2 := by simp; omega
    rw [e, List.map_append]
    exact h2
  · rcases h4 with h4 | h4
    · exact .inl h4
    · exact .inr (by omega)

end Go.Proofs.YtfobmfenjdiimaaGreatDoor

namespace Go.Proofs.YtfobmfenjdiimaaGreatDoor
open Go.RowKit
attribute [local go_sem ↓] Go.wp_at_zero Go.wp_at_succ

theorem brow_kept {w w' : World} {v : Value} {bs : List UInt8} (h : BRow w v bs) (hg : w.grownBy w' none) : BRow w' v bs := by
  refine World.ownsRow.kept h hg ?_
  cases hv : v.ownBlock with
  | none => exact .inl rfl
  | some g => exact .inr (by simp)

theorem rfNatural_w (u : Nat) (w : World) (hu : u < 18446744073709551616) : Calls Tryz.prog 67 #[.int .u64 (IntKind.u64.wrap u)] w (Appended w (.slice none 0 0) (natBytes u)) := by
  rw [IntWalk.u64_in (u : Int) ⟨by omega, by omega⟩]
  exact rfNatural_any u w hu
theorem far_cells {w w' : World} {b : Nat} {x y : Value} (hb : b < w.heap.size) (h : w.cell? ⟨b, 0, none⟩ = some x ∧ w.cell? ⟨b, 1, none⟩ = some y) (hg : w.grownBy w' none) : w'.cell? ⟨b, 0, none⟩ = some x ∧ w'.cell? ⟨b, 1, none⟩ = some y :=
  ⟨(hg.cell_far ⟨b, 0, none⟩ hb (by simp)).trans h.1, (hg.cell_far ⟨b, 1, none⟩ hb (by simp)).trans h.2⟩
theorem lies_new {w : World} {g : Nat} (h : LiesAt w (.slice none 0 0) g) : w.heap.size ≤ g := h.resolve_left (by simp [Value.ownBlock])
theorem far_row {w w' : World} {b g n c : Nat} {x y : Value} (hb : b < w.heap.size) (h : w.cell? ⟨b, 0, none⟩ = some x ∧ w.cell? ⟨b, 1, none⟩ = some y) (hg : w.grownBy w' (Value.slice (some ⟨g, 0, none⟩) n c).ownBlock) (hne : b < g) : w'.cell? ⟨b, 0, none⟩ = some x ∧ w'.cell? ⟨b, 1, none⟩ = some y :=
  ⟨(hg.cell_far ⟨b, 0, none⟩ hb (by simp [Value.ownBlock]; omega)).trans h.1, (hg.cell_far ⟨b, 1, none⟩ hb (by simp [Value.ownBlock]; omega)).trans h.2⟩

end Go.Proofs.YtfobmfenjdiimaaGreatDoor
