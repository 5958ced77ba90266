/- The reference of layer 32: Encode. -/
import Derived.Test.YtmknhokjpmjkkaaDoorRefD
import Derived.Deep.RegionHeld3
import Derived.Deep.DeepCutAuto
namespace Go.Proofs.YtmknhokjpmjkkaaDoor
open Go.RowKit
attribute [local go_sem ↓] Go.wp_at_zero Go.wp_at_succ

theorem brow_src {w : World} {g n cap : Nat} {bs : List UInt8} (h : BRow w (.slice (some ⟨g, 0, none⟩) n cap) bs) : n = bs.length ∧ ∀ j u, (bs.map byteV)[j]? = some u → w.cell? ((⟨g, 0, none⟩ : Addr).add j) = some u := by
  obtain ⟨h1, h2⟩ := h
  rcases h2 with ⟨h2, _⟩ | ⟨g', cap', cur, hv, _, hh, _, _, _, ht⟩
  · cases h2
  · cases hv
    refine ⟨rfl, fun j u hu => World.news_of_block hh j u ?_⟩
    rw [← ht, List.getElem?_take] at hu
    split at hu
    · exact hu
    · cases hu

theorem step_append_row {ops : Array Oper} {o : Oper} {a : Act} {K : Act → World → Prop} {Q : Exit → Act → World → Prop} {E : Prop} (hgd : o.guard = none) (s x : Operand)
    (ho : o.op = .call { callee := .builtin .append, args := #[s, x], argTypes := #[136, 136] }) {w : World} (v : Value) (bs : List UInt8) (hs : a.eval s = v) (hrow : BRow w v bs)
    (g2 n2 c2 : Nat) (cs : List UInt8) (hx : a.eval x = .slice (some ⟨g2, 0, none⟩) n2 c2) (hsrc : BRow w (.slice (some ⟨g2, 0, none⟩) n2 c2) cs) (hne : cs ≠ []) (hlen : bs.length + cs.length ≤ 35184372088832)
    (h : ∀ g n cap w', BRow w' (.slice (some ⟨g, 0, none⟩) n cap) (bs ++ cs) → w.grownBy w' v.ownBlock → LiesAt w v g → K (a.put o.dst (.slice (some ⟨g, 0, none⟩) n cap)) w') :
    if Region.wanted o (yielded ops a.tmps) = true then Oper.wp Tryd.prog o a w K Q else E := by
  obtain ⟨i0, hi, hz0, hz1, hz2⟩ := info_parts Tryd.infoByte
  obtain ⟨hn, hcell⟩ := brow_src hsrc
  have hpos : 0 < cs.length := by cases cs; exact absurd rfl hne; simp
  refine step_append_lies _ hgd s x 136 ho 0 5 i0 (.int .u8 0) 1 1 Tryd.underlying136 hi hz0 hz1 hz2 rfl (by decide) v bs.length (bs.map byteV) hs hrow ⟨g2, 0, none⟩ n2 c2 (cs.map byteV) hx (by simp; omega)
    hcell (by intro u hu; obtain ⟨c, _, rfl⟩ := List.mem_map.1 hu; rfl) (by omega) (by unfold maxLen; omega) (by omega) (Nat.zero_le _) w.heap.size rfl ?_
  intro g cap w' h2 h3 h4 _
  refine h g _ cap w' ?_ h3 ?_
  · unfold BRow
    have e : (bs ++ cs).length = bs.length + n2 := by simp; omega
    rw [e, List.map_append]
    exact h2
  · rcases h4 with h4 | h4
    · exact .inl h4
    · exact .inr (by omega)
theorem wpList_append_row {ops : Array Oper} {rest : List Oper} {o : Oper} {a : Act} {Q : Exit → Act → World → Prop} (hgd : o.guard = none) (s x : Operand)
    (ho : o.op = .call { callee := .builtin .append, args := #[s, x], argTypes := #[136, 136] }) {w : World} (v : Value) (bs : List UInt8) (hs : a.eval s = v) (hrow : BRow w v bs)
    (g2 n2 c2 : Nat) (cs : List UInt8) (hx : a.eval x = .slice (some ⟨g2, 0, none⟩) n2 c2) (hsrc : BRow w (.slice (some ⟨g2, 0, none⟩) n2 c2) cs) (hne : cs ≠ []) (hlen : bs.length + cs.length ≤ 35184372088832)
    (h : ∀ g n cap w', BRow w' (.slice (some ⟨g, 0, none⟩) n cap) (bs ++ cs) → w.grownBy w' v.ownBlock → LiesAt w v g → wpList Tryd.prog ops Q rest (a.put o.dst (.slice (some ⟨g, 0, none⟩) n cap)) w') :
    wpList Tryd.prog ops Q (o :: rest) a w := by
  obtain ⟨i0, hi, hz0, hz1, hz2⟩ := info_parts Tryd.infoByte
  obtain ⟨hn, hcell⟩ := brow_src hsrc
  have hpos : 0 < cs.length := by cases cs; exact absurd rfl hne; simp
  refine wpList_append_lies _ hgd s x 136 ho 0 5 i0 (.int .u8 0) 1 1 Tryd.underlying136 hi hz0 hz1 hz2 rfl (by decide) v bs.length (bs.map byteV) hs hrow ⟨g2, 0, none⟩ n2 c2 (cs.map byteV) hx (by simp; omega)
    hcell (by intro u hu; obtain ⟨c, _, rfl⟩ := List.mem_map.1 hu; rfl) (by omega) (by unfold maxLen; omega) (by omega) (Nat.zero_le _) w.heap.size rfl ?_
  intro g cap w' h2 h3 h4 _
  refine h g _ cap w' ?_ h3 ?_
  · unfold BRow
    have e : (bs ++ cs).length = bs.length + n2 := by simp; omega
    rw [e, List.map_append]
    exact h2
  · rcases h4 with h4 | h4
    · exact .inl h4
    · exact .inr (by omega)

end Go.Proofs.YtmknhokjpmjkkaaDoor
