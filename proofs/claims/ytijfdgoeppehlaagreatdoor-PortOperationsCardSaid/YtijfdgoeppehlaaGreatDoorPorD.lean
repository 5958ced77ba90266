/- port: Decode, plain; rows of packets. -/
import Derived.Test.YtijfdgoeppehlaaGreatDoorPorB
import Derived.Test.YtijfdgoeppehlaaGreatDoorCanon
import Derived.Lib.ConvBytes
import Derived.Deep.RegionLaw
import Derived.BigRegion
namespace Go.Proofs.YtijfdgoeppehlaaGreatDoor
open Go.RowKit
attribute [local go_sem ↓] Go.wp_at_zero Go.wp_at_succ

def rdPack (s : RdS) : PackT × RdS := (⟨strOf (rdText 32 s).1, strOf (rdText 512 (rdText 32 s).2).1⟩, (rdText 512 (rdText 32 s).2).2)
/-- The packets that follow each other. -/
def rdPacks : Nat → RdS → List PackT × RdS
  | 0, s => ([], s)
  | k + 1, s => ((rdPacks k s).1 ++ [(rdPack (rdPacks k s).2).1], (rdPack (rdPacks k s).2).2)
def q1 (bs : List UInt8) := rdText 64 ⟨bs, 0⟩
def q2 (bs : List UInt8) := rdNum 1073741824 (q1 bs).2
def q3 (bs : List UInt8) := rdNum 1073741824 (q2 bs).2
def q4 (bs : List UInt8) := rdNum 16 (q3 bs).2
def q5 (bs : List UInt8) := rdPacks (q4 bs).1 (q4 bs).2
def decQP (bs : List UInt8) : PortT := ⟨strOf (q1 bs).1, (q2 bs).1, (q3 bs).1, (q5 bs).1⟩
def zeroQ : PortT := ⟨⟨#[]⟩, 0, 0, []⟩
/-- What Decode answers. -/
def decQ (s : ByteArray) : PortT × Nat :=
  if rdClose (q5 s.data.toList).2 ≠ 0 then (zeroQ, rdClose (q5 s.data.toList).2) else if checkQ (decQP s.data.toList) ≠ 0 then (zeroQ, checkQ (decQP s.data.toList)) else (decQP s.data.toList, 0)
theorem rdPacks_length (k : Nat) (s : RdS) : (rdPacks k s).1.length = k := by
  induction k with
  | zero => rfl
  | succ k ih => simp [rdPacks, ih]
theorem rdPacks_size (k : Nat) (s : RdS) : ∀ x ∈ (rdPacks k s).1, x.src.size ≤ 32 ∧ x.bytes.size ≤ 512 := by
  induction k with
  | zero => simp [rdPacks]
  | succ k ih =>
    intro x hx
    simp only [rdPacks, List.mem_append, List.mem_singleton] at hx
    rcases hx with hx | rfl
    · exact ih x hx
    · exact ⟨rdText_le 32 _, rdText_le 512 _⟩

/-! ### Decode is the inverse of Encode -/
theorem rdPack_enc (p : PackT) (rest : List UInt8) (h1 : p.src.size ≤ 32) (h2 : p.bytes.size ≤ 512) : rdPack ⟨packB p ++ rest, 0⟩ = (p, ⟨rest, 0⟩) := by
  have e1 : rdText 32 ⟨packB p ++ rest, 0⟩ = (p.src.data.toList, ⟨textB p.bytes ++ rest, 0⟩) := by
    unfold packB
    rw [List.append_assoc]
    exact rdText_text 32 p.src _ (by omega) (by decide)
  have e2 : rdText 512 ⟨textB p.bytes ++ rest, 0⟩ = (p.bytes.data.toList, ⟨rest, 0⟩) := rdText_text 512 p.bytes _ (by omega) (by decide)
  unfold rdPack
  rw [e1]
  dsimp only
  rw [e2]
  simp only [strOf_toList]
theorem rdPacks_enc (ls : List PackT) (rest : List UInt8) (h : ∀ s ∈ ls, s.src.size ≤ 32 ∧ s.bytes.size ≤ 512) : ∀ k, k ≤ ls.length → rdPacks k ⟨packsB ls ++ rest, 0⟩ = (ls.take k, ⟨packsB (ls.drop k) ++ rest, 0⟩) := by
  intro k
  induction k with
  | zero => intro _; simp [rdPacks]
  | succ k ih =>
    intro hk
    have hk' : k < ls.length := by omega
    simp only [rdPacks, ih (by omega)]
    have hd : ls.drop k = ls[k] :: ls.drop (k + 1) := List.drop_eq_getElem_cons hk'
    have hb : packsB (ls.drop k) ++ rest = packB ls[k] ++ (packsB (ls.drop (k + 1)) ++ rest) := by rw [hd]; unfold packsB; rw [List.flatMap_cons, List.append_assoc]
    have hm := h ls[k] (List.getElem_mem hk')
    rw [hb, rdPack_enc _ _ hm.1 hm.2, List.take_succ_eq_append_getElem hk']
theorem qdec_enc (p : PortT) (h : checkQ p = 0) (ho : p.owner.size ≤ 64) : decQ (strOf (encQB p)) = (p, 0) := by
  obtain ⟨_, h2, h3, h4, h5⟩ := checkQ_ok h
  have hs : ∀ s ∈ p.queue, s.src.size ≤ 32 ∧ s.bytes.size ≤ 512 := fun s hs => packE_size (packsE_size h5 s hs)
  have hck := h
  obtain ⟨ow, ep, lo, ls⟩ := p
  dsimp only at *
  have e0 : (strOf (encQB ⟨ow, ep, lo, ls⟩)).data.toList = textB ow ++ (natBytes ep.toNat ++ (natBytes lo.toNat ++ (natBytes ls.length ++ (packsB ls ++ [])))) := by
    simp [strOf, encQB, headQ]
  have e1 : q1 (strOf (encQB ⟨ow, ep, lo, ls⟩)).data.toList = (ow.data.toList, ⟨natBytes ep.toNat ++ (natBytes lo.toNat ++ (natBytes ls.length ++ (packsB ls ++ []))), 0⟩) := by
    unfold q1
    rw [e0]
    exact rdText_text 64 ow _ (by omega) (by decide)
  have e2 : q2 (strOf (encQB ⟨ow, ep, lo, ls⟩)).data.toList = (ep.toNat, ⟨natBytes lo.toNat ++ (natBytes ls.length ++ (packsB ls ++ [])), 0⟩) := by
    unfold q2
    rw [e1]
    exact rdNum_nat 1073741824 _ _ (by omega) (by omega)
  have e3 : q3 (strOf (encQB ⟨ow, ep, lo, ls⟩)).data.toList = (lo.toNat, ⟨natBytes ls.length ++ (packsB ls ++ []), 0⟩) := by
    unfold q3
    rw [e2]
    exact rdNum_nat 1073741824 _ _ (by omega) (by omega)
  have e4 : q4 (strOf (encQB ⟨ow, ep, lo, ls⟩)).data.toList = (ls.length, ⟨packsB ls ++ [], 0⟩) := by
    unfold q4
    rw [e3]
    exact rdNum_nat 16 _ _ (by omega) (by omega)
  have e5 : q5 (strOf (encQB ⟨ow, ep, lo, ls⟩)).data.toList = (ls, ⟨[], 0⟩) := by
    unfold q5
    rw [e4]
    dsimp only
    rw [rdPacks_enc ls [] hs ls.length (Nat.le_refl _)]
    simp [packsB]
  have hp : decQP (strOf (encQB ⟨ow, ep, lo, ls⟩)).data.toList = ⟨ow, ep, lo, ls⟩ := by
    unfold decQP
    rw [e1, e2, e3, e5]
    simp only [strOf_toList, Int.toNat_of_nonneg h2.1, Int.toNat_of_nonneg h3.1]
  unfold decQ
  rw [hp, e5, if_neg (by simp [rdClose]), if_neg (by rw [hck]; simp)]

/-! ### What was decoded was its encoding -/
theorem rdPack_canon (s : RdS) (h : (rdPack s).2.fail = 0) : s.fail = 0 ∧ s.rest = packB (rdPack s).1 ++ (rdPack s).2.rest := by
  obtain ⟨h1, e1⟩ := rdText_canon 512 (rdText 32 s).2.rest (rdText 32 s).2.fail h
  obtain ⟨h2, e2⟩ := rdText_canon 32 s.rest s.fail h1
  refine ⟨h2, ?_⟩
  have e1' : (rdText 32 s).2.rest = textB (strOf (rdText 512 (rdText 32 s).2).1) ++ (rdPack s).2.rest := e1
  have e2' : s.rest = textB (strOf (rdText 32 s).1) ++ (rdText 32 s).2.rest := e2
  have : textB (strOf (rdText 32 s).1) ++ (rdText 32 s).2.rest = packB (rdPack s).1 ++ (rdPack s).2.rest := by
    rw [e1']
    simp [packB, rdPack]
  exact e2'.trans this
theorem rdPacks_canon (k : Nat) (s : RdS) (h : (rdPacks k s).2.fail = 0) : s.fail = 0 ∧ s.rest = packsB (rdPacks k s).1 ++ (rdPacks k s).2.rest := by
  induction k with
  | zero => exact ⟨h, by simp [rdPacks, packsB]⟩
  | succ k ih =>
    obtain ⟨h1, e1⟩ := rdPack_canon (rdPacks k s).2 h
    obtain ⟨h2, e2⟩ := ih h1
    refine ⟨h2, ?_⟩
    have : packsB (rdPacks k s).1 ++ (rdPacks k s).2.rest = packsB (rdPacks (k + 1) s).1 ++ (rdPacks (k + 1) s).2.rest := by
      rw [e1]
      simp [packsB, rdPacks]
    exact e2.trans this
theorem decQP_canon (bs : List UInt8) (h : rdClose (q5 bs).2 = 0) : encQB (decQP bs) = bs := by
  obtain ⟨f5, r5⟩ := rdClose_ok (q5 bs).2 h
  have c5 := rdPacks_canon (q4 bs).1 (q4 bs).2
  have e5 : rdPacks (q4 bs).1 (q4 bs).2 = q5 bs := rfl
  rw [e5] at c5
  obtain ⟨f4, e5⟩ := c5 f5
  have c4 := rdNum_canon 16 (q3 bs).2.rest (q3 bs).2.fail
  have e4 : rdNum 16 ⟨(q3 bs).2.rest, (q3 bs).2.fail⟩ = q4 bs := rfl
  rw [e4] at c4
  obtain ⟨f3, e4⟩ := c4 f4
  have c3 := rdNum_canon 1073741824 (q2 bs).2.rest (q2 bs).2.fail
  have e3 : rdNum 1073741824 ⟨(q2 bs).2.rest, (q2 bs).2.fail⟩ = q3 bs := rfl
  rw [e3] at c3
  obtain ⟨f2, e3⟩ := c3 f3
  have c2 := rdNum_canon 1073741824 (q1 bs).2.rest (q1 bs).2.fail
  have e2 : rdNum 1073741824 ⟨(q1 bs).2.rest, (q1 bs).2.fail⟩ = q2 bs := rfl
  rw [e2] at c2
  obtain ⟨f1, e2⟩ := c2 f2
  have c1 := rdText_canon 64 bs 0
  have e1 : rdText 64 ⟨bs, 0⟩ = q1 bs := rfl
  rw [e1] at c1
  obtain ⟨-, e1⟩ := c1 f1
  have hl : (q5 bs).1.length = (q4 bs).1 := rdPacks_length _ _
  have hh : encQB (decQP bs) = textB (strOf (q1 bs).1) ++ (q1 bs).2.rest := by
    rw [e2, e3, e4, e5, r5]
    simp [encQB, headQ, decQP, hl]
  rw [hh]
  exact e1.symm
theorem decQ_ok {s : ByteArray} (h : (decQ s).2 = 0) : rdClose (q5 s.data.toList).2 = 0 ∧ checkQ (decQP s.data.toList) = 0 ∧ decQ s = (decQP s.data.toList, 0) := by
  unfold decQ at h ⊢
  generalize decQP s.data.toList = p at *
  generalize rdClose (q5 s.data.toList).2 = x at *
  by_cases h1 : x ≠ 0
  · rw [if_pos h1] at h; dsimp only at h; exact absurd h h1
  rw [if_neg h1] at h ⊢
  generalize hy : checkQ p = y at *
  by_cases h2 : y ≠ 0
  · rw [if_pos h2] at h; dsimp only at h; exact absurd h h2
  rw [if_neg h2]
  exact ⟨Decidable.not_not.1 h1, Decidable.not_not.1 h2, rfl⟩
theorem decQP_owner (bs : List UInt8) : (decQP bs).owner.size ≤ 64 := by
  have h : (decQP bs).owner = strOf (rdText 64 ⟨bs, 0⟩).1 := rfl
  rw [h]
  exact rdText_le 64 _
theorem decQ_canon (s : ByteArray) (h : (decQ s).2 = 0) : strOf (encQB (decQ s).1) = s ∧ checkQ (decQ s).1 = 0 ∧ (decQ s).1.owner.size ≤ 64 := by
  obtain ⟨h1, h2, h3⟩ := decQ_ok h
  rw [h3]
  refine ⟨?_, h2, decQP_owner _⟩
  show strOf (encQB (decQP s.data.toList)) = s
  rw [decQP_canon _ h1]
  exact strOf_toList s

/-! ### Rows of packets -/
def packCells (p : PackT) : List Value := [.string p.src, .string p.bytes]
def PRow (w : World) (v : Value) (ls : List PackT) : Prop := w.ownsRow 0 33 2 v ls.length (ls.flatMap packCells)
theorem Tryz.infoPack : (Tryz.prog.info? 33).map (fun i => (i.zero, i.size, i.bytes)) = some (some (.agg #[.string ⟨#[]⟩, .string ⟨#[]⟩]), 2, 32) := by kernel_rfl
theorem pack_flat (cs : List PackT) (i j : Nat) (c : PackT) (hc : cs[i]? = some c) (hj : j < 2) {u : Value} (hu : (packCells c)[j]? = some u) : (cs.flatMap packCells)[i * 2 + j]? = some u := by
  induction cs generalizing i with
  | nil => simp at hc
  | cons d cs ih =>
    simp only [List.flatMap_cons]
    have hl : (packCells d).length = 2 := rfl
    cases i with
    | zero =>
      simp at hc
      subst hc
      rw [List.getElem?_append_left (by rw [hl]; omega)]
      simpa using hu
    | succ i =>
      rw [List.getElem?_append_right (by rw [hl]; omega), hl]
      have := ih i (by simpa using hc)
      rw [show (i + 1) * 2 + j - 2 = i * 2 + j by omega]
      exact this
theorem PRow.sl {w : World} {a : Option Addr} {n c : Nat} {ls : List PackT} (h : PRow w (.slice a n c) ls) : PSl w a n ls := by
  rcases h.2 with ⟨hv, h0⟩ | ⟨g, cap, cur, hv, _⟩
  · cases hv
    exact ⟨h0, fun h => absurd h (Nat.lt_irrefl _)⟩
  · have hcs := World.ownsRow.cells h (g := g) (by rw [hv]; rfl)
    simp only [Value.slice.injEq] at hv
    obtain ⟨rfl, rfl, rfl⟩ := hv
    refine ⟨rfl, fun _ => ⟨g, 0, rfl, fun j hj => ?_⟩⟩
    have hadd : ∀ k, (⟨g, 0, none⟩ : Addr).add k = ⟨g, 0 + k, none⟩ := fun k => by unfold Addr.add; split <;> simp_all
    have hget : ls[j]? = some (ls.getD j zeroPk) := by rw [List.getD_eq_getElem?_getD, List.getElem?_eq_getElem hj]; rfl
    have h0 := hcs (j * 2) (.string (ls.getD j zeroPk).src) (by have := pack_flat ls j 0 _ hget (by decide) (u := .string (ls.getD j zeroPk).src) rfl; simpa using this)
    have h1 := hcs (j * 2 + 1) (.string (ls.getD j zeroPk).bytes) (pack_flat ls j 1 _ hget (by decide) (u := .string (ls.getD j zeroPk).bytes) rfl)
    rw [hadd] at h0 h1
    exact ⟨h0, h1⟩
theorem PRow.grown {w w' : World} {v : Value} {ls : List PackT} {row : Option Nat} (h : PRow w v ls) (hb : w.grownBy w' row) (hr : ∀ k, row = some k → v.ownBlock ≠ some k) : PRow w' v ls :=
  row_kept h (fun g hg => by
    obtain ⟨cur, hc⟩ := row_lt h hg
    exact hb.block g (lt_of_heap hc) (fun e => hr g e.symm hg))
/-- append of one packet to a row of packets. -/
theorem step_append_pack {ops : Array Oper} {o : Oper} {a : Act} {K : Act → World → Prop} {Q : Exit → Act → World → Prop} {E : Prop} (hgd : o.guard = none) (s x : Operand)
    (ho : o.op = .call { callee := .builtin .append, args := #[s, x], argTypes := #[78, 78] }) {w : World} (v : Value) (ls : List PackT) (hs : a.eval s = v) (hrow : PRow w v ls)
    (c : PackT) (B : Nat) (hx : a.eval x = .slice (some ⟨B, 0, none⟩) 1 1) (hB : w.heap[B]? = some (.cells #[.string c.src, .string c.bytes] 33 (0, 0))) (hlen : ls.length ≤ 1000000)
    (h : ∀ g n cap w', PRow w' (.slice (some ⟨g, 0, none⟩) n cap) (ls ++ [c]) → w.grownBy w' v.ownBlock → (v.ownBlock = some g ∨ g = w.heap.size) → K (a.put o.dst (.slice (some ⟨g, 0, none⟩) n cap)) w') :
    if Region.wanted o (yielded ops a.tmps) = true then Oper.wp Tryz.prog o a w K Q else E := by
  obtain ⟨i0, hi, hz0, hz1, hz2⟩ := info_parts Tryz.infoPack
  refine step_append_lies _ hgd s x 78 ho 0 33 i0 (.agg #[.string ⟨#[]⟩, .string ⟨#[]⟩]) 2 32 Tryz.underlying78 hi hz0 hz1 hz2 rfl (by decide) v ls.length (ls.flatMap packCells) hs hrow ⟨B, 0, none⟩ 1 1 (packCells c) hx rfl
    (World.news_of_block hB) (by simp [packCells, Value.oneCell']) (by decide) (by unfold maxLen; omega) (by omega) (Nat.zero_le _) w.heap.size rfl ?_
  intro g cap w' h2 h3 h4 _
  refine h g _ cap w' ?_ h3 h4
  unfold PRow
  simpa using h2
theorem wpList_append_pack {ops : Array Oper} {rest : List Oper} {o : Oper} {a : Act} {Q : Exit → Act → World → Prop} (hgd : o.guard = none) (s x : Operand)
    (ho : o.op = .call { callee := .builtin .append, args := #[s, x], argTypes := #[78, 78] }) {w : World} (v : Value) (ls : List PackT) (hs : a.eval s = v) (hrow : PRow w v ls)
    (c : PackT) (B : Nat) (hx : a.eval x = .slice (some ⟨B, 0, none⟩) 1 1) (hB : w.heap[B]? = some (.cells #[.string c.src, .string c.bytes] 33 (0, 0))) (hlen : ls.length ≤ 1000000)
    (h : ∀ g n cap w', PRow w' (.slice (some ⟨g, 0, none⟩) n cap) (ls ++ [c]) → w.grownBy w' v.ownBlock → (v.ownBlock = some g ∨ g = w.heap.size) → wpList Tryz.prog ops Q rest (a.put o.dst (.slice (some ⟨g, 0, none⟩) n cap)) w') :
    wpList Tryz.prog ops Q (o :: rest) a w := by
  obtain ⟨i0, hi, hz0, hz1, hz2⟩ := info_parts Tryz.infoPack
  refine wpList_append_lies _ hgd s x 78 ho 0 33 i0 (.agg #[.string ⟨#[]⟩, .string ⟨#[]⟩]) 2 32 Tryz.underlying78 hi hz0 hz1 hz2 rfl (by decide) v ls.length (ls.flatMap packCells) hs hrow ⟨B, 0, none⟩ 1 1 (packCells c) hx rfl
    (World.news_of_block hB) (by simp [packCells, Value.oneCell']) (by decide) (by unfold maxLen; omega) (by omega) (Nat.zero_le _) w.heap.size rfl ?_
  intro g cap w' h2 h3 h4 _
  refine h g _ cap w' ?_ h3 h4
  unfold PRow
  simpa using h2

end Go.Proofs.YtijfdgoeppehlaaGreatDoor
