/- graph: Nodes, Reach, Between. (printed by wip/gen_gmc.py) -/
import Derived.Test.YteiddebjbiadbaaGmB
namespace Go.Proofs.Yteiddebjbiadbaa
open Go.RowKit Gr
attribute [local go_sem ↓] Go.wp_at_zero Go.wp_at_succ

theorem below_undrew {w w1 : World} (h : Below w.drew.heap.size w.drew w1) : Below w.heap.size w w1 := ⟨h.os, h.tape, h.output, h.size, h.block⟩
def nodesF (n : Nat) (S : List Int) : List Nat := (S.filter fun x => nodeB n x).map Int.toNat
theorem nodes_lt {n : Nat} {S : List Int} : ∀ s ∈ nodesF n S, s < n := fun s hs => by
  obtain ⟨y, hy, rfl⟩ := List.mem_map.1 hs
  have := (List.mem_filter.1 hy).2
  unfold nodeB at this
  simp at this
  omega
/-- The numbers of the nodes that are marked. -/
def seenL (g : List Nat) (n : Nat) : List Nat := (List.range n).filter fun i => decide (val g i ≠ 0)
def bothL (g h : List Nat) (n : Nat) : List Nat := (List.range n).filter fun i => decide (val g i ≠ 0) && decide (val h i ≠ 0)
/-- A graph whose edges join its nodes. -/
structure GOk (w : World) (p n : Nat) (A B : Nat → List Nat) : Prop where
  at_ : GAt w p n A B
  a : ∀ i, ∀ j ∈ A i, j < n
  b : ∀ i, ∀ j ∈ B i, j < n
  la : ∀ i, (A i).length ≤ 4096
  lb : ∀ i, (B i).length ≤ 4096
theorem GOk.later {w w' : World} {p n : Nat} {A B : Nat → List Nat} (h : GOk w p n A B) (hb : Below w.heap.size w w') : GOk w' p n A B := ⟨h.at_.later hb, h.a, h.b, h.la, h.lb⟩
theorem nodes_any {w : World} {p n : Nat} {A B : Nat → List Nat} (h : GAt w p n A B) : Calls Try.prog 23 #[.pointer (some ⟨p, 0, none⟩)] w fun r w' => r = .returned (.int .i64 n) ∧ w' = w := by
  obtain ⟨-, ga, gb, c0, -⟩ := h
  go_enter Try.func23, Try.ntmps23
  go_wp2
  go_ret
  exact ⟨rfl, rfl⟩
theorem reach_any {w : World} {p n : Nat} {A B : Nat → List Nat} {vf : Value} {S : List Int} (h : GOk w p n A B) (hS : RowK kInt w vf S) (hl : S.length ≤ 1000000) :
    Calls Try.prog 16 #[.pointer (some ⟨p, 0, none⟩), vf] w fun r w' => ∃ v, r = .returned v ∧ OwnK kNat w.heap.size w' v (seenL (reachedF A n (nodesF n S)) n) ∧ Below w.heap.size w w' := by
  obtain ⟨av, cv, rfl, -⟩ := hS.form
  obtain ⟨hn, ga, gb, c0, c1, hra, -⟩ := h.at_
  have HR := Lib.hid (reached_any (c := n) hra hn h.a h.la hS hl)
  have Hn := Lib.hid hn
  have hlen := reached_len h.a (nodes_lt (n := n) (S := S))
  clear h hra c1 hS
  go_enter Try.func16, Try.ntmps16
  go_wp2_with fail
  refine HR.out.mono ?_
  rintro r w1 ⟨b, rfl, hb, hrow, hb1⟩
  have HB1 := Lib.hid hb1
  have Hrow := Lib.hid hrow
  have Hb : Hid (w.heap.size ≤ b ∧ b < w1.heap.size) := ⟨hb, RowIs.lt hrow⟩
  obtain ⟨g, hg⟩ : ∃ g, reachedF A n (nodesF n S) = g := ⟨_, rfl⟩
  have hrg : nodesF n S = (S.filter fun x => nodeB n x).map Int.toNat := rfl
  rw [← hrg, hg] at Hrow
  rw [hg] at hlen
  have Hlen := Lib.hid hlen
  have Hgg := Lib.hid hg
  clear hg hb hrow hb1 HR c0 hlen hrg
  go_wp2
  go_loopg [5, 17] n (fun gk lv iv wr => ∃ i : Nat, i + gk = n ∧ iv = .int .i64 i ∧ Hid (OwnK kNat w1.heap.size wr lv (seenL g i)) ∧ Hid (Below w1.heap.size w1 wr))
  case atStart => exact ⟨0, by omega, rfl, OwnK.nil _ _, Below.refl _ _⟩
  case round =>
    obtain ⟨i, hi, rfl, HO, HB⟩ := hrel
    have Hi := Lib.hid hi
    by_cases hlt : i < n
    · have d1 := (BoolRow.at_ (RowIs.later Hrow.out HB.out) (i := i) (by rw [Hlen.out]; exact hlt))
      have hli : (i : Int) < (n : Int) := by omega
      have his : i < 4096 := by omega
      have hsu : seenL g (i + 1) = seenL g i ++ if val g i ≠ 0 then [i] else [] := by
        unfold seenL
        rw [List.range_succ, List.filter_append]
        by_cases q : val g i ≠ 0
        · rw [if_pos q]; simp [q]
        · rw [if_neg q]; simp at q; simp [q]
      have Hsu := Lib.hid hsu
      have Hlt := Lib.hid hlt
      have hll : Hid ((seenL g i).length + 1 ≤ 1000000) := by
        show _ ≤ _
        have : (seenL g i).length ≤ i := by unfold seenL; exact Nat.le_trans (List.length_filter_le _ _) (by simp)
        omega
      clear hsu hi hlt
      by_cases hv : val g i ≠ 0
      · rw [decide_eq_true hv] at d1
        rw [if_pos hv] at Hsu
        clear hv
        go_wp2_with (first
          | (at_builtin; refine wpList_append_one (K := kNat) rfl _ _ rfl w1.heap.size u5 (seenL g i) rfl HO.out i _ _ rfl rfl hll.out HB.out.size ?_; intro v9 w9 ho9 hg9 _; have HO9 := Lib.hid ho9; have HB9 : Hid (Below w1.heap.size w1 w9) := OwnK.below HO.out hg9 HB.out (Nat.le_refl _); clear ho9 hg9 HO HB d1)
          | go_in)
        go_roundg (n - (i + 1))
        case measure => have := Hi.out; have := Hlt.out; omega
        case rel =>
          refine ⟨i + 1, by have := Hi.out; have := Hlt.out; omega, by go_num, ?_, HB9⟩
          rw [Hsu.out]; exact HO9
      · rw [decide_eq_false hv] at d1
        rw [if_neg hv, List.append_nil] at Hsu
        clear hv
        go_wp2
        go_roundg (n - (i + 1))
        case measure => have := Hi.out; have := Hlt.out; omega
        case rel =>
          refine ⟨i + 1, by have := Hi.out; have := Hlt.out; omega, by go_num, ?_, HB⟩
          rw [Hsu.out]; exact HO
    · have hli : ¬ (i : Int) < (n : Int) := by omega
      obtain rfl : i = n := by omega
      go_wp2
      go_ret
      exact ⟨_, rfl, by rw [Hgg.out]; exact HO.out.mono HB1.out.size, HB1.out.trans (HB.out.mono HB1.out.size)⟩
set_option linter.unusedSimpArgs false in
theorem between_any {w : World} {p n : Nat} {A B : Nat → List Nat} {vf vt : Value} {S T : List Int} (h : GOk w p n A B) (hS : RowK kInt w vf S) (hl : S.length ≤ 1000000) (hT : RowK kInt w vt T) (hlt : T.length ≤ 1000000) :
    Calls Try.prog 18 #[.pointer (some ⟨p, 0, none⟩), vf, vt] w fun r w' => ∃ v, r = .returned v ∧ OwnK kNat w.heap.size w' v (bothL (reachedF A n (nodesF n S)) (reachedF B n (nodesF n T)) n) ∧ Below w.heap.size w w' := by
  obtain ⟨av, cv, rfl, -⟩ := hS.form
  obtain ⟨at', ct, rfl, -⟩ := hT.form
  obtain ⟨hn, ga, gb, c0, c1, hra, hrb⟩ := h.at_
  have HR1 : Hid (∀ W, Below w.heap.size w W → Calls Try.prog 41 #[.slice (some ⟨ga, 0, none⟩) n n, .slice av S.length cv] W fun r w' => ∃ b, r = .returned (.slice (some ⟨b, 0, none⟩) n n) ∧ W.heap.size ≤ b ∧ BoolRow w' b (reachedF A n (nodesF n S)) ∧ Below W.heap.size W w') :=
    fun W hW => reached_any (hra.later hW) hn h.a h.la (hS.later hW) hl
  have HR2 : Hid (∀ W, Below w.drew.heap.size w.drew W → Calls Try.prog 41 #[.slice (some ⟨gb, 0, none⟩) n n, .slice at' T.length ct] W fun r w' => ∃ b, r = .returned (.slice (some ⟨b, 0, none⟩) n n) ∧ W.heap.size ≤ b ∧ BoolRow w' b (reachedF B n (nodesF n T)) ∧ Below W.heap.size W w') :=
    fun W hW => reached_any (RowsAt.later (w := w.drew) hrb hW) hn h.b h.lb (RowK.later (w := w.drew) hT hW) hlt
  have hn0 := Lib.hid hn
  have hla := reached_len h.a (nodes_lt (n := n) (S := S))
  have hlb := reached_len h.b (nodes_lt (n := n) (S := T))
  clear h hra hrb hS hT
  go_enter Try.func18, Try.ntmps18
  go_upto_region 3 with fail
  refine wp_region_held_drew (S := (fun W => W.cell? ⟨p, 0, none⟩ = some (.slice (some ⟨ga, 0, none⟩) n n) ∧ W.cell? ⟨p, 1, none⟩ = some (.slice (some ⟨gb, 0, none⟩) n n))) (by kernel_rfl) (⟨c0, c1⟩) (fun hH0 => ?_)
  refine wpAnyH_take (i := 0) (v := ?_) rfl (by kernel_rfl) (by kernel_rfl) (by kernel_rfl) (fun _ _ _ h => h) (Or.inl ⟨by rfl, ?_⟩) (by assumption) ?_
  rotate_left
  · (intro wx hSw; (try dsimp only at hSw); go_simp <;> with_reducible rfl)
  try simp only [Act.put, List.setIfInBounds_toArray, List.set_cons_zero, List.set_cons_succ, List.getElem_toArray, List.getElem_cons_zero, List.getElem_cons_succ]
  refine wpAnyH_take (i := 1) (v := ?_) rfl (by kernel_rfl) (by kernel_rfl) (by kernel_rfl) (fun _ _ _ h => h) (Or.inl ⟨by rfl, ?_⟩) (by assumption) ?_
  rotate_left
  · (intro wx hSw; (try dsimp only at hSw); go_simp <;> with_reducible rfl)
  try simp only [Act.put, List.setIfInBounds_toArray, List.set_cons_zero, List.set_cons_succ, List.getElem_toArray, List.getElem_cons_zero, List.getElem_cons_succ]
  refine wpAnyH_take (i := 2) (v := ?_) rfl (by kernel_rfl) (by kernel_rfl) (by kernel_rfl) (fun _ _ _ h => h) (Or.inl ⟨by rfl, ?_⟩) (by assumption) ?_
  rotate_left
  · (intro wx hSw; (try dsimp only at hSw); go_simp <;> with_reducible rfl)
  try simp only [Act.put, List.setIfInBounds_toArray, List.set_cons_zero, List.set_cons_succ, List.getElem_toArray, List.getElem_cons_zero, List.getElem_cons_succ]
  refine wpAnyH_take (i := 3) (v := ?_) rfl (by kernel_rfl) (by kernel_rfl) (by kernel_rfl) (fun _ _ _ h => h) (Or.inl ⟨by rfl, ?_⟩) (by assumption) ?_
  rotate_left
  · (intro wx hSw; (try dsimp only at hSw); go_simp <;> with_reducible rfl)
  try simp only [Act.put, List.setIfInBounds_toArray, List.set_cons_zero, List.set_cons_succ, List.getElem_toArray, List.getElem_cons_zero, List.getElem_cons_succ]
  refine wpAnyH_take (i := 4) (v := ?_) rfl (by kernel_rfl) (by kernel_rfl) (by kernel_rfl) (fun _ _ _ h => h) (Or.inl ⟨by rfl, ?_⟩) (by assumption) ?_
  rotate_left
  · (intro wx hSw; (try dsimp only at hSw); go_simp <;> with_reducible rfl)
  try simp only [Act.put, List.setIfInBounds_toArray, List.set_cons_zero, List.set_cons_succ, List.getElem_toArray, List.getElem_cons_zero, List.getElem_cons_succ]
  refine wpAnyH_take (i := 6) (v := ?_) rfl (by kernel_rfl) (by kernel_rfl) (by kernel_rfl) (fun _ _ _ h => h) (Or.inl ⟨by rfl, ?_⟩) (by assumption) ?_
  rotate_left
  · (intro wx hSw; (try dsimp only at hSw); go_simp <;> with_reducible rfl)
  try simp only [Act.put, List.setIfInBounds_toArray, List.set_cons_zero, List.set_cons_succ, List.getElem_toArray, List.getElem_cons_zero, List.getElem_cons_succ]
  refine wpAnyH_take (i := 7) (v := ?_) rfl (by kernel_rfl) (by kernel_rfl) (by kernel_rfl) (fun _ _ _ h => h) (Or.inl ⟨by rfl, ?_⟩) (by assumption) ?_
  rotate_left
  · (intro wx hSw; (try dsimp only at hSw); go_simp <;> with_reducible rfl)
  try simp only [Act.put, List.setIfInBounds_toArray, List.set_cons_zero, List.set_cons_succ, List.getElem_toArray, List.getElem_cons_zero, List.getElem_cons_succ]
  refine wpAnyH_take (i := 8) (v := ?_) rfl (by kernel_rfl) (by kernel_rfl) (by kernel_rfl) (fun _ _ _ h => h) (Or.inl ⟨by rfl, ?_⟩) (by assumption) ?_
  rotate_left
  · (intro wx hSw; (try dsimp only at hSw); go_simp <;> with_reducible rfl)
  try simp only [Act.put, List.setIfInBounds_toArray, List.set_cons_zero, List.set_cons_succ, List.getElem_toArray, List.getElem_cons_zero, List.getElem_cons_succ]
  refine wpAnyH_take (i := 9) (v := ?_) rfl (by kernel_rfl) (by kernel_rfl) (by kernel_rfl) (fun _ _ _ h => h) (Or.inl ⟨by rfl, ?_⟩) (by assumption) ?_
  rotate_left
  · (intro wx hSw; (try dsimp only at hSw); go_simp <;> with_reducible rfl)
  try simp only [Act.put, List.setIfInBounds_toArray, List.set_cons_zero, List.set_cons_succ, List.getElem_toArray, List.getElem_cons_zero, List.getElem_cons_succ]
  refine wpAnyH_take (i := 10) (v := ?_) rfl (by kernel_rfl) (by kernel_rfl) (by kernel_rfl) (fun _ _ _ h => h) (Or.inl ⟨by rfl, ?_⟩) (by assumption) ?_
  rotate_left
  · (intro wx hSw; (try dsimp only at hSw); go_simp <;> with_reducible rfl)
  try simp only [Act.put, List.setIfInBounds_toArray, List.set_cons_zero, List.set_cons_succ, List.getElem_toArray, List.getElem_cons_zero, List.getElem_cons_succ]
  refine wpAnyH_ready (rs := [5]) (by kernel_rfl) (by simp) ?_
  refine AllReadyH.cons rfl (fun K hK => ?_) AllReadyH.nil
  go_simp
  go_at_call 41
  with_reducible refine (HR1.out _ (Below.refl _ _).drew).mono ?_
  rintro r w1 ⟨sa, rfl, hsa, hra, hb1⟩
  have HB1 := Lib.hid hb1
  have Hra := Lib.hid hra
  have Hsa := Lib.hid hsa
  clear hra hb1 hsa HR1
  go_wp2_with fail
  refine hK.out _ _ (⟨((bcell HB1.out).1 _ _ (World.block_lt_of_cell? _ _ hH0.1)).trans hH0.1, ((bcell HB1.out).1 _ _ (World.block_lt_of_cell? _ _ hH0.2)).trans hH0.2⟩) (fun hH1 => ?_)
  clear hK K hH0
  try simp only [Act.put, List.setIfInBounds_toArray, List.set_cons_zero, List.set_cons_succ, List.getElem_toArray, List.getElem_cons_zero, List.getElem_cons_succ]
  refine wpAnyH_ready (rs := [11]) (by kernel_rfl) (by simp) ?_
  refine AllReadyH.cons rfl (fun K hK => ?_) AllReadyH.nil
  go_simp
  go_at_call 41
  with_reducible refine (HR2.out w1 HB1.out).mono ?_
  rintro r w2 ⟨sb, rfl, hsb, hrb, hb2⟩
  have HB2 := Lib.hid hb2
  have Hrb := Lib.hid hrb
  have Hsb := Lib.hid hsb
  clear hrb hb2 hsb HR2
  go_wp2_with fail
  refine hK.out _ _ (⟨((bcell HB2.out).1 _ _ (World.block_lt_of_cell? _ _ hH1.1)).trans hH1.1, ((bcell HB2.out).1 _ _ (World.block_lt_of_cell? _ _ hH1.2)).trans hH1.2⟩) (fun hH2 => ?_)
  clear hK K hH1
  try simp only [Act.put, List.setIfInBounds_toArray, List.set_cons_zero, List.set_cons_succ, List.getElem_toArray, List.getElem_cons_zero, List.getElem_cons_succ]
  refine wpAnyH_take (i := 12) (v := ?_) rfl (by kernel_rfl) (by kernel_rfl) (by kernel_rfl) (fun _ _ _ h => h) (Or.inl ⟨by rfl, ?_⟩) (by assumption) ?_
  rotate_left
  · (intro wx hSw; (try dsimp only at hSw); go_simp <;> with_reducible rfl)
  try simp only [Act.put, List.setIfInBounds_toArray, List.set_cons_zero, List.set_cons_succ, List.getElem_toArray, List.getElem_cons_zero, List.getElem_cons_succ]
  refine wpAnyH_take (i := 13) (v := ?_) rfl (by kernel_rfl) (by kernel_rfl) (by kernel_rfl) (fun _ _ _ h => h) (Or.inl ⟨by rfl, ?_⟩) (by assumption) ?_
  rotate_left
  · (intro wx hSw; (try dsimp only at hSw); go_simp <;> with_reducible rfl)
  try simp only [Act.put, List.setIfInBounds_toArray, List.set_cons_zero, List.set_cons_succ, List.getElem_toArray, List.getElem_cons_zero, List.getElem_cons_succ]
  refine wpAnyH_done (by kernel_rfl) ?_ _
  obtain ⟨g, hg⟩ : ∃ g, reachedF A n (nodesF n S) = g := ⟨_, rfl⟩
  obtain ⟨k, hk⟩ : ∃ g, reachedF B n (nodesF n T) = g := ⟨_, rfl⟩
  rw [hg] at hla Hra
  rw [hk] at hlb Hrb
  have Hla := Lib.hid hla
  have Hlb := Lib.hid hlb
  have Hgg := Lib.hid hg
  have Hkk := Lib.hid hk
  have hsb : Hid (sb < w2.heap.size ∧ sa < w2.heap.size) := ⟨RowIs.lt Hrb.out, Nat.lt_of_lt_of_le (RowIs.lt Hra.out) HB2.out.size⟩
  have HB01 := below_undrew HB1.out
  have HB0 : Hid (Below w.heap.size w w2) := HB01.trans (HB2.out.mono HB01.size)
  clear HB01
  have Hra2 : Hid (BoolRow w2 sa g) := RowIs.later Hra.out HB2.out
  clear hg hk hla hlb Hra c0 c1
  go_wp2
  go_loopg [9, 27] n (fun gk lv iv wr => ∃ i : Nat, i + gk = n ∧ iv = .int .i64 i ∧ Hid (OwnK kNat w2.heap.size wr lv (bothL g k i)) ∧ Hid (Below w2.heap.size w2 wr))
  case atStart => exact ⟨0, by omega, rfl, OwnK.nil _ _, Below.refl _ _⟩
  case round =>
    obtain ⟨i, hi, rfl, HO, HB⟩ := hrel
    have Hi := Lib.hid hi
    by_cases hlt : i < n
    · have d1 := (BoolRow.at_ (RowIs.later Hra2.out HB.out) (i := i) (by rw [Hla.out]; exact hlt))
      have d2 := (BoolRow.at_ (RowIs.later Hrb.out HB.out) (i := i) (by rw [Hlb.out]; exact hlt))
      have hli : (i : Int) < (n : Int) := by omega
      have his : i < 4096 := by omega
      have hsu : bothL g k (i + 1) = bothL g k i ++ if val g i ≠ 0 ∧ val k i ≠ 0 then [i] else [] := by
        unfold bothL
        rw [List.range_succ, List.filter_append]
        by_cases q : val g i ≠ 0 ∧ val k i ≠ 0
        · rw [if_pos q]; simp [q.1, q.2]
        · rw [if_neg q]
          by_cases q1 : val g i = 0
          · simp [q1]
          · have q2 : val k i = 0 := Classical.byContradiction (fun q2 => q ⟨q1, q2⟩)
            simp [q2]
      have Hsu := Lib.hid hsu
      have Hlt := Lib.hid hlt
      have hll : Hid ((bothL g k i).length + 1 ≤ 1000000) := by
        show _ ≤ _
        have : (bothL g k i).length ≤ i := by unfold bothL; exact Nat.le_trans (List.length_filter_le _ _) (by simp)
        omega
      clear hsu hi hlt
      by_cases hv : val g i ≠ 0 ∧ val k i ≠ 0
      · rw [if_pos hv] at Hsu
        rw [decide_eq_true hv.1] at d1
        rw [decide_eq_true hv.2] at d2
        clear hv
        go_wp2_with (first
          | (at_builtin; refine wpList_append_one (K := kNat) rfl _ _ rfl w2.heap.size u9 (bothL g k i) rfl HO.out i _ _ rfl rfl hll.out HB.out.size ?_; intro v9 w9 ho9 hg9 _; have HO9 := Lib.hid ho9; have HB9 : Hid (Below w2.heap.size w2 w9) := OwnK.below HO.out hg9 HB.out (Nat.le_refl _); clear ho9 hg9 HO HB d1 d2)
          | go_in)
        go_roundg (n - (i + 1))
        case measure => have := Hi.out; have := Hlt.out; omega
        case rel =>
          refine ⟨i + 1, by have := Hi.out; have := Hlt.out; omega, by go_num, ?_, HB9⟩
          rw [Hsu.out]; exact HO9
      · rw [if_neg hv, List.append_nil] at Hsu
        have HO2 : Hid (OwnK kNat w2.heap.size wr u9 (bothL g k (i + 1))) := by rw [Hsu.out]; exact HO
        clear HO Hsu
        by_cases q1 : val g i ≠ 0
        · have q2 : ¬ val k i ≠ 0 := fun q2 => hv ⟨q1, q2⟩
          rw [decide_eq_true q1] at d1
          rw [decide_eq_false q2] at d2
          clear hv q1 q2
          go_wp2
          go_roundg (n - (i + 1))
          case measure => have := Hi.out; have := Hlt.out; omega
          case rel => exact ⟨i + 1, by have := Hi.out; have := Hlt.out; omega, by go_num, HO2, HB⟩
        · rw [decide_eq_false q1] at d1
          clear hv q1
          go_wp2
          go_roundg (n - (i + 1))
          case measure => have := Hi.out; have := Hlt.out; omega
          case rel => exact ⟨i + 1, by have := Hi.out; have := Hlt.out; omega, by go_num, HO2, HB⟩
    · have hli : ¬ (i : Int) < (n : Int) := by omega
      obtain rfl : i = n := by omega
      go_wp2
      go_ret
      exact ⟨_, rfl, by rw [Hgg.out, Hkk.out]; exact HO.out.mono HB0.out.size, HB0.out.trans (HB.out.mono HB0.out.size)⟩
end Go.Proofs.Yteiddebjbiadbaa
