/- graph: edges in order: slices.Compact. (printed by wip/gen_gmk.py) -/
import Derived.Test.YteiddebjbiadbaaGmS
import Derived.Lib.EndianMore
import Derived.Laws.IdiomCopy
namespace Go.Proofs.Yteiddebjbiadbaa
open Go.RowKit Gr
attribute [local go_sem ↓] Go.wp_at_zero Go.wp_at_succ

def eqE (a b : Int × Int) : Bool := decide (a = b)
set_option maxRecDepth 100000 in
theorem run_equal_edge (w : World) (a1 a2 b1 b2 : Int) : (Op.equal 60 (.agg #[.int .i64 a1, .int .i64 a2]) (.agg #[.int .i64 b1, .int .i64 b2])).run Try.prog w = .ok (eqE (a1, a2) (b1, b2)) w := by
  have hu : Try.prog.underlying 60 = some (.struct (Try.prog.fieldsOf 60)) := by kernel_rfl
  have hst : Try.prog.stoodInHeld 60 = false := by kernel_rfl
  simp only [Op.equal, Op.maxDepth]
  rw [run_equalIn_struct w 9999 _ _ _ hu hst]
  simp [go_sem, Try.underlying3]
  unfold eqE
  by_cases h1 : a1 = b1
  case neg => simp [h1]
  by_cases h2 : a2 = b2
  case neg => simp [h2]
  simp [h1, h2]
theorem run_eql_edge (w : World) (a1 a2 b1 b2 : Int) : (binOp .eql 60 (.agg #[.int .i64 a1, .int .i64 a2]) (.agg #[.int .i64 b1, .int .i64 b2])).run Try.prog w = .ok (.bool (eqE (a1, a2) (b1, b2))) w := by
  have h := run_equal_edge w a1 a2 b1 b2
  simp only [binOp]
  simp [h]
theorem run_neq_edge (w : World) (a1 a2 b1 b2 : Int) : (binOp .neq 60 (.agg #[.int .i64 a1, .int .i64 a2]) (.agg #[.int .i64 b1, .int .i64 b2])).run Try.prog w = .ok (.bool (!eqE (a1, a2) (b1, b2))) w := by
  have h := run_equal_edge w a1 a2 b1 b2
  simp only [binOp]
  simp [h]
attribute [local go_sem ↓] run_eql_edge run_neq_edge
theorem HoldE.later {w w' : World} {g : Nat} {l : List (Int × Int)} (h : HoldE w g l) (hb : Below w.heap.size w w') : HoldE w' g l := fun i e hi => by
  obtain ⟨h1, h2, h3, h4⟩ := h i e hi
  have hl := World.block_lt_of_cell? w _ h1
  exact ⟨((bcell hb).1 _ _ hl).trans h1, ((bcell hb).1 _ _ hl).trans h2, ((bcell hb).2 _ _ hl).trans h3, ((bcell hb).2 _ _ hl).trans h4⟩
theorem HoldE.dn {w : World} {g : Nat} {l : List (Int × Int)} (h : HoldE w g l) (k : Nat) : HoldE (w.drewN k) g l := h
theorem HoldE.set {w : World} {g : Nat} {l : List (Int × Int)} (h : HoldE w g l) {i : Nat} (hi : i < l.length) (e : Int × Int) : HoldE ((w.setCell ⟨g, i * 2, none⟩ (.int .i64 e.1)).setCell ⟨g, i * 2 + 1, none⟩ (.int .i64 e.2)) g (l.set i e) := by
  obtain ⟨e0, he0⟩ : ∃ e0, l[i]? = some e0 := ⟨_, List.getElem?_eq_getElem hi⟩
  obtain ⟨a1, a2, a3, a4⟩ := h i e0 he0
  intro j x hx
  rw [List.getElem?_set] at hx
  have hw : ∀ (p : Nat), ((w.setCell ⟨g, i * 2, none⟩ (.int .i64 e.1)).setCell ⟨g, i * 2 + 1, none⟩ (.int .i64 e.2)).frozen? ⟨g, p, none⟩ = w.frozen? ⟨g, p, none⟩ := fun p => by rw [World.frozen?_setCell, World.frozen?_setCell]
  rw [hw, hw]
  by_cases q : i = j
  · subst q
    rw [if_pos rfl, if_pos hi] at hx
    obtain rfl := Option.some.inj hx
    refine ⟨?_, ?_, a3, a4⟩
    · rw [World.cell?_setCell_other _ _ _ _ (by simp)]
      exact World.cell?_setCell_same _ _ _ a1
    · refine World.cell?_setCell_same (u := .int .i64 e0.2) _ _ _ ?_
      rw [World.cell?_setCell_other _ _ _ _ (by simp)]
      exact a2
  · rw [if_neg q] at hx
    obtain ⟨b1, b2, b3, b4⟩ := h j x hx
    refine ⟨?_, ?_, b3, b4⟩
    · rw [World.cell?_setCell_other _ _ _ _ (by simp <;> omega), World.cell?_setCell_other _ _ _ _ (by simp <;> omega)]
      exact b1
    · rw [World.cell?_setCell_other _ _ _ _ (by simp <;> omega), World.cell?_setCell_other _ _ _ _ (by simp <;> omega)]
      exact b2
theorem HoldE.cut {w : World} {g : Nat} {l : List (Int × Int)} (h : HoldE w g l) (k : Nat) (vs : List Value) : HoldE (w.setCells g (k * 2) vs) g (l.take k) := fun i e hi => by
  have hik : i < k := by have := (List.getElem?_eq_some_iff.1 hi).1; rw [List.length_take] at this; omega
  rw [List.getElem?_take_of_lt hik] at hi
  obtain ⟨h1, h2, h3, h4⟩ := h i e hi
  refine ⟨?_, ?_, by rw [World.frozen?_setCells]; exact h3, by rw [World.frozen?_setCells]; exact h4⟩
  · rw [World.cell?_setCells_out _ _ _ _ _ (fun _ _ => Or.inl (by show i * 2 < k * 2; omega))]; exact h1
  · rw [World.cell?_setCells_out _ _ _ _ _ (fun _ _ => Or.inl (by show i * 2 + 1 < k * 2; omega))]; exact h2
theorem run_clear_edges {w : World} {g : Nat} {l : List (Int × Int)} (h : HoldE w g l) (k m c : Nat) (hk : k < l.length) (hm : m = l.length - k) (ty : TypeId) :
    (Builtin.clear_ #[45] ty #[.slice (some ⟨g, k * 2, none⟩) m c]).run Try.prog w = .ok (.tuple #[]) (w.setCells g (k * 2) (List.replicate (m * 2) (.int .i64 0))) := by
  have hv : ∀ w, (zeroValue 60).run Try.prog w = .ok (.agg #[.int .i64 0, .int .i64 0]) w := Try.zeroValue60
  have hzc : (Builtin.zeroCells (Value.agg #[.int .i64 0, .int .i64 0]).cells m).toList = List.replicate (m * 2) (.int .i64 0) := by
    apply List.ext_getElem
    · simp [Builtin.zeroCells, Value.cells]
    · intro i h1 h2
      simp only [Builtin.zeroCells, Value.cells, Array.toList_map, List.getElem_map, List.getElem_replicate]
      simp
      rcases (by omega : i % 2 = 0 ∨ i % 2 = 1) with q | q <;> rw [q] <;> rfl
  have hcell : ∀ j, j < (List.replicate (m * 2) (Value.int .i64 0)).length → (w.cell? ⟨g, k * 2 + 0 + j, none⟩).isSome = true ∧ w.frozen? ⟨g, k * 2 + 0 + j, none⟩ = false := fun j hj => by
    rw [List.length_replicate] at hj
    have hi : k + j / 2 < l.length := by omega
    obtain ⟨h1, h2, h3, h4⟩ := h (k + j / 2) _ (List.getElem?_eq_getElem hi)
    rcases (by omega : j % 2 = 0 ∨ j % 2 = 1) with q | q
    · rw [show (k + j / 2) * 2 = k * 2 + 0 + j by omega] at h1 h3
      rw [h1]; exact ⟨rfl, h3⟩
    · rw [show (k + j / 2) * 2 + 1 = k * 2 + 0 + j by omega] at h2 h4
      rw [h2]; exact ⟨rfl, h4⟩
  have hst := run_storeCells_cells (P := Try.prog) g (k * 2) (List.replicate (m * 2) (.int .i64 0)) 0 w (fun j hj => (hcell j hj).1) (fun j hj => (hcell j hj).2) (by intro v hv'; rw [List.eq_of_mem_replicate hv']; rfl)
  simp only [Nat.add_zero] at hst
  obtain ⟨q, rfl⟩ : ∃ q, m = q + 1 := ⟨m - 1, by omega⟩
  simp [Builtin.clear_, run_underlying Try.underlying45, hv, hzc, hst]
set_option linter.unusedSimpArgs false in
theorem compact_any {w : World} {base g cap : Nat} {l : List (Int × Int)} (h : HoldE w g l) (hg : base ≤ g) (hgw : g < w.heap.size) (hlen : l.length ≤ 1000000) (hcap : l.length ≤ cap) :
    Calls Try.prog 48 #[.slice (some ⟨g, 0, none⟩) l.length cap] w fun r w' => r = .returned (.slice (some ⟨g, 0, none⟩) (compactL l).length cap) ∧ HoldE w' g (compactL l) ∧ Below base w w' := by
  have H := Lib.hid h
  have Hg := Lib.hid hg
  have Hcap := Lib.hid hcap
  obtain ⟨n, hn⟩ : ∃ n, l.length = n := ⟨_, rfl⟩
  rw [hn] at hlen
  have Hn := Lib.hid hn
  have Hgw := Lib.hid hgw
  clear h hg hcap hgw
  by_cases h2 : n < 2
  · have hc : compactL l = l := by
      match l, hn, h2 with
      | [], _, _ => rfl
      | [x], _, _ => rfl
      | _ :: _ :: _, hn, h => simp at hn; omega
    rw [hc, hn]
    clear hn
    have h2i : (n : Int) < 2 := by omega
    go_enter Try.func48, Try.ntmps48
    go_wp2
    go_ret
    exact ⟨rfl, H.out, Below.refl _ _⟩
  · rw [hn]
    clear hn
    have h2i : ¬ (n : Int) < 2 := by omega
    have H2 := Lib.hid h2
    clear h2
    go_enter Try.func48, Try.ntmps48
    go_wp2
    go_loopg [3] (n - 1) (fun gk iv wr => ∃ j : Nat, j + 1 + gk = n ∧ iv = .int .i64 ((j : Int) + 1) ∧ Hid (HoldE wr g l) ∧ Hid (compactL (l.take (j + 1)) = l.take (j + 1)) ∧ Hid (Below base w wr))
    case atStart => exact ⟨0, by have := H2.out; omega, rfl, H, (by cases l with | nil => rfl | cons x xs => rfl), Below.refl _ _⟩
    case round =>
      obtain ⟨j, hj, rfl, HH, HC, HB⟩ := hrel
      by_cases hlt : j + 1 < n
      · obtain ⟨x, hx⟩ : ∃ x, l[j + 1]? = some x := ⟨_, List.getElem?_eq_getElem (by have := Hn.out; omega)⟩
        obtain ⟨y, hy⟩ : ∃ y, l[j]? = some y := ⟨_, List.getElem?_eq_getElem (by have := Hn.out; omega)⟩
        have Hx := Lib.hid hx
        have Hy := Lib.hid hy
        obtain ⟨x1, x2⟩ := x
        obtain ⟨y1, y2⟩ := y
        obtain ⟨c1, c2, -⟩ := HH.out _ _ hx
        obtain ⟨d1, d2, -⟩ := HH.out _ _ hy
        dsimp only at c1 c2 d1 d2
        have hli : (j : Int) + 1 < (n : Int) := by omega
        have hjs : j < 1000000 := by omega
        have Hj := Lib.hid hj
        have Hlt := Lib.hid hlt
        clear hx hy hj hlt
        have heq : ∃ q, eqE (x1, x2) (y1, y2) = q ∧ (q = true ↔ (x1, x2) = (y1, y2)) := ⟨_, rfl, by unfold eqE; exact decide_eq_true_iff⟩
        obtain ⟨q, hq1, hq2⟩ := heq
        have Hq2 := Lib.hid hq2
        clear hq2
        go_upto_region 6 with fail
        go_quiet (fail)
        clear c1 c2 d1 d2
        cases q with
        | false =>
          have hne : ¬ (x1, x2) = (y1, y2) := fun e => by have := Hq2.out.2 e; cases this
          have HC2 : Hid (compactL (l.take (j + 1 + 1)) = l.take (j + 1 + 1)) := by
            show _ = _
            rw [compactL_take Hx.out Hy.out, if_neg hne, HC.out, List.take_add_one (i := j + 1), Hx.out]; rfl
          clear hne Hq2
          go_wp2
          go_roundg (n - 1 - (j + 1))
          case measure => have := Hj.out; have := Hlt.out; omega
          case rel => exact ⟨j + 1, by have := Hj.out; have := Hlt.out; omega, by go_num, HH, HC2, Below.dn HB.out _⟩
        | true =>
          have hxy : (x1, x2) = (y1, y2) := Hq2.out.1 rfl
          have HC2 : Hid (compactL (l.take (j + 1 + 1)) = l.take (j + 1)) := by
            show _ = _
            rw [compactL_take Hx.out Hy.out, if_pos hxy, HC.out, List.append_nil]
          have hcn : ¬ (cap = j + 1) := by have := Hlt.out; have := Hcap.out; have := Hn.out; omega
          have hcn2 : (j : Int) + 1 ≤ (cap : Int) := by have := Hlt.out; have := Hcap.out; have := Hn.out; omega
          clear hxy Hq2 HC hq1
          have HJ : Hid (j + 1 < n) := Hlt
          clear Hx Hy Hlt
          go_wp2
          go_loopg [3, 5] (n - (j + 1) - 1) (fun gk kv iv wz => ∃ (t K : Nat) (m : List (Int × Int)), t + 1 + (j + 1) + gk = n ∧ kv = .int .i64 (K : Int) ∧ iv = .int .i64 ((t : Int) + 1) ∧ Hid (HoldE wz g m) ∧ Hid (m.length = n ∧ m.take K = compactL (l.take (j + 1 + t + 1)) ∧ K ≤ j + 1 + t ∧ ∀ i, j + 1 + t ≤ i → m[i]? = l[i]?) ∧ Hid (Below base w wz))
          case atStart => exact ⟨0, j + 1, l, by have := HJ.out; omega, by simp, rfl, HH.out.dn _, ⟨Hn.out, HC2.out.symm, by omega, fun i _ => rfl⟩, Below.dn HB.out _⟩
          case round =>
            obtain ⟨t, K, m, ht, rfl, rfl, HM, HK, HW⟩ := hrel
            have Ht := Lib.hid ht
            have hK1 : K < n := by have := HK.out.2.2.1; omega
            have hK2 : (K : Int) < (n : Int) := by omega
            by_cases hl2 : j + 1 + t + 1 < n
            · obtain ⟨x, hx⟩ : ∃ x, l[j + 1 + t + 1]? = some x := ⟨_, List.getElem?_eq_getElem (by have := Hn.out; omega)⟩
              obtain ⟨y, hy⟩ : ∃ y, l[j + 1 + t]? = some y := ⟨_, List.getElem?_eq_getElem (by have := Hn.out; omega)⟩
              have Hx := Lib.hid hx
              have Hy := Lib.hid hy
              obtain ⟨x1, x2⟩ := x
              obtain ⟨y1, y2⟩ := y
              obtain ⟨c1, c2, -⟩ := HM.out (j + 1 + t + 1) (x1, x2) (by rw [HK.out.2.2.2 _ (by omega)]; exact hx)
              obtain ⟨d1, d2, -⟩ := HM.out (j + 1 + t) (y1, y2) (by rw [HK.out.2.2.2 _ (by omega)]; exact hy)
              obtain ⟨e, he⟩ : ∃ e, m[K]? = some e := ⟨_, List.getElem?_eq_getElem (by rw [HK.out.1]; exact hK1)⟩
              obtain ⟨p1, p2, f1, f2⟩ := HM.out K e he
              dsimp only at c1 c2 d1 d2
              rw [show (j + 1 + t + 1) * 2 = (j + 1) * 2 + (t + 1) * 2 by omega] at c1 c2
              rw [show (j + 1 + t) * 2 = (j + 1) * 2 + t * 2 by omega] at d1 d2
              have hlz : (t : Int) + 1 < ((n - (j + 1) : Nat) : Int) := by omega
              have hts : t < 1000000 := by omega
              have hKs : K < 1000000 := by omega
              have Hl2 := Lib.hid hl2
              have HK1 := Lib.hid hK1
              have heq : ∃ q, eqE (x1, x2) (y1, y2) = q ∧ (q = true ↔ (x1, x2) = (y1, y2)) := ⟨_, rfl, by unfold eqE; exact decide_eq_true_iff⟩
              obtain ⟨q, hq1, hq2⟩ := heq
              have Hq2 := Lib.hid hq2
              clear hq2 hx hy he ht hl2 hK1
              go_upto_region 11 with fail
              go_quiet (fail)
              cases q with
              | true =>
                have hxy : (x1, x2) = (y1, y2) := Hq2.out.1 rfl
                have HK2 : Hid (m.length = n ∧ m.take K = compactL (l.take (j + 1 + (t + 1) + 1)) ∧ K ≤ j + 1 + (t + 1) ∧ ∀ i, j + 1 + (t + 1) ≤ i → m[i]? = l[i]?) := by
                  refine ⟨HK.out.1, ?_, by have := HK.out.2.2.1; omega, fun i hi => HK.out.2.2.2 i (by omega)⟩
                  rw [show j + 1 + (t + 1) + 1 = j + 1 + t + 1 + 1 by omega, compactL_take Hx.out Hy.out, if_pos hxy, List.append_nil]
                  exact HK.out.2.1
                clear hxy Hq2 HK c1 c2 d1 d2 p1 p2 f1 f2
                go_wp2
                go_roundg (n - (j + 1) - 1 - (t + 1))
                case measure => have := Ht.out; have := Hl2.out; omega
                case rel => exact ⟨t + 1, K, m, by have := Ht.out; have := Hl2.out; omega, by simp, by go_num, HM.out.dn _, HK2, Below.dn HW.out _⟩
              | false =>
                have hne : ¬ (x1, x2) = (y1, y2) := fun e => by have := Hq2.out.2 e; cases this
                have hKl : K < m.length := by rw [HK.out.1]; exact HK1.out
                have HM2 := Lib.hid ((HM.out.dn nq).set hKl (x1, x2))
                have HK2 : Hid ((m.set K (x1, x2)).length = n ∧ (m.set K (x1, x2)).take (K + 1) = compactL (l.take (j + 1 + (t + 1) + 1)) ∧ K + 1 ≤ j + 1 + (t + 1) ∧ ∀ i, j + 1 + (t + 1) ≤ i → (m.set K (x1, x2))[i]? = l[i]?) := by
                  refine ⟨by rw [List.length_set]; exact HK.out.1, ?_, by have := HK.out.2.2.1; omega, fun i hi => ?_⟩
                  · rw [show j + 1 + (t + 1) + 1 = j + 1 + t + 1 + 1 by omega, compactL_take Hx.out Hy.out, if_neg hne, ← HK.out.2.1, List.take_add_one, List.getElem?_set, if_pos rfl, if_pos hKl, List.take_set_of_le (Nat.le_refl _)]
                    rfl
                  · rw [List.getElem?_set, if_neg (by have := HK.out.2.2.1; omega)]
                    exact HK.out.2.2.2 i (by omega)
                have HW2 : Hid (Below base w (((wr.drewN nq).setCell ⟨g, K * 2, none⟩ (.int .i64 x1)).setCell ⟨g, K * 2 + 1, none⟩ (.int .i64 x2))) := ((Below.dn HW.out nq).setCell (p := ⟨g, K * 2, none⟩) Hg.out _).setCell (p := ⟨g, K * 2 + 1, none⟩) Hg.out _
                clear hne Hq2 HK hKl HM HW d1 d2
                dsimp only at HM2
                go_wp2
                go_roundg (n - (j + 1) - 1 - (t + 1))
                case measure => have := Ht.out; have := Hl2.out; omega
                case rel => exact ⟨t + 1, K + 1, m.set K (x1, x2), by have := Ht.out; have := Hl2.out; omega, by simp, by go_num, HM2, HK2, HW2⟩
            · have hlz : ¬ (t : Int) + 1 < ((n - (j + 1) : Nat) : Int) := by omega
              have hall : l.take (j + 1 + t + 1) = l := List.take_of_length_le (by have := Hn.out; omega)
              have HK2 := Lib.hid HK.out.2.1
              rw [hall] at HK2
              have hcl := fun ty => run_clear_edges (k := K) (m := n - K) (c := cap - K) HM.out (by rw [HK.out.1]; exact hK1) (by rw [HK.out.1]) ty
              have hck : ¬ (cap = K) := by have := Hcap.out; have := Hn.out; omega
              have hck2 : (K : Int) ≤ (cap : Int) := by have := Hcap.out; have := Hn.out; omega
              have HF : Hid (K = (compactL l).length ∧ HoldE (wr.setCells g (K * 2) (List.replicate ((n - K) * 2) (.int .i64 0))) g (compactL l) ∧ Below base w (wr.setCells g (K * 2) (List.replicate ((n - K) * 2) (.int .i64 0)))) := by
                refine ⟨?_, ?_, HW.out.trans (Go.Lib.below_setCells_w Hg.out _ _ _)⟩
                · rw [← HK2.out, List.length_take, HK.out.1]; omega
                · rw [← HK2.out]; exact HM.out.cut K _
              clear HK HK2 HM HW hall hl2 ht
              go_wp2
              go_ret
              obtain ⟨h1, h2, h3⟩ := HF.out
              exact ⟨by rw [← h1]; rfl, h2, h3⟩
      · have hli : ¬ (j : Int) + 1 < (n : Int) := by omega
        have hall : l.take (j + 1) = l := List.take_of_length_le (by have := Hn.out; omega)
        have HC2 := HC.out
        rw [hall] at HC2
        have Hres : Hid ((compactL l).length = n ∧ HoldE wr g (compactL l)) := by
          refine ⟨?_, ?_⟩
          · rw [HC2]; exact Hn.out
          · rw [HC2]; exact HH.out
        clear HC HC2 hall hlt
        go_wp2
        go_ret
        exact ⟨by rw [Hres.out.1]; rfl, Hres.out.2, HB.out⟩
end Go.Proofs.Yteiddebjbiadbaa
