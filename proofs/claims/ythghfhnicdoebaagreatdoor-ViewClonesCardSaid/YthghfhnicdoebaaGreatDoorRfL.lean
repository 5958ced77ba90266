/- Reference 24: last; what its functions have at hand. (printed by wip/gen_rf.py) Reference 24: Get. (printed by wip/gen_rk.py) Reference 24: Call, Rollback. (printed by wip/gen_rk.py) -/
import Derived.Test.YthghfhnicdoebaaGreatDoorRfI
import Derived.BigQuiet
import Derived.Deep.LoopGhost
import Derived.Deep.RegionLaw
import Derived.Deep.CutBlock
import Derived.Deep.DeepCutAuto
namespace Go.Proofs.YthghfhnicdoebaaGreatDoor
open Go.RowKit

def chCells (c : ChangeT) : Array Value := #[.int .i64 c.name.kind, .string c.name.owner, .int .i64 c.name.number, .int .i64 c.name.index, .string c.name.text, .string c.value, .bool c.absent]
def zeroC : ChangeT := ⟨⟨0, ⟨#[]⟩, 0, 0, ⟨#[]⟩⟩, ⟨#[]⟩, false⟩
theorem below_set7 {w W : World} (h : Below w.heap.size w W) {X : Nat} (hX : w.heap.size ≤ X) (x0 x1 x2 x3 x4 x5 x6 : Value) : Below w.heap.size w (((((((W.setCell ⟨X, 0, none⟩ x0).setCell ⟨X, 1, none⟩ x1).setCell ⟨X, 2, none⟩ x2).setCell ⟨X, 3, none⟩ x3).setCell ⟨X, 4, none⟩ x4).setCell ⟨X, 5, none⟩ x5).setCell ⟨X, 6, none⟩ x6) :=
  below_grow h (grown_trans (grown_trans (grown_trans (grown_trans (grown_trans (grown_trans (grown_setCell _ _ _ _) (grown_setCell _ _ _ _)) (grown_setCell _ _ _ _)) (grown_setCell _ _ _ _)) (grown_setCell _ _ _ _)) (grown_setCell _ _ _ _)) (grown_setCell _ _ _ _)) (Nat.le_refl _) (fun k hk => by cases hk; exact hX)
theorem take_snoc {α : Type} {l : List α} {k : Nat} {x : α} (h : l[k]? = some x) : l.take (k + 1) = l.take k ++ [x] := by
  obtain ⟨hk, rfl⟩ := List.getElem?_eq_some_iff.1 h
  rw [List.take_succ_eq_append_getElem hk]
end Go.Proofs.YthghfhnicdoebaaGreatDoor

namespace Go.Proofs.YthghfhnicdoebaaGreatDoor
open Go.RowKit
attribute [local go_sem ↓] run_eql_N

set_option maxRecDepth 100000 in
set_option maxHeartbeats 3200000 in
theorem rLast_any (w : World) (v : Value) (cs : List ChangeT) (hl : RowK kC w v cs) (n : NameT) (hlen : cs.length ≤ 1000000) :
    Calls Tryz.prog 50 #[v, nameV n] w fun r w' => r = .returned (.tuple #[.agg (chCells ((lastCall cs n).getD zeroC)), .bool (lastCall cs n).isSome]) ∧ Below w.heap.size w w' := by
  obtain ⟨a, c, rfl, hc, -⟩ := hl.form
  have HL := Lib.hid hl
  have H0 : Hid (lastCall cs n = lastCall (cs.take cs.length) n) := by show _ = _; rw [List.take_length]
  generalize hll : cs.length = len at *
  have Hll := Lib.hid hll
  clear hll hl
  have HS : Hid (∀ k x, cs[k]? = some x → lastCall (cs.take (k + 1)) n = if n = x.name then some x else lastCall (cs.take k) n) := fun k x h => by rw [take_snoc h, lastCall_snoc]
  have HR0 : Hid (lastCall (cs.take 0) n = none) := rfl
  generalize hlc : lastCall cs n = R at *
  clear hlc
  obtain ⟨b1, b2, b3, b4, b5⟩ := n
  have hN : nameV ⟨b1, b2, b3, b4, b5⟩ = .agg #[.int .i64 b1, .string b2, .int .i64 b3, .int .i64 b4, .string b5] := rfl
  rw [hN]
  clear hN
  have Bw : Hid (∀ o o', Below w.heap.size w ((w.alloc o).alloc o')) := fun o o' => ((Below.refl _ _).alloc (Nat.le_refl _) _).alloc (by simp) _
  have Ow : Hid (∀ o o', ((w.alloc o).alloc o').heap[w.heap.size]? = some o) := fun o o' => (Below.heap_alloc _ _ _ (by simp)).trans (heap_alloc_new w o)
  have Pw : Hid (∀ o o', ((w.alloc o).alloc o').heap[w.heap.size + 1]? = some o') := fun o o' => by
    have h := heap_alloc_new (w.alloc o) o'
    rwa [World.size_alloc] at h
  go_enter Tryz.func50, Tryz.ntmps50
  go_wp2_with fail
  have HB := Lib.hid (Bw.out (.cells #[.int .i64 b1, .string b2, .int .i64 b3, .int .i64 b4, .string b5] 38) (.cells #[.int .i64 0, .string ⟨#[]⟩, .int .i64 0, .int .i64 0, .string ⟨#[]⟩, .string ⟨#[]⟩, .bool false] 40))
  have HX := Lib.hid (Ow.out (.cells #[.int .i64 b1, .string b2, .int .i64 b3, .int .i64 b4, .string b5] 38) (.cells #[.int .i64 0, .string ⟨#[]⟩, .int .i64 0, .int .i64 0, .string ⟨#[]⟩, .string ⟨#[]⟩, .bool false] 40))
  have HY := Lib.hid (Pw.out (.cells #[.int .i64 b1, .string b2, .int .i64 b3, .int .i64 b4, .string b5] 38) (.cells #[.int .i64 0, .string ⟨#[]⟩, .int .i64 0, .int .i64 0, .string ⟨#[]⟩, .string ⟨#[]⟩, .bool false] 40))
  clear Bw Ow Pw
  generalize (w.alloc (.cells #[.int .i64 b1, .string b2, .int .i64 b3, .int .i64 b4, .string b5] 38)).alloc (.cells #[.int .i64 0, .string ⟨#[]⟩, .int .i64 0, .int .i64 0, .string ⟨#[]⟩, .string ⟨#[]⟩, .bool false] 40) = w1 at *
  go_loopg [6] len (fun gk iv wr => gk ≤ len ∧ iv = .int .i64 ((gk : Int) - 1) ∧ Hid (R = lastCall (cs.take gk) ⟨b1, b2, b3, b4, b5⟩) ∧ Hid (Below w1.heap.size w1 wr))
  case atStart => exact ⟨Nat.le_refl _, by go_num, H0.out, Below.refl _ _⟩
  case round =>
    clear H0
    obtain ⟨hgl, rfl, HP, HBr⟩ := hrel
    have HBw : Hid (Below w.heap.size w wr) := HB.out.trans (HBr.out.mono HB.out.size)
    have HXr := Lib.hid ((HBr.out.block _ (lt_of_heap HX.out)).trans HX.out)
    have HYr := Lib.hid ((HBr.out.block _ (lt_of_heap HY.out)).trans HY.out)
    have e0 := cell_of_heap HYr.out 0
    have e1 := cell_of_heap HYr.out 1
    have e2 := cell_of_heap HYr.out 2
    have e3 := cell_of_heap HYr.out 3
    have e4 := cell_of_heap HYr.out 4
    have e5 := cell_of_heap HYr.out 5
    have e6 := cell_of_heap HYr.out 6
    have f0 := frozen_of_heap HYr.out 0
    have f1 := frozen_of_heap HYr.out 1
    have f2 := frozen_of_heap HYr.out 2
    have f3 := frozen_of_heap HYr.out 3
    have f4 := frozen_of_heap HYr.out 4
    have f5 := frozen_of_heap HYr.out 5
    have f6 := frozen_of_heap HYr.out 6
    match gk, hgl, HP with
    | 0, hgl, HP =>
      have HRn : Hid (R = none) := HP.out.trans HR0.out
      go_wp2
      refine bodyPost_ret (v := .tuple #[.agg #[.int .i64 0, .string ⟨#[]⟩, .int .i64 0, .int .i64 0, .string ⟨#[]⟩, .string ⟨#[]⟩, .bool false], .bool false]) (by simp [results, Tryz.results50, go_sem, e0, e1, e2, e3, e4, e5, e6]) rfl ?_
      refine ⟨by rw [HRn.out]; rfl, ?_⟩
      exact below_set7 HBw.out (Nat.le_succ _) _ _ _ _ _ _ _
    | k + 1, hgl, HP =>
      have hlt : k < len := hgl
      have hkl : k < cs.length := by rw [Hll.out]; exact hlt
      have he : cs[k]? = some cs[k] := List.getElem?_eq_getElem hkl
      generalize cs[k] = e at *
      have He := Lib.hid he
      obtain ⟨g, off, rfl, hcs⟩ := (HL.out.later HBw.out).at_ he
      have HSk := Lib.hid (HS.out k e he)
      obtain ⟨⟨a1, a2, a3, a4, a5⟩, a6, a7⟩ := e
      clear he
      have c0 : wr.cell? ⟨g, off + k * 7, none⟩ = some (.int .i64 a1) := hcs 0 _ rfl
      have c1 : wr.cell? ⟨g, off + k * 7 + 1, none⟩ = some (.string a2) := hcs 1 _ rfl
      have c2 : wr.cell? ⟨g, off + k * 7 + 2, none⟩ = some (.int .i64 a3) := hcs 2 _ rfl
      have c3 : wr.cell? ⟨g, off + k * 7 + 3, none⟩ = some (.int .i64 a4) := hcs 3 _ rfl
      have c4 : wr.cell? ⟨g, off + k * 7 + 4, none⟩ = some (.string a5) := hcs 4 _ rfl
      have c5 : wr.cell? ⟨g, off + k * 7 + 5, none⟩ = some (.string a6) := hcs 5 _ rfl
      have c6 : wr.cell? ⟨g, off + k * 7 + 6, none⟩ = some (.bool a7) := hcs 6 _ rfl
      have d0 : wr.cell? ⟨w.heap.size, 0, none⟩ = some (.int .i64 b1) := cell_of_heap HXr.out 0
      have d1 : wr.cell? ⟨w.heap.size, 1, none⟩ = some (.string b2) := cell_of_heap HXr.out 1
      have d2 : wr.cell? ⟨w.heap.size, 2, none⟩ = some (.int .i64 b3) := cell_of_heap HXr.out 2
      have d3 : wr.cell? ⟨w.heap.size, 3, none⟩ = some (.int .i64 b4) := cell_of_heap HXr.out 3
      have d4 : wr.cell? ⟨w.heap.size, 4, none⟩ = some (.string b5) := cell_of_heap HXr.out 4
      have hidx : ((k + 1 : Nat) : Int) - 1 = (k : Int) := by omega
      rw [hidx]
      clear hcs hidx
      by_cases hq : (⟨a1, a2, a3, a4, a5⟩ : NameT) = ⟨b1, b2, b3, b4, b5⟩
      · have hqq : eqNB ⟨a1, a2, a3, a4, a5⟩ ⟨b1, b2, b3, b4, b5⟩ = true := decide_eq_true hq
        have HRs : Hid (R = some ⟨⟨a1, a2, a3, a4, a5⟩, a6, a7⟩) := by show _ = _; rw [HP.out, HSk.out, if_pos hq.symm]
        clear hq
        go_upto_region 4 with fail
        go_quiet (fail)
        go_wp2
        refine bodyPost_ret (v := .tuple #[.agg #[.int .i64 a1, .string a2, .int .i64 a3, .int .i64 a4, .string a5, .string a6, .bool a7], .bool true]) (by simp [results, Tryz.results50, go_sem, e0, e1, e2, e3, e4, e5, e6]) rfl ?_
        refine ⟨by rw [HRs.out]; rfl, ?_⟩
        exact below_set7 (below_toDrewN3 HBw.out _) (Nat.le_succ _) _ _ _ _ _ _ _
      · have hqq : eqNB ⟨a1, a2, a3, a4, a5⟩ ⟨b1, b2, b3, b4, b5⟩ = false := decide_eq_false hq
        have HRs : Hid (R = lastCall (cs.take k) ⟨b1, b2, b3, b4, b5⟩) := by show _ = _; rw [HP.out, HSk.out, if_neg (fun h => hq h.symm)]
        clear hq
        go_upto_region 4 with fail
        go_quiet (fail)
        go_wp2
        go_roundg k
        case measure => omega
        case rel => exact ⟨by omega, by go_num, HRs.out, below_toDrewN3 HBr.out _⟩
end Go.Proofs.YthghfhnicdoebaaGreatDoor

namespace Go.Proofs.YthghfhnicdoebaaGreatDoor
open Go.RowKit

/-- The boxes of a call: the view, the second argument, the result. -/
structure GX (w W : World) (vb vr vc : Value) (x : Array Value) (T : TypeId) : Prop where
  below : Below w.heap.size w W
  bv : W.heap[w.heap.size]? = some (.cells #[vb, vr, vc] 33 (0, 0))
  b2 : W.heap[w.heap.size + 1]? = some (.cells x T (0, 0))
  br : W.heap[w.heap.size + 1 + 1]? = some (.cells #[.slice none 0 0, .slice none 0 0, .slice none 0 0] 33 (0, 0))
section
variable {w W W' : World} {vb vr vc v : Value} {x : Array Value} {T : TypeId}
theorem GX.start (w : World) (vb vr vc : Value) (x : Array Value) (T : TypeId) : GX w (((w.alloc (.cells #[vb, vr, vc] 33)).alloc (.cells x T)).alloc (.cells #[.slice none 0 0, .slice none 0 0, .slice none 0 0] 33)) vb vr vc x T where
  below := (((Below.refl _ _).alloc (Nat.le_refl _) _).alloc (by simp) _).alloc (by simp; omega) _
  bv := (Below.heap_alloc _ _ _ (by simp; omega)).trans ((Below.heap_alloc _ _ _ (by simp)).trans (World.alloc_heap_new w _))
  b2 := by
    have h := World.alloc_heap_new (w.alloc (.cells #[vb, vr, vc] 33)) (.cells x T)
    rw [World.size_alloc] at h
    exact (Below.heap_alloc _ _ _ (by simp)).trans h
  br := by
    have h := World.alloc_heap_new ((w.alloc (.cells #[vb, vr, vc] 33)).alloc (.cells x T)) (.cells #[.slice none 0 0, .slice none 0 0, .slice none 0 0] 33)
    rw [World.size_alloc, World.size_alloc] at h
    exact h
theorem GX.later (h : GX w W vb vr vc x T) (hb : Below W.heap.size W W') : GX w W' vb vr vc x T :=
  ⟨h.below.trans (hb.mono h.below.size), (hb.block _ (lt_of_heap h.bv)).trans h.bv, (hb.block _ (lt_of_heap h.b2)).trans h.b2, (hb.block _ (lt_of_heap h.br)).trans h.br⟩
theorem GX.lt (h : GX w W vb vr vc x T) : w.heap.size < W.heap.size ∧ w.heap.size + 1 < W.heap.size ∧ w.heap.size + 1 + 1 < W.heap.size ∧ w.heap.size < W.heap.size + 1 ∧ w.heap.size + 1 < W.heap.size + 1 ∧ W.heap.size ≠ w.heap.size ∧ W.heap.size ≠ w.heap.size + 1 ∧ W.heap.size ≠ w.heap.size + 1 + 1 ∧ W.heap.size + 1 ≠ w.heap.size ∧ W.heap.size + 1 ≠ w.heap.size + 1 := by
  have := lt_of_heap h.br
  refine ⟨?_, ?_, ?_, ?_, ?_, ?_, ?_, ?_, ?_, ?_⟩ <;> omega
theorem GX.put (h : GX w W vb vr vc x T) (i : Nat) (v : Value) {vb' vr' vc' : Value} (e : (#[vb, vr, vc] : Array Value).setIfInBounds i v = #[vb', vr', vc']) : GX w (W.setCell ⟨w.heap.size, i, none⟩ v) vb' vr' vc' x T where
  below := below_grow h.below (grown_setCell _ _ _ _) (Nat.le_refl _) (fun k hk => by cases hk; omega)
  bv := by rw [heap_setCell_same h.bv i v, e]
  b2 := (Below.heap_setCell _ _ _ _ (by show w.heap.size + 1 ≠ w.heap.size; omega)).trans h.b2
  br := (Below.heap_setCell _ _ _ _ (by show w.heap.size + 1 + 1 ≠ w.heap.size; omega)).trans h.br
theorem GX.put2 (h : GX w W vb vr vc x T) (i : Nat) (v : Value) {x' : Array Value} (e : x.setIfInBounds i v = x') : GX w (W.setCell ⟨w.heap.size + 1, i, none⟩ v) vb vr vc x' T where
  below := below_grow h.below (grown_setCell _ _ _ _) (Nat.le_refl _) (fun k hk => by cases hk; omega)
  bv := (Below.heap_setCell _ _ _ _ (by show w.heap.size ≠ w.heap.size + 1; omega)).trans h.bv
  b2 := by rw [heap_setCell_same h.b2 i v, e]
  br := (Below.heap_setCell _ _ _ _ (by show w.heap.size + 1 + 1 ≠ w.heap.size + 1; omega)).trans h.br
theorem GX.end3 (h : GX w W vb vr vc x T) (x0 x1 x2 : Value) : Below w.heap.size w (((W.setCell ⟨w.heap.size + 1 + 1, 0, none⟩ x0).setCell ⟨w.heap.size + 1 + 1, 1, none⟩ x1).setCell ⟨w.heap.size + 1 + 1, 2, none⟩ x2) :=
  below_grow h.below (grown_trans (grown_trans (grown_setCell _ _ _ _) (grown_setCell _ _ _ _)) (grown_setCell _ _ _ _)) (Nat.le_refl _) (fun k hk => by cases hk; omega)
end
/-- A row of the call's own that was stored into the view. -/
theorem own_stored {α : Type} {K : KindK α} {w U W : World} {v : Value} {xs : List α} (h : OwnK K U.heap.size W v xs) (hlt : w.heap.size + 1 + 1 < U.heap.size) (i : Nat) (x : Value) : RowK K (W.setCell ⟨w.heap.size, i, none⟩ x) v xs ∧ ∀ k, v.ownBlock = some k → w.heap.size + 1 + 1 < k ∧ k < (W.setCell ⟨w.heap.size, i, none⟩ x).heap.size := by
  refine ⟨h.row.grown (grown_setCell W w.heap.size i x) (fun k hk e => ?_), fun k hk => ?_⟩
  · have h1 := (World.ownsRow.lt h k hk).1
    cases e
    omega
  · have h1 := World.ownsRow.lt h k hk
    have h2 := (grown_setCell W w.heap.size i x).size
    exact ⟨by omega, by omega⟩
theorem OwnK.slice {α : Type} {K : KindK α} {B : Nat} {W : World} {v : Value} {xs : List α} (h : OwnK K B W v xs) : ∃ a n c, v = .slice a n c := by
  obtain ⟨a, c, e, -⟩ := h.row.form
  exact ⟨a, _, c, e⟩
def getR (l : List (NameT × ByteArray)) (rs : List NameT) (cs : List ChangeT) (n : NameT) : List NameT × ByteArray × Bool :=
  if checkE n ≠ 0 then (rs, ⟨#[]⟩, false) else match lastCall cs n with
    | some c => if c.absent = true then (rs, ⟨#[]⟩, false) else (rs, c.value, true)
    | none => (rs ++ [n], (getL cmpN l n).getD ⟨#[]⟩, (getL cmpN l n).isSome)
def Fresh (w w' : World) (v v' : Value) : Prop := ∀ k, v'.ownBlock = some k → v.ownBlock = some k ∨ (w.heap.size ≤ k ∧ k < w'.heap.size)
/-- What Get leaves. -/
def RGetPost (l : List (NameT × ByteArray)) (rs : List NameT) (cs : List ChangeT) (n : NameT) (vb vr vc : Value) (w : World) (r : Ending) (w' : World) : Prop :=
  ∃ vr', r = .returned (.tuple #[.agg #[vb, vr', vc], .string (getR l rs cs n).2.1, .bool (getR l rs cs n).2.2]) ∧ RowK kN w' vr' (getR l rs cs n).1 ∧ Fresh w w' vr vr' ∧ Below w.heap.size w w' ∧ ∃ a m c, vr' = .slice a m c
theorem rget_post {l : List (NameT × ByteArray)} {rs rs' : List NameT} {cs : List ChangeT} {n : NameT} {vb vr vc vr' : Value} {w w' : World} {x : ByteArray} {b : Bool} (h : getR l rs cs n = (rs', x, b)) (hr : RowK kN w' vr' rs') (hf : Fresh w w' vr vr') (hb : Below w.heap.size w w') : RGetPost l rs cs n vb vr vc w (.returned (.tuple #[.agg #[vb, vr', vc], .string x, .bool b])) w' := by
  refine ⟨vr', by rw [h], by rw [h]; exact hr, hf, hb, ?_⟩
  obtain ⟨a, c, e, -⟩ := hr.form
  exact ⟨a, _, c, e⟩

set_option maxRecDepth 100000 in
set_option maxHeartbeats 3200000 in
theorem rg_bad (w : World) (ab ar ac : Option Addr) (nb nr nc kb kr kc : Nat) (l : List (NameT × ByteArray)) (rs : List NameT) (cs : List ChangeT) (hr : RowK kN w (.slice ar nr kr) rs) (b1 : Int) (b2 : ByteArray) (b3 b4 : Int) (b5 : ByteArray) (hf : FitN ⟨b1, b2, b3, b4, b5⟩) (hq : checkE ⟨b1, b2, b3, b4, b5⟩ ≠ 0) :
    Calls Tryz.prog 39 #[.agg #[.slice ab nb kb, .slice ar nr kr, .slice ac nc kc], .agg #[.int .i64 b1, .string b2, .int .i64 b3, .int .i64 b4, .string b5]] w (RGetPost l rs cs ⟨b1, b2, b3, b4, b5⟩ (.slice ab nb kb) (.slice ar nr kr) (.slice ac nc kc) w) := by
  have HG : Hid (GX w (((w.alloc (.cells #[.slice ab nb kb, .slice ar nr kr, .slice ac nc kc] 33)).alloc (.cells #[.int .i64 b1, .string b2, .int .i64 b3, .int .i64 b4, .string b5] 38)).alloc (.cells #[.slice none 0 0, .slice none 0 0, .slice none 0 0] 33)) (.slice ab nb kb) (.slice ar nr kr) (.slice ac nc kc) #[.int .i64 b1, .string b2, .int .i64 b3, .int .i64 b4, .string b5] 38) := GX.start w _ _ _ _ _
  have HR := Lib.hid hr
  obtain ⟨q, hq1⟩ : ∃ q, checkE ⟨b1, b2, b3, b4, b5⟩ = q := ⟨_, rfl⟩
  have HChk : Hid (∀ W, Calls Tryz.prog 72 #[.agg #[.int .i64 b1, .string b2, .int .i64 b3, .int .i64 b4, .string b5]] W fun r w' => r = .returned (.int .i64 q) ∧ Below W.heap.size W w') := fun W => rChk_is ⟨b1, b2, b3, b4, b5⟩ q hq1 hf W
  have HRes : Hid (getR l rs cs ⟨b1, b2, b3, b4, b5⟩ = (rs, ⟨#[]⟩, false)) := if_pos hq
  rw [hq1] at hq
  obtain ⟨n1, n2⟩ := ne_bool hq
  clear hq hq1
  clear hr hf
  go_enter Tryz.func39, Tryz.ntmps39
  go_wp2_with fail
  generalize ((w.alloc (.cells #[.slice ab nb kb, .slice ar nr kr, .slice ac nc kc] 33)).alloc (.cells #[.int .i64 b1, .string b2, .int .i64 b3, .int .i64 b4, .string b5] 38)).alloc (.cells #[.slice none 0 0, .slice none 0 0, .slice none 0 0] 33) = w1 at *
  refine (HChk.out w1).mono ?_
  rintro r w2 ⟨rfl, hb2⟩
  have HG2 := Lib.hid (HG.out.later hb2)
  clear hb2 HG
  have v0 : w2.cell? ⟨w.heap.size, 0, none⟩ = some (.slice ab nb kb) := cell_of_heap HG2.out.bv 0
  have v1 : w2.cell? ⟨w.heap.size, 1, none⟩ = some (.slice ar nr kr) := cell_of_heap HG2.out.bv 1
  have v2 : w2.cell? ⟨w.heap.size, 2, none⟩ = some (.slice ac nc kc) := cell_of_heap HG2.out.bv 2
  have y0 : w2.cell? ⟨w.heap.size + 1, 0, none⟩ = some (.int .i64 b1) := cell_of_heap HG2.out.b2 0
  have y1 : w2.cell? ⟨w.heap.size + 1, 1, none⟩ = some (.string b2) := cell_of_heap HG2.out.b2 1
  have y2 : w2.cell? ⟨w.heap.size + 1, 2, none⟩ = some (.int .i64 b3) := cell_of_heap HG2.out.b2 2
  have y3 : w2.cell? ⟨w.heap.size + 1, 3, none⟩ = some (.int .i64 b4) := cell_of_heap HG2.out.b2 3
  have y4 : w2.cell? ⟨w.heap.size + 1, 4, none⟩ = some (.string b5) := cell_of_heap HG2.out.b2 4
  have e0 : w2.cell? ⟨w.heap.size + 1 + 1, 0, none⟩ = some (.slice none 0 0) := cell_of_heap HG2.out.br 0
  have e1 : w2.cell? ⟨w.heap.size + 1 + 1, 1, none⟩ = some (.slice none 0 0) := cell_of_heap HG2.out.br 1
  have e2 : w2.cell? ⟨w.heap.size + 1 + 1, 2, none⟩ = some (.slice none 0 0) := cell_of_heap HG2.out.br 2
  have f0 : w2.frozen? ⟨w.heap.size + 1 + 1, 0, none⟩ = false := frozen_of_heap HG2.out.br 0
  have f1 : w2.frozen? ⟨w.heap.size + 1 + 1, 1, none⟩ = false := frozen_of_heap HG2.out.br 1
  have f2 : w2.frozen? ⟨w.heap.size + 1 + 1, 2, none⟩ = false := frozen_of_heap HG2.out.br 2
  go_wp2
  refine bodyPost_ret (v := .tuple #[.agg #[.slice ab nb kb, .slice ar nr kr, .slice ac nc kc], .string ⟨#[]⟩, .bool false]) (by simp [results, Tryz.results39, go_sem, e0, e1, e2]) rfl ?_
  exact rget_post HRes.out (HR.out.later (HG2.out.end3 _ _ _)) (fun k hk => .inl hk) (HG2.out.end3 _ _ _)

set_option maxRecDepth 100000 in
set_option maxHeartbeats 3200000 in
theorem rg_absent (w : World) (ab ar ac : Option Addr) (nb nr nc kb kr kc : Nat) (l : List (NameT × ByteArray)) (rs : List NameT) (cs : List ChangeT) (hr : RowK kN w (.slice ar nr kr) rs) (hc : RowK kC w (.slice ac nc kc) cs) (b1 : Int) (b2 : ByteArray) (b3 b4 : Int) (b5 : ByteArray) (hf : FitN ⟨b1, b2, b3, b4, b5⟩) (hq : checkE ⟨b1, b2, b3, b4, b5⟩ = 0) (c1 : Int) (c2 : ByteArray) (c3 c4 : Int) (c5 c6 : ByteArray) (hlast : lastCall cs ⟨b1, b2, b3, b4, b5⟩ = some ⟨⟨c1, c2, c3, c4, c5⟩, c6, true⟩) (hl3 : cs.length ≤ 1000000) :
    Calls Tryz.prog 39 #[.agg #[.slice ab nb kb, .slice ar nr kr, .slice ac nc kc], .agg #[.int .i64 b1, .string b2, .int .i64 b3, .int .i64 b4, .string b5]] w (RGetPost l rs cs ⟨b1, b2, b3, b4, b5⟩ (.slice ab nb kb) (.slice ar nr kr) (.slice ac nc kc) w) := by
  have HG : Hid (GX w (((w.alloc (.cells #[.slice ab nb kb, .slice ar nr kr, .slice ac nc kc] 33)).alloc (.cells #[.int .i64 b1, .string b2, .int .i64 b3, .int .i64 b4, .string b5] 38)).alloc (.cells #[.slice none 0 0, .slice none 0 0, .slice none 0 0] 33)) (.slice ab nb kb) (.slice ar nr kr) (.slice ac nc kc) #[.int .i64 b1, .string b2, .int .i64 b3, .int .i64 b4, .string b5] 38) := GX.start w _ _ _ _ _
  have HR := Lib.hid hr
  have HChk : Hid (∀ W, Calls Tryz.prog 72 #[.agg #[.int .i64 b1, .string b2, .int .i64 b3, .int .i64 b4, .string b5]] W fun r w' => r = .returned (.int .i64 0) ∧ Below W.heap.size W w') := fun W => rChk_is ⟨b1, b2, b3, b4, b5⟩ 0 hq hf W
  have HLast : Hid (∀ W, Below w.heap.size w W → Calls Tryz.prog 50 #[.slice ac nc kc, .agg #[.int .i64 b1, .string b2, .int .i64 b3, .int .i64 b4, .string b5]] W fun r w' => r = .returned (.tuple #[.agg #[.int .i64 c1, .string c2, .int .i64 c3, .int .i64 c4, .string c5, .string c6, .bool true], .bool true]) ∧ Below W.heap.size W w') := fun W hW => by
    have h := rLast_any W _ cs (hc.later hW) ⟨b1, b2, b3, b4, b5⟩ hl3
    rw [hlast] at h
    exact h
  have HRes : Hid (getR l rs cs ⟨b1, b2, b3, b4, b5⟩ = (rs, ⟨#[]⟩, false)) := by show _ = _; unfold getR; rw [if_neg (by rw [hq]; decide), hlast]; rfl
  clear hq hlast hl3 hc
  clear hr hf
  go_enter Tryz.func39, Tryz.ntmps39
  go_wp2_with fail
  generalize ((w.alloc (.cells #[.slice ab nb kb, .slice ar nr kr, .slice ac nc kc] 33)).alloc (.cells #[.int .i64 b1, .string b2, .int .i64 b3, .int .i64 b4, .string b5] 38)).alloc (.cells #[.slice none 0 0, .slice none 0 0, .slice none 0 0] 33) = w1 at *
  refine (HChk.out w1).mono ?_
  rintro r w2 ⟨rfl, hb2⟩
  have HG2 := Lib.hid (HG.out.later hb2)
  clear hb2 HG
  have v0 : w2.cell? ⟨w.heap.size, 0, none⟩ = some (.slice ab nb kb) := cell_of_heap HG2.out.bv 0
  have v1 : w2.cell? ⟨w.heap.size, 1, none⟩ = some (.slice ar nr kr) := cell_of_heap HG2.out.bv 1
  have v2 : w2.cell? ⟨w.heap.size, 2, none⟩ = some (.slice ac nc kc) := cell_of_heap HG2.out.bv 2
  have y0 : w2.cell? ⟨w.heap.size + 1, 0, none⟩ = some (.int .i64 b1) := cell_of_heap HG2.out.b2 0
  have y1 : w2.cell? ⟨w.heap.size + 1, 1, none⟩ = some (.string b2) := cell_of_heap HG2.out.b2 1
  have y2 : w2.cell? ⟨w.heap.size + 1, 2, none⟩ = some (.int .i64 b3) := cell_of_heap HG2.out.b2 2
  have y3 : w2.cell? ⟨w.heap.size + 1, 3, none⟩ = some (.int .i64 b4) := cell_of_heap HG2.out.b2 3
  have y4 : w2.cell? ⟨w.heap.size + 1, 4, none⟩ = some (.string b5) := cell_of_heap HG2.out.b2 4
  have e0 : w2.cell? ⟨w.heap.size + 1 + 1, 0, none⟩ = some (.slice none 0 0) := cell_of_heap HG2.out.br 0
  have e1 : w2.cell? ⟨w.heap.size + 1 + 1, 1, none⟩ = some (.slice none 0 0) := cell_of_heap HG2.out.br 1
  have e2 : w2.cell? ⟨w.heap.size + 1 + 1, 2, none⟩ = some (.slice none 0 0) := cell_of_heap HG2.out.br 2
  have f0 : w2.frozen? ⟨w.heap.size + 1 + 1, 0, none⟩ = false := frozen_of_heap HG2.out.br 0
  have f1 : w2.frozen? ⟨w.heap.size + 1 + 1, 1, none⟩ = false := frozen_of_heap HG2.out.br 1
  have f2 : w2.frozen? ⟨w.heap.size + 1 + 1, 2, none⟩ = false := frozen_of_heap HG2.out.br 2
  go_wp2_with fail
  refine (HLast.out w2 HG2.out.below).mono ?_
  rintro r w3 ⟨rfl, hb3⟩
  have HG3 := Lib.hid (HG2.out.later hb3)
  clear hb3 HG2 v0 v1 v2 y0 y1 y2 y3 y4 e0 e1 e2 f0 f1 f2
  have v0 : w3.cell? ⟨w.heap.size, 0, none⟩ = some (.slice ab nb kb) := cell_of_heap HG3.out.bv 0
  have v1 : w3.cell? ⟨w.heap.size, 1, none⟩ = some (.slice ar nr kr) := cell_of_heap HG3.out.bv 1
  have v2 : w3.cell? ⟨w.heap.size, 2, none⟩ = some (.slice ac nc kc) := cell_of_heap HG3.out.bv 2
  have y0 : w3.cell? ⟨w.heap.size + 1, 0, none⟩ = some (.int .i64 b1) := cell_of_heap HG3.out.b2 0
  have y1 : w3.cell? ⟨w.heap.size + 1, 1, none⟩ = some (.string b2) := cell_of_heap HG3.out.b2 1
  have y2 : w3.cell? ⟨w.heap.size + 1, 2, none⟩ = some (.int .i64 b3) := cell_of_heap HG3.out.b2 2
  have y3 : w3.cell? ⟨w.heap.size + 1, 3, none⟩ = some (.int .i64 b4) := cell_of_heap HG3.out.b2 3
  have y4 : w3.cell? ⟨w.heap.size + 1, 4, none⟩ = some (.string b5) := cell_of_heap HG3.out.b2 4
  have e0 : w3.cell? ⟨w.heap.size + 1 + 1, 0, none⟩ = some (.slice none 0 0) := cell_of_heap HG3.out.br 0
  have e1 : w3.cell? ⟨w.heap.size + 1 + 1, 1, none⟩ = some (.slice none 0 0) := cell_of_heap HG3.out.br 1
  have e2 : w3.cell? ⟨w.heap.size + 1 + 1, 2, none⟩ = some (.slice none 0 0) := cell_of_heap HG3.out.br 2
  have f0 : w3.frozen? ⟨w.heap.size + 1 + 1, 0, none⟩ = false := frozen_of_heap HG3.out.br 0
  have f1 : w3.frozen? ⟨w.heap.size + 1 + 1, 1, none⟩ = false := frozen_of_heap HG3.out.br 1
  have f2 : w3.frozen? ⟨w.heap.size + 1 + 1, 2, none⟩ = false := frozen_of_heap HG3.out.br 2
  obtain ⟨l0, l1, l2, l3, l4, g0, g1, g2, g3, g4⟩ := HG3.out.lt
  have hbU : Below w3.heap.size w3 (w3.alloc (.cells #[.int .i64 c1, .string c2, .int .i64 c3, .int .i64 c4, .string c5, .string c6, .bool true] 40)) := (Below.refl _ _).alloc (Nat.le_refl _) _
  have HG4 := Lib.hid (HG3.out.later hbU)
  have HCx : Hid ((w3.alloc (.cells #[.int .i64 c1, .string c2, .int .i64 c3, .int .i64 c4, .string c5, .string c6, .bool true] 40)).heap[w3.heap.size]? = some (.cells #[.int .i64 c1, .string c2, .int .i64 c3, .int .i64 c4, .string c5, .string c6, .bool true] 40 (0, 0))) := heap_alloc_new w3 _
  clear hbU
  go_upto_region 4 with fail
  generalize w3.alloc (.cells #[.int .i64 c1, .string c2, .int .i64 c3, .int .i64 c4, .string c5, .string c6, .bool true] 40) = U at *
  clear HG3 v0 v1 v2 y0 y1 y2 y3 y4 e0 e1 e2 f0 f1 f2 l0 l1 l2 l3 l4 g0 g1 g2 g3 g4
  have v0 : U.cell? ⟨w.heap.size, 0, none⟩ = some (.slice ab nb kb) := cell_of_heap HG4.out.bv 0
  have v1 : U.cell? ⟨w.heap.size, 1, none⟩ = some (.slice ar nr kr) := cell_of_heap HG4.out.bv 1
  have v2 : U.cell? ⟨w.heap.size, 2, none⟩ = some (.slice ac nc kc) := cell_of_heap HG4.out.bv 2
  have y0 : U.cell? ⟨w.heap.size + 1, 0, none⟩ = some (.int .i64 b1) := cell_of_heap HG4.out.b2 0
  have y1 : U.cell? ⟨w.heap.size + 1, 1, none⟩ = some (.string b2) := cell_of_heap HG4.out.b2 1
  have y2 : U.cell? ⟨w.heap.size + 1, 2, none⟩ = some (.int .i64 b3) := cell_of_heap HG4.out.b2 2
  have y3 : U.cell? ⟨w.heap.size + 1, 3, none⟩ = some (.int .i64 b4) := cell_of_heap HG4.out.b2 3
  have y4 : U.cell? ⟨w.heap.size + 1, 4, none⟩ = some (.string b5) := cell_of_heap HG4.out.b2 4
  have e0 : U.cell? ⟨w.heap.size + 1 + 1, 0, none⟩ = some (.slice none 0 0) := cell_of_heap HG4.out.br 0
  have e1 : U.cell? ⟨w.heap.size + 1 + 1, 1, none⟩ = some (.slice none 0 0) := cell_of_heap HG4.out.br 1
  have e2 : U.cell? ⟨w.heap.size + 1 + 1, 2, none⟩ = some (.slice none 0 0) := cell_of_heap HG4.out.br 2
  have f0 : U.frozen? ⟨w.heap.size + 1 + 1, 0, none⟩ = false := frozen_of_heap HG4.out.br 0
  have f1 : U.frozen? ⟨w.heap.size + 1 + 1, 1, none⟩ = false := frozen_of_heap HG4.out.br 1
  have f2 : U.frozen? ⟨w.heap.size + 1 + 1, 2, none⟩ = false := frozen_of_heap HG4.out.br 2
  have x5 := cell_of_heap HCx.out 5
  have x6 := cell_of_heap HCx.out 6
  go_wp2
  refine bodyPost_ret (v := .tuple #[.agg #[.slice ab nb kb, .slice ar nr kr, .slice ac nc kc], .string ⟨#[]⟩, .bool false]) (by simp [results, Tryz.results39, go_sem, e0, e1, e2]) rfl ?_
  exact rget_post HRes.out (HR.out.later (HG4.out.end3 _ _ _)) (fun k hk => .inl hk) (HG4.out.end3 _ _ _)

set_option maxRecDepth 100000 in
set_option maxHeartbeats 3200000 in
theorem rg_there (w : World) (ab ar ac : Option Addr) (nb nr nc kb kr kc : Nat) (l : List (NameT × ByteArray)) (rs : List NameT) (cs : List ChangeT) (hr : RowK kN w (.slice ar nr kr) rs) (hc : RowK kC w (.slice ac nc kc) cs) (b1 : Int) (b2 : ByteArray) (b3 b4 : Int) (b5 : ByteArray) (hf : FitN ⟨b1, b2, b3, b4, b5⟩) (hq : checkE ⟨b1, b2, b3, b4, b5⟩ = 0) (c1 : Int) (c2 : ByteArray) (c3 c4 : Int) (c5 c6 : ByteArray) (hlast : lastCall cs ⟨b1, b2, b3, b4, b5⟩ = some ⟨⟨c1, c2, c3, c4, c5⟩, c6, false⟩) (hl3 : cs.length ≤ 1000000) :
    Calls Tryz.prog 39 #[.agg #[.slice ab nb kb, .slice ar nr kr, .slice ac nc kc], .agg #[.int .i64 b1, .string b2, .int .i64 b3, .int .i64 b4, .string b5]] w (RGetPost l rs cs ⟨b1, b2, b3, b4, b5⟩ (.slice ab nb kb) (.slice ar nr kr) (.slice ac nc kc) w) := by
  have HG : Hid (GX w (((w.alloc (.cells #[.slice ab nb kb, .slice ar nr kr, .slice ac nc kc] 33)).alloc (.cells #[.int .i64 b1, .string b2, .int .i64 b3, .int .i64 b4, .string b5] 38)).alloc (.cells #[.slice none 0 0, .slice none 0 0, .slice none 0 0] 33)) (.slice ab nb kb) (.slice ar nr kr) (.slice ac nc kc) #[.int .i64 b1, .string b2, .int .i64 b3, .int .i64 b4, .string b5] 38) := GX.start w _ _ _ _ _
  have HR := Lib.hid hr
  have HChk : Hid (∀ W, Calls Tryz.prog 72 #[.agg #[.int .i64 b1, .string b2, .int .i64 b3, .int .i64 b4, .string b5]] W fun r w' => r = .returned (.int .i64 0) ∧ Below W.heap.size W w') := fun W => rChk_is ⟨b1, b2, b3, b4, b5⟩ 0 hq hf W
  have HLast : Hid (∀ W, Below w.heap.size w W → Calls Tryz.prog 50 #[.slice ac nc kc, .agg #[.int .i64 b1, .string b2, .int .i64 b3, .int .i64 b4, .string b5]] W fun r w' => r = .returned (.tuple #[.agg #[.int .i64 c1, .string c2, .int .i64 c3, .int .i64 c4, .string c5, .string c6, .bool false], .bool true]) ∧ Below W.heap.size W w') := fun W hW => by
    have h := rLast_any W _ cs (hc.later hW) ⟨b1, b2, b3, b4, b5⟩ hl3
    rw [hlast] at h
    exact h
  have HRes : Hid (getR l rs cs ⟨b1, b2, b3, b4, b5⟩ = (rs, c6, true)) := by show _ = _; unfold getR; rw [if_neg (by rw [hq]; decide), hlast]; rfl
  clear hq hlast hl3 hc
  clear hr hf
  go_enter Tryz.func39, Tryz.ntmps39
  go_wp2_with fail
  generalize ((w.alloc (.cells #[.slice ab nb kb, .slice ar nr kr, .slice ac nc kc] 33)).alloc (.cells #[.int .i64 b1, .string b2, .int .i64 b3, .int .i64 b4, .string b5] 38)).alloc (.cells #[.slice none 0 0, .slice none 0 0, .slice none 0 0] 33) = w1 at *
  refine (HChk.out w1).mono ?_
  rintro r w2 ⟨rfl, hb2⟩
  have HG2 := Lib.hid (HG.out.later hb2)
  clear hb2 HG
  have v0 : w2.cell? ⟨w.heap.size, 0, none⟩ = some (.slice ab nb kb) := cell_of_heap HG2.out.bv 0
  have v1 : w2.cell? ⟨w.heap.size, 1, none⟩ = some (.slice ar nr kr) := cell_of_heap HG2.out.bv 1
  have v2 : w2.cell? ⟨w.heap.size, 2, none⟩ = some (.slice ac nc kc) := cell_of_heap HG2.out.bv 2
  have y0 : w2.cell? ⟨w.heap.size + 1, 0, none⟩ = some (.int .i64 b1) := cell_of_heap HG2.out.b2 0
  have y1 : w2.cell? ⟨w.heap.size + 1, 1, none⟩ = some (.string b2) := cell_of_heap HG2.out.b2 1
  have y2 : w2.cell? ⟨w.heap.size + 1, 2, none⟩ = some (.int .i64 b3) := cell_of_heap HG2.out.b2 2
  have y3 : w2.cell? ⟨w.heap.size + 1, 3, none⟩ = some (.int .i64 b4) := cell_of_heap HG2.out.b2 3
  have y4 : w2.cell? ⟨w.heap.size + 1, 4, none⟩ = some (.string b5) := cell_of_heap HG2.out.b2 4
  have e0 : w2.cell? ⟨w.heap.size + 1 + 1, 0, none⟩ = some (.slice none 0 0) := cell_of_heap HG2.out.br 0
  have e1 : w2.cell? ⟨w.heap.size + 1 + 1, 1, none⟩ = some (.slice none 0 0) := cell_of_heap HG2.out.br 1
  have e2 : w2.cell? ⟨w.heap.size + 1 + 1, 2, none⟩ = some (.slice none 0 0) := cell_of_heap HG2.out.br 2
  have f0 : w2.frozen? ⟨w.heap.size + 1 + 1, 0, none⟩ = false := frozen_of_heap HG2.out.br 0
  have f1 : w2.frozen? ⟨w.heap.size + 1 + 1, 1, none⟩ = false := frozen_of_heap HG2.out.br 1
  have f2 : w2.frozen? ⟨w.heap.size + 1 + 1, 2, none⟩ = false := frozen_of_heap HG2.out.br 2
  go_wp2_with fail
  refine (HLast.out w2 HG2.out.below).mono ?_
  rintro r w3 ⟨rfl, hb3⟩
  have HG3 := Lib.hid (HG2.out.later hb3)
  clear hb3 HG2 v0 v1 v2 y0 y1 y2 y3 y4 e0 e1 e2 f0 f1 f2
  have v0 : w3.cell? ⟨w.heap.size, 0, none⟩ = some (.slice ab nb kb) := cell_of_heap HG3.out.bv 0
  have v1 : w3.cell? ⟨w.heap.size, 1, none⟩ = some (.slice ar nr kr) := cell_of_heap HG3.out.bv 1
  have v2 : w3.cell? ⟨w.heap.size, 2, none⟩ = some (.slice ac nc kc) := cell_of_heap HG3.out.bv 2
  have y0 : w3.cell? ⟨w.heap.size + 1, 0, none⟩ = some (.int .i64 b1) := cell_of_heap HG3.out.b2 0
  have y1 : w3.cell? ⟨w.heap.size + 1, 1, none⟩ = some (.string b2) := cell_of_heap HG3.out.b2 1
  have y2 : w3.cell? ⟨w.heap.size + 1, 2, none⟩ = some (.int .i64 b3) := cell_of_heap HG3.out.b2 2
  have y3 : w3.cell? ⟨w.heap.size + 1, 3, none⟩ = some (.int .i64 b4) := cell_of_heap HG3.out.b2 3
  have y4 : w3.cell? ⟨w.heap.size + 1, 4, none⟩ = some (.string b5) := cell_of_heap HG3.out.b2 4
  have e0 : w3.cell? ⟨w.heap.size + 1 + 1, 0, none⟩ = some (.slice none 0 0) := cell_of_heap HG3.out.br 0
  have e1 : w3.cell? ⟨w.heap.size + 1 + 1, 1, none⟩ = some (.slice none 0 0) := cell_of_heap HG3.out.br 1
  have e2 : w3.cell? ⟨w.heap.size + 1 + 1, 2, none⟩ = some (.slice none 0 0) := cell_of_heap HG3.out.br 2
  have f0 : w3.frozen? ⟨w.heap.size + 1 + 1, 0, none⟩ = false := frozen_of_heap HG3.out.br 0
  have f1 : w3.frozen? ⟨w.heap.size + 1 + 1, 1, none⟩ = false := frozen_of_heap HG3.out.br 1
  have f2 : w3.frozen? ⟨w.heap.size + 1 + 1, 2, none⟩ = false := frozen_of_heap HG3.out.br 2
  obtain ⟨l0, l1, l2, l3, l4, g0, g1, g2, g3, g4⟩ := HG3.out.lt
  have hbU : Below w3.heap.size w3 (w3.alloc (.cells #[.int .i64 c1, .string c2, .int .i64 c3, .int .i64 c4, .string c5, .string c6, .bool false] 40)) := (Below.refl _ _).alloc (Nat.le_refl _) _
  have HG4 := Lib.hid (HG3.out.later hbU)
  have HCx : Hid ((w3.alloc (.cells #[.int .i64 c1, .string c2, .int .i64 c3, .int .i64 c4, .string c5, .string c6, .bool false] 40)).heap[w3.heap.size]? = some (.cells #[.int .i64 c1, .string c2, .int .i64 c3, .int .i64 c4, .string c5, .string c6, .bool false] 40 (0, 0))) := heap_alloc_new w3 _
  clear hbU
  go_upto_region 4 with fail
  generalize w3.alloc (.cells #[.int .i64 c1, .string c2, .int .i64 c3, .int .i64 c4, .string c5, .string c6, .bool false] 40) = U at *
  clear HG3 v0 v1 v2 y0 y1 y2 y3 y4 e0 e1 e2 f0 f1 f2 l0 l1 l2 l3 l4 g0 g1 g2 g3 g4
  have v0 : U.cell? ⟨w.heap.size, 0, none⟩ = some (.slice ab nb kb) := cell_of_heap HG4.out.bv 0
  have v1 : U.cell? ⟨w.heap.size, 1, none⟩ = some (.slice ar nr kr) := cell_of_heap HG4.out.bv 1
  have v2 : U.cell? ⟨w.heap.size, 2, none⟩ = some (.slice ac nc kc) := cell_of_heap HG4.out.bv 2
  have y0 : U.cell? ⟨w.heap.size + 1, 0, none⟩ = some (.int .i64 b1) := cell_of_heap HG4.out.b2 0
  have y1 : U.cell? ⟨w.heap.size + 1, 1, none⟩ = some (.string b2) := cell_of_heap HG4.out.b2 1
  have y2 : U.cell? ⟨w.heap.size + 1, 2, none⟩ = some (.int .i64 b3) := cell_of_heap HG4.out.b2 2
  have y3 : U.cell? ⟨w.heap.size + 1, 3, none⟩ = some (.int .i64 b4) := cell_of_heap HG4.out.b2 3
  have y4 : U.cell? ⟨w.heap.size + 1, 4, none⟩ = some (.string b5) := cell_of_heap HG4.out.b2 4
  have e0 : U.cell? ⟨w.heap.size + 1 + 1, 0, none⟩ = some (.slice none 0 0) := cell_of_heap HG4.out.br 0
  have e1 : U.cell? ⟨w.heap.size + 1 + 1, 1, none⟩ = some (.slice none 0 0) := cell_of_heap HG4.out.br 1
  have e2 : U.cell? ⟨w.heap.size + 1 + 1, 2, none⟩ = some (.slice none 0 0) := cell_of_heap HG4.out.br 2
  have f0 : U.frozen? ⟨w.heap.size + 1 + 1, 0, none⟩ = false := frozen_of_heap HG4.out.br 0
  have f1 : U.frozen? ⟨w.heap.size + 1 + 1, 1, none⟩ = false := frozen_of_heap HG4.out.br 1
  have f2 : U.frozen? ⟨w.heap.size + 1 + 1, 2, none⟩ = false := frozen_of_heap HG4.out.br 2
  have x5 := cell_of_heap HCx.out 5
  have x6 := cell_of_heap HCx.out 6
  go_upto_region 7 with fail
  go_region_law (fail)
  all_goals
    go_wp2
    refine bodyPost_ret (v := .tuple #[.agg #[.slice ab nb kb, .slice ar nr kr, .slice ac nc kc], .string c6, .bool true]) (by simp [results, Tryz.results39, go_sem, e0, e1, e2]) rfl ?_
    exact rget_post HRes.out (HR.out.later ((HG4.out.later (Below.refl _ _).drew).end3 _ _ _)) (fun k hk => .inl hk) ((HG4.out.later (Below.refl _ _).drew).end3 _ _ _)

set_option maxRecDepth 100000 in
set_option maxHeartbeats 3200000 in
theorem rg_new (w : World) (ab ar ac : Option Addr) (nb nr nc kb kr kc : Nat) (l : List (NameT × ByteArray)) (rs : List NameT) (cs : List ChangeT) (hr : RowK kN w (.slice ar nr kr) rs) (hc : RowK kC w (.slice ac nc kc) cs) (hb : RowK kE w (.slice ab nb kb) l) (b1 : Int) (b2 : ByteArray) (b3 b4 : Int) (b5 : ByteArray) (hf : FitN ⟨b1, b2, b3, b4, b5⟩) (hq : checkE ⟨b1, b2, b3, b4, b5⟩ = 0) (hlast : lastCall cs ⟨b1, b2, b3, b4, b5⟩ = none) (hl3 : cs.length ≤ 1000000) (hl2 : rs.length ≤ 100000) (hl1 : l.length ≤ 1000000) (hs : SortL cmpN l) (hfe : ∀ e ∈ l, FitN e.1) :
    Calls Tryz.prog 39 #[.agg #[.slice ab nb kb, .slice ar nr kr, .slice ac nc kc], .agg #[.int .i64 b1, .string b2, .int .i64 b3, .int .i64 b4, .string b5]] w (RGetPost l rs cs ⟨b1, b2, b3, b4, b5⟩ (.slice ab nb kb) (.slice ar nr kr) (.slice ac nc kc) w) := by
  have HG : Hid (GX w (((w.alloc (.cells #[.slice ab nb kb, .slice ar nr kr, .slice ac nc kc] 33)).alloc (.cells #[.int .i64 b1, .string b2, .int .i64 b3, .int .i64 b4, .string b5] 38)).alloc (.cells #[.slice none 0 0, .slice none 0 0, .slice none 0 0] 33)) (.slice ab nb kb) (.slice ar nr kr) (.slice ac nc kc) #[.int .i64 b1, .string b2, .int .i64 b3, .int .i64 b4, .string b5] 38) := GX.start w _ _ _ _ _
  have HR := Lib.hid hr
  have HChk : Hid (∀ W, Calls Tryz.prog 72 #[.agg #[.int .i64 b1, .string b2, .int .i64 b3, .int .i64 b4, .string b5]] W fun r w' => r = .returned (.int .i64 0) ∧ Below W.heap.size W w') := fun W => rChk_is ⟨b1, b2, b3, b4, b5⟩ 0 hq hf W
  have HLast : Hid (∀ W, Below w.heap.size w W → Calls Tryz.prog 50 #[.slice ac nc kc, .agg #[.int .i64 b1, .string b2, .int .i64 b3, .int .i64 b4, .string b5]] W fun r w' => r = .returned (.tuple #[.agg #[.int .i64 0, .string ⟨#[]⟩, .int .i64 0, .int .i64 0, .string ⟨#[]⟩, .string ⟨#[]⟩, .bool false], .bool false]) ∧ Below W.heap.size W w') := fun W hW => by
    have h := rLast_any W _ cs (hc.later hW) ⟨b1, b2, b3, b4, b5⟩ hl3
    rw [hlast] at h
    exact h
  have HRes : Hid (getR l rs cs ⟨b1, b2, b3, b4, b5⟩ = (rs ++ [⟨b1, b2, b3, b4, b5⟩], (getL cmpN l ⟨b1, b2, b3, b4, b5⟩).getD ⟨#[]⟩, (getL cmpN l ⟨b1, b2, b3, b4, b5⟩).isSome)) := by show _ = _; unfold getR; rw [if_neg (by rw [hq]; decide), hlast]
  have HGet : Hid (∀ W, Below w.heap.size w W → Calls Tryz.prog 62 #[.slice ab nb kb, .agg #[.int .i64 b1, .string b2, .int .i64 b3, .int .i64 b4, .string b5]] W fun r w' => r = .returned (.tuple #[.string ((getL cmpN l ⟨b1, b2, b3, b4, b5⟩).getD ⟨#[]⟩), .bool (getL cmpN l ⟨b1, b2, b3, b4, b5⟩).isSome]) ∧ Below W.heap.size W w') := fun W hW => rGet_any W _ l (hb.later hW) ⟨b1, b2, b3, b4, b5⟩ hf hfe hl1 hs
  generalize (getL cmpN l ⟨b1, b2, b3, b4, b5⟩).getD ⟨#[]⟩ = gx at *
  generalize (getL cmpN l ⟨b1, b2, b3, b4, b5⟩).isSome = gy at *
  have HLen1 : Hid (([] : List NameT).length + rs.length ≤ 1000000) := by show _ ≤ _; simp; omega
  have HLen2 : Hid (rs.length + [(⟨b1, b2, b3, b4, b5⟩ : NameT)].length ≤ 1000000) := by show _ ≤ _; simp; omega
  clear hq hlast hl3 hl2 hl1 hs hfe hb hc
  clear hr hf
  go_enter Tryz.func39, Tryz.ntmps39
  go_wp2_with fail
  generalize ((w.alloc (.cells #[.slice ab nb kb, .slice ar nr kr, .slice ac nc kc] 33)).alloc (.cells #[.int .i64 b1, .string b2, .int .i64 b3, .int .i64 b4, .string b5] 38)).alloc (.cells #[.slice none 0 0, .slice none 0 0, .slice none 0 0] 33) = w1 at *
  refine (HChk.out w1).mono ?_
  rintro r w2 ⟨rfl, hb2⟩
  have HG2 := Lib.hid (HG.out.later hb2)
  clear hb2 HG
  have v0 : w2.cell? ⟨w.heap.size, 0, none⟩ = some (.slice ab nb kb) := cell_of_heap HG2.out.bv 0
  have v1 : w2.cell? ⟨w.heap.size, 1, none⟩ = some (.slice ar nr kr) := cell_of_heap HG2.out.bv 1
  have v2 : w2.cell? ⟨w.heap.size, 2, none⟩ = some (.slice ac nc kc) := cell_of_heap HG2.out.bv 2
  have y0 : w2.cell? ⟨w.heap.size + 1, 0, none⟩ = some (.int .i64 b1) := cell_of_heap HG2.out.b2 0
  have y1 : w2.cell? ⟨w.heap.size + 1, 1, none⟩ = some (.string b2) := cell_of_heap HG2.out.b2 1
  have y2 : w2.cell? ⟨w.heap.size + 1, 2, none⟩ = some (.int .i64 b3) := cell_of_heap HG2.out.b2 2
  have y3 : w2.cell? ⟨w.heap.size + 1, 3, none⟩ = some (.int .i64 b4) := cell_of_heap HG2.out.b2 3
  have y4 : w2.cell? ⟨w.heap.size + 1, 4, none⟩ = some (.string b5) := cell_of_heap HG2.out.b2 4
  have e0 : w2.cell? ⟨w.heap.size + 1 + 1, 0, none⟩ = some (.slice none 0 0) := cell_of_heap HG2.out.br 0
  have e1 : w2.cell? ⟨w.heap.size + 1 + 1, 1, none⟩ = some (.slice none 0 0) := cell_of_heap HG2.out.br 1
  have e2 : w2.cell? ⟨w.heap.size + 1 + 1, 2, none⟩ = some (.slice none 0 0) := cell_of_heap HG2.out.br 2
  have f0 : w2.frozen? ⟨w.heap.size + 1 + 1, 0, none⟩ = false := frozen_of_heap HG2.out.br 0
  have f1 : w2.frozen? ⟨w.heap.size + 1 + 1, 1, none⟩ = false := frozen_of_heap HG2.out.br 1
  have f2 : w2.frozen? ⟨w.heap.size + 1 + 1, 2, none⟩ = false := frozen_of_heap HG2.out.br 2
  go_wp2_with fail
  refine (HLast.out w2 HG2.out.below).mono ?_
  rintro r w3 ⟨rfl, hb3⟩
  have HG3 := Lib.hid (HG2.out.later hb3)
  clear hb3 HG2 v0 v1 v2 y0 y1 y2 y3 y4 e0 e1 e2 f0 f1 f2
  have v0 : w3.cell? ⟨w.heap.size, 0, none⟩ = some (.slice ab nb kb) := cell_of_heap HG3.out.bv 0
  have v1 : w3.cell? ⟨w.heap.size, 1, none⟩ = some (.slice ar nr kr) := cell_of_heap HG3.out.bv 1
  have v2 : w3.cell? ⟨w.heap.size, 2, none⟩ = some (.slice ac nc kc) := cell_of_heap HG3.out.bv 2
  have y0 : w3.cell? ⟨w.heap.size + 1, 0, none⟩ = some (.int .i64 b1) := cell_of_heap HG3.out.b2 0
  have y1 : w3.cell? ⟨w.heap.size + 1, 1, none⟩ = some (.string b2) := cell_of_heap HG3.out.b2 1
  have y2 : w3.cell? ⟨w.heap.size + 1, 2, none⟩ = some (.int .i64 b3) := cell_of_heap HG3.out.b2 2
  have y3 : w3.cell? ⟨w.heap.size + 1, 3, none⟩ = some (.int .i64 b4) := cell_of_heap HG3.out.b2 3
  have y4 : w3.cell? ⟨w.heap.size + 1, 4, none⟩ = some (.string b5) := cell_of_heap HG3.out.b2 4
  have e0 : w3.cell? ⟨w.heap.size + 1 + 1, 0, none⟩ = some (.slice none 0 0) := cell_of_heap HG3.out.br 0
  have e1 : w3.cell? ⟨w.heap.size + 1 + 1, 1, none⟩ = some (.slice none 0 0) := cell_of_heap HG3.out.br 1
  have e2 : w3.cell? ⟨w.heap.size + 1 + 1, 2, none⟩ = some (.slice none 0 0) := cell_of_heap HG3.out.br 2
  have f0 : w3.frozen? ⟨w.heap.size + 1 + 1, 0, none⟩ = false := frozen_of_heap HG3.out.br 0
  have f1 : w3.frozen? ⟨w.heap.size + 1 + 1, 1, none⟩ = false := frozen_of_heap HG3.out.br 1
  have f2 : w3.frozen? ⟨w.heap.size + 1 + 1, 2, none⟩ = false := frozen_of_heap HG3.out.br 2
  obtain ⟨l0, l1, l2, l3, l4, g0, g1, g2, g3, g4⟩ := HG3.out.lt
  have hbU : Below w3.heap.size w3 (w3.alloc (.cells #[.int .i64 0, .string ⟨#[]⟩, .int .i64 0, .int .i64 0, .string ⟨#[]⟩, .string ⟨#[]⟩, .bool false] 40)) := (Below.refl _ _).alloc (Nat.le_refl _) _
  have HG4 := Lib.hid (HG3.out.later hbU)
  clear hbU
  go_upto_region 8 with fail
  generalize w3.alloc (.cells #[.int .i64 0, .string ⟨#[]⟩, .int .i64 0, .int .i64 0, .string ⟨#[]⟩, .string ⟨#[]⟩, .bool false] 40) = U at *
  have HU := HG4
  clear HG3 HG4 v0 v1 v2 y0 y1 y2 y3 y4 e0 e1 e2 f0 f1 f2 l0 l1 l2 l3 l4 g0 g1 g2 g3 g4
  have v0 : U.cell? ⟨w.heap.size, 0, none⟩ = some (.slice ab nb kb) := cell_of_heap HU.out.bv 0
  have v1 : U.cell? ⟨w.heap.size, 1, none⟩ = some (.slice ar nr kr) := cell_of_heap HU.out.bv 1
  have v2 : U.cell? ⟨w.heap.size, 2, none⟩ = some (.slice ac nc kc) := cell_of_heap HU.out.bv 2
  have y0 : U.cell? ⟨w.heap.size + 1, 0, none⟩ = some (.int .i64 b1) := cell_of_heap HU.out.b2 0
  have y1 : U.cell? ⟨w.heap.size + 1, 1, none⟩ = some (.string b2) := cell_of_heap HU.out.b2 1
  have y2 : U.cell? ⟨w.heap.size + 1, 2, none⟩ = some (.int .i64 b3) := cell_of_heap HU.out.b2 2
  have y3 : U.cell? ⟨w.heap.size + 1, 3, none⟩ = some (.int .i64 b4) := cell_of_heap HU.out.b2 3
  have y4 : U.cell? ⟨w.heap.size + 1, 4, none⟩ = some (.string b5) := cell_of_heap HU.out.b2 4
  obtain ⟨l0, l1, l2, l3, l4, g0, g1, g2, g3, g4⟩ := HU.out.lt
  have HRU : Hid (RowK kN U (.slice ar nr kr) rs) := HR.out.later HU.out.below
  have N0 : Hid (∀ o, (U.alloc o).drew.heap[U.heap.size]? = some o) := fun o => heap_alloc_new U o
  have N1 : Hid (∀ o o', ((U.alloc o).alloc o').drew.heap[U.heap.size]? = some o) := fun o o' => (Below.heap_alloc _ _ _ (by simp)).trans (heap_alloc_new U o)
  have N2 : Hid (∀ o o', ((U.alloc o).alloc o').drew.heap[U.heap.size + 1]? = some o') := fun o o' => by
    have h := heap_alloc_new (U.alloc o) o'
    rwa [World.size_alloc] at h
  have B1 : Hid (∀ o, Below U.heap.size U (U.alloc o).drew) := fun o => ((Below.refl _ _).alloc (Nat.le_refl _) _).drew
  have B2 : Hid (∀ o o', Below U.heap.size U ((U.alloc o).alloc o').drew) := fun o o' => (((Below.refl _ _).alloc (Nat.le_refl _) _).alloc (by simp) _).drew
  have hub : U.heap.size ≤ U.heap.size := Nat.le_refl _
  have hub1 : U.heap.size ≤ U.heap.size + 1 := Nat.le_succ _
  go_cut [35] (fun v wx => Hid (GX w wx (.slice ab nb kb) v (.slice ac nc kc) #[.int .i64 b1, .string b2, .int .i64 b3, .int .i64 b4, .string b5] 38 ∧ RowK kN wx v (rs ++ [⟨b1, b2, b3, b4, b5⟩]) ∧ ∀ k, v.ownBlock = some k → w.heap.size + 1 + 1 < k ∧ k < wx.heap.size))
  case first =>
    go_region_law (first
      | (refine step_append_K (K := kN) (by rfl) _ _ (by rfl) U.heap.size (.slice (some ⟨U.heap.size, 0, none⟩) 0 0) [] (by rfl) (OwnK.empty (N1.out _ _) hub) (.slice ar nr kr) rs (by rfl) (HRU.out.later (B2.out _ _)) HLen1.out (B2.out _ _).size ?_; intro vq wq hrowq hgq hatq; have Rq : Hid (OwnK kN U.heap.size wq vq rs) := hrowq; have Bq : Hid (Below U.heap.size U wq) := below_grow (B2.out _ _) hgq (Nat.le_refl _) (fun k hk => by have hk : U.heap.size = k := Option.some.inj hk; omega); have HGq := Lib.hid (HU.out.later Bq.out); have HPk : Hid (wq.heap[U.heap.size + 1]? = some (.cells #[.int .i64 b1, .string b2, .int .i64 b3, .int .i64 b4, .string b5] 38 (0, 0))) := (hgq.block _ (by simp <;> omega) (fun e => by have e : U.heap.size + 1 = U.heap.size := Option.some.inj e; omega)).trans (N2.out _ _); have p0 := cell_of_heap HGq.out.bv 0; have p1 := cell_of_heap HGq.out.bv 1; have p2 := cell_of_heap HGq.out.bv 2; have q0 := cell_of_heap HGq.out.b2 0; have q1 := cell_of_heap HGq.out.b2 1; have q2 := cell_of_heap HGq.out.b2 2; have q3 := cell_of_heap HGq.out.b2 3; have q4 := cell_of_heap HGq.out.b2 4; obtain ⟨lq0, lq1, lq2, lq3, lq4, gq0, gq1, gq2, gq3, gq4⟩ := HGq.out.lt; clear hrowq hgq hatq)
      | (refine step_append_K (K := kN) (by rfl) _ _ (by rfl) U.heap.size (.slice (some ⟨U.heap.size + 1, 0, none⟩) 0 0) [] (by rfl) (OwnK.empty (N2.out _ _) hub1) (.slice ar nr kr) rs (by rfl) (HRU.out.later (B2.out _ _)) HLen1.out (B2.out _ _).size ?_; intro vq wq hrowq hgq hatq; have Rq : Hid (OwnK kN U.heap.size wq vq rs) := hrowq; have Bq : Hid (Below U.heap.size U wq) := below_grow (B2.out _ _) hgq (Nat.le_refl _) (fun k hk => by have hk : U.heap.size + 1 = k := Option.some.inj hk; omega); have HGq := Lib.hid (HU.out.later Bq.out); have HPk : Hid (wq.heap[U.heap.size]? = some (.cells #[.int .i64 b1, .string b2, .int .i64 b3, .int .i64 b4, .string b5] 38 (0, 0))) := (hgq.block _ (by simp <;> omega) (fun e => by have e : U.heap.size = U.heap.size + 1 := Option.some.inj e; omega)).trans (N1.out _ _); have p0 := cell_of_heap HGq.out.bv 0; have p1 := cell_of_heap HGq.out.bv 1; have p2 := cell_of_heap HGq.out.bv 2; have q0 := cell_of_heap HGq.out.b2 0; have q1 := cell_of_heap HGq.out.b2 1; have q2 := cell_of_heap HGq.out.b2 2; have q3 := cell_of_heap HGq.out.b2 3; have q4 := cell_of_heap HGq.out.b2 4; obtain ⟨lq0, lq1, lq2, lq3, lq4, gq0, gq1, gq2, gq3, gq4⟩ := HGq.out.lt; clear hrowq hgq hatq)
      | (refine step_append_K (K := kN) (by rfl) _ _ (by rfl) U.heap.size (.slice (some ⟨U.heap.size, 0, none⟩) 0 0) [] (by rfl) (OwnK.empty (N0.out _) hub) (.slice ar nr kr) rs (by rfl) (HRU.out.later (B1.out _)) HLen1.out (B1.out _).size ?_; intro vq wq hrowq hgq hatq; have Rq : Hid (OwnK kN U.heap.size wq vq rs) := hrowq; have Bq : Hid (Below U.heap.size U wq) := below_grow (B1.out _) hgq (Nat.le_refl _) (fun k hk => by have hk : U.heap.size = k := Option.some.inj hk; omega); have HGq := Lib.hid (HU.out.later Bq.out); have p0 := cell_of_heap HGq.out.bv 0; have p1 := cell_of_heap HGq.out.bv 1; have p2 := cell_of_heap HGq.out.bv 2; have q0 := cell_of_heap HGq.out.b2 0; have q1 := cell_of_heap HGq.out.b2 1; have q2 := cell_of_heap HGq.out.b2 2; have q3 := cell_of_heap HGq.out.b2 3; have q4 := cell_of_heap HGq.out.b2 4; obtain ⟨lq0, lq1, lq2, lq3, lq4, gq0, gq1, gq2, gq3, gq4⟩ := HGq.out.lt; clear hrowq hgq hatq)
      | (refine step_append_K (K := kN) (by rfl) _ _ (by rfl) U.heap.size vq rs (by rfl) Rq.out (.slice (some ⟨_, 0, none⟩) 1 1) [⟨b1, b2, b3, b4, b5⟩] (by rfl) (RowK.one HPk.out rfl) HLen2.out Bq.out.size ?_; intro vs ws hrows hgs hats; obtain ⟨sa, sn, sk, rfl⟩ := hrows.slice; have Rs := Lib.hid (id hrows); have Bs : Hid (Below U.heap.size U ws) := OwnK.below Rq.out hgs Bq.out (Nat.le_refl _); have HGs := Lib.hid (HU.out.later Bs.out); have s0 := cell_of_heap HGs.out.bv 1; have s1 := frozen_of_heap HGs.out.bv 1; clear hrows hgs hats)
      | (refine step_append_K (K := kN) (by rfl) _ _ (by rfl) U.heap.size vq rs (by rfl) (Rq.out.later ((Below.refl _ _).alloc (Nat.le_refl _) _)) (.slice (some ⟨wq.heap.size, 0, none⟩) 1 1) [⟨b1, b2, b3, b4, b5⟩] (by rfl) (RowK.one (heap_alloc_new wq _) rfl) HLen2.out (Bq.out.alloc Bq.out.size _).size ?_; intro vs ws hrows hgs hats; obtain ⟨sa, sn, sk, rfl⟩ := hrows.slice; have Rs := Lib.hid (id hrows); have Bs : Hid (Below U.heap.size U ws) := OwnK.below (Rq.out.later ((Below.refl _ _).alloc (Nat.le_refl _) _)) hgs (Bq.out.alloc Bq.out.size _) (Nat.le_refl _); have HGs := Lib.hid (HU.out.later Bs.out); have s0 := cell_of_heap HGs.out.bv 1; have s1 := frozen_of_heap HGs.out.bv 1; clear hrows hgs hats)
      | fail)
    all_goals
      go_wp2
      go_meet
      exact Lib.hid ⟨HGs.out.put 1 _ rfl, (own_stored Rs.out l2 1 _).1, (own_stored Rs.out l2 1 _).2⟩
  case rest =>
    obtain ⟨hg, hr, ho⟩ := hcut
    have HU2 := Lib.hid hg
    have HR2 := Lib.hid hr
    have HO2 := Lib.hid ho
    clear hg hr ho N0 N1 N2 B1 B2 HRU HU
    clear v0 v1 v2 y0 y1 y2 y3 y4 l0 l1 l2 l3 l4 g0 g1 g2 g3 g4
    obtain ⟨ar2, kr2, rfl, -, -⟩ := HR2.out.form
    generalize (rs ++ [(⟨b1, b2, b3, b4, b5⟩ : NameT)]).length = nr2 at *
    have v0 : wc.cell? ⟨w.heap.size, 0, none⟩ = some (.slice ab nb kb) := cell_of_heap HU2.out.bv 0
    have v1 : wc.cell? ⟨w.heap.size, 1, none⟩ = some (.slice ar2 nr2 kr2) := cell_of_heap HU2.out.bv 1
    have v2 : wc.cell? ⟨w.heap.size, 2, none⟩ = some (.slice ac nc kc) := cell_of_heap HU2.out.bv 2
    have y0 : wc.cell? ⟨w.heap.size + 1, 0, none⟩ = some (.int .i64 b1) := cell_of_heap HU2.out.b2 0
    have y1 : wc.cell? ⟨w.heap.size + 1, 1, none⟩ = some (.string b2) := cell_of_heap HU2.out.b2 1
    have y2 : wc.cell? ⟨w.heap.size + 1, 2, none⟩ = some (.int .i64 b3) := cell_of_heap HU2.out.b2 2
    have y3 : wc.cell? ⟨w.heap.size + 1, 3, none⟩ = some (.int .i64 b4) := cell_of_heap HU2.out.b2 3
    have y4 : wc.cell? ⟨w.heap.size + 1, 4, none⟩ = some (.string b5) := cell_of_heap HU2.out.b2 4
    have e0 : wc.cell? ⟨w.heap.size + 1 + 1, 0, none⟩ = some (.slice none 0 0) := cell_of_heap HU2.out.br 0
    have e1 : wc.cell? ⟨w.heap.size + 1 + 1, 1, none⟩ = some (.slice none 0 0) := cell_of_heap HU2.out.br 1
    have e2 : wc.cell? ⟨w.heap.size + 1 + 1, 2, none⟩ = some (.slice none 0 0) := cell_of_heap HU2.out.br 2
    have f0 : wc.frozen? ⟨w.heap.size + 1 + 1, 0, none⟩ = false := frozen_of_heap HU2.out.br 0
    have f1 : wc.frozen? ⟨w.heap.size + 1 + 1, 1, none⟩ = false := frozen_of_heap HU2.out.br 1
    have f2 : wc.frozen? ⟨w.heap.size + 1 + 1, 2, none⟩ = false := frozen_of_heap HU2.out.br 2
    go_wp2_with fail
    refine (HGet.out _ HU2.out.below).mono ?_
    rintro r w5 ⟨rfl, hb5⟩
    have HG5 := Lib.hid (HU2.out.later hb5)
    have HR5 := Lib.hid (HR2.out.later hb5)
    have HS5 := Lib.hid hb5.size
    clear hb5 v0 v1 v2 y0 y1 y2 y3 y4 e0 e1 e2 f0 f1 f2
    have v0 : w5.cell? ⟨w.heap.size, 0, none⟩ = some (.slice ab nb kb) := cell_of_heap HG5.out.bv 0
    have v1 : w5.cell? ⟨w.heap.size, 1, none⟩ = some (.slice ar2 nr2 kr2) := cell_of_heap HG5.out.bv 1
    have v2 : w5.cell? ⟨w.heap.size, 2, none⟩ = some (.slice ac nc kc) := cell_of_heap HG5.out.bv 2
    have y0 : w5.cell? ⟨w.heap.size + 1, 0, none⟩ = some (.int .i64 b1) := cell_of_heap HG5.out.b2 0
    have y1 : w5.cell? ⟨w.heap.size + 1, 1, none⟩ = some (.string b2) := cell_of_heap HG5.out.b2 1
    have y2 : w5.cell? ⟨w.heap.size + 1, 2, none⟩ = some (.int .i64 b3) := cell_of_heap HG5.out.b2 2
    have y3 : w5.cell? ⟨w.heap.size + 1, 3, none⟩ = some (.int .i64 b4) := cell_of_heap HG5.out.b2 3
    have y4 : w5.cell? ⟨w.heap.size + 1, 4, none⟩ = some (.string b5) := cell_of_heap HG5.out.b2 4
    have e0 : w5.cell? ⟨w.heap.size + 1 + 1, 0, none⟩ = some (.slice none 0 0) := cell_of_heap HG5.out.br 0
    have e1 : w5.cell? ⟨w.heap.size + 1 + 1, 1, none⟩ = some (.slice none 0 0) := cell_of_heap HG5.out.br 1
    have e2 : w5.cell? ⟨w.heap.size + 1 + 1, 2, none⟩ = some (.slice none 0 0) := cell_of_heap HG5.out.br 2
    have f0 : w5.frozen? ⟨w.heap.size + 1 + 1, 0, none⟩ = false := frozen_of_heap HG5.out.br 0
    have f1 : w5.frozen? ⟨w.heap.size + 1 + 1, 1, none⟩ = false := frozen_of_heap HG5.out.br 1
    have f2 : w5.frozen? ⟨w.heap.size + 1 + 1, 2, none⟩ = false := frozen_of_heap HG5.out.br 2
    go_wp2
    refine bodyPost_ret (v := .tuple #[.agg #[.slice ab nb kb, .slice ar2 nr2 kr2, .slice ac nc kc], .string gx, .bool gy]) (by simp [results, Tryz.results39, go_sem, e0, e1, e2]) rfl ?_
    have hbe := HG5.out.end3 (.slice ab nb kb) (.slice ar2 nr2 kr2) (.slice ac nc kc)
    have hgr := grown_trans (grown_trans (grown_setCell w5 (w.heap.size + 1 + 1) 0 (.slice ab nb kb)) (grown_setCell _ (w.heap.size + 1 + 1) 1 (.slice ar2 nr2 kr2))) (grown_setCell _ (w.heap.size + 1 + 1) 2 (.slice ac nc kc))
    exact rget_post HRes.out (HR5.out.grown hgr (fun k hk e => by have := (HO2.out k hk).1; cases e; omega)) (fun k hk => .inr ⟨by have := (HO2.out k hk).1; omega, by have h1 := (HO2.out k hk).2; have h2 := HS5.out; have h3 := hgr.size; omega⟩) hbe
end Go.Proofs.YthghfhnicdoebaaGreatDoor

namespace Go.Proofs.YthghfhnicdoebaaGreatDoor
open Go.RowKit

def callR (cs : List ChangeT) (c : ChangeT) : List ChangeT × Int := if checkE c.name ≠ 0 then (cs, 12) else if c.absent = true then (cs ++ [⟨c.name, ⟨#[]⟩, true⟩], 0) else (cs ++ [c], 0)
def rolR (cs : List ChangeT) (m : Int) : List ChangeT × Int := if m < 0 ∨ (cs.length : Int) < m then (cs, 2) else (cs.take m.toNat, 0)
/-- What Call and Rollback leave. -/
def RCallPost (q : List ChangeT × Int) (vb vr vc : Value) (w : World) (r : Ending) (w' : World) : Prop :=
  ∃ vc', r = .returned (.tuple #[.agg #[vb, vr, vc'], .int .i64 q.2]) ∧ RowK kC w' vc' q.1 ∧ Fresh w w' vc vc' ∧ Below w.heap.size w w' ∧ ∃ a m c, vc' = .slice a m c
theorem rcall_post {q : List ChangeT × Int} {cs' : List ChangeT} {e : Int} {vb vr vc vc' : Value} {w w' : World} (h : q = (cs', e)) (hr : RowK kC w' vc' cs') (hf : Fresh w w' vc vc') (hb : Below w.heap.size w w') : RCallPost q vb vr vc w (.returned (.tuple #[.agg #[vb, vr, vc'], .int .i64 e])) w' := by
  subst h
  refine ⟨vc', rfl, hr, hf, hb, ?_⟩
  obtain ⟨a, c, e, -⟩ := hr.form
  exact ⟨a, _, c, e⟩

set_option maxRecDepth 100000 in
set_option maxHeartbeats 3200000 in
theorem rc_bad (w : World) (ab ar ac : Option Addr) (nb nr nc kb kr kc : Nat) (cs : List ChangeT) (hc : RowK kC w (.slice ac nc kc) cs) (b1 : Int) (b2 : ByteArray) (b3 b4 : Int) (b5 b6 : ByteArray) (hf : FitN ⟨b1, b2, b3, b4, b5⟩) (b7 : Bool) (hq : checkE ⟨b1, b2, b3, b4, b5⟩ ≠ 0) :
    Calls Tryz.prog 40 #[.agg #[.slice ab nb kb, .slice ar nr kr, .slice ac nc kc], .agg #[.int .i64 b1, .string b2, .int .i64 b3, .int .i64 b4, .string b5, .string b6, .bool b7]] w (RCallPost (callR cs ⟨⟨b1, b2, b3, b4, b5⟩, b6, b7⟩) (.slice ab nb kb) (.slice ar nr kr) (.slice ac nc kc) w) := by
  have HG : Hid (GX w (((w.alloc (.cells #[.slice ab nb kb, .slice ar nr kr, .slice ac nc kc] 33)).alloc (.cells #[.int .i64 b1, .string b2, .int .i64 b3, .int .i64 b4, .string b5, .string b6, .bool b7] 40)).alloc (.cells #[.slice none 0 0, .slice none 0 0, .slice none 0 0] 33)) (.slice ab nb kb) (.slice ar nr kr) (.slice ac nc kc) #[.int .i64 b1, .string b2, .int .i64 b3, .int .i64 b4, .string b5, .string b6, .bool b7] 40) := GX.start w _ _ _ _ _
  have HR := Lib.hid hc
  obtain ⟨q, hq1⟩ : ∃ q, checkE ⟨b1, b2, b3, b4, b5⟩ = q := ⟨_, rfl⟩
  have HChk : Hid (∀ W, Calls Tryz.prog 72 #[.agg #[.int .i64 b1, .string b2, .int .i64 b3, .int .i64 b4, .string b5]] W fun r w' => r = .returned (.int .i64 q) ∧ Below W.heap.size W w') := fun W => rChk_is ⟨b1, b2, b3, b4, b5⟩ q hq1 hf W
  have HRes : Hid (callR cs ⟨⟨b1, b2, b3, b4, b5⟩, b6, b7⟩ = (cs, 12)) := if_pos hq
  rw [hq1] at hq
  obtain ⟨n1, n2⟩ := ne_bool hq
  clear hq hq1
  clear hc hf
  go_enter Tryz.func40, Tryz.ntmps40
  go_wp2_with fail
  generalize ((w.alloc (.cells #[.slice ab nb kb, .slice ar nr kr, .slice ac nc kc] 33)).alloc (.cells #[.int .i64 b1, .string b2, .int .i64 b3, .int .i64 b4, .string b5, .string b6, .bool b7] 40)).alloc (.cells #[.slice none 0 0, .slice none 0 0, .slice none 0 0] 33) = w1 at *
  refine (HChk.out w1).mono ?_
  rintro r w2 ⟨rfl, hb2⟩
  have HG2 := Lib.hid (HG.out.later hb2)
  clear hb2 HG
  have v0 : w2.cell? ⟨w.heap.size, 0, none⟩ = some (.slice ab nb kb) := cell_of_heap HG2.out.bv 0
  have v1 : w2.cell? ⟨w.heap.size, 1, none⟩ = some (.slice ar nr kr) := cell_of_heap HG2.out.bv 1
  have v2 : w2.cell? ⟨w.heap.size, 2, none⟩ = some (.slice ac nc kc) := cell_of_heap HG2.out.bv 2
  have y0 : w2.cell? ⟨w.heap.size + 1, 0, none⟩ = some (.int .i64 b1) := cell_of_heap HG2.out.b2 0
  have y1 : w2.cell? ⟨w.heap.size + 1, 1, none⟩ = some (.string b2) := cell_of_heap HG2.out.b2 1
  have y2 : w2.cell? ⟨w.heap.size + 1, 2, none⟩ = some (.int .i64 b3) := cell_of_heap HG2.out.b2 2
  have y3 : w2.cell? ⟨w.heap.size + 1, 3, none⟩ = some (.int .i64 b4) := cell_of_heap HG2.out.b2 3
  have y4 : w2.cell? ⟨w.heap.size + 1, 4, none⟩ = some (.string b5) := cell_of_heap HG2.out.b2 4
  have y5 : w2.cell? ⟨w.heap.size + 1, 5, none⟩ = some (.string b6) := cell_of_heap HG2.out.b2 5
  have y6 : w2.cell? ⟨w.heap.size + 1, 6, none⟩ = some (.bool b7) := cell_of_heap HG2.out.b2 6
  have e0 : w2.cell? ⟨w.heap.size + 1 + 1, 0, none⟩ = some (.slice none 0 0) := cell_of_heap HG2.out.br 0
  have e1 : w2.cell? ⟨w.heap.size + 1 + 1, 1, none⟩ = some (.slice none 0 0) := cell_of_heap HG2.out.br 1
  have e2 : w2.cell? ⟨w.heap.size + 1 + 1, 2, none⟩ = some (.slice none 0 0) := cell_of_heap HG2.out.br 2
  have f0 : w2.frozen? ⟨w.heap.size + 1 + 1, 0, none⟩ = false := frozen_of_heap HG2.out.br 0
  have f1 : w2.frozen? ⟨w.heap.size + 1 + 1, 1, none⟩ = false := frozen_of_heap HG2.out.br 1
  have f2 : w2.frozen? ⟨w.heap.size + 1 + 1, 2, none⟩ = false := frozen_of_heap HG2.out.br 2
  go_wp2
  refine bodyPost_ret (v := .tuple #[.agg #[.slice ab nb kb, .slice ar nr kr, .slice ac nc kc], .int .i64 12]) (by simp [results, Tryz.results40, go_sem, e0, e1, e2]) rfl ?_
  exact rcall_post HRes.out (HR.out.later (HG2.out.end3 _ _ _)) (fun k hk => .inl hk) (HG2.out.end3 _ _ _)

set_option maxRecDepth 100000 in
set_option maxHeartbeats 3200000 in
theorem rc_absent (w : World) (ab ar ac : Option Addr) (nb nr nc kb kr kc : Nat) (cs : List ChangeT) (hc : RowK kC w (.slice ac nc kc) cs) (b1 : Int) (b2 : ByteArray) (b3 b4 : Int) (b5 b6 : ByteArray) (hf : FitN ⟨b1, b2, b3, b4, b5⟩) (hq : checkE ⟨b1, b2, b3, b4, b5⟩ = 0) (hl3 : cs.length ≤ 100000)  :
    Calls Tryz.prog 40 #[.agg #[.slice ab nb kb, .slice ar nr kr, .slice ac nc kc], .agg #[.int .i64 b1, .string b2, .int .i64 b3, .int .i64 b4, .string b5, .string b6, .bool true]] w (RCallPost (callR cs ⟨⟨b1, b2, b3, b4, b5⟩, b6, true⟩) (.slice ab nb kb) (.slice ar nr kr) (.slice ac nc kc) w) := by
  have HG : Hid (GX w (((w.alloc (.cells #[.slice ab nb kb, .slice ar nr kr, .slice ac nc kc] 33)).alloc (.cells #[.int .i64 b1, .string b2, .int .i64 b3, .int .i64 b4, .string b5, .string b6, .bool true] 40)).alloc (.cells #[.slice none 0 0, .slice none 0 0, .slice none 0 0] 33)) (.slice ab nb kb) (.slice ar nr kr) (.slice ac nc kc) #[.int .i64 b1, .string b2, .int .i64 b3, .int .i64 b4, .string b5, .string b6, .bool true] 40) := GX.start w _ _ _ _ _
  have HR := Lib.hid hc
  have HChk : Hid (∀ W, Calls Tryz.prog 72 #[.agg #[.int .i64 b1, .string b2, .int .i64 b3, .int .i64 b4, .string b5]] W fun r w' => r = .returned (.int .i64 0) ∧ Below W.heap.size W w') := fun W => rChk_is ⟨b1, b2, b3, b4, b5⟩ 0 hq hf W
  have HRes : Hid (callR cs ⟨⟨b1, b2, b3, b4, b5⟩, b6, true⟩ = (cs ++ [⟨⟨b1, b2, b3, b4, b5⟩, ⟨#[]⟩, true⟩], 0)) := by show _ = _; unfold callR; rw [if_neg (by rw [hq]; decide)]; rfl
  have HLen1 : Hid (([] : List ChangeT).length + cs.length ≤ 1000000) := by show _ ≤ _; simp; omega
  have HLen2 : Hid (cs.length + [(⟨⟨b1, b2, b3, b4, b5⟩, ⟨#[]⟩, true⟩ : ChangeT)].length ≤ 1000000) := by show _ ≤ _; simp; omega
  clear hq hl3
  clear hc hf
  go_enter Tryz.func40, Tryz.ntmps40
  go_wp2_with fail
  generalize ((w.alloc (.cells #[.slice ab nb kb, .slice ar nr kr, .slice ac nc kc] 33)).alloc (.cells #[.int .i64 b1, .string b2, .int .i64 b3, .int .i64 b4, .string b5, .string b6, .bool true] 40)).alloc (.cells #[.slice none 0 0, .slice none 0 0, .slice none 0 0] 33) = w1 at *
  refine (HChk.out w1).mono ?_
  rintro r w2 ⟨rfl, hb2⟩
  have HG2 := Lib.hid (HG.out.later hb2)
  clear hb2 HG
  have v0 : w2.cell? ⟨w.heap.size, 0, none⟩ = some (.slice ab nb kb) := cell_of_heap HG2.out.bv 0
  have v1 : w2.cell? ⟨w.heap.size, 1, none⟩ = some (.slice ar nr kr) := cell_of_heap HG2.out.bv 1
  have v2 : w2.cell? ⟨w.heap.size, 2, none⟩ = some (.slice ac nc kc) := cell_of_heap HG2.out.bv 2
  have y0 : w2.cell? ⟨w.heap.size + 1, 0, none⟩ = some (.int .i64 b1) := cell_of_heap HG2.out.b2 0
  have y1 : w2.cell? ⟨w.heap.size + 1, 1, none⟩ = some (.string b2) := cell_of_heap HG2.out.b2 1
  have y2 : w2.cell? ⟨w.heap.size + 1, 2, none⟩ = some (.int .i64 b3) := cell_of_heap HG2.out.b2 2
  have y3 : w2.cell? ⟨w.heap.size + 1, 3, none⟩ = some (.int .i64 b4) := cell_of_heap HG2.out.b2 3
  have y4 : w2.cell? ⟨w.heap.size + 1, 4, none⟩ = some (.string b5) := cell_of_heap HG2.out.b2 4
  have y5 : w2.cell? ⟨w.heap.size + 1, 5, none⟩ = some (.string b6) := cell_of_heap HG2.out.b2 5
  have y6 : w2.cell? ⟨w.heap.size + 1, 6, none⟩ = some (.bool true) := cell_of_heap HG2.out.b2 6
  have e0 : w2.cell? ⟨w.heap.size + 1 + 1, 0, none⟩ = some (.slice none 0 0) := cell_of_heap HG2.out.br 0
  have e1 : w2.cell? ⟨w.heap.size + 1 + 1, 1, none⟩ = some (.slice none 0 0) := cell_of_heap HG2.out.br 1
  have e2 : w2.cell? ⟨w.heap.size + 1 + 1, 2, none⟩ = some (.slice none 0 0) := cell_of_heap HG2.out.br 2
  have f0 : w2.frozen? ⟨w.heap.size + 1 + 1, 0, none⟩ = false := frozen_of_heap HG2.out.br 0
  have f1 : w2.frozen? ⟨w.heap.size + 1 + 1, 1, none⟩ = false := frozen_of_heap HG2.out.br 1
  have f2 : w2.frozen? ⟨w.heap.size + 1 + 1, 2, none⟩ = false := frozen_of_heap HG2.out.br 2
  have HU := Lib.hid (HG2.out.put2 5 (.string ⟨#[]⟩) rfl)
  have fy5 : w2.frozen? ⟨w.heap.size + 1, 5, none⟩ = false := frozen_of_heap HG2.out.b2 5
  go_upto_region 7 with fail
  generalize w2.setCell ⟨w.heap.size + 1, 5, none⟩ (.string ⟨#[]⟩) = U at *
  clear HG2 fy5 v0 v1 v2 y0 y1 y2 y3 y4 y5 y6 e0 e1 e2 f0 f1 f2
  have v0 : U.cell? ⟨w.heap.size, 0, none⟩ = some (.slice ab nb kb) := cell_of_heap HU.out.bv 0
  have v1 : U.cell? ⟨w.heap.size, 1, none⟩ = some (.slice ar nr kr) := cell_of_heap HU.out.bv 1
  have v2 : U.cell? ⟨w.heap.size, 2, none⟩ = some (.slice ac nc kc) := cell_of_heap HU.out.bv 2
  have y0 : U.cell? ⟨w.heap.size + 1, 0, none⟩ = some (.int .i64 b1) := cell_of_heap HU.out.b2 0
  have y1 : U.cell? ⟨w.heap.size + 1, 1, none⟩ = some (.string b2) := cell_of_heap HU.out.b2 1
  have y2 : U.cell? ⟨w.heap.size + 1, 2, none⟩ = some (.int .i64 b3) := cell_of_heap HU.out.b2 2
  have y3 : U.cell? ⟨w.heap.size + 1, 3, none⟩ = some (.int .i64 b4) := cell_of_heap HU.out.b2 3
  have y4 : U.cell? ⟨w.heap.size + 1, 4, none⟩ = some (.string b5) := cell_of_heap HU.out.b2 4
  have y5 : U.cell? ⟨w.heap.size + 1, 5, none⟩ = some (.string ⟨#[]⟩) := cell_of_heap HU.out.b2 5
  have y6 : U.cell? ⟨w.heap.size + 1, 6, none⟩ = some (.bool true) := cell_of_heap HU.out.b2 6
  obtain ⟨l0, l1, l2, l3, l4, g0, g1, g2, g3, g4⟩ := HU.out.lt
  have HRU : Hid (RowK kC U (.slice ac nc kc) cs) := HR.out.later HU.out.below
  have N0 : Hid (∀ o, (U.alloc o).drew.heap[U.heap.size]? = some o) := fun o => heap_alloc_new U o
  have N1 : Hid (∀ o o', ((U.alloc o).alloc o').drew.heap[U.heap.size]? = some o) := fun o o' => (Below.heap_alloc _ _ _ (by simp)).trans (heap_alloc_new U o)
  have N2 : Hid (∀ o o', ((U.alloc o).alloc o').drew.heap[U.heap.size + 1]? = some o') := fun o o' => by
    have h := heap_alloc_new (U.alloc o) o'
    rwa [World.size_alloc] at h
  have B1 : Hid (∀ o, Below U.heap.size U (U.alloc o).drew) := fun o => ((Below.refl _ _).alloc (Nat.le_refl _) _).drew
  have B2 : Hid (∀ o o', Below U.heap.size U ((U.alloc o).alloc o').drew) := fun o o' => (((Below.refl _ _).alloc (Nat.le_refl _) _).alloc (by simp) _).drew
  have hub : U.heap.size ≤ U.heap.size := Nat.le_refl _
  have hub1 : U.heap.size ≤ U.heap.size + 1 := Nat.le_succ _
  go_cut [25] (fun v wx => Hid (GX w wx (.slice ab nb kb) (.slice ar nr kr) v #[.int .i64 b1, .string b2, .int .i64 b3, .int .i64 b4, .string b5, .string ⟨#[]⟩, .bool true] 40 ∧ RowK kC wx v (cs ++ [⟨⟨b1, b2, b3, b4, b5⟩, ⟨#[]⟩, true⟩]) ∧ ∀ k, v.ownBlock = some k → w.heap.size + 1 + 1 < k ∧ k < wx.heap.size))
  case first =>
    go_region_law (first
      | (refine step_append_K (K := kC) (by rfl) _ _ (by rfl) U.heap.size (.slice (some ⟨U.heap.size, 0, none⟩) 0 0) [] (by rfl) (OwnK.empty (N1.out _ _) hub) (.slice ac nc kc) cs (by rfl) (HRU.out.later (B2.out _ _)) HLen1.out (B2.out _ _).size ?_; intro vq wq hrowq hgq hatq; have Rq : Hid (OwnK kC U.heap.size wq vq cs) := hrowq; have Bq : Hid (Below U.heap.size U wq) := below_grow (B2.out _ _) hgq (Nat.le_refl _) (fun k hk => by have hk : U.heap.size = k := Option.some.inj hk; omega); have HGq := Lib.hid (HU.out.later Bq.out); have HPk : Hid (wq.heap[U.heap.size + 1]? = some (.cells #[.int .i64 b1, .string b2, .int .i64 b3, .int .i64 b4, .string b5, .string ⟨#[]⟩, .bool true] 40 (0, 0))) := (hgq.block _ (by simp <;> omega) (fun e => by have e : U.heap.size + 1 = U.heap.size := Option.some.inj e; omega)).trans (N2.out _ _); have p0 := cell_of_heap HGq.out.bv 0; have p1 := cell_of_heap HGq.out.bv 1; have p2 := cell_of_heap HGq.out.bv 2; have q0 := cell_of_heap HGq.out.b2 0; have q1 := cell_of_heap HGq.out.b2 1; have q2 := cell_of_heap HGq.out.b2 2; have q3 := cell_of_heap HGq.out.b2 3; have q4 := cell_of_heap HGq.out.b2 4; have q5 := cell_of_heap HGq.out.b2 5; have q6 := cell_of_heap HGq.out.b2 6; obtain ⟨lq0, lq1, lq2, lq3, lq4, gq0, gq1, gq2, gq3, gq4⟩ := HGq.out.lt; clear hrowq hgq hatq)
      | (refine step_append_K (K := kC) (by rfl) _ _ (by rfl) U.heap.size (.slice (some ⟨U.heap.size + 1, 0, none⟩) 0 0) [] (by rfl) (OwnK.empty (N2.out _ _) hub1) (.slice ac nc kc) cs (by rfl) (HRU.out.later (B2.out _ _)) HLen1.out (B2.out _ _).size ?_; intro vq wq hrowq hgq hatq; have Rq : Hid (OwnK kC U.heap.size wq vq cs) := hrowq; have Bq : Hid (Below U.heap.size U wq) := below_grow (B2.out _ _) hgq (Nat.le_refl _) (fun k hk => by have hk : U.heap.size + 1 = k := Option.some.inj hk; omega); have HGq := Lib.hid (HU.out.later Bq.out); have HPk : Hid (wq.heap[U.heap.size]? = some (.cells #[.int .i64 b1, .string b2, .int .i64 b3, .int .i64 b4, .string b5, .string ⟨#[]⟩, .bool true] 40 (0, 0))) := (hgq.block _ (by simp <;> omega) (fun e => by have e : U.heap.size = U.heap.size + 1 := Option.some.inj e; omega)).trans (N1.out _ _); have p0 := cell_of_heap HGq.out.bv 0; have p1 := cell_of_heap HGq.out.bv 1; have p2 := cell_of_heap HGq.out.bv 2; have q0 := cell_of_heap HGq.out.b2 0; have q1 := cell_of_heap HGq.out.b2 1; have q2 := cell_of_heap HGq.out.b2 2; have q3 := cell_of_heap HGq.out.b2 3; have q4 := cell_of_heap HGq.out.b2 4; have q5 := cell_of_heap HGq.out.b2 5; have q6 := cell_of_heap HGq.out.b2 6; obtain ⟨lq0, lq1, lq2, lq3, lq4, gq0, gq1, gq2, gq3, gq4⟩ := HGq.out.lt; clear hrowq hgq hatq)
      | (refine step_append_K (K := kC) (by rfl) _ _ (by rfl) U.heap.size (.slice (some ⟨U.heap.size, 0, none⟩) 0 0) [] (by rfl) (OwnK.empty (N0.out _) hub) (.slice ac nc kc) cs (by rfl) (HRU.out.later (B1.out _)) HLen1.out (B1.out _).size ?_; intro vq wq hrowq hgq hatq; have Rq : Hid (OwnK kC U.heap.size wq vq cs) := hrowq; have Bq : Hid (Below U.heap.size U wq) := below_grow (B1.out _) hgq (Nat.le_refl _) (fun k hk => by have hk : U.heap.size = k := Option.some.inj hk; omega); have HGq := Lib.hid (HU.out.later Bq.out); have p0 := cell_of_heap HGq.out.bv 0; have p1 := cell_of_heap HGq.out.bv 1; have p2 := cell_of_heap HGq.out.bv 2; have q0 := cell_of_heap HGq.out.b2 0; have q1 := cell_of_heap HGq.out.b2 1; have q2 := cell_of_heap HGq.out.b2 2; have q3 := cell_of_heap HGq.out.b2 3; have q4 := cell_of_heap HGq.out.b2 4; have q5 := cell_of_heap HGq.out.b2 5; have q6 := cell_of_heap HGq.out.b2 6; obtain ⟨lq0, lq1, lq2, lq3, lq4, gq0, gq1, gq2, gq3, gq4⟩ := HGq.out.lt; clear hrowq hgq hatq)
      | (refine step_append_K (K := kC) (by rfl) _ _ (by rfl) U.heap.size vq cs (by rfl) Rq.out (.slice (some ⟨_, 0, none⟩) 1 1) [⟨⟨b1, b2, b3, b4, b5⟩, ⟨#[]⟩, true⟩] (by rfl) (RowK.one HPk.out rfl) HLen2.out Bq.out.size ?_; intro vs ws hrows hgs hats; obtain ⟨sa, sn, sk, rfl⟩ := hrows.slice; have Rs := Lib.hid (id hrows); have Bs : Hid (Below U.heap.size U ws) := OwnK.below Rq.out hgs Bq.out (Nat.le_refl _); have HGs := Lib.hid (HU.out.later Bs.out); have s0 := cell_of_heap HGs.out.bv 2; have s1 := frozen_of_heap HGs.out.bv 2; clear hrows hgs hats)
      | (refine step_append_K (K := kC) (by rfl) _ _ (by rfl) U.heap.size vq cs (by rfl) (Rq.out.later ((Below.refl _ _).alloc (Nat.le_refl _) _)) (.slice (some ⟨wq.heap.size, 0, none⟩) 1 1) [⟨⟨b1, b2, b3, b4, b5⟩, ⟨#[]⟩, true⟩] (by rfl) (RowK.one (heap_alloc_new wq _) rfl) HLen2.out (Bq.out.alloc Bq.out.size _).size ?_; intro vs ws hrows hgs hats; obtain ⟨sa, sn, sk, rfl⟩ := hrows.slice; have Rs := Lib.hid (id hrows); have Bs : Hid (Below U.heap.size U ws) := OwnK.below (Rq.out.later ((Below.refl _ _).alloc (Nat.le_refl _) _)) hgs (Bq.out.alloc Bq.out.size _) (Nat.le_refl _); have HGs := Lib.hid (HU.out.later Bs.out); have s0 := cell_of_heap HGs.out.bv 2; have s1 := frozen_of_heap HGs.out.bv 2; clear hrows hgs hats)
      | fail)
    all_goals
      go_wp2
      go_meet
      exact Lib.hid ⟨HGs.out.put 2 _ rfl, (own_stored Rs.out l2 2 _).1, (own_stored Rs.out l2 2 _).2⟩
  case rest =>
    obtain ⟨hg, hr, ho⟩ := hcut
    have HU2 := Lib.hid hg
    have HR2 := Lib.hid hr
    have HO2 := Lib.hid ho
    clear hg hr ho N0 N1 N2 B1 B2 HRU HU
    clear v0 v1 v2 y0 y1 y2 y3 y4 y5 y6 l0 l1 l2 l3 l4 g0 g1 g2 g3 g4
    obtain ⟨ac2, kc2, rfl, -, -⟩ := HR2.out.form
    generalize (cs ++ [(⟨⟨b1, b2, b3, b4, b5⟩, ⟨#[]⟩, true⟩ : ChangeT)]).length = nc2 at *
    have v0 : wc.cell? ⟨w.heap.size, 0, none⟩ = some (.slice ab nb kb) := cell_of_heap HU2.out.bv 0
    have v1 : wc.cell? ⟨w.heap.size, 1, none⟩ = some (.slice ar nr kr) := cell_of_heap HU2.out.bv 1
    have v2 : wc.cell? ⟨w.heap.size, 2, none⟩ = some (.slice ac2 nc2 kc2) := cell_of_heap HU2.out.bv 2
    have y0 : wc.cell? ⟨w.heap.size + 1, 0, none⟩ = some (.int .i64 b1) := cell_of_heap HU2.out.b2 0
    have y1 : wc.cell? ⟨w.heap.size + 1, 1, none⟩ = some (.string b2) := cell_of_heap HU2.out.b2 1
    have y2 : wc.cell? ⟨w.heap.size + 1, 2, none⟩ = some (.int .i64 b3) := cell_of_heap HU2.out.b2 2
    have y3 : wc.cell? ⟨w.heap.size + 1, 3, none⟩ = some (.int .i64 b4) := cell_of_heap HU2.out.b2 3
    have y4 : wc.cell? ⟨w.heap.size + 1, 4, none⟩ = some (.string b5) := cell_of_heap HU2.out.b2 4
    have y5 : wc.cell? ⟨w.heap.size + 1, 5, none⟩ = some (.string ⟨#[]⟩) := cell_of_heap HU2.out.b2 5
    have y6 : wc.cell? ⟨w.heap.size + 1, 6, none⟩ = some (.bool true) := cell_of_heap HU2.out.b2 6
    have e0 : wc.cell? ⟨w.heap.size + 1 + 1, 0, none⟩ = some (.slice none 0 0) := cell_of_heap HU2.out.br 0
    have e1 : wc.cell? ⟨w.heap.size + 1 + 1, 1, none⟩ = some (.slice none 0 0) := cell_of_heap HU2.out.br 1
    have e2 : wc.cell? ⟨w.heap.size + 1 + 1, 2, none⟩ = some (.slice none 0 0) := cell_of_heap HU2.out.br 2
    have f0 : wc.frozen? ⟨w.heap.size + 1 + 1, 0, none⟩ = false := frozen_of_heap HU2.out.br 0
    have f1 : wc.frozen? ⟨w.heap.size + 1 + 1, 1, none⟩ = false := frozen_of_heap HU2.out.br 1
    have f2 : wc.frozen? ⟨w.heap.size + 1 + 1, 2, none⟩ = false := frozen_of_heap HU2.out.br 2
    go_wp2
    refine bodyPost_ret (v := .tuple #[.agg #[.slice ab nb kb, .slice ar nr kr, .slice ac2 nc2 kc2], .int .i64 0]) (by simp [results, Tryz.results40, go_sem, e0, e1, e2]) rfl ?_
    have hbe := HU2.out.end3 (.slice ab nb kb) (.slice ar nr kr) (.slice ac2 nc2 kc2)
    have hgr := grown_trans (grown_trans (grown_setCell wc (w.heap.size + 1 + 1) 0 (.slice ab nb kb)) (grown_setCell _ (w.heap.size + 1 + 1) 1 (.slice ar nr kr))) (grown_setCell _ (w.heap.size + 1 + 1) 2 (.slice ac2 nc2 kc2))
    exact rcall_post HRes.out (HR2.out.grown hgr (fun k hk e => by have := (HO2.out k hk).1; cases e; omega)) (fun k hk => .inr ⟨by have := (HO2.out k hk).1; omega, by have h1 := (HO2.out k hk).2; have h3 := hgr.size; omega⟩) hbe

set_option maxRecDepth 100000 in
set_option maxHeartbeats 3200000 in
theorem rc_there (w : World) (ab ar ac : Option Addr) (nb nr nc kb kr kc : Nat) (cs : List ChangeT) (hc : RowK kC w (.slice ac nc kc) cs) (b1 : Int) (b2 : ByteArray) (b3 b4 : Int) (b5 b6 : ByteArray) (hf : FitN ⟨b1, b2, b3, b4, b5⟩) (hq : checkE ⟨b1, b2, b3, b4, b5⟩ = 0) (hl3 : cs.length ≤ 100000) (hx : ¬ 65536 < b6.size) :
    Calls Tryz.prog 40 #[.agg #[.slice ab nb kb, .slice ar nr kr, .slice ac nc kc], .agg #[.int .i64 b1, .string b2, .int .i64 b3, .int .i64 b4, .string b5, .string b6, .bool false]] w (RCallPost (callR cs ⟨⟨b1, b2, b3, b4, b5⟩, b6, false⟩) (.slice ab nb kb) (.slice ar nr kr) (.slice ac nc kc) w) := by
  have HG : Hid (GX w (((w.alloc (.cells #[.slice ab nb kb, .slice ar nr kr, .slice ac nc kc] 33)).alloc (.cells #[.int .i64 b1, .string b2, .int .i64 b3, .int .i64 b4, .string b5, .string b6, .bool false] 40)).alloc (.cells #[.slice none 0 0, .slice none 0 0, .slice none 0 0] 33)) (.slice ab nb kb) (.slice ar nr kr) (.slice ac nc kc) #[.int .i64 b1, .string b2, .int .i64 b3, .int .i64 b4, .string b5, .string b6, .bool false] 40) := GX.start w _ _ _ _ _
  have HR := Lib.hid hc
  have HChk : Hid (∀ W, Calls Tryz.prog 72 #[.agg #[.int .i64 b1, .string b2, .int .i64 b3, .int .i64 b4, .string b5]] W fun r w' => r = .returned (.int .i64 0) ∧ Below W.heap.size W w') := fun W => rChk_is ⟨b1, b2, b3, b4, b5⟩ 0 hq hf W
  have HRes : Hid (callR cs ⟨⟨b1, b2, b3, b4, b5⟩, b6, false⟩ = (cs ++ [⟨⟨b1, b2, b3, b4, b5⟩, b6, false⟩], 0)) := by show _ = _; unfold callR; rw [if_neg (by rw [hq]; decide)]; rfl
  have HLen1 : Hid (([] : List ChangeT).length + cs.length ≤ 1000000) := by show _ ≤ _; simp; omega
  have HLen2 : Hid (cs.length + [(⟨⟨b1, b2, b3, b4, b5⟩, b6, false⟩ : ChangeT)].length ≤ 1000000) := by show _ ≤ _; simp; omega
  clear hq hl3
  clear hc hf
  go_enter Tryz.func40, Tryz.ntmps40
  go_wp2_with fail
  generalize ((w.alloc (.cells #[.slice ab nb kb, .slice ar nr kr, .slice ac nc kc] 33)).alloc (.cells #[.int .i64 b1, .string b2, .int .i64 b3, .int .i64 b4, .string b5, .string b6, .bool false] 40)).alloc (.cells #[.slice none 0 0, .slice none 0 0, .slice none 0 0] 33) = w1 at *
  refine (HChk.out w1).mono ?_
  rintro r w2 ⟨rfl, hb2⟩
  have HG2 := Lib.hid (HG.out.later hb2)
  clear hb2 HG
  have v0 : w2.cell? ⟨w.heap.size, 0, none⟩ = some (.slice ab nb kb) := cell_of_heap HG2.out.bv 0
  have v1 : w2.cell? ⟨w.heap.size, 1, none⟩ = some (.slice ar nr kr) := cell_of_heap HG2.out.bv 1
  have v2 : w2.cell? ⟨w.heap.size, 2, none⟩ = some (.slice ac nc kc) := cell_of_heap HG2.out.bv 2
  have y0 : w2.cell? ⟨w.heap.size + 1, 0, none⟩ = some (.int .i64 b1) := cell_of_heap HG2.out.b2 0
  have y1 : w2.cell? ⟨w.heap.size + 1, 1, none⟩ = some (.string b2) := cell_of_heap HG2.out.b2 1
  have y2 : w2.cell? ⟨w.heap.size + 1, 2, none⟩ = some (.int .i64 b3) := cell_of_heap HG2.out.b2 2
  have y3 : w2.cell? ⟨w.heap.size + 1, 3, none⟩ = some (.int .i64 b4) := cell_of_heap HG2.out.b2 3
  have y4 : w2.cell? ⟨w.heap.size + 1, 4, none⟩ = some (.string b5) := cell_of_heap HG2.out.b2 4
  have y5 : w2.cell? ⟨w.heap.size + 1, 5, none⟩ = some (.string b6) := cell_of_heap HG2.out.b2 5
  have y6 : w2.cell? ⟨w.heap.size + 1, 6, none⟩ = some (.bool false) := cell_of_heap HG2.out.b2 6
  have e0 : w2.cell? ⟨w.heap.size + 1 + 1, 0, none⟩ = some (.slice none 0 0) := cell_of_heap HG2.out.br 0
  have e1 : w2.cell? ⟨w.heap.size + 1 + 1, 1, none⟩ = some (.slice none 0 0) := cell_of_heap HG2.out.br 1
  have e2 : w2.cell? ⟨w.heap.size + 1 + 1, 2, none⟩ = some (.slice none 0 0) := cell_of_heap HG2.out.br 2
  have f0 : w2.frozen? ⟨w.heap.size + 1 + 1, 0, none⟩ = false := frozen_of_heap HG2.out.br 0
  have f1 : w2.frozen? ⟨w.heap.size + 1 + 1, 1, none⟩ = false := frozen_of_heap HG2.out.br 1
  have f2 : w2.frozen? ⟨w.heap.size + 1 + 1, 2, none⟩ = false := frozen_of_heap HG2.out.br 2
  have HU := HG2
  go_upto_region 7 with fail
  generalize w2 = U at *
  clear HG2 v0 v1 v2 y0 y1 y2 y3 y4 y5 y6 e0 e1 e2 f0 f1 f2
  have v0 : U.cell? ⟨w.heap.size, 0, none⟩ = some (.slice ab nb kb) := cell_of_heap HU.out.bv 0
  have v1 : U.cell? ⟨w.heap.size, 1, none⟩ = some (.slice ar nr kr) := cell_of_heap HU.out.bv 1
  have v2 : U.cell? ⟨w.heap.size, 2, none⟩ = some (.slice ac nc kc) := cell_of_heap HU.out.bv 2
  have y0 : U.cell? ⟨w.heap.size + 1, 0, none⟩ = some (.int .i64 b1) := cell_of_heap HU.out.b2 0
  have y1 : U.cell? ⟨w.heap.size + 1, 1, none⟩ = some (.string b2) := cell_of_heap HU.out.b2 1
  have y2 : U.cell? ⟨w.heap.size + 1, 2, none⟩ = some (.int .i64 b3) := cell_of_heap HU.out.b2 2
  have y3 : U.cell? ⟨w.heap.size + 1, 3, none⟩ = some (.int .i64 b4) := cell_of_heap HU.out.b2 3
  have y4 : U.cell? ⟨w.heap.size + 1, 4, none⟩ = some (.string b5) := cell_of_heap HU.out.b2 4
  have y5 : U.cell? ⟨w.heap.size + 1, 5, none⟩ = some (.string b6) := cell_of_heap HU.out.b2 5
  have y6 : U.cell? ⟨w.heap.size + 1, 6, none⟩ = some (.bool false) := cell_of_heap HU.out.b2 6
  obtain ⟨l0, l1, l2, l3, l4, g0, g1, g2, g3, g4⟩ := HU.out.lt
  have HRU : Hid (RowK kC U (.slice ac nc kc) cs) := HR.out.later HU.out.below
  have N0 : Hid (∀ o, (U.alloc o).drew.heap[U.heap.size]? = some o) := fun o => heap_alloc_new U o
  have N1 : Hid (∀ o o', ((U.alloc o).alloc o').drew.heap[U.heap.size]? = some o) := fun o o' => (Below.heap_alloc _ _ _ (by simp)).trans (heap_alloc_new U o)
  have N2 : Hid (∀ o o', ((U.alloc o).alloc o').drew.heap[U.heap.size + 1]? = some o') := fun o o' => by
    have h := heap_alloc_new (U.alloc o) o'
    rwa [World.size_alloc] at h
  have B1 : Hid (∀ o, Below U.heap.size U (U.alloc o).drew) := fun o => ((Below.refl _ _).alloc (Nat.le_refl _) _).drew
  have B2 : Hid (∀ o o', Below U.heap.size U ((U.alloc o).alloc o').drew) := fun o o' => (((Below.refl _ _).alloc (Nat.le_refl _) _).alloc (by simp) _).drew
  have hub : U.heap.size ≤ U.heap.size := Nat.le_refl _
  have hub1 : U.heap.size ≤ U.heap.size + 1 := Nat.le_succ _
  go_cut [25] (fun v wx => Hid (GX w wx (.slice ab nb kb) (.slice ar nr kr) v #[.int .i64 b1, .string b2, .int .i64 b3, .int .i64 b4, .string b5, .string b6, .bool false] 40 ∧ RowK kC wx v (cs ++ [⟨⟨b1, b2, b3, b4, b5⟩, b6, false⟩]) ∧ ∀ k, v.ownBlock = some k → w.heap.size + 1 + 1 < k ∧ k < wx.heap.size))
  case first =>
    go_region_law (first
      | (refine step_append_K (K := kC) (by rfl) _ _ (by rfl) U.heap.size (.slice (some ⟨U.heap.size, 0, none⟩) 0 0) [] (by rfl) (OwnK.empty (N1.out _ _) hub) (.slice ac nc kc) cs (by rfl) (HRU.out.later (B2.out _ _)) HLen1.out (B2.out _ _).size ?_; intro vq wq hrowq hgq hatq; have Rq : Hid (OwnK kC U.heap.size wq vq cs) := hrowq; have Bq : Hid (Below U.heap.size U wq) := below_grow (B2.out _ _) hgq (Nat.le_refl _) (fun k hk => by have hk : U.heap.size = k := Option.some.inj hk; omega); have HGq := Lib.hid (HU.out.later Bq.out); have HPk : Hid (wq.heap[U.heap.size + 1]? = some (.cells #[.int .i64 b1, .string b2, .int .i64 b3, .int .i64 b4, .string b5, .string b6, .bool false] 40 (0, 0))) := (hgq.block _ (by simp <;> omega) (fun e => by have e : U.heap.size + 1 = U.heap.size := Option.some.inj e; omega)).trans (N2.out _ _); have p0 := cell_of_heap HGq.out.bv 0; have p1 := cell_of_heap HGq.out.bv 1; have p2 := cell_of_heap HGq.out.bv 2; have q0 := cell_of_heap HGq.out.b2 0; have q1 := cell_of_heap HGq.out.b2 1; have q2 := cell_of_heap HGq.out.b2 2; have q3 := cell_of_heap HGq.out.b2 3; have q4 := cell_of_heap HGq.out.b2 4; have q5 := cell_of_heap HGq.out.b2 5; have q6 := cell_of_heap HGq.out.b2 6; obtain ⟨lq0, lq1, lq2, lq3, lq4, gq0, gq1, gq2, gq3, gq4⟩ := HGq.out.lt; clear hrowq hgq hatq)
      | (refine step_append_K (K := kC) (by rfl) _ _ (by rfl) U.heap.size (.slice (some ⟨U.heap.size + 1, 0, none⟩) 0 0) [] (by rfl) (OwnK.empty (N2.out _ _) hub1) (.slice ac nc kc) cs (by rfl) (HRU.out.later (B2.out _ _)) HLen1.out (B2.out _ _).size ?_; intro vq wq hrowq hgq hatq; have Rq : Hid (OwnK kC U.heap.size wq vq cs) := hrowq; have Bq : Hid (Below U.heap.size U wq) := below_grow (B2.out _ _) hgq (Nat.le_refl _) (fun k hk => by have hk : U.heap.size + 1 = k := Option.some.inj hk; omega); have HGq := Lib.hid (HU.out.later Bq.out); have HPk : Hid (wq.heap[U.heap.size]? = some (.cells #[.int .i64 b1, .string b2, .int .i64 b3, .int .i64 b4, .string b5, .string b6, .bool false] 40 (0, 0))) := (hgq.block _ (by simp <;> omega) (fun e => by have e : U.heap.size = U.heap.size + 1 := Option.some.inj e; omega)).trans (N1.out _ _); have p0 := cell_of_heap HGq.out.bv 0; have p1 := cell_of_heap HGq.out.bv 1; have p2 := cell_of_heap HGq.out.bv 2; have q0 := cell_of_heap HGq.out.b2 0; have q1 := cell_of_heap HGq.out.b2 1; have q2 := cell_of_heap HGq.out.b2 2; have q3 := cell_of_heap HGq.out.b2 3; have q4 := cell_of_heap HGq.out.b2 4; have q5 := cell_of_heap HGq.out.b2 5; have q6 := cell_of_heap HGq.out.b2 6; obtain ⟨lq0, lq1, lq2, lq3, lq4, gq0, gq1, gq2, gq3, gq4⟩ := HGq.out.lt; clear hrowq hgq hatq)
      | (refine step_append_K (K := kC) (by rfl) _ _ (by rfl) U.heap.size (.slice (some ⟨U.heap.size, 0, none⟩) 0 0) [] (by rfl) (OwnK.empty (N0.out _) hub) (.slice ac nc kc) cs (by rfl) (HRU.out.later (B1.out _)) HLen1.out (B1.out _).size ?_; intro vq wq hrowq hgq hatq; have Rq : Hid (OwnK kC U.heap.size wq vq cs) := hrowq; have Bq : Hid (Below U.heap.size U wq) := below_grow (B1.out _) hgq (Nat.le_refl _) (fun k hk => by have hk : U.heap.size = k := Option.some.inj hk; omega); have HGq := Lib.hid (HU.out.later Bq.out); have p0 := cell_of_heap HGq.out.bv 0; have p1 := cell_of_heap HGq.out.bv 1; have p2 := cell_of_heap HGq.out.bv 2; have q0 := cell_of_heap HGq.out.b2 0; have q1 := cell_of_heap HGq.out.b2 1; have q2 := cell_of_heap HGq.out.b2 2; have q3 := cell_of_heap HGq.out.b2 3; have q4 := cell_of_heap HGq.out.b2 4; have q5 := cell_of_heap HGq.out.b2 5; have q6 := cell_of_heap HGq.out.b2 6; obtain ⟨lq0, lq1, lq2, lq3, lq4, gq0, gq1, gq2, gq3, gq4⟩ := HGq.out.lt; clear hrowq hgq hatq)
      | (refine step_append_K (K := kC) (by rfl) _ _ (by rfl) U.heap.size vq cs (by rfl) Rq.out (.slice (some ⟨_, 0, none⟩) 1 1) [⟨⟨b1, b2, b3, b4, b5⟩, b6, false⟩] (by rfl) (RowK.one HPk.out rfl) HLen2.out Bq.out.size ?_; intro vs ws hrows hgs hats; obtain ⟨sa, sn, sk, rfl⟩ := hrows.slice; have Rs := Lib.hid (id hrows); have Bs : Hid (Below U.heap.size U ws) := OwnK.below Rq.out hgs Bq.out (Nat.le_refl _); have HGs := Lib.hid (HU.out.later Bs.out); have s0 := cell_of_heap HGs.out.bv 2; have s1 := frozen_of_heap HGs.out.bv 2; clear hrows hgs hats)
      | (refine step_append_K (K := kC) (by rfl) _ _ (by rfl) U.heap.size vq cs (by rfl) (Rq.out.later ((Below.refl _ _).alloc (Nat.le_refl _) _)) (.slice (some ⟨wq.heap.size, 0, none⟩) 1 1) [⟨⟨b1, b2, b3, b4, b5⟩, b6, false⟩] (by rfl) (RowK.one (heap_alloc_new wq _) rfl) HLen2.out (Bq.out.alloc Bq.out.size _).size ?_; intro vs ws hrows hgs hats; obtain ⟨sa, sn, sk, rfl⟩ := hrows.slice; have Rs := Lib.hid (id hrows); have Bs : Hid (Below U.heap.size U ws) := OwnK.below (Rq.out.later ((Below.refl _ _).alloc (Nat.le_refl _) _)) hgs (Bq.out.alloc Bq.out.size _) (Nat.le_refl _); have HGs := Lib.hid (HU.out.later Bs.out); have s0 := cell_of_heap HGs.out.bv 2; have s1 := frozen_of_heap HGs.out.bv 2; clear hrows hgs hats)
      | fail)
    all_goals
      go_wp2
      go_meet
      exact Lib.hid ⟨HGs.out.put 2 _ rfl, (own_stored Rs.out l2 2 _).1, (own_stored Rs.out l2 2 _).2⟩
  case rest =>
    obtain ⟨hg, hr, ho⟩ := hcut
    have HU2 := Lib.hid hg
    have HR2 := Lib.hid hr
    have HO2 := Lib.hid ho
    clear hg hr ho N0 N1 N2 B1 B2 HRU HU
    clear v0 v1 v2 y0 y1 y2 y3 y4 y5 y6 l0 l1 l2 l3 l4 g0 g1 g2 g3 g4
    obtain ⟨ac2, kc2, rfl, -, -⟩ := HR2.out.form
    generalize (cs ++ [(⟨⟨b1, b2, b3, b4, b5⟩, b6, false⟩ : ChangeT)]).length = nc2 at *
    have v0 : wc.cell? ⟨w.heap.size, 0, none⟩ = some (.slice ab nb kb) := cell_of_heap HU2.out.bv 0
    have v1 : wc.cell? ⟨w.heap.size, 1, none⟩ = some (.slice ar nr kr) := cell_of_heap HU2.out.bv 1
    have v2 : wc.cell? ⟨w.heap.size, 2, none⟩ = some (.slice ac2 nc2 kc2) := cell_of_heap HU2.out.bv 2
    have y0 : wc.cell? ⟨w.heap.size + 1, 0, none⟩ = some (.int .i64 b1) := cell_of_heap HU2.out.b2 0
    have y1 : wc.cell? ⟨w.heap.size + 1, 1, none⟩ = some (.string b2) := cell_of_heap HU2.out.b2 1
    have y2 : wc.cell? ⟨w.heap.size + 1, 2, none⟩ = some (.int .i64 b3) := cell_of_heap HU2.out.b2 2
    have y3 : wc.cell? ⟨w.heap.size + 1, 3, none⟩ = some (.int .i64 b4) := cell_of_heap HU2.out.b2 3
    have y4 : wc.cell? ⟨w.heap.size + 1, 4, none⟩ = some (.string b5) := cell_of_heap HU2.out.b2 4
    have y5 : wc.cell? ⟨w.heap.size + 1, 5, none⟩ = some (.string b6) := cell_of_heap HU2.out.b2 5
    have y6 : wc.cell? ⟨w.heap.size + 1, 6, none⟩ = some (.bool false) := cell_of_heap HU2.out.b2 6
    have e0 : wc.cell? ⟨w.heap.size + 1 + 1, 0, none⟩ = some (.slice none 0 0) := cell_of_heap HU2.out.br 0
    have e1 : wc.cell? ⟨w.heap.size + 1 + 1, 1, none⟩ = some (.slice none 0 0) := cell_of_heap HU2.out.br 1
    have e2 : wc.cell? ⟨w.heap.size + 1 + 1, 2, none⟩ = some (.slice none 0 0) := cell_of_heap HU2.out.br 2
    have f0 : wc.frozen? ⟨w.heap.size + 1 + 1, 0, none⟩ = false := frozen_of_heap HU2.out.br 0
    have f1 : wc.frozen? ⟨w.heap.size + 1 + 1, 1, none⟩ = false := frozen_of_heap HU2.out.br 1
    have f2 : wc.frozen? ⟨w.heap.size + 1 + 1, 2, none⟩ = false := frozen_of_heap HU2.out.br 2
    go_wp2
    refine bodyPost_ret (v := .tuple #[.agg #[.slice ab nb kb, .slice ar nr kr, .slice ac2 nc2 kc2], .int .i64 0]) (by simp [results, Tryz.results40, go_sem, e0, e1, e2]) rfl ?_
    have hbe := HU2.out.end3 (.slice ab nb kb) (.slice ar nr kr) (.slice ac2 nc2 kc2)
    have hgr := grown_trans (grown_trans (grown_setCell wc (w.heap.size + 1 + 1) 0 (.slice ab nb kb)) (grown_setCell _ (w.heap.size + 1 + 1) 1 (.slice ar nr kr))) (grown_setCell _ (w.heap.size + 1 + 1) 2 (.slice ac2 nc2 kc2))
    exact rcall_post HRes.out (HR2.out.grown hgr (fun k hk e => by have := (HO2.out k hk).1; cases e; omega)) (fun k hk => .inr ⟨by have := (HO2.out k hk).1; omega, by have h1 := (HO2.out k hk).2; have h3 := hgr.size; omega⟩) hbe

theorem rCall_any (w : World) (ab ar ac : Option Addr) (nb nr nc kb kr kc : Nat) (cs : List ChangeT) (hc : RowK kC w (.slice ac nc kc) cs) (b1 : Int) (b2 : ByteArray) (b3 b4 : Int) (b5 b6 : ByteArray) (b7 : Bool) (hf : FitN ⟨b1, b2, b3, b4, b5⟩) (hl3 : cs.length ≤ 100000) (hx : b6.size ≤ 65536) :
    Calls Tryz.prog 40 #[.agg #[.slice ab nb kb, .slice ar nr kr, .slice ac nc kc], .agg #[.int .i64 b1, .string b2, .int .i64 b3, .int .i64 b4, .string b5, .string b6, .bool b7]] w (RCallPost (callR cs ⟨⟨b1, b2, b3, b4, b5⟩, b6, b7⟩) (.slice ab nb kb) (.slice ar nr kr) (.slice ac nc kc) w) := by
  by_cases hq : checkE ⟨b1, b2, b3, b4, b5⟩ = 0
  · cases b7 with
    | true => exact rc_absent w ab ar ac nb nr nc kb kr kc cs hc b1 b2 b3 b4 b5 b6 hf hq hl3
    | false => exact rc_there w ab ar ac nb nr nc kb kr kc cs hc b1 b2 b3 b4 b5 b6 hf hq hl3 (by omega)
  · exact rc_bad w ab ar ac nb nr nc kb kr kc cs hc b1 b2 b3 b4 b5 b6 hf b7 hq


set_option maxRecDepth 100000 in
set_option maxHeartbeats 1600000 in
theorem rr_neg (w : World) (ab ar : Option Addr) (nb nr kb kr : Nat) (cs : List ChangeT) (ac : Option Addr) (nc kc : Nat) (hc : RowK kC w (.slice ac nc kc) cs) (m : Int) (hm : m < 0) :
    Calls Tryz.prog 42 #[.agg #[.slice ab nb kb, .slice ar nr kr, .slice ac nc kc], .int .i64 m] w (RCallPost (rolR cs m) (.slice ab nb kb) (.slice ar nr kr) (.slice ac nc kc) w) := by
  have HRes : Hid (rolR cs m = (cs, 2)) := if_pos (.inl hm)
  have HT := Lib.hid hc
  clear hc
  go_enter Tryz.func42, Tryz.ntmps42
  go_wp2
  refine bodyPost_ret (v := .tuple #[.agg #[.slice ab nb kb, .slice ar nr kr, .slice ac nc kc], .int .i64 2]) (by simp [results, Tryz.results42, go_sem]) rfl ?_
  exact rcall_post HRes.out (HT.out.later (((Below.refl _ _).alloc (Nat.le_refl _) _).alloc (by simp) _)) (fun k hk => .inl hk) (((Below.refl _ _).alloc (Nat.le_refl _) _).alloc (by simp) _)

set_option maxRecDepth 100000 in
set_option maxHeartbeats 1600000 in
theorem rr_high (w : World) (ab ar : Option Addr) (nb nr kb kr : Nat) (cs : List ChangeT) (ac : Option Addr) (nc kc : Nat) (hc : RowK kC w (.slice ac nc kc) cs) (m : Int) (hm0 : ¬ m < 0) (hm : (nc : Int) < m) :
    Calls Tryz.prog 42 #[.agg #[.slice ab nb kb, .slice ar nr kr, .slice ac nc kc], .int .i64 m] w (RCallPost (rolR cs m) (.slice ab nb kb) (.slice ar nr kr) (.slice ac nc kc) w) := by
  have HRes : Hid (rolR cs m = (cs, 2)) := if_pos (.inr (by have := hc.len; omega))
  have HT := Lib.hid hc
  clear hc
  go_enter Tryz.func42, Tryz.ntmps42
  go_wp2
  refine bodyPost_ret (v := .tuple #[.agg #[.slice ab nb kb, .slice ar nr kr, .slice ac nc kc], .int .i64 2]) (by simp [results, Tryz.results42, go_sem]) rfl ?_
  exact rcall_post HRes.out (HT.out.later (((Below.refl _ _).alloc (Nat.le_refl _) _).alloc (by simp) _)) (fun k hk => .inl hk) (((Below.refl _ _).alloc (Nat.le_refl _) _).alloc (by simp) _)

set_option maxRecDepth 100000 in
set_option maxHeartbeats 1600000 in
theorem rr_some (w : World) (ab ar : Option Addr) (nb nr kb kr : Nat) (cs : List ChangeT) (g off nc kc m : Nat) (hc : RowK kC w (.slice (some ⟨g, off, none⟩) nc kc) cs) (hm : m ≤ nc) (hmk : m ≤ kc) :
    Calls Tryz.prog 42 #[.agg #[.slice ab nb kb, .slice ar nr kr, .slice (some ⟨g, off, none⟩) nc kc], .int .i64 (m : Int)] w (RCallPost (rolR cs (m : Int)) (.slice ab nb kb) (.slice ar nr kr) (.slice (some ⟨g, off, none⟩) nc kc) w) := by
  have HRes : Hid (rolR cs m = (cs.take m, 0)) := by show _ = _; have := hc.len; unfold rolR; rw [if_neg (by omega), Int.toNat_natCast]
  have HT : Hid (RowK kC w (.slice (some ⟨g, off, none⟩) m kc) (cs.take m)) := hc.take hm
  clear hc
  go_enter Tryz.func42, Tryz.ntmps42
  go_wp2
  refine bodyPost_ret (v := .tuple #[.agg #[.slice ab nb kb, .slice ar nr kr, .slice (some ⟨g, off, none⟩) m kc], .int .i64 0]) (by simp [results, Tryz.results42, go_sem]) rfl ?_
  exact rcall_post HRes.out (HT.out.later (((Below.refl _ _).alloc (Nat.le_refl _) _).alloc (by simp) _)) (fun k hk => .inl hk) (((Below.refl _ _).alloc (Nat.le_refl _) _).alloc (by simp) _)

set_option maxRecDepth 100000 in
set_option maxHeartbeats 1600000 in
theorem rr_none (w : World) (ab ar : Option Addr) (nb nr kb kr : Nat) (cs : List ChangeT) (hc : RowK kC w (.slice none 0 0) cs) :
    Calls Tryz.prog 42 #[.agg #[.slice ab nb kb, .slice ar nr kr, .slice none 0 0], .int .i64 0] w (RCallPost (rolR cs 0) (.slice ab nb kb) (.slice ar nr kr) (.slice none 0 0) w) := by
  have HRes : Hid (rolR cs 0 = (cs, 0)) := by show _ = _; have := hc.len; unfold rolR; rw [if_neg (by omega)]; rw [List.length_eq_zero_iff.1 this]; rfl
  have HT := Lib.hid hc
  clear hc
  go_enter Tryz.func42, Tryz.ntmps42
  go_wp2
  refine bodyPost_ret (v := .tuple #[.agg #[.slice ab nb kb, .slice ar nr kr, .slice none 0 0], .int .i64 0]) (by simp [results, Tryz.results42, go_sem]) rfl ?_
  exact rcall_post HRes.out (HT.out.later (((Below.refl _ _).alloc (Nat.le_refl _) _).alloc (by simp) _)) (fun k hk => .inl hk) (((Below.refl _ _).alloc (Nat.le_refl _) _).alloc (by simp) _)

theorem rRol_any (w : World) (ab ar ac : Option Addr) (nb nr nc kb kr kc : Nat) (cs : List ChangeT) (hc : RowK kC w (.slice ac nc kc) cs) (m : Int) :
    Calls Tryz.prog 42 #[.agg #[.slice ab nb kb, .slice ar nr kr, .slice ac nc kc], .int .i64 m] w (RCallPost (rolR cs m) (.slice ab nb kb) (.slice ar nr kr) (.slice ac nc kc) w) := by
  by_cases h0 : m < 0
  · exact rr_neg w ab ar nb nr kb kr cs ac nc kc hc m h0
  by_cases h1 : (nc : Int) < m
  · exact rr_high w ab ar nb nr kb kr cs ac nc kc hc m h0 h1
  obtain ⟨k, rfl⟩ := Int.eq_ofNat_of_zero_le (Int.not_lt.1 h0)
  rcases id hc with ⟨e, -⟩ | ⟨g, off, c, e, hlc, -⟩
  · cases e
    have hk : k = 0 := by omega
    subst hk
    exact rr_none w ab ar nb nr kb kr cs hc
  · have hl := hc.len
    cases e
    exact rr_some w ab ar nb nr kb kr cs g off _ kc k hc (by omega) (by omega)
end Go.Proofs.YthghfhnicdoebaaGreatDoor
