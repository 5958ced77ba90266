/- lineage: the iterator parts, Parse, Valid. -/
import Derived.RangeFuncNested
import Derived.RangeFuncBound
import Derived.RangeFuncCalls
import Derived.RangeFuncLeaves
import Derived.Shelf.Abstract
import Derived.Shelf.RegionOpen
import Derived.OwnWalkIn
import Derived.TacticsInMore
import Derived.LoopNIn
import Derived.LoopIn
import Derived.Test.YtemmeopaihmlcaaDoorLinA
namespace Go.Proofs.YtemmeopaihmlcaaDoor
open Go.RowKit Go.Shelf
attribute [local go_sem] Oper.semAt_some

def partsL (bs : List UInt8) : Nat → Nat → Nat → List PartT
  | 0, _, _ => []
  | f + 1, pos, count =>
    if (firstP bs pos count).1.err ≠ 0 ∨ (firstP bs pos count).2 = bs.length then [(firstP bs pos count).1]
    else if (bs.getD (firstP bs pos count).2 0).toNat ≠ 46 then [(firstP bs pos count).1, ⟨0, (firstP bs pos count).2, 6⟩]
    else (firstP bs pos count).1 :: partsL bs f ((firstP bs pos count).2 + 1) (count + 1)
def partsOf (bs : List UInt8) : List PartT := if bs = [] then [] else partsL bs 9 0 0

/-- What a round keeps: the boxes of parts and of strings. -/
structure KpT (W W' : World) : Prop where
  size : W.heap.size ≤ W'.heap.size
  same : ∀ (k : Nat) (c : Array Value) (t : TypeId) (fr : Nat × Nat), W.heap[k]? = some (.cells c t fr) → (t = 130 ∨ t = 9) → W'.heap[k]? = some (.cells c t fr)

theorem KpT.refl (W : World) : KpT W W := ⟨Nat.le_refl _, fun _ _ _ _ h _ => h⟩
theorem KpT.trans {A B C : World} (h : KpT A B) (k : KpT B C) : KpT A C := ⟨Nat.le_trans h.size k.size, fun i c t fr hi ht => k.same i c t fr (h.same i c t fr hi ht) ht⟩
theorem KpT.of_below {W W' : World} (h : Below W.heap.size W W') : KpT W W' := ⟨h.size, fun k _ _ _ hk _ => (h.block k (lt_of_heap hk)).trans hk⟩
theorem KpT.putObj {w : World} (W : World) (l : Nat) (o o' : Obj) (_ : w.heap.size ≤ l) (h : W.heap[l]? = some o) (hc : o.isCells = false) (_ : o.isWalk = false) : KpT W (W.putObj l o') :=
  ⟨by simp, fun k c t fr hk _ => by
    by_cases e : k = l
    · subst e; rw [h] at hk; cases hk; cases hc
    · exact (World.putObj_heap_other e).trans hk⟩

theorem first_le (bs : List UInt8) (pos count : Nat) (hp : pos ≤ bs.length) : (firstP bs pos count).2 ≤ bs.length ∧ (firstP bs pos count).1.pos = pos := by
  unfold firstP
  split
  · exact ⟨hp, rfl⟩
  · refine ⟨?_, rfl⟩
    have h : ∀ (m : Nat) (l : List UInt8), digCount m l ≤ l.length := by
      intro m
      induction m with
      | zero => intro l; simp [digCount]
      | succ m ih =>
        intro l
        cases l with
        | nil => simp [digCount]
        | cons b r => simp only [digCount]; split; have := ih r; simp; omega; simp
    have := h 7 (bs.drop pos)
    rw [List.length_drop] at this
    dsimp only
    omega
theorem first_err8 (bs : List UInt8) (pos : Nat) : (firstP bs pos 8).1.err = 9 := by simp [firstP, firstErr]

set_option maxRecDepth 100000 in
set_option maxHeartbeats 2000000 in
theorem parts1_in (n : Nat) (hn : 1 ≤ n) (l Bn : Nat) (s : ByteArray) (hs : s.size ≤ 70368744177664) (J Jx : List PartT → World → Prop) (W : World)
    (hJ : AbidesFrom W.heap.size J)
    (hY : ∀ pre (x : PartT) W1, J pre W1 → pre.length < 10 → YieldAt Fence.wide (n - 1) Tryd.prog l #[.agg #[.int .i64 x.ord, .int .i64 x.pos, .int .i64 x.err]] W1 fun e W' =>
      (e = .returned (.bool true) ∧ J (pre ++ [x]) W' ∧ KpT W1 W') ∨ (e = .returned (.bool false) ∧ Jx (pre ++ [x]) W'))
    (hBn : W.heap[Bn]? = some (.cells #[.string s] 9 (0, 0))) (h0 : J [] W) :
    CallsIn Fence.wide n Tryd.prog 107 #[.func (.yield l) #[] #[], .pointer (some ⟨Bn, 0, none⟩)] W fun e W' => (∃ v, e = .returned v) ∧
      ((∃ ys, ys = partsOf s.data.toList ∧ J ys W') ∨ (∃ pre, pre <+: partsOf s.data.toList ∧ Jx pre W')) := by
  refine callsIn_of_wp Tryd.func107 rfl trivial ?_ rfl
  simp only [Tryd.ntmps107, List.size_toArray, List.length_cons, List.length_nil, Nat.reduceAdd, Nat.reduceSub, Array.replicate_succ, Array.replicate_zero, List.push_toArray, List.append_toArray, List.nil_append, List.cons_append]
  have hc0 : W.cell? ⟨Bn, 0, none⟩ = some (.string s) := cell_of_heap hBn 0
  have HBn := Lib.hid hBn; clear hBn
  gi_wp2
  gi_loopw [3, 4] (fun a c wr => ∃ (pre : List PartT) (pos count : Nat), a = .int .i64 pos ∧ c = .int .i64 count ∧ pos ≤ s.size ∧ count ≤ 8 ∧ pre.length = count ∧ Hid (0 < s.size → partsOf s.data.toList = pre ++ partsL s.data.toList (9 - count) pos count) ∧ (s.size = 0 → count = 0) ∧ J pre wr ∧ wr.heap[Bn]? = some (.cells #[.string s] 9 (0, 0))) (fun _ c _ => 9 - (intOf c).toNat)
  case atStart =>
    refine ⟨[], 0, 0, rfl, rfl, Nat.zero_le _, Nat.zero_le _, rfl, fun h => ?_, fun _ => rfl, h0, HBn.out⟩
    have : s.data.toList ≠ [] := fun e => by have := size_toList s; rw [e] at this; simp at this; omega
    simp [partsOf, this]
  case round =>
    obtain ⟨pre, pos, count, rfl, rfl, hpos, hcount, hpl, Hparts, hz, hJr, hBr⟩ := hrel
    have hcr : wr.cell? ⟨Bn, 0, none⟩ = some (.string s) := cell_of_heap hBr 0
    have HBr := Lib.hid hBr; clear hBr
    have Hpl := Lib.hid hpl; clear hpl
    have Hz := Lib.hid hz; clear hz
    have hem := toList_empty s
    by_cases hse : s.size = 0
    · have hem' : s.toList.isEmpty = true := by rw [hem]; simp [hse]
      clear hem
      gi_wp2
      go_end0
      have hc0 := Hz.out hse
      have : pre = [] := List.eq_nil_of_length_eq_zero (by rw [Hpl.out, hc0])
      have hnil : s.data.toList = [] := List.eq_nil_of_length_eq_zero (by rw [size_toList]; exact hse)
      exact ⟨⟨_, rfl⟩, .inl ⟨pre, by rw [this, hnil]; rfl, hJr⟩⟩
    · have hem' : s.toList.isEmpty = false := by rw [hem]; simp [hse]
      have Hp := Lib.hid (Hparts.out (by omega)); clear Hparts
      have Hse := Lib.hid hse; clear hse
      clear hem
      gi_wp2_with fail
      refine ⟨trivial, (callsIn_wide.2 (first_any s pos count _ hs hpos hcount)).mono ?_⟩
      rintro e w1 ⟨rfl, hb1⟩
      have Hle := Lib.hid (first_le s.data.toList pos count (by rw [size_toList]; exact hpos))
      have H8 : Hid (count = 8 → (firstP s.data.toList pos count).1.err = 9) := fun e => by rw [e]; exact first_err8 _ _
      obtain ⟨f, hf⟩ : ∃ f, 9 - count = f + 1 := ⟨8 - count, by omega⟩
      have HpL : Hid (partsOf s.data.toList = pre ++ (if (firstP s.data.toList pos count).1.err ≠ 0 ∨ (firstP s.data.toList pos count).2 = s.data.toList.length then [(firstP s.data.toList pos count).1]
        else if (s.data.toList.getD (firstP s.data.toList pos count).2 0).toNat ≠ 46 then [(firstP s.data.toList pos count).1, ⟨0, (firstP s.data.toList pos count).2, 6⟩]
        else (firstP s.data.toList pos count).1 :: partsL s.data.toList f ((firstP s.data.toList pos count).2 + 1) (count + 1))) := by
        show _ = _
        rw [Hp.out, hf]; rfl
      have Hf := Lib.hid hf; clear hf
      clear Hp
      generalize hq : firstP s.data.toList pos count = q at *
      clear hq
      obtain ⟨⟨x1, x2, x3⟩, en⟩ := q
      dsimp only [partV] at *
      have hen : en ≤ s.size := by have := Hle.out.1; rw [size_toList] at this; exact this
      rw [size_toList] at HpL
      have hg1 : wr.grownBy (w1.alloc (.cells #[.int .i64 x1, .int .i64 x2, .int .i64 x3] 130)) none :=
        ⟨hb1.os, hb1.tape, hb1.output, Nat.le_trans hb1.size (by simp), fun k hk _ => (Below.heap_alloc _ _ _ (Nat.lt_of_lt_of_le hk hb1.size)).trans (hb1.block k hk)⟩
      have hBn1 : (w1.alloc (.cells #[.int .i64 x1, .int .i64 x2, .int .i64 x3] 130)).heap[Bn]? = some (.cells #[.string s] 9 (0, 0)) := (hg1.block Bn (lt_of_heap HBr.out) (by simp)).trans HBr.out
      have hpx : (w1.alloc (.cells #[.int .i64 x1, .int .i64 x2, .int .i64 x3] 130)).heap[w1.heap.size]? = some (.cells #[.int .i64 x1, .int .i64 x2, .int .i64 x3] 130 (0, 0)) := heap_alloc_new w1 _
      have hJ1 := hJ pre wr _ none hJr hg1 (fun r e => by cases e)
      obtain ⟨fn, tmps, assign, body, hy, hR⟩ := hY pre ⟨x1, x2, x3⟩ _ hJ1 (by have := Hpl.out; omega)
      dsimp only at hy
      have Hg1 := Lib.hid hg1; clear hg1
      have HBn1 := Lib.hid hBn1; clear hBn1
      have Hpx := Lib.hid hpx; clear hpx
      have Hb1 := Lib.hid hb1; clear hb1
      gi_wp2_with fail
      refine hR.mono ?_
      rintro e W3 (⟨rfl, hJ3, hk3⟩ | ⟨rfl, hJx3⟩)
      · have hp3 := hk3.same _ _ _ _ Hpx.out (.inl rfl)
        have hB3 := hk3.same _ _ _ _ HBn1.out (.inr rfl)
        have hc3 : W3.cell? ⟨w1.heap.size, 2, none⟩ = some (.int .i64 x3) := cell_of_heap hp3 2
        have hs3 : W3.cell? ⟨Bn, 0, none⟩ = some (.string s) := cell_of_heap hB3 0
        have HB3 := Lib.hid hB3; clear hB3
        clear hp3 hk3
        by_cases he : x3 = 0
        · have He := Lib.hid he
          have he' : ((x3 : Int) != 0) = false := by rw [he]; rfl
          clear he
          by_cases hfull : en = s.size
          · have hfull' : ((en : Int) == (s.size : Int)) = true := beq_iff_eq.2 (by omega)
            have Hfull := Lib.hid hfull; clear hfull
            gi_wp2
            refine bodyPost_ret (results_none rfl _ _ _) rfl ?_
            refine ⟨⟨_, rfl⟩, .inl ⟨pre ++ [⟨x1, x2, x3⟩], ?_, hJ3⟩⟩
            rw [HpL.out, if_pos (.inr Hfull.out)]
          · have hfull' : ((en : Int) == (s.size : Int)) = false := beq_eq_false_iff_ne.2 (by omega)
            have hlt : en < s.size := by omega
            have hbyte := at_byte s en hlt
            have Hfull := Lib.hid hfull; clear hfull
            by_cases hdot : (s.data.toList.getD en 0).toNat = 46
            · have hdot' : (((s[en]'hlt).toNat : Int) != 46) = false := by rw [hbyte, hdot]; rfl
              have Hdot := Lib.hid hdot; clear hdot
              clear hbyte
              have hc8 : count < 8 := by
                rcases Nat.lt_or_ge count 8 with h | h
                · exact h
                · have := H8.out (by omega); have := He.out; omega
              gi_wp2
              go_roundw
              case rel =>
                refine ⟨pre ++ [⟨x1, x2, x3⟩], en + 1, count + 1, by go_num, by go_num, by omega, by omega, by have := Hpl.out; simp; omega, fun _ => ?_, fun h => absurd h Hse.out, hJ3, HB3.out⟩
                rw [HpL.out, if_neg (by have := He.out; have := Hfull.out; omega), if_neg (by have := Hdot.out; omega)]
                have : 9 - (count + 1) = f := by have := Hf.out; omega
                rw [this]
                simp
              case measure => simp [intOf]; omega
            · have hdot' : (((s[en]'hlt).toNat : Int) != 46) = true := by rw [hbyte, bne_iff_ne]; omega
              have Hdot := Lib.hid hdot; clear hdot
              clear hbyte
              obtain ⟨fn2, tmps2, assign2, body2, hy2, hR2⟩ := hY (pre ++ [⟨x1, x2, x3⟩]) ⟨0, en, 6⟩ W3 hJ3 (by have := Hpl.out; simp; omega)
              dsimp only at hy2
              have hy2' : (Instr.yield l #[.agg #[.int .i64 0, .int .i64 en, .int .i64 6]]).run Tryd.prog W3 = .ok (.round l fn2 tmps2 assign2 body2) W3 := hy2
              clear hy2
              have hfin : Hid (partsOf s.data.toList = pre ++ [⟨x1, x2, x3⟩] ++ [⟨0, en, 6⟩]) := by
                show _ = _
                rw [HpL.out, if_neg (by have := He.out; have := Hfull.out; omega), if_pos (by have := Hdot.out; omega)]
                simp
              gi_wp2_with fail
              refine hR2.mono ?_
              rintro e W4 (⟨rfl, hJ4, hk4⟩ | ⟨rfl, hJx4⟩)
              · clear hk4
                gi_wp2
                refine bodyPost_ret (results_none rfl _ _ _) rfl ?_
                exact ⟨⟨_, rfl⟩, .inl ⟨_, hfin.out.symm, hJ4⟩⟩
              · gi_wp2
                refine bodyPost_ret (results_none rfl _ _ _) rfl ?_
                exact ⟨⟨_, rfl⟩, .inr ⟨_, by rw [hfin.out]; exact List.prefix_refl _, hJx4⟩⟩
        · have he' : ((x3 : Int) != 0) = true := bne_iff_ne.2 (by omega)
          have He := Lib.hid he; clear he
          gi_wp2
          refine bodyPost_ret (results_none rfl _ _ _) rfl ?_
          refine ⟨⟨_, rfl⟩, .inl ⟨pre ++ [⟨x1, x2, x3⟩], ?_, hJ3⟩⟩
          rw [HpL.out, if_pos (.inl He.out)]
      · gi_wp2
        refine bodyPost_ret (results_none rfl _ _ _) rfl ?_
        refine ⟨⟨_, rfl⟩, .inr ⟨pre ++ [⟨x1, x2, x3⟩], ?_, hJx3⟩⟩
        rw [HpL.out]
        split
        · exact List.prefix_refl _
        · split
          · exact ⟨[⟨0, en, 6⟩], by simp⟩
          · exact ⟨partsL s.data.toList f (en + 1) (count + 1), by simp⟩

end Go.Proofs.YtemmeopaihmlcaaDoor
