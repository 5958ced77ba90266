/- DescriptorChecks: the walk. (printed by wip/gen_dscch.py) -/
import Derived.Test.YtfchfjipkggnkaaDoorDscCu
import Derived.Test.YtfchfjipkggnkaaDoorDscU
import Derived.Test.YtfchfjipkggnkaaDoorDscCk
import Derived.Test.YtfchfjipkggnkaaDoorDscVa
import Derived.Test.YtfchfjipkggnkaaDoorDscQt
namespace Go.Proofs.YtfchfjipkggnkaaDoor
open Go.RowKit
attribute [local go_sem ↓] run_eql_opn run_neq_opn

theorem tabE_one : ∀ {t : List OpnT} {k : Nat} {o : OpnT}, t[k]? = some o → (∀ i x, i ≠ k → t[i]? = some x → isZ x = false → checkO x = 0) → tabE t = if isZ o = true then 0 else checkO o
  | [], _, _, h, _ => by simp at h
  | x :: r, 0, o, h, hr => by
    obtain rfl : x = o := by simpa using h
    have h0 : tabE r = 0 := tabE_of fun y hy hz => by
      obtain ⟨i, hi, e⟩ := List.getElem_of_mem hy
      exact hr (i + 1) y (by omega) (by rw [List.getElem?_cons_succ, List.getElem?_eq_getElem hi, e]) hz
    unfold tabE
    rw [h0]
    split
    · rfl
    · split
      · rfl
      · omega
  | x :: r, k + 1, o, h, hr => by
    have ih := tabE_one (t := r) (k := k) (o := o) (by simpa using h) (fun i y hi hy hz => hr (i + 1) y (by omega) (by simpa using hy) hz)
    have hx := hr 0 x (by omega) (by simp)
    unfold tabE
    split
    · exact ih
    · rename_i hz
      rw [hx (by simpa using hz), if_neg (by simp)]
      exact ih
theorem zero_at {i : Nat} {x : OpnT} (h : zeroTab[i]? = some x) : x = zeroO := by
  have := List.mem_of_getElem? h
  exact List.eq_of_mem_replicate (n := 16) this
/-- The table of the law. -/
def chT (k k2 : Nat) (o m : OpnT) : List OpnT := if checkO m = 0 then (zeroTab.set k o).set k2 m else zeroTab.set k o
theorem chT_len (k k2 : Nat) (o m : OpnT) : (chT k k2 o m).length = 16 := by
  unfold chT
  split <;> simp [zeroTab_len]
theorem chT_err {k k2 : Nat} (o m : OpnT) (hk : k < 16) (hk2 : k2 < 16) (hne : k ≠ k2) : tabE (chT k k2 o m) = if isZ o = true then 0 else checkO o := by
  have h0 : (zeroTab.set k o)[k]? = some o := by rw [List.getElem?_set, if_pos rfl, if_pos (by rw [zeroTab_len]; exact hk)]
  have h1 : ∀ i x, i ≠ k → (zeroTab.set k o)[i]? = some x → isZ x = false → checkO x = 0 := fun i x hi hx hz => by
    rw [List.getElem?_set, if_neg (by omega)] at hx
    rw [zero_at hx, isZ_zero] at hz
    cases hz
  unfold chT
  split
  · rename_i hm
    refine tabE_one (k := k) ?_ (fun i x hi hx hz => ?_)
    · rw [List.getElem?_set, if_neg (by omega)]
      exact h0
    · rw [List.getElem?_set] at hx
      split at hx
      · rw [if_pos (by simp [zeroTab_len]; omega)] at hx
        injection hx with hx
        rw [← hx]; exact hm
      · exact h1 i x hi hx hz
  · exact tabE_one h0 h1
theorem chT_mak {k k2 : Nat} {o m : OpnT} (ho : o.mak.size ≤ 80) (hm : m.mak.size ≤ 80) : ∀ x ∈ chT k k2 o m, x.mak.size ≤ 70368744177664 := fun x hx => by
  have h1 : ∀ y ∈ zeroTab.set k o, y.mak.size ≤ 80 := fun y hy => by
    rcases List.mem_or_eq_of_mem_set hy with h | rfl
    · rw [List.eq_of_mem_replicate (n := 16) h]; decide
    · exact ho
  have : x.mak.size ≤ 80 := by
    unfold chT at hx
    split at hx
    · rcases List.mem_or_eq_of_mem_set hx with h | rfl
      · exact h1 x h
      · exact hm
    · exact h1 x hx
  omega
set_option maxRecDepth 100000 in
set_option maxHeartbeats 12800000 in
theorem dchecks_in (kd : Int) (mak m1 : ByteArray) (bn num off : Int) (rd wr ap : Bool) (fd : Nat) (xkd : Int) (xmak m2 : ByteArray) (xbn xnum xoff : Int) (xrd xwr xap : Bool) (w : World) (hfd : fd < 256) (hu : Usages w)
    (hm1 : mak.size ≤ 9223372036854775807) (hm2 : xmak.size ≤ 9223372036854775807) (e1 : cutB mak 80 = m1) (e2 : cutB xmak 80 = m2) :
    Calls Tryd.prog 3 #[.agg #[.int .i64 kd, .string mak, .int .i64 bn, .int .i64 num, .int .i64 off, .bool rd, .bool wr, .bool ap], .int .u8 fd, .agg #[.int .i64 xkd, .string xmak, .int .i64 xbn, .int .i64 xnum, .int .i64 xoff, .bool xrd, .bool xwr, .bool xap]] w fun r w' => r = .returned (.bool true) ∧ Below w.heap.size w w' := by
  have HU : Hid (∀ W, Below w.heap.size w W → Usages W) := fun W h => hu.below h hu.pos
  have Hs1 : Hid (m1.size ≤ 80) := by show _ ≤ _; rw [← e1]; exact cutB_size _ _
  have Hs2 : Hid (m2.size ≤ 80) := by show _ ≤ _; rw [← e2]; exact cutB_size _ _
  have H1 : Hid (∀ W, Calls Tryd.prog 8 #[.agg #[.int .i64 kd, .string mak, .int .i64 bn, .int .i64 num, .int .i64 off, .bool rd, .bool wr, .bool ap]] W fun r w' => r = .returned (.agg #[.int .i64 kd, .string m1, .int .i64 bn, .int .i64 num, .int .i64 off, .bool rd, .bool wr, .bool ap]) ∧ Below W.heap.size W w') := fun W => by
    have := cut31_any kd mak bn num off rd wr ap W hm1
    rw [e1] at this
    exact this
  have H2 : Hid (∀ W, Calls Tryd.prog 8 #[.agg #[.int .i64 xkd, .string xmak, .int .i64 xbn, .int .i64 xnum, .int .i64 xoff, .bool xrd, .bool xwr, .bool xap]] W fun r w' => r = .returned (.agg #[.int .i64 xkd, .string m2, .int .i64 xbn, .int .i64 xnum, .int .i64 xoff, .bool xrd, .bool xwr, .bool xap]) ∧ Below W.heap.size W w') := fun W => by
    have := cut31_any xkd xmak xbn xnum xoff xrd xwr xap W hm2
    rw [e2] at this
    exact this
  obtain ⟨k, hk, hk16⟩ : ∃ k : Nat, (fd : Int) % 16 = (k : Int) ∧ k < 16 := ⟨fd % 16, by omega, by omega⟩
  obtain ⟨k2, hk2, hk216⟩ : ∃ k2 : Nat, ((fd : Int) + 5) % 16 = (k2 : Int) ∧ k2 < 16 := ⟨(fd + 5) % 16, by omega, by omega⟩
  have Hlen := Lib.hid (chT_len k k2 ⟨kd, m1, bn, num, off, rd, wr, ap⟩ ⟨xkd, m2, xbn, xnum, xoff, xrd, xwr, xap⟩)
  have HEr := Lib.hid (chT_err (k := k) (k2 := k2) ⟨kd, m1, bn, num, off, rd, wr, ap⟩ ⟨xkd, m2, xbn, xnum, xoff, xrd, xwr, xap⟩ hk16 hk216 (by omega))
  have HMk := Lib.hid (chT_mak (k := k) (k2 := k2) (o := ⟨kd, m1, bn, num, off, rd, wr, ap⟩) (m := ⟨xkd, m2, xbn, xnum, xoff, xrd, xwr, xap⟩) Hs1.out Hs2.out)
  obtain ⟨t, ht⟩ : ∃ t, chT k k2 ⟨kd, m1, bn, num, off, rd, wr, ap⟩ ⟨xkd, m2, xbn, xnum, xoff, xrd, xwr, xap⟩ = t := ⟨_, rfl⟩
  rw [ht] at Hlen HEr HMk
  have HT : Hid ((if checkO ⟨xkd, m2, xbn, xnum, xoff, xrd, xwr, xap⟩ = 0 then (zeroTab.set k ⟨kd, m1, bn, num, off, rd, wr, ap⟩).set k2 ⟨xkd, m2, xbn, xnum, xoff, xrd, xwr, xap⟩ else zeroTab.set k ⟨kd, m1, bn, num, off, rd, wr, ap⟩) = t) := ht
  clear ht hu hm1 hm2 e1 e2
  obtain ⟨q1, hq1⟩ : ∃ q, checkO ⟨kd, m1, bn, num, off, rd, wr, ap⟩ = q := ⟨_, rfl⟩
  obtain ⟨q2, hq2⟩ : ∃ q, checkO ⟨xkd, m2, xbn, xnum, xoff, xrd, xwr, xap⟩ = q := ⟨_, rfl⟩
  rw [hq1] at HEr
  have Hq1 := Lib.hid hq1
  have Hq2 := Lib.hid hq2
  clear hq1 hq2
  have HK : Hid ((fd : Int) % 16 = (k : Int) ∧ k < 16) := ⟨hk, hk16⟩
  have HK2 : Hid (((fd : Int) + 5) % 16 = (k2 : Int) ∧ k2 < 16) := ⟨hk2, hk216⟩
  clear hk hk2 hk16 hk216
  have HB0 : Hid (Below w.heap.size w ((w.alloc (.cells #[.int .i64 kd, .string mak, .int .i64 bn, .int .i64 num, .int .i64 off, .bool rd, .bool wr, .bool ap] 26)).alloc (.cells #[.int .i64 xkd, .string xmak, .int .i64 xbn, .int .i64 xnum, .int .i64 xoff, .bool xrd, .bool xwr, .bool xap] 26))) := ((Below.refl _ _).alloc (Nat.le_refl _) _).alloc (by simp) _
  have X0 : Hid (OpnAt ((w.alloc (.cells #[.int .i64 kd, .string mak, .int .i64 bn, .int .i64 num, .int .i64 off, .bool rd, .bool wr, .bool ap] 26)).alloc (.cells #[.int .i64 xkd, .string xmak, .int .i64 xbn, .int .i64 xnum, .int .i64 xoff, .bool xrd, .bool xwr, .bool xap] 26)) w.heap.size ⟨kd, mak, bn, num, off, rd, wr, ap⟩) := (Below.heap_alloc _ _ _ (by simp)).trans (World.alloc_heap_new w _)
  have Y0 : Hid (OpnAt ((w.alloc (.cells #[.int .i64 kd, .string mak, .int .i64 bn, .int .i64 num, .int .i64 off, .bool rd, .bool wr, .bool ap] 26)).alloc (.cells #[.int .i64 xkd, .string xmak, .int .i64 xbn, .int .i64 xnum, .int .i64 xoff, .bool xrd, .bool xwr, .bool xap] 26)) (w.heap.size + 1) ⟨xkd, xmak, xbn, xnum, xoff, xrd, xwr, xap⟩) := by
    have := World.alloc_heap_new (w.alloc (.cells #[.int .i64 kd, .string mak, .int .i64 bn, .int .i64 num, .int .i64 off, .bool rd, .bool wr, .bool ap] 26)) (.cells #[.int .i64 xkd, .string xmak, .int .i64 xbn, .int .i64 xnum, .int .i64 xoff, .bool xrd, .bool xwr, .bool xap] 26)
    rw [World.size_alloc] at this
    exact this
  go_enter Tryd.func3, Tryd.ntmps3
  go_upto_region 1 with fail
  obtain ⟨w1, hw1⟩ : ∃ w1, ((w.alloc (.cells #[.int .i64 kd, .string mak, .int .i64 bn, .int .i64 num, .int .i64 off, .bool rd, .bool wr, .bool ap] 26)).alloc (.cells #[.int .i64 xkd, .string xmak, .int .i64 xbn, .int .i64 xnum, .int .i64 xoff, .bool xrd, .bool xwr, .bool xap] 26)) = w1 := ⟨_, rfl⟩
  rw [hw1] at HB0 X0 Y0 ⊢
  clear hw1
  go_cut [13] (fun _ wx => Hid (OpnAt wx w.heap.size ⟨kd, m1, bn, num, off, rd, wr, ap⟩) ∧ Hid (OpnAt wx (w.heap.size + 1) ⟨xkd, m2, xbn, xnum, xoff, xrd, xwr, xap⟩) ∧ Hid (Below w.heap.size w wx))
  case first =>
    clear HU Hs1 Hs2 Hlen HEr HMk HT HK HK2 Hq1 Hq2
    obtain ⟨x0, x1, x2, x3, x4, x5, x6, x7⟩ := X0.out.cells
    obtain ⟨y0, y1, y2, y3, y4, y5, y6, y7⟩ := Y0.out.cells
    have HCX : Hid (∀ W, Below w1.heap.size w1 W → OpnAt W w.heap.size ⟨kd, mak, bn, num, off, rd, wr, ap⟩) := fun W h => X0.out.later h
    have HCY : Hid (∀ W, Below w1.heap.size w1 W → OpnAt W (w.heap.size + 1) ⟨xkd, xmak, xbn, xnum, xoff, xrd, xwr, xap⟩) := fun W h => Y0.out.later h
    have tok := trivial
    go_region_with (first
      | (go_at_call 8; have _t := tok; (with_reducible refine (H1.out _).mono ?_); rintro r w2 ⟨rfl, hb⟩; have BB := Lib.hid ((Below.refl w1.heap.size w1).drew.trans hb); clear hb tok _t; obtain ⟨y0, y1, y2, y3, y4, y5, y6, y7⟩ := (HCY.out _ BB.out).cells)
      | (go_at_call 8; (with_reducible refine (H2.out _).mono ?_); rintro r w3 ⟨rfl, hb⟩; have BB3 := Lib.hid (BB.out.trans (hb.mono BB.out.size)); clear hb; have f0 := (HCX.out _ BB3.out).free 0; have f1 := (HCX.out _ BB3.out).free 1; have f2 := (HCX.out _ BB3.out).free 2; have f3 := (HCX.out _ BB3.out).free 3; have f4 := (HCX.out _ BB3.out).free 4; have f5 := (HCX.out _ BB3.out).free 5; have f6 := (HCX.out _ BB3.out).free 6; have f7 := (HCX.out _ BB3.out).free 7; have g0 := (HCY.out _ BB3.out).free 0; have g1 := (HCY.out _ BB3.out).free 1; have g2 := (HCY.out _ BB3.out).free 2; have g3 := (HCY.out _ BB3.out).free 3; have g4 := (HCY.out _ BB3.out).free 4; have g5 := (HCY.out _ BB3.out).free 5; have g6 := (HCY.out _ BB3.out).free 6; have g7 := (HCY.out _ BB3.out).free 7; obtain ⟨a0, a1, a2, a3, a4, a5, a6, a7⟩ := (HCX.out _ BB3.out).cells; obtain ⟨b0, b1, b2, b3, b4, b5, b6, b7⟩ := (HCY.out _ BB3.out).cells)
      | fail)
    all_goals
      have HX := Lib.hid (opn_stored (HCX.out _ BB3.out) ⟨kd, m1, bn, num, off, rd, wr, ap⟩)
      have hgx : w3.grownBy ((((((((w3.setCell ⟨w.heap.size, 0, none⟩ (.int .i64 kd)).setCell ⟨w.heap.size, 1, none⟩ (.string m1)).setCell ⟨w.heap.size, 2, none⟩ (.int .i64 bn)).setCell ⟨w.heap.size, 3, none⟩ (.int .i64 num)).setCell ⟨w.heap.size, 4, none⟩ (.int .i64 off)).setCell ⟨w.heap.size, 5, none⟩ (.bool rd)).setCell ⟨w.heap.size, 6, none⟩ (.bool wr)).setCell ⟨w.heap.size, 7, none⟩ (.bool ap)) (some w.heap.size) := grown_set8 _ _ _ _ _ _ _ _ _ _ _ _ _ _ _ _ _ _
      have hY1 : OpnAt ((((((((w3.setCell ⟨w.heap.size, 0, none⟩ (.int .i64 kd)).setCell ⟨w.heap.size, 1, none⟩ (.string m1)).setCell ⟨w.heap.size, 2, none⟩ (.int .i64 bn)).setCell ⟨w.heap.size, 3, none⟩ (.int .i64 num)).setCell ⟨w.heap.size, 4, none⟩ (.int .i64 off)).setCell ⟨w.heap.size, 5, none⟩ (.bool rd)).setCell ⟨w.heap.size, 6, none⟩ (.bool wr)).setCell ⟨w.heap.size, 7, none⟩ (.bool ap)) (w.heap.size + 1) ⟨xkd, xmak, xbn, xnum, xoff, xrd, xwr, xap⟩ := (hgx.block _ (lt_of_heap (HCY.out _ BB3.out)) (by simp)).trans (HCY.out _ BB3.out)
      have HY : Hid (OpnAt ((((((((((((((((w3.setCell ⟨w.heap.size, 0, none⟩ (.int .i64 kd)).setCell ⟨w.heap.size, 1, none⟩ (.string m1)).setCell ⟨w.heap.size, 2, none⟩ (.int .i64 bn)).setCell ⟨w.heap.size, 3, none⟩ (.int .i64 num)).setCell ⟨w.heap.size, 4, none⟩ (.int .i64 off)).setCell ⟨w.heap.size, 5, none⟩ (.bool rd)).setCell ⟨w.heap.size, 6, none⟩ (.bool wr)).setCell ⟨w.heap.size, 7, none⟩ (.bool ap)).setCell ⟨(w.heap.size + 1), 0, none⟩ (.int .i64 xkd)).setCell ⟨(w.heap.size + 1), 1, none⟩ (.string m2)).setCell ⟨(w.heap.size + 1), 2, none⟩ (.int .i64 xbn)).setCell ⟨(w.heap.size + 1), 3, none⟩ (.int .i64 xnum)).setCell ⟨(w.heap.size + 1), 4, none⟩ (.int .i64 xoff)).setCell ⟨(w.heap.size + 1), 5, none⟩ (.bool xrd)).setCell ⟨(w.heap.size + 1), 6, none⟩ (.bool xwr)).setCell ⟨(w.heap.size + 1), 7, none⟩ (.bool xap)) (w.heap.size + 1) ⟨xkd, m2, xbn, xnum, xoff, xrd, xwr, xap⟩) := opn_stored hY1 ⟨xkd, m2, xbn, xnum, xoff, xrd, xwr, xap⟩
      have HB3 : Hid (Below w.heap.size w w3) := HB0.out.trans (BB3.out.mono HB0.out.size)
      have HBx : Hid (Below w.heap.size w ((((((((w3.setCell ⟨w.heap.size, 0, none⟩ (.int .i64 kd)).setCell ⟨w.heap.size, 1, none⟩ (.string m1)).setCell ⟨w.heap.size, 2, none⟩ (.int .i64 bn)).setCell ⟨w.heap.size, 3, none⟩ (.int .i64 num)).setCell ⟨w.heap.size, 4, none⟩ (.int .i64 off)).setCell ⟨w.heap.size, 5, none⟩ (.bool rd)).setCell ⟨w.heap.size, 6, none⟩ (.bool wr)).setCell ⟨w.heap.size, 7, none⟩ (.bool ap))) := HB3.out.grown hgx HB3.out.size (fun k hk => by cases hk; exact Nat.le_refl _)
      have hgy : ((((((((w3.setCell ⟨w.heap.size, 0, none⟩ (.int .i64 kd)).setCell ⟨w.heap.size, 1, none⟩ (.string m1)).setCell ⟨w.heap.size, 2, none⟩ (.int .i64 bn)).setCell ⟨w.heap.size, 3, none⟩ (.int .i64 num)).setCell ⟨w.heap.size, 4, none⟩ (.int .i64 off)).setCell ⟨w.heap.size, 5, none⟩ (.bool rd)).setCell ⟨w.heap.size, 6, none⟩ (.bool wr)).setCell ⟨w.heap.size, 7, none⟩ (.bool ap)).grownBy ((((((((((((((((w3.setCell ⟨w.heap.size, 0, none⟩ (.int .i64 kd)).setCell ⟨w.heap.size, 1, none⟩ (.string m1)).setCell ⟨w.heap.size, 2, none⟩ (.int .i64 bn)).setCell ⟨w.heap.size, 3, none⟩ (.int .i64 num)).setCell ⟨w.heap.size, 4, none⟩ (.int .i64 off)).setCell ⟨w.heap.size, 5, none⟩ (.bool rd)).setCell ⟨w.heap.size, 6, none⟩ (.bool wr)).setCell ⟨w.heap.size, 7, none⟩ (.bool ap)).setCell ⟨(w.heap.size + 1), 0, none⟩ (.int .i64 xkd)).setCell ⟨(w.heap.size + 1), 1, none⟩ (.string m2)).setCell ⟨(w.heap.size + 1), 2, none⟩ (.int .i64 xbn)).setCell ⟨(w.heap.size + 1), 3, none⟩ (.int .i64 xnum)).setCell ⟨(w.heap.size + 1), 4, none⟩ (.int .i64 xoff)).setCell ⟨(w.heap.size + 1), 5, none⟩ (.bool xrd)).setCell ⟨(w.heap.size + 1), 6, none⟩ (.bool xwr)).setCell ⟨(w.heap.size + 1), 7, none⟩ (.bool xap)) (some (w.heap.size + 1)) := grown_set8 _ _ _ _ _ _ _ _ _ _ _ _ _ _ _ _ _ _
      have HXX : Hid (OpnAt ((((((((((((((((w3.setCell ⟨w.heap.size, 0, none⟩ (.int .i64 kd)).setCell ⟨w.heap.size, 1, none⟩ (.string m1)).setCell ⟨w.heap.size, 2, none⟩ (.int .i64 bn)).setCell ⟨w.heap.size, 3, none⟩ (.int .i64 num)).setCell ⟨w.heap.size, 4, none⟩ (.int .i64 off)).setCell ⟨w.heap.size, 5, none⟩ (.bool rd)).setCell ⟨w.heap.size, 6, none⟩ (.bool wr)).setCell ⟨w.heap.size, 7, none⟩ (.bool ap)).setCell ⟨(w.heap.size + 1), 0, none⟩ (.int .i64 xkd)).setCell ⟨(w.heap.size + 1), 1, none⟩ (.string m2)).setCell ⟨(w.heap.size + 1), 2, none⟩ (.int .i64 xbn)).setCell ⟨(w.heap.size + 1), 3, none⟩ (.int .i64 xnum)).setCell ⟨(w.heap.size + 1), 4, none⟩ (.int .i64 xoff)).setCell ⟨(w.heap.size + 1), 5, none⟩ (.bool xrd)).setCell ⟨(w.heap.size + 1), 6, none⟩ (.bool xwr)).setCell ⟨(w.heap.size + 1), 7, none⟩ (.bool xap)) w.heap.size ⟨kd, m1, bn, num, off, rd, wr, ap⟩) := (hgy.block _ (lt_of_heap HX.out) (by simp)).trans HX.out
      have HBy : Hid (Below w.heap.size w ((((((((((((((((w3.setCell ⟨w.heap.size, 0, none⟩ (.int .i64 kd)).setCell ⟨w.heap.size, 1, none⟩ (.string m1)).setCell ⟨w.heap.size, 2, none⟩ (.int .i64 bn)).setCell ⟨w.heap.size, 3, none⟩ (.int .i64 num)).setCell ⟨w.heap.size, 4, none⟩ (.int .i64 off)).setCell ⟨w.heap.size, 5, none⟩ (.bool rd)).setCell ⟨w.heap.size, 6, none⟩ (.bool wr)).setCell ⟨w.heap.size, 7, none⟩ (.bool ap)).setCell ⟨(w.heap.size + 1), 0, none⟩ (.int .i64 xkd)).setCell ⟨(w.heap.size + 1), 1, none⟩ (.string m2)).setCell ⟨(w.heap.size + 1), 2, none⟩ (.int .i64 xbn)).setCell ⟨(w.heap.size + 1), 3, none⟩ (.int .i64 xnum)).setCell ⟨(w.heap.size + 1), 4, none⟩ (.int .i64 xoff)).setCell ⟨(w.heap.size + 1), 5, none⟩ (.bool xrd)).setCell ⟨(w.heap.size + 1), 6, none⟩ (.bool xwr)).setCell ⟨(w.heap.size + 1), 7, none⟩ (.bool xap))) := HBx.out.grown hgy HBx.out.size (fun k hk => by cases hk; omega)
      clear hgx hgy hY1 HX HBx HB3
      go_wp2
      go_meet
      exact ⟨HXX.out, HY.out, HBy.out⟩
  case rest =>
    obtain ⟨X1, Y1, HB1⟩ := hcut
    have Hz1 : Hid (m1.size ≤ 70368744177664) := Nat.le_trans Hs1.out (by decide)
    have Hz2 : Hid (m2.size ≤ 70368744177664) := Nat.le_trans Hs2.out (by decide)
    clear HB0 X0 Y0 H1 H2 Hs1 Hs2
    obtain ⟨c0, c1, c2, c3, c4, c5, c6, c7⟩ := X1.out.cells
    go_wp2_with fail
    refine (check31_is kd m1 bn num off rd wr ap q1 Hq1.out _ Hz1.out).mono ?_
    rintro r w2 ⟨rfl, hb⟩
    clear c0 c1 c2 c3 c4 c5 c6 c7
    have HB2 : Hid (Below w.heap.size w w2) := HB1.out.trans (hb.mono HB1.out.size)
    have X2 := Lib.hid (X1.out.later hb)
    have Y2 := Lib.hid (Y1.out.later hb)
    clear hb HB1 X1 Y1
    have hb3 : Below w2.heap.size w2 (w2.alloc (.cells Tryd.zeroCells31 31)) := (Below.refl _ _).alloc (Nat.le_refl _) _
    have HB3 : Hid (Below w.heap.size w (w2.alloc (.cells Tryd.zeroCells31 31))) := HB2.out.trans (hb3.mono HB2.out.size)
    have X3 := Lib.hid (X2.out.later hb3)
    have Y3 := Lib.hid (Y2.out.later hb3)
    have T3 := Lib.hid (new_tab0 w2)
    have Hap : Hid (w.heap.size + 1 < w2.heap.size) := lt_of_heap Y2.out
    clear hb3 HB2 X2 Y2
    go_upto_region 4 with fail
    obtain ⟨R, hR⟩ : ∃ R, w2.heap.size = R := ⟨_, rfl⟩
    obtain ⟨w3, hw3⟩ : ∃ w3, (w2.alloc (.cells Tryd.zeroCells31 31)) = w3 := ⟨_, rfl⟩
    rw [hR] at T3 Hap ⊢
    rw [hw3] at HB3 X3 Y3 T3 ⊢
    clear hw3
    have HRw : Hid (w.heap.size + 1 < R) := Hap.out
    clear hR Hap
    obtain ⟨hk, hk16⟩ := HK.out
    obtain ⟨x, hx⟩ := ent_some T3.out.2 hk16
    obtain ⟨ykd, ymak, ybn, ynum, yoff, yrd, ywr, yap⟩ := x
    have z0 : w3.cell? ⟨R, k * 8, none⟩ = some (.int .i64 ykd) := T3.out.cell hx (j := 0) rfl
    have z1 : w3.cell? ⟨R, k * 8 + 1, none⟩ = some (.string ymak) := T3.out.cell hx (j := 1) rfl
    have z2 : w3.cell? ⟨R, k * 8 + 2, none⟩ = some (.int .i64 ybn) := T3.out.cell hx (j := 2) rfl
    have z3 : w3.cell? ⟨R, k * 8 + 3, none⟩ = some (.int .i64 ynum) := T3.out.cell hx (j := 3) rfl
    have z4 : w3.cell? ⟨R, k * 8 + 4, none⟩ = some (.int .i64 yoff) := T3.out.cell hx (j := 4) rfl
    have z5 : w3.cell? ⟨R, k * 8 + 5, none⟩ = some (.bool yrd) := T3.out.cell hx (j := 5) rfl
    have z6 : w3.cell? ⟨R, k * 8 + 6, none⟩ = some (.bool ywr) := T3.out.cell hx (j := 6) rfl
    have z7 : w3.cell? ⟨R, k * 8 + 7, none⟩ = some (.bool yap) := T3.out.cell hx (j := 7) rfl
    have f0 := T3.out.free (k * 8)
    have f1 := T3.out.free (k * 8 + 1)
    have f2 := T3.out.free (k * 8 + 2)
    have f3 := T3.out.free (k * 8 + 3)
    have f4 := T3.out.free (k * 8 + 4)
    have f5 := T3.out.free (k * 8 + 5)
    have f6 := T3.out.free (k * 8 + 6)
    have f7 := T3.out.free (k * 8 + 7)
    obtain ⟨c0, c1, c2, c3, c4, c5, c6, c7⟩ := X3.out.cells
    have i0 : (0 : Int) ≤ (k : Int) := by omega
    have i1 : (k : Int) < 16 := by omega
    have hg : w3.grownBy ((((((((w3.setCell ⟨R, k * 8, none⟩ (.int .i64 kd)).setCell ⟨R, k * 8 + 1, none⟩ (.string m1)).setCell ⟨R, k * 8 + 2, none⟩ (.int .i64 bn)).setCell ⟨R, k * 8 + 3, none⟩ (.int .i64 num)).setCell ⟨R, k * 8 + 4, none⟩ (.int .i64 off)).setCell ⟨R, k * 8 + 5, none⟩ (.bool rd)).setCell ⟨R, k * 8 + 6, none⟩ (.bool wr)).setCell ⟨R, k * 8 + 7, none⟩ (.bool ap)) (some R) := grown_set8 _ _ _ _ _ _ _ _ _ _ _ _ _ _ _ _ _ _
    have T4 : Hid (TabAt ((((((((w3.setCell ⟨R, k * 8, none⟩ (.int .i64 kd)).setCell ⟨R, k * 8 + 1, none⟩ (.string m1)).setCell ⟨R, k * 8 + 2, none⟩ (.int .i64 bn)).setCell ⟨R, k * 8 + 3, none⟩ (.int .i64 num)).setCell ⟨R, k * 8 + 4, none⟩ (.int .i64 off)).setCell ⟨R, k * 8 + 5, none⟩ (.bool rd)).setCell ⟨R, k * 8 + 6, none⟩ (.bool wr)).setCell ⟨R, k * 8 + 7, none⟩ (.bool ap)) R (zeroTab.set k ⟨kd, m1, bn, num, off, rd, wr, ap⟩)) := tab_stored T3.out hk16 ⟨kd, m1, bn, num, off, rd, wr, ap⟩
    have HB4 : Hid (Below w.heap.size w ((((((((w3.setCell ⟨R, k * 8, none⟩ (.int .i64 kd)).setCell ⟨R, k * 8 + 1, none⟩ (.string m1)).setCell ⟨R, k * 8 + 2, none⟩ (.int .i64 bn)).setCell ⟨R, k * 8 + 3, none⟩ (.int .i64 num)).setCell ⟨R, k * 8 + 4, none⟩ (.int .i64 off)).setCell ⟨R, k * 8 + 5, none⟩ (.bool rd)).setCell ⟨R, k * 8 + 6, none⟩ (.bool wr)).setCell ⟨R, k * 8 + 7, none⟩ (.bool ap))) := HB3.out.grown hg HB3.out.size (fun k hk => by cases hk; have := HRw.out; omega)
    have X4 : Hid (OpnAt ((((((((w3.setCell ⟨R, k * 8, none⟩ (.int .i64 kd)).setCell ⟨R, k * 8 + 1, none⟩ (.string m1)).setCell ⟨R, k * 8 + 2, none⟩ (.int .i64 bn)).setCell ⟨R, k * 8 + 3, none⟩ (.int .i64 num)).setCell ⟨R, k * 8 + 4, none⟩ (.int .i64 off)).setCell ⟨R, k * 8 + 5, none⟩ (.bool rd)).setCell ⟨R, k * 8 + 6, none⟩ (.bool wr)).setCell ⟨R, k * 8 + 7, none⟩ (.bool ap)) w.heap.size ⟨kd, m1, bn, num, off, rd, wr, ap⟩) := (hg.block _ (lt_of_heap X3.out) (by have := HRw.out; simp; omega)).trans X3.out
    have Y4 : Hid (OpnAt ((((((((w3.setCell ⟨R, k * 8, none⟩ (.int .i64 kd)).setCell ⟨R, k * 8 + 1, none⟩ (.string m1)).setCell ⟨R, k * 8 + 2, none⟩ (.int .i64 bn)).setCell ⟨R, k * 8 + 3, none⟩ (.int .i64 num)).setCell ⟨R, k * 8 + 4, none⟩ (.int .i64 off)).setCell ⟨R, k * 8 + 5, none⟩ (.bool rd)).setCell ⟨R, k * 8 + 6, none⟩ (.bool wr)).setCell ⟨R, k * 8 + 7, none⟩ (.bool ap)) (w.heap.size + 1) ⟨xkd, m2, xbn, xnum, xoff, xrd, xwr, xap⟩) := (hg.block _ (lt_of_heap Y3.out) (by have := HRw.out; simp; omega)).trans Y3.out
    clear hg hx HK
    go_upto_region 5 with fail
    obtain ⟨w4, hw4⟩ : ∃ w4, ((((((((w3.setCell ⟨R, k * 8, none⟩ (.int .i64 kd)).setCell ⟨R, k * 8 + 1, none⟩ (.string m1)).setCell ⟨R, k * 8 + 2, none⟩ (.int .i64 bn)).setCell ⟨R, k * 8 + 3, none⟩ (.int .i64 num)).setCell ⟨R, k * 8 + 4, none⟩ (.int .i64 off)).setCell ⟨R, k * 8 + 5, none⟩ (.bool rd)).setCell ⟨R, k * 8 + 6, none⟩ (.bool wr)).setCell ⟨R, k * 8 + 7, none⟩ (.bool ap)) = w4 := ⟨_, rfl⟩
    rw [hw4] at HB4 X4 Y4 T4 ⊢
    clear hw4 HB3 X3 Y3 T3 c0 c1 c2 c3 c4 c5 c6 c7 z0 z1 z2 z3 z4 z5 z6 z7 f0 f1 f2 f3 f4 f5 f6 f7 hk hk16 i0 i1
    obtain ⟨c0, c1, c2, c3, c4, c5, c6, c7⟩ := Y4.out.cells
    go_wp2_with fail
    refine (check31_is xkd m2 xbn xnum xoff xrd xwr xap q2 Hq2.out _ Hz2.out).mono ?_
    rintro r w5 ⟨rfl, hb⟩
    clear c0 c1 c2 c3 c4 c5 c6 c7
    have HB5 : Hid (Below w.heap.size w w5) := HB4.out.trans (hb.mono HB4.out.size)
    have X5 := Lib.hid (X4.out.later hb)
    have Y5 := Lib.hid (Y4.out.later hb)
    have T5 := Lib.hid (T4.out.later hb)
    clear hb HB4 X4 Y4 T4
    obtain ⟨bq, hbq⟩ : ∃ b, ((q2 : Int) == 0) = b := ⟨_, rfl⟩
    go_upto_if 25 with fail
    have HBq := Lib.hid hbq
    clear hbq
    go_cut [27] (fun _ wx => Hid (OpnAt wx w.heap.size ⟨kd, m1, bn, num, off, rd, wr, ap⟩) ∧ Hid (TabAt wx R t) ∧ Hid (Below w.heap.size w wx))
    case first =>
      cases bq with
      | true =>
        have hq2 : q2 = 0 := by have := HBq.out; simpa using this
        subst hq2
        clear HBq
        have HT2 : Hid ((zeroTab.set k ⟨kd, m1, bn, num, off, rd, wr, ap⟩).set k2 ⟨xkd, m2, xbn, xnum, xoff, xrd, xwr, xap⟩ = t) := by rw [← HT.out]; exact (if_pos Hq2.out).symm
        obtain ⟨hk2, hk216⟩ := HK2.out
        obtain ⟨x, hx⟩ := ent_some T5.out.2 hk216
        obtain ⟨ykd, ymak, ybn, ynum, yoff, yrd, ywr, yap⟩ := x
        have z0 : w5.cell? ⟨R, k2 * 8, none⟩ = some (.int .i64 ykd) := T5.out.cell hx (j := 0) rfl
        have z1 : w5.cell? ⟨R, k2 * 8 + 1, none⟩ = some (.string ymak) := T5.out.cell hx (j := 1) rfl
        have z2 : w5.cell? ⟨R, k2 * 8 + 2, none⟩ = some (.int .i64 ybn) := T5.out.cell hx (j := 2) rfl
        have z3 : w5.cell? ⟨R, k2 * 8 + 3, none⟩ = some (.int .i64 ynum) := T5.out.cell hx (j := 3) rfl
        have z4 : w5.cell? ⟨R, k2 * 8 + 4, none⟩ = some (.int .i64 yoff) := T5.out.cell hx (j := 4) rfl
        have z5 : w5.cell? ⟨R, k2 * 8 + 5, none⟩ = some (.bool yrd) := T5.out.cell hx (j := 5) rfl
        have z6 : w5.cell? ⟨R, k2 * 8 + 6, none⟩ = some (.bool ywr) := T5.out.cell hx (j := 6) rfl
        have z7 : w5.cell? ⟨R, k2 * 8 + 7, none⟩ = some (.bool yap) := T5.out.cell hx (j := 7) rfl
        have f0 := T5.out.free (k2 * 8)
        have f1 := T5.out.free (k2 * 8 + 1)
        have f2 := T5.out.free (k2 * 8 + 2)
        have f3 := T5.out.free (k2 * 8 + 3)
        have f4 := T5.out.free (k2 * 8 + 4)
        have f5 := T5.out.free (k2 * 8 + 5)
        have f6 := T5.out.free (k2 * 8 + 6)
        have f7 := T5.out.free (k2 * 8 + 7)
        obtain ⟨c0, c1, c2, c3, c4, c5, c6, c7⟩ := Y5.out.cells
        have i0 : (0 : Int) ≤ (k2 : Int) := by omega
        have i1 : (k2 : Int) < 16 := by omega
        have hg : w5.grownBy ((((((((w5.setCell ⟨R, k2 * 8, none⟩ (.int .i64 xkd)).setCell ⟨R, k2 * 8 + 1, none⟩ (.string m2)).setCell ⟨R, k2 * 8 + 2, none⟩ (.int .i64 xbn)).setCell ⟨R, k2 * 8 + 3, none⟩ (.int .i64 xnum)).setCell ⟨R, k2 * 8 + 4, none⟩ (.int .i64 xoff)).setCell ⟨R, k2 * 8 + 5, none⟩ (.bool xrd)).setCell ⟨R, k2 * 8 + 6, none⟩ (.bool xwr)).setCell ⟨R, k2 * 8 + 7, none⟩ (.bool xap)) (some R) := grown_set8 _ _ _ _ _ _ _ _ _ _ _ _ _ _ _ _ _ _
        have T6 : Hid (TabAt ((((((((w5.setCell ⟨R, k2 * 8, none⟩ (.int .i64 xkd)).setCell ⟨R, k2 * 8 + 1, none⟩ (.string m2)).setCell ⟨R, k2 * 8 + 2, none⟩ (.int .i64 xbn)).setCell ⟨R, k2 * 8 + 3, none⟩ (.int .i64 xnum)).setCell ⟨R, k2 * 8 + 4, none⟩ (.int .i64 xoff)).setCell ⟨R, k2 * 8 + 5, none⟩ (.bool xrd)).setCell ⟨R, k2 * 8 + 6, none⟩ (.bool xwr)).setCell ⟨R, k2 * 8 + 7, none⟩ (.bool xap)) R t) := by
          rw [← HT2.out]
          exact tab_stored T5.out hk216 ⟨xkd, m2, xbn, xnum, xoff, xrd, xwr, xap⟩
        have HB6 : Hid (Below w.heap.size w ((((((((w5.setCell ⟨R, k2 * 8, none⟩ (.int .i64 xkd)).setCell ⟨R, k2 * 8 + 1, none⟩ (.string m2)).setCell ⟨R, k2 * 8 + 2, none⟩ (.int .i64 xbn)).setCell ⟨R, k2 * 8 + 3, none⟩ (.int .i64 xnum)).setCell ⟨R, k2 * 8 + 4, none⟩ (.int .i64 xoff)).setCell ⟨R, k2 * 8 + 5, none⟩ (.bool xrd)).setCell ⟨R, k2 * 8 + 6, none⟩ (.bool xwr)).setCell ⟨R, k2 * 8 + 7, none⟩ (.bool xap))) := HB5.out.grown hg HB5.out.size (fun k hk => by cases hk; have := HRw.out; omega)
        have X6 : Hid (OpnAt ((((((((w5.setCell ⟨R, k2 * 8, none⟩ (.int .i64 xkd)).setCell ⟨R, k2 * 8 + 1, none⟩ (.string m2)).setCell ⟨R, k2 * 8 + 2, none⟩ (.int .i64 xbn)).setCell ⟨R, k2 * 8 + 3, none⟩ (.int .i64 xnum)).setCell ⟨R, k2 * 8 + 4, none⟩ (.int .i64 xoff)).setCell ⟨R, k2 * 8 + 5, none⟩ (.bool xrd)).setCell ⟨R, k2 * 8 + 6, none⟩ (.bool xwr)).setCell ⟨R, k2 * 8 + 7, none⟩ (.bool xap)) w.heap.size ⟨kd, m1, bn, num, off, rd, wr, ap⟩) := (hg.block _ (lt_of_heap X5.out) (by have := HRw.out; simp; omega)).trans X5.out
        clear hg hx HK2 HT HT2 T5 HB5 X5 Y5
        have hw5 : IntKind.u8.wrap ((fd : Int) + 5) = (((fd + 5) % 256 : Nat) : Int) := by unfold IntKind.wrap; simp only [IntKind.bits]; simp [IntKind.signed]
        obtain ⟨e5, hf5⟩ : ∃ e5, (fd + 5) % 256 = e5 := ⟨_, rfl⟩
        rw [hf5] at hw5
        have g0 : (0 : Int) ≤ (e5 : Int) := by omega
        have g1 : (e5 : Int) ≤ 255 := by omega
        have g2 : (e5 : Int) % 16 = (k2 : Int) := by omega
        have g3 : (e5 : Int).tmod 16 = (k2 : Int) := by rw [Int.tmod_eq_emod_of_nonneg g0]; exact g2
        clear hk2 hk216 hf5
        go_wp2
        go_meet
        exact ⟨X6.out, T6.out, HB6.out⟩
      | false =>
        have hq : ¬ q2 = 0 := by have := HBq.out; simpa using this
        have HT2 : Hid (zeroTab.set k ⟨kd, m1, bn, num, off, rd, wr, ap⟩ = t) := by rw [← HT.out]; exact (if_neg (by rw [Hq2.out]; exact hq)).symm
        have T6 : Hid (TabAt w5 R t) := by
          rw [← HT2.out]
          exact T5.out
        clear hq HBq
        go_wp2
        go_meet
        exact ⟨X5.out, T6.out, HB5.out⟩
    case rest =>
      obtain ⟨X6, T6, HB6⟩ := hcut
      clear HK2 HT T5 HB5 X5 Y5 HBq
      clear Hq2 Hz2
      have HEn := Lib.hid (dEncode_any t Hlen.out HMk.out wc)
      go_wp2
      refine wp_load_tab _ (by rfl) R (by rfl) T6.out ?_
      go_wp2_with fail
      refine HEn.out.mono ?_
      rintro r w7 ⟨rfl, hb⟩
      have HB7 : Hid (Below w.heap.size w w7) := HB6.out.trans (hb.mono HB6.out.size)
      have X7 := Lib.hid (X6.out.later hb)
      have T7 := Lib.hid (T6.out.later hb)
      clear hb HB6 X6 T6 HEn HMk
      obtain ⟨⟨s, e⟩, hse⟩ : ∃ p, encD t = p := ⟨_, rfl⟩
      have Hse := Lib.hid hse
      have hszs : s.size ≤ 65536 := by
        have := encD_size (t := t) (by have := Hlen.out; omega)
        rw [hse] at this
        exact this
      have Hss := Lib.hid hszs
      rw [hse]
      clear hse hszs
      dsimp only
      have HKn := Lib.hid (known31_any _ (HU.out _ HB7.out))
      go_wp2_with fail
      refine HKn.out.mono ?_
      rintro r w8 ⟨rfl, hb⟩
      have HB8 : Hid (Below w.heap.size w w8) := HB7.out.trans (hb.mono HB7.out.size)
      have X8 := Lib.hid (X7.out.later hb)
      have T8 := Lib.hid (T7.out.later hb)
      clear hb HB7 X7 T7 HKn
      obtain ⟨c0, c1, c2, c3, c4, c5, c6, c7⟩ := X8.out.cells
      go_wp2_with fail
      refine (oCheck_is kd m1 bn num off rd wr ap q1 Hq1.out _ Hz1.out).mono ?_
      rintro r w9 ⟨rfl, hb⟩
      have HB9 : Hid (Below w.heap.size w w9) := HB8.out.trans (hb.mono HB8.out.size)
      have X9 := Lib.hid (X8.out.later hb)
      have T9 := Lib.hid (T8.out.later hb)
      clear hb HB8 X8 T8 c0 c1 c2 c3 c4 c5 c6 c7
      obtain ⟨c0, c1, c2, c3, c4, c5, c6, c7⟩ := X9.out.cells
      have GOOD : Hid (tabE t = 0 → (∀ W, TabAt W R t → Below w.heap.size w W → (∀ W', Below W.heap.size W W' → TabAt W' R t) ∧ Calls Tryd.prog 13 #[.string s] W (fun r W' => r = .returned (.tuple #[.agg (tabA t), .int .i64 0]) ∧ Below W.heap.size W W') ∧ Calls Tryd.prog 14 #[.agg (tabA t)] W (fun r W' => r = .returned (.string s) ∧ Below W.heap.size W W')) ∧ e = 0) := fun h => by
        have e1 : encD t = (strOf (encDB t), 0) := if_pos h
        rw [Hse.out] at e1
        obtain ⟨rfl, rfl⟩ := Prod.mk.inj e1
        refine ⟨fun W hW hb => ⟨fun W' hb' => hW.later hb', ?_, value31_any t Hlen.out h W⟩, rfl⟩
        have := dDecode_any (strOf (encDB t)) W (Nat.le_trans Hss.out (by decide))
        unfold DecPost at this
        rw [ddec_enc h Hlen.out] at this
        exact this
      have BAD : Hid (tabE t ≠ 0 → s = ⟨#[]⟩ ∧ e = tabE t) := fun h => by
        have e1 : encD t = (⟨#[]⟩, tabE t) := if_neg h
        rw [Hse.out] at e1
        exact Prod.mk.inj e1
      clear Hse Hss Hq1 Hz1
      obtain ⟨bz, hbz⟩ : ∃ b, sameO ⟨kd, m1, bn, num, off, rd, wr, ap⟩ ⟨0, ⟨#[]⟩, 0, 0, 0, false, false, false⟩ = b := ⟨_, rfl⟩
      go_upto_if 46 with fail
      have HBz : Hid (isZ ⟨kd, m1, bn, num, off, rd, wr, ap⟩ = bz) := hbz
      clear hbz
      go_cut [7] (fun v wx => v = .int .i64 (tabE t) ∧ wx = w9)
      case first =>
        clear GOOD BAD
        cases bz with
        | true =>
          have H0 := Lib.hid (HEr.out.trans (if_pos HBz.out))
          go_wp2
          go_meet
          exact ⟨by rw [H0.out]; rfl, rfl⟩
        | false =>
          have H1 := Lib.hid (HEr.out.trans (if_neg (by rw [HBz.out]; decide)))
          go_wp2
          go_meet
          exact ⟨by rw [H1.out], rfl⟩
      case rest =>
        obtain ⟨rfl, rfl⟩ := hcut
        clear c0 c1 c2 c3 c4 c5 c6 c7 HEr
        by_cases hE : tabE t = 0
        · obtain ⟨hG, rfl⟩ := GOOD.out hE
          have HG := Lib.hid hG
          clear hG GOOD BAD
          rw [hE]
          clear hE
          go_upto_region 16 with fail
          have hdv := HG.out wc T9.out HB9.out
          obtain ⟨hla, hdc, -⟩ := hdv
          have Hdc := Lib.hid hdc
          clear hdc hla
          go_wp2_with fail
          refine Hdc.out.mono ?_
          rintro r w10 ⟨rfl, hb⟩
          have HB10 : Hid (Below w.heap.size w w10) := HB9.out.trans (hb.mono HB9.out.size)
          have T10 := Lib.hid (T9.out.later hb)
          clear hb HB9 X9 T9 Hdc
          have Hl := Lib.hid Hlen.out
          have hns := new_store w10 Hl.out
          have hsz := tabA_128 Hl.out
          have hb11 : Below w10.heap.size w10 (w10.alloc (.cells (tabA t) 31)) := (Below.refl _ _).alloc (Nat.le_refl _) _
          have HB11 : Hid (Below w.heap.size w (w10.alloc (.cells (tabA t) 31))) := HB10.out.trans (hb11.mono HB10.out.size)
          have T11 := Lib.hid (T10.out.later hb11)
          have U11 := Lib.hid (new_tab w10 Hl.out)
          clear hb11 HB10 T10
          go_upto_region 17 with fail
          clear hns hsz
          obtain ⟨V, hV⟩ : ∃ V, w10.heap.size = V := ⟨_, rfl⟩
          obtain ⟨wz, hwz⟩ : ∃ wz, (w10.alloc (.cells (tabA t) 31)) = wz := ⟨_, rfl⟩
          rw [hV] at U11 ⊢
          rw [hwz] at HB11 T11 U11 ⊢
          clear hwz hV
          have hdv := HG.out wz T11.out HB11.out
          obtain ⟨-, -, hvl⟩ := hdv
          have Hvl := Lib.hid hvl
          clear hvl HG
          go_wp2
          refine wp_load_tab _ (by rfl) R (by rfl) T11.out ?_
          go_wp2_with fail
          refine Hvl.out.mono ?_
          rintro r w12 ⟨rfl, hb⟩
          have HB12 : Hid (Below w.heap.size w w12) := HB11.out.trans (hb.mono HB11.out.size)
          have T12 := Lib.hid (T11.out.later hb)
          have U12 := Lib.hid (U11.out.later hb)
          clear hb HB11 T11 U11 Hvl
          have heq : ∀ W : World, (binOp .eql 31 (.agg (tabA t)) (.agg (tabA t))).run Tryd.prog W = .ok (.bool true) W := fun W => by
            rw [run_eql_tab W Hl.out Hl.out, (sameT_iff Hl.out Hl.out).2 rfl]
          go_wp2
          refine wp_load_tab _ (by rfl) V (by rfl) U12.out ?_
          go_wp2
          refine wp_load_tab _ (by rfl) R (by rfl) T12.out ?_
          go_wp2
          go_ret
          exact ⟨by simp, HB12.out⟩
        · obtain ⟨rfl, rfl⟩ := BAD.out hE
          have hq' : ((tabE t : Int) != 0) = true := bne_iff_ne.2 (by omega)
          clear hE GOOD BAD
          go_wp2
          go_ret
          exact ⟨by first | rfl | simp, HB9.out⟩
theorem dchecks_any (o m : OpnT) (fd : Nat) (w : World) (hfd : fd < 256) (hu : Usages w) (h1 : o.mak.size ≤ 9223372036854775807) (h2 : m.mak.size ≤ 9223372036854775807) :
    Calls Tryd.prog 3 #[opnA o, .int .u8 fd, opnA m] w fun r w' => r = .returned (.bool true) ∧ Below w.heap.size w w' :=
  dchecks_in o.kd o.mak _ o.bn o.num o.off o.rd o.wr o.ap fd m.kd m.mak _ m.bn m.num m.off m.rd m.wr m.ap w hfd hu h1 h2 rfl rfl
end Go.Proofs.YtfchfjipkggnkaaDoor
