/- Law 24: same; law 4: Of. (printed by wip/gen_is.py) -/
import Derived.Test.YthghfhnicdoebaaGreatDoorIsP
import Derived.BigQuiet
import Derived.Deep.LoopGhost
import Derived.Deep.RegionHeld3
namespace Go.Proofs.YthghfhnicdoebaaGreatDoor
open Go.RowKit
attribute [local go_sem ↓] Go.wp_at_zero Go.wp_at_succ

set_option maxRecDepth 100000 in
set_option maxHeartbeats 1000000 in
theorem of04_any (k : Int) (o : ByteArray) (nu ix : Int) (t : ByteArray) (w : World) :
    Calls Tryz.prog 55 #[.agg #[.int .i64 k, .string o, .int .i64 nu, .int .i64 ix, .string t]] w fun r w' => r = .returned (.agg #[.int .i64 k, .string o, .int .i64 nu, .int .i64 ix, .string t]) ∧ Below w.heap.size w w' := by
  go_enter Tryz.func55, Tryz.ntmps55
  go_wp2
  refine bodyPost_ret (v := .agg #[.int .i64 k, .string o, .int .i64 nu, .int .i64 ix, .string t]) (by simp [results, Tryz.results55, go_sem]) rfl ⟨rfl, ?_⟩
  exact ((Below.refl _ _).alloc (Nat.le_refl _) _).alloc (by simp) _
theorem run_neq_N (w : World) (a1 : Int) (a2 : ByteArray) (a3 a4 : Int) (a5 : ByteArray) (b1 : Int) (b2 : ByteArray) (b3 b4 : Int) (b5 : ByteArray) : (binOp .neq 38 (.agg #[.int .i64 a1, .string a2, .int .i64 a3, .int .i64 a4, .string a5]) (.agg #[.int .i64 b1, .string b2, .int .i64 b3, .int .i64 b4, .string b5])).run Tryz.prog w = .ok (.bool (neqNB ⟨a1, a2, a3, a4, a5⟩ ⟨b1, b2, b3, b4, b5⟩)) w := by
  have h := run_equal_N w a1 a2 a3 a4 a5 b1 b2 b3 b4 b5
  simp only [binOp]
  simp [h, neqNB, eqNB]
end Go.Proofs.YthghfhnicdoebaaGreatDoor

namespace Go.Proofs.YthghfhnicdoebaaGreatDoor
open Go.RowKit
attribute [local go_sem ↓] Go.wp_at_zero Go.wp_at_succ
attribute [local go_sem ↓] run_neq_N

set_option maxRecDepth 100000 in
set_option maxHeartbeats 3200000 in
theorem same24_any (w : World) (v1 v2 : Value) (cs : List ChangeT) (h1 : RowC w v1 cs) (h2 : RowK kC w v2 cs) (hlen : cs.length ≤ 10000) :
    Calls Tryz.prog 38 #[v1, v2] w fun r w' => r = .returned (.bool true) ∧ Below w.heap.size w w' := by
  have H1 := Lib.hid h1
  have H2 := Lib.hid h2
  obtain ⟨p1, k1, rfl, -⟩ := h1
  obtain ⟨p2, k2, rfl, -, -⟩ := h2.form
  clear h2
  generalize hnn : cs.length = n at *
  have Hn := Lib.hid hnn
  clear hnn
  go_enter Tryz.func38, Tryz.ntmps38
  go_wp2_with fail
  go_loopg [5] n (fun gk iv wr => ∃ k : Nat, k + gk = n ∧ iv = .int .i64 k ∧ Hid (Below w.heap.size w wr))
  case atStart => exact ⟨0, by omega, rfl, Below.refl _ _⟩
  case round =>
    obtain ⟨k, hk, rfl, HB⟩ := hrel
    have Hk := Lib.hid hk
    have hkn : k ≤ n := by omega
    clear hk
    by_cases hlt : k < n
    · have hkl : k < cs.length := by rw [Hn.out]; exact hlt
      have hx : cs[k]? = some cs[k] := List.getElem?_eq_getElem hkl
      generalize cs[k] = x at *
      obtain ⟨q, cap, e1, hr1⟩ := H1.out.later HB.out
      obtain ⟨g1, ea, hc1⟩ := hr1 k x hx
      obtain ⟨g2, o2, eb, hc2⟩ := (H2.out.later HB.out).at_ hx
      obtain ⟨e2, -, -⟩ := Value.slice.inj e1
      subst e2
      clear e1
      subst ea
      subst eb
      obtain ⟨⟨c1, c2, c3, c4, c5⟩, c6, c7⟩ := x
      have a0 : wr.cell? ⟨g1, k * 7, none⟩ = some (.int .i64 c1) := hc1 0 _ rfl
      have a1 : wr.cell? ⟨g1, k * 7 + 1, none⟩ = some (.string c2) := hc1 1 _ rfl
      have a2 : wr.cell? ⟨g1, k * 7 + 2, none⟩ = some (.int .i64 c3) := hc1 2 _ rfl
      have a3 : wr.cell? ⟨g1, k * 7 + 3, none⟩ = some (.int .i64 c4) := hc1 3 _ rfl
      have a4 : wr.cell? ⟨g1, k * 7 + 4, none⟩ = some (.string c5) := hc1 4 _ rfl
      have a5 : wr.cell? ⟨g1, k * 7 + 5, none⟩ = some (.string c6) := hc1 5 _ rfl
      have a6 : wr.cell? ⟨g1, k * 7 + 6, none⟩ = some (.bool c7) := hc1 6 _ rfl
      have b0 : wr.cell? ⟨g2, o2 + k * 7, none⟩ = some (.int .i64 c1) := hc2 0 _ rfl
      have b1 : wr.cell? ⟨g2, o2 + k * 7 + 1, none⟩ = some (.string c2) := hc2 1 _ rfl
      have b2 : wr.cell? ⟨g2, o2 + k * 7 + 2, none⟩ = some (.int .i64 c3) := hc2 2 _ rfl
      have b3 : wr.cell? ⟨g2, o2 + k * 7 + 3, none⟩ = some (.int .i64 c4) := hc2 3 _ rfl
      have b4 : wr.cell? ⟨g2, o2 + k * 7 + 4, none⟩ = some (.string c5) := hc2 4 _ rfl
      have b5 : wr.cell? ⟨g2, o2 + k * 7 + 5, none⟩ = some (.string c6) := hc2 5 _ rfl
      have b6 : wr.cell? ⟨g2, o2 + k * 7 + 6, none⟩ = some (.bool c7) := hc2 6 _ rfl
      have hq : neqNB ⟨c1, c2, c3, c4, c5⟩ ⟨c1, c2, c3, c4, c5⟩ = false := neqNB_self _
      clear hx hc1 hc2 hr1
      go_upto_region 6 with fail
      go_region_held3 (fun W => W.cell? ⟨g1, k * 7, none⟩ = some (.int .i64 c1) ∧ W.cell? ⟨g1, k * 7 + 1, none⟩ = some (.string c2) ∧ W.cell? ⟨g1, k * 7 + 2, none⟩ = some (.int .i64 c3) ∧ W.cell? ⟨g1, k * 7 + 3, none⟩ = some (.int .i64 c4) ∧ W.cell? ⟨g1, k * 7 + 4, none⟩ = some (.string c5) ∧ W.cell? ⟨g1, k * 7 + 5, none⟩ = some (.string c6) ∧ W.cell? ⟨g1, k * 7 + 6, none⟩ = some (.bool c7) ∧ W.cell? ⟨g2, o2 + k * 7, none⟩ = some (.int .i64 c1) ∧ W.cell? ⟨g2, o2 + k * 7 + 1, none⟩ = some (.string c2) ∧ W.cell? ⟨g2, o2 + k * 7 + 2, none⟩ = some (.int .i64 c3) ∧ W.cell? ⟨g2, o2 + k * 7 + 3, none⟩ = some (.int .i64 c4) ∧ W.cell? ⟨g2, o2 + k * 7 + 4, none⟩ = some (.string c5) ∧ W.cell? ⟨g2, o2 + k * 7 + 5, none⟩ = some (.string c6) ∧ W.cell? ⟨g2, o2 + k * 7 + 6, none⟩ = some (.bool c7)) (first | with_reducible exact S1.out | with_reducible exact ⟨a0, a1, a2, a3, a4, a5, a6, b0, b1, b2, b3, b4, b5, b6⟩ | go_keep)
        (first
          | (go_at_call 55; refine (of04_any c1 c2 c3 c4 c5 _).mono ?_; rintro r w9 ⟨rfl, hb⟩; have hb9 : Below wr.heap.size wr w9 := ((Below.refl _ _).drew).trans hb; have S1 : Hid (w9.cell? ⟨g1, k * 7, none⟩ = some (.int .i64 c1) ∧ w9.cell? ⟨g1, k * 7 + 1, none⟩ = some (.string c2) ∧ w9.cell? ⟨g1, k * 7 + 2, none⟩ = some (.int .i64 c3) ∧ w9.cell? ⟨g1, k * 7 + 3, none⟩ = some (.int .i64 c4) ∧ w9.cell? ⟨g1, k * 7 + 4, none⟩ = some (.string c5) ∧ w9.cell? ⟨g1, k * 7 + 5, none⟩ = some (.string c6) ∧ w9.cell? ⟨g1, k * 7 + 6, none⟩ = some (.bool c7) ∧ w9.cell? ⟨g2, o2 + k * 7, none⟩ = some (.int .i64 c1) ∧ w9.cell? ⟨g2, o2 + k * 7 + 1, none⟩ = some (.string c2) ∧ w9.cell? ⟨g2, o2 + k * 7 + 2, none⟩ = some (.int .i64 c3) ∧ w9.cell? ⟨g2, o2 + k * 7 + 3, none⟩ = some (.int .i64 c4) ∧ w9.cell? ⟨g2, o2 + k * 7 + 4, none⟩ = some (.string c5) ∧ w9.cell? ⟨g2, o2 + k * 7 + 5, none⟩ = some (.string c6) ∧ w9.cell? ⟨g2, o2 + k * 7 + 6, none⟩ = some (.bool c7)) := ⟨((bcell hb9).1 _ _ (World.block_lt_of_cell? wr _ a0)).trans a0, ((bcell hb9).1 _ _ (World.block_lt_of_cell? wr _ a1)).trans a1, ((bcell hb9).1 _ _ (World.block_lt_of_cell? wr _ a2)).trans a2, ((bcell hb9).1 _ _ (World.block_lt_of_cell? wr _ a3)).trans a3, ((bcell hb9).1 _ _ (World.block_lt_of_cell? wr _ a4)).trans a4, ((bcell hb9).1 _ _ (World.block_lt_of_cell? wr _ a5)).trans a5, ((bcell hb9).1 _ _ (World.block_lt_of_cell? wr _ a6)).trans a6, ((bcell hb9).1 _ _ (World.block_lt_of_cell? wr _ b0)).trans b0, ((bcell hb9).1 _ _ (World.block_lt_of_cell? wr _ b1)).trans b1, ((bcell hb9).1 _ _ (World.block_lt_of_cell? wr _ b2)).trans b2, ((bcell hb9).1 _ _ (World.block_lt_of_cell? wr _ b3)).trans b3, ((bcell hb9).1 _ _ (World.block_lt_of_cell? wr _ b4)).trans b4, ((bcell hb9).1 _ _ (World.block_lt_of_cell? wr _ b5)).trans b5, ((bcell hb9).1 _ _ (World.block_lt_of_cell? wr _ b6)).trans b6⟩; have HB9 : Hid (Below w.heap.size w w9) := HB.out.trans (hb9.mono HB.out.size); clear hb hb9)
          | fail)
      clear a0 a1 a2 a3 a4 a5 a6 b0 b1 b2 b3 b4 b5 b6
      go_wp2
      go_roundg (n - (k + 1))
      case measure => have := Hk.out; omega
      case rel => exact ⟨k + 1, by have := Hk.out; omega, by go_num, HB9.out⟩
    · go_wp2
      go_ret
      exact ⟨rfl, HB.out⟩
end Go.Proofs.YthghfhnicdoebaaGreatDoor
