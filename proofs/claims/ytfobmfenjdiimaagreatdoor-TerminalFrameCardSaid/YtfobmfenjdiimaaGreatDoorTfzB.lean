/- Law 36: Equal, Same, To, Of. (printed by wip/gen_rtd.py) Law 36: To, Of. (printed by wip/gen_rtd.py) view.Rollback. Law 36: play. (printed by wip/gen_plu.py) -/
import Derived.Test.YtfobmfenjdiimaaGreatDoorRtC
import Derived.Test.YtfobmfenjdiimaaGreatDoorViewH
import Derived.Test.YtfobmfenjdiimaaGreatDoorQmC
import Derived.Test.YtfobmfenjdiimaaGreatDoorTfzC
import Derived.Test.YtfobmfenjdiimaaGreatDoorRowU36
import Derived.Deep.RegionHeld3
import Derived.Deep.LoopGhost
namespace Go.Proofs.YtfobmfenjdiimaaGreatDoor
open Go.RowKit
attribute [local go_sem ↓] Go.wp_at_zero Go.wp_at_succ

theorem below_toD {B : Nat} {w w1 : World} (h : Below B w w1) (k : Nat) : Below B w (w1.drewN k) := ⟨h.os, h.tape, h.output, h.size, h.block⟩
theorem take_eq_s {α : Type} {xs ys : List α} {k : Nat} {x y : α} (hx : xs[k]? = some x) (hy : ys[k]? = some y) (h : xs.take k = ys.take k) (e : x = y) : xs.take (k + 1) = ys.take (k + 1) := by
  rw [List.take_add_one, List.take_add_one, hx, hy, h, e]
theorem str_ne {x y : ByteArray} (h : x ≠ y) : (x.toList == y.toList) = false := by rw [str_beq]; exact decide_eq_false h
theorem str_same (x : ByteArray) : (x.toList != x.toList) = false := by simp
theorem SSl.at_ {w : World} {a : Option Addr} {n : Nat} {ls : List ByteArray} (h : SSl w a n ls) {k : Nat} (hk : k < n) : ∃ g off x, a = some ⟨g, off, none⟩ ∧ ls[k]? = some x ∧ w.cell? ⟨g, off + k, none⟩ = some (.string x) := by
  obtain ⟨g, off, rfl, hc⟩ := h.2 (by omega)
  have hkl : k < ls.length := by rw [h.1]; exact hk
  have hg : ls.getD k ⟨#[]⟩ = ls[k] := by rw [List.getD_eq_getElem?_getD, List.getElem?_eq_getElem hkl]; rfl
  have hcc := hc k hk
  rw [hg] at hcc
  exact ⟨g, off, ls[k], rfl, List.getElem?_eq_getElem hkl, hcc⟩
set_option maxRecDepth 100000 in
set_option maxHeartbeats 3200000 in
theorem slEqS_any (w : World) (p1 p2 : Option Addr) (n m k1 k2 : Nat) (xs ys : List ByteArray) (h1 : SSl w p1 n xs) (h2 : SSl w p2 m ys) (hx : n ≤ 70368744177664) :
    Calls Tryz.prog 44 #[.slice p1 n k1, .slice p2 m k2] w fun r w' => r = .returned (.bool (decide (xs = ys))) ∧ Below w.heap.size w w' := by
  have H1 := Lib.hid h1
  have H2 := Lib.hid h2
  have hl1 := h1.1
  have hl2 := h2.1
  clear h1 h2
  by_cases hn : n = m
  case neg =>
    have HF : Hid (decide (xs = ys) = false) := decide_eq_false (fun e => hn (by rw [← hl1, ← hl2, e]))
    clear hl1 hl2
    have hne : ((n : Int) == (m : Int)) = false := beq_eq_false_iff_ne.2 (by omega)
    go_enter Tryz.func44, Tryz.ntmps44
    go_wp2_with fail
    refine bodyPost_ret (v := .bool false) (by simp [results, Tryz.results44, go_sem]) rfl ?_
    exact ⟨by rw [HF.out], Below.refl _ _⟩
  subst hn
  have Hn := Lib.hid hl1
  have Hm := Lib.hid hl2
  clear hl1 hl2
  go_enter Tryz.func44, Tryz.ntmps44
  go_wp2_with fail
  go_loopg [13] n (fun gk iv wr => ∃ k : Nat, k + gk = n ∧ iv = .int .i64 k ∧ Hid (xs.take k = ys.take k) ∧ Hid (Below w.heap.size w wr))
  case atStart => exact ⟨0, by omega, rfl, (by show _ = _; rw [List.take_zero, List.take_zero]), Below.refl _ _⟩
  case round =>
    obtain ⟨k, hg, rfl, HTk, HB⟩ := hrel
    have Hg := Lib.hid hg
    have hk : k ≤ n := by omega
    clear hg
    by_cases hlt : k < n
    · obtain ⟨g1, o1, x, rfl, ex, c1⟩ := (H1.out.later HB.out).at_ hlt
      obtain ⟨g2, o2, y, rfl, ey, c2⟩ := (H2.out.later HB.out).at_ hlt
      have Hex := Lib.hid ex
      have Hey := Lib.hid ey
      clear ex ey
      by_cases he : x = y
      · have HTn : Hid (xs.take (k + 1) = ys.take (k + 1)) := take_eq_s Hex.out Hey.out HTk.out he
        subst he
        have hx' := str_same x
        go_upto_region 6 with fail
        go_quiet (fail)
        go_wp2
        go_roundg (n - (k + 1))
        case measure => have := Hg.out; omega
        case rel => exact ⟨k + 1, by have := Hg.out; omega, by go_num, HTn.out, below_toD HB.out _⟩
      · have hq := str_ne he
        have HF : Hid (decide (xs = ys) = false) := decide_eq_false (fun e => he (by have h := Hey.out; rw [← e, Hex.out] at h; exact Option.some.inj h))
        clear he
        go_upto_region 6 with fail
        go_quiet (fail)
        go_wp2
        refine bodyPost_ret (v := .bool false) (by simp [results, Tryz.results44, go_sem]) rfl ?_
        exact ⟨by rw [HF.out], below_toD HB.out _⟩
    · have HF : Hid (decide (xs = ys) = true) := decide_eq_true (by
        have h := HTk.out
        rw [List.take_of_length_le (by rw [Hn.out]; omega), List.take_of_length_le (by rw [Hm.out]; omega)] at h
        exact h)
      go_wp2
      refine bodyPost_ret (v := .bool true) (by simp [results, Tryz.results44, go_sem]) rfl ?_
      exact ⟨by rw [HF.out], HB.out⟩
set_option maxRecDepth 100000 in
set_option maxHeartbeats 3200000 in
theorem tEqual_any (ep : Int) (se sc : ByteArray) (a : Option Addr) (n c : Nat) (ls : List ByteArray) (ep2 : Int) (se2 sc2 : ByteArray) (a2 : Option Addr) (n2 c2 : Nat) (ls2 : List ByteArray) (w : World) (hs : SSl w a n ls) (hs2 : SSl w a2 n2 ls2) (hn : n ≤ 70368744177664) :
    Calls Tryz.prog 18 #[.agg #[.int .i64 ep, .string se, .slice a n c, .string sc], .agg #[.int .i64 ep2, .string se2, .slice a2 n2 c2, .string sc2]] w fun r w' => r = .returned (.bool (decide ((⟨ep, se, ls, sc⟩ : TermT) = ⟨ep2, se2, ls2, sc2⟩))) ∧ Below w.heap.size w w' := by
  have HS : Hid (∀ W, Below w.heap.size w W → SSl W a n ls) := fun W hW => hs.later hW
  have HS2 : Hid (∀ W, Below w.heap.size w W → SSl W a2 n2 ls2) := fun W hW => hs2.later hW
  have HA : Hid (∀ o o', Below w.heap.size w ((w.alloc o).alloc o')) := fun o o' => ((Below.refl _ _).alloc (Nat.le_refl _) _).alloc (by rw [World.size_alloc]; omega) _
  clear hs hs2
  by_cases h1 : ep = ep2
  case neg =>
    have HF : Hid (decide ((⟨ep, se, ls, sc⟩ : TermT) = ⟨ep2, se2, ls2, sc2⟩) = false) := decide_eq_false (fun e => h1 (by injection e))
    have hx : (ep == ep2) = false := beq_eq_false_iff_ne.2 h1
    clear h1
    go_enter Tryz.func18, Tryz.ntmps18
    go_wp2
    refine bodyPost_ret (v := .bool false) (by simp [results, Tryz.results18, go_sem]) rfl ?_
    exact ⟨by rw [HF.out], HA.out _ _⟩
  subst h1
  by_cases h2 : se = se2
  case neg =>
    have HF : Hid (decide ((⟨ep, se, ls, sc⟩ : TermT) = ⟨ep, se2, ls2, sc2⟩) = false) := decide_eq_false (fun e => h2 (by injection e))
    have hx := str_ne h2
    clear h2
    go_enter Tryz.func18, Tryz.ntmps18
    go_wp2
    refine bodyPost_ret (v := .bool false) (by simp [results, Tryz.results18, go_sem]) rfl ?_
    exact ⟨by rw [HF.out], HA.out _ _⟩
  subst h2
  by_cases h3 : sc = sc2
  case neg =>
    have HF : Hid (decide ((⟨ep, se, ls, sc⟩ : TermT) = ⟨ep, se, ls2, sc2⟩) = false) := decide_eq_false (fun e => h3 (by injection e))
    have hx := str_ne h3
    clear h3
    go_enter Tryz.func18, Tryz.ntmps18
    go_wp2
    refine bodyPost_ret (v := .bool false) (by simp [results, Tryz.results18, go_sem]) rfl ?_
    exact ⟨by rw [HF.out], HA.out _ _⟩
  subst h3
  have HF : Hid (decide ((⟨ep, se, ls, sc⟩ : TermT) = ⟨ep, se, ls2, sc⟩) = decide (ls = ls2)) := decide_eq_decide.2 ⟨fun e => by injection e, fun e => by rw [e]⟩
  go_enter Tryz.func18, Tryz.ntmps18
  go_wp2_with fail
  refine (slEqS_any _ a a2 n n2 c c2 ls ls2 (HS.out _ (HA.out _ _)) (HS2.out _ (HA.out _ _)) hn).mono ?_
  rintro r w1 ⟨rfl, hb⟩
  have HB := Lib.hid ((HA.out _ _).trans (hb.mono (HA.out _ _).size))
  clear hb
  generalize decide (ls = ls2) = bb at *
  go_wp2
  refine bodyPost_ret (v := .bool bb) (by simp [results, Tryz.results18, go_sem]) rfl ?_
  exact ⟨by rw [HF.out], HB.out⟩
set_option maxRecDepth 100000 in
set_option maxHeartbeats 3200000 in
theorem rSame36_any (ep : Int) (se sc : ByteArray) (a : Option Addr) (n c : Nat) (ls : List ByteArray) (ep2 : Int) (se2 sc2 : ByteArray) (a2 : Option Addr) (n2 c2 : Nat) (ls2 : List ByteArray) (w : World) (hs : SSl w a n ls) (hs2 : SSl w a2 n2 ls2) (hn : n ≤ 70368744177664) :
    Calls Tryz.prog 39 #[.agg #[.int .i64 ep, .string se, .slice a n c, .string sc], .agg #[.int .i64 ep2, .string se2, .slice a2 n2 c2, .string sc2]] w fun r w' => r = .returned (.bool (decide ((⟨ep, se, ls, sc⟩ : TermT) = ⟨ep2, se2, ls2, sc2⟩))) ∧ Below w.heap.size w w' := by
  have hl1 := hs.1
  have hl2 := hs2.1
  have HS : Hid (∀ W, Below w.heap.size w W → SSl W a n ls) := fun W hW => hs.later hW
  have HS2 : Hid (∀ W, Below w.heap.size w W → SSl W a2 n2 ls2) := fun W hW => hs2.later hW
  have HA : Hid (∀ o o', Below w.heap.size w ((w.alloc o).alloc o')) := fun o o' => ((Below.refl _ _).alloc (Nat.le_refl _) _).alloc (by rw [World.size_alloc]; omega) _
  clear hs hs2
  by_cases h1 : ep = ep2
  case neg =>
    have HF : Hid (decide ((⟨ep, se, ls, sc⟩ : TermT) = ⟨ep2, se2, ls2, sc2⟩) = false) := decide_eq_false (fun e => h1 (by injection e))
    have hx : (ep == ep2) = false := beq_eq_false_iff_ne.2 h1
    clear h1
    clear hl1 hl2
    go_enter Tryz.func39, Tryz.ntmps39
    go_wp2
    all_goals
      refine bodyPost_ret (v := .bool false) (by simp [results, Tryz.results39, go_sem]) rfl ?_
      exact ⟨by rw [HF.out], HA.out _ _⟩
  subst h1
  by_cases h2 : se = se2
  case neg =>
    have HF : Hid (decide ((⟨ep, se, ls, sc⟩ : TermT) = ⟨ep, se2, ls2, sc2⟩) = false) := decide_eq_false (fun e => h2 (by injection e))
    have hx := str_ne h2
    clear h2
    clear hl1 hl2
    go_enter Tryz.func39, Tryz.ntmps39
    go_wp2
    all_goals
      refine bodyPost_ret (v := .bool false) (by simp [results, Tryz.results39, go_sem]) rfl ?_
      exact ⟨by rw [HF.out], HA.out _ _⟩
  subst h2
  by_cases h3 : sc = sc2
  case neg =>
    have HF : Hid (decide ((⟨ep, se, ls, sc⟩ : TermT) = ⟨ep, se, ls2, sc2⟩) = false) := decide_eq_false (fun e => h3 (by injection e))
    have hx := str_ne h3
    clear h3
    clear hl1 hl2
    go_enter Tryz.func39, Tryz.ntmps39
    go_wp2
    all_goals
      refine bodyPost_ret (v := .bool false) (by simp [results, Tryz.results39, go_sem]) rfl ?_
      exact ⟨by rw [HF.out], HA.out _ _⟩
  subst h3
  by_cases h4 : n = n2
  case neg =>
    have HF : Hid (decide ((⟨ep, se, ls, sc⟩ : TermT) = ⟨ep, se, ls2, sc⟩) = false) := decide_eq_false (fun e => h4 (by injection e with _ _ e3; rw [← hl1, ← hl2, e3]))
    have hx : ((n : Int) == (n2 : Int)) = false := beq_eq_false_iff_ne.2 (by omega)
    clear h4
    clear hl1 hl2
    go_enter Tryz.func39, Tryz.ntmps39
    go_wp2
    all_goals
      refine bodyPost_ret (v := .bool false) (by simp [results, Tryz.results39, go_sem]) rfl ?_
      exact ⟨by rw [HF.out], HA.out _ _⟩
  subst h4
  have HD : Hid (decide ((⟨ep, se, ls, sc⟩ : TermT) = ⟨ep, se, ls2, sc⟩) = decide (ls = ls2)) := decide_eq_decide.2 ⟨fun e => by injection e, fun e => by rw [e]⟩
  have Hn := Lib.hid hl1
  have Hm := Lib.hid hl2
  have hx1 := str_same se
  have hx2 := str_same sc
  have HX : Hid (∀ o o' : Obj, ((w.alloc o).alloc o').heap[w.heap.size]? = some o ∧ ((w.alloc o).alloc o').heap[w.heap.size + 1]? = some o') := fun o o' => ⟨(Below.heap_alloc _ _ _ (by simp)).trans (World.alloc_heap_new w _), by have := World.alloc_heap_new (w.alloc o) o'; rw [World.size_alloc] at this; exact this⟩
  clear hl1 hl2
  go_enter Tryz.func39, Tryz.ntmps39
  go_wp2_with fail
  have HX0 := Lib.hid (HX.out (.cells #[.int .i64 ep, .string se, .slice a n c, .string sc] 42) (.cells #[.int .i64 ep, .string se, .slice a2 n c2, .string sc] 42))
  have HA0 := Lib.hid (HA.out (.cells #[.int .i64 ep, .string se, .slice a n c, .string sc] 42) (.cells #[.int .i64 ep, .string se, .slice a2 n c2, .string sc] 42))
  clear HX HA hx1 hx2
  generalize (w.alloc (.cells #[.int .i64 ep, .string se, .slice a n c, .string sc] 42)).alloc (.cells #[.int .i64 ep, .string se, .slice a2 n c2, .string sc] 42) = w0 at *
  go_loopg [5] n (fun gk iv wr => ∃ k : Nat, k + gk = n ∧ iv = .int .i64 k ∧ Hid (ls.take k = ls2.take k) ∧ Hid (Below w0.heap.size w0 wr))
  case atStart => exact ⟨0, by omega, rfl, (by show _ = _; rw [List.take_zero, List.take_zero]), Below.refl _ _⟩
  case round =>
    obtain ⟨k, hg, rfl, HTk, HB⟩ := hrel
    have Hg := Lib.hid hg
    have hk : k ≤ n := by omega
    clear hg
    have HBw : Hid (Below w.heap.size w wr) := HA0.out.trans (HB.out.mono HA0.out.size)
    have b1 : wr.cell? ⟨w.heap.size, 2, none⟩ = some (.slice a n c) := cell_of_heap ((HB.out.block _ (lt_of_heap HX0.out.1)).trans HX0.out.1) 2
    have b2 : wr.cell? ⟨w.heap.size + 1, 2, none⟩ = some (.slice a2 n c2) := cell_of_heap ((HB.out.block _ (lt_of_heap HX0.out.2)).trans HX0.out.2) 2
    by_cases hlt : k < n
    · obtain ⟨g1, o1, x, rfl, ex, c1⟩ := (HS.out _ HBw.out).at_ hlt
      obtain ⟨g2, o2, y, rfl, ey, c2⟩ := (HS2.out _ HBw.out).at_ hlt
      have Hex := Lib.hid ex
      have Hey := Lib.hid ey
      clear ex ey
      by_cases he : x = y
      · have HTn : Hid (ls.take (k + 1) = ls2.take (k + 1)) := take_eq_s Hex.out Hey.out HTk.out he
        subst he
        have hx' := str_same x
        go_upto_region 6 with fail
        go_quiet (fail)
        go_wp2
        go_roundg (n - (k + 1))
        case measure => have := Hg.out; omega
        case rel => exact ⟨k + 1, by have := Hg.out; omega, by go_num, HTn.out, below_toD HB.out _⟩
      · have hq := str_ne he
        have HF : Hid (decide (ls = ls2) = false) := decide_eq_false (fun e => he (by have h := Hey.out; rw [← e, Hex.out] at h; exact Option.some.inj h))
        clear he
        go_upto_region 6 with fail
        go_quiet (fail)
        go_wp2
        refine bodyPost_ret (v := .bool false) (by simp [results, Tryz.results39, go_sem]) rfl ?_
        exact ⟨by rw [HD.out, HF.out], below_toD HBw.out _⟩
    · have HF : Hid (decide (ls = ls2) = true) := decide_eq_true (by
        have h := HTk.out
        rw [List.take_of_length_le (by rw [Hn.out]; omega), List.take_of_length_le (by rw [Hm.out]; omega)] at h
        exact h)
      go_wp2
      refine bodyPost_ret (v := .bool true) (by simp [results, Tryz.results39, go_sem]) rfl ?_
      exact ⟨by rw [HD.out, HF.out], HBw.out⟩
end Go.Proofs.YtfobmfenjdiimaaGreatDoor

namespace Go.Proofs.YtfobmfenjdiimaaGreatDoor
open Go.RowKit
attribute [local go_sem ↓] Go.wp_at_zero Go.wp_at_succ

/-- In the midst of To, or Of: the copy stands behind the result's block. -/
structure CpAt (w W : World) (TY TZ : TypeId) (s0 : Array Value) (ep : Int) (se : ByteArray) (ls : List ByteArray) (sc : ByteArray) (tv : Value) : Prop where
  src : W.heap[w.heap.size]? = some (.cells s0 TY (0, 0))
  res : W.heap[w.heap.size + 1]? = some (.cells #[.int .i64 0, .string ⟨#[]⟩, .slice none 0 0, .string ⟨#[]⟩] TZ (0, 0))
  box : W.heap[w.heap.size + 1 + 1]? = some (.cells #[.int .i64 ep, .string se, tv, .string sc] TZ (0, 0))
  low : Below w.heap.size w W
  row : SRow W tv ls
  own : ∀ g, tv.ownBlock = some g → w.heap.size + 1 + 1 < g
section
variable {w W W' w2 : World} {TY TZ : TypeId} {s0 : Array Value} {ep : Int} {se sc : ByteArray} {ls ls' : List ByteArray} {tv : Value}
theorem CpAt.start (w : World) (TY TZ : TypeId) (s0 : Array Value) (ep : Int) (se sc : ByteArray) : CpAt w (((w.alloc (.cells s0 TY)).alloc (.cells #[.int .i64 0, .string ⟨#[]⟩, .slice none 0 0, .string ⟨#[]⟩] TZ)).alloc (.cells #[.int .i64 ep, .string se, .slice none 0 0, .string sc] TZ)) TY TZ s0 ep se [] sc (.slice none 0 0) := by
  have h1 := World.alloc_heap_new w (.cells s0 TY)
  have h2 := World.alloc_heap_new (w.alloc (.cells s0 TY)) (.cells #[.int .i64 0, .string ⟨#[]⟩, .slice none 0 0, .string ⟨#[]⟩] TZ)
  have h3 := World.alloc_heap_new ((w.alloc (.cells s0 TY)).alloc (.cells #[.int .i64 0, .string ⟨#[]⟩, .slice none 0 0, .string ⟨#[]⟩] TZ)) (.cells #[.int .i64 ep, .string se, .slice none 0 0, .string sc] TZ)
  rw [World.size_alloc] at h2
  rw [World.size_alloc, World.size_alloc] at h3
  refine ⟨(Below.heap_alloc _ _ _ (by simp; omega)).trans ((Below.heap_alloc _ _ _ (by simp)).trans h1), (Below.heap_alloc _ _ _ (by simp)).trans h2, h3, (((Below.refl _ _).alloc (Nat.le_refl _) _).alloc (by simp) _).alloc (by simp; omega) _, World.ownsRow_nil _ _ _ _, fun g hg => by cases hg⟩
theorem CpAt.append {o : Obj} {g n cap : Nat} (h : CpAt w W TY TZ s0 ep se ls sc tv) (hb : Below W.heap.size W W') (hrow : SRow w2 (.slice (some ⟨g, 0, none⟩) n cap) ls') (hg : (W'.alloc o).grownBy w2 tv.ownBlock) (hat : tv.ownBlock = some g ∨ g = (W'.alloc o).heap.size) :
    CpAt w (w2.setCell ⟨w.heap.size + 1 + 1, 2, none⟩ (.slice (some ⟨g, 0, none⟩) n cap)) TY TZ s0 ep se ls' sc (.slice (some ⟨g, 0, none⟩) n cap) := by
  have hT := lt_of_heap h.box
  have hsz := hb.size
  have hgT : w.heap.size + 1 + 1 < g := by
    rcases hat with e | e
    · exact h.own g e
    · rw [e]; simp; omega
  have hg' : W.grownBy w2 tv.ownBlock := ⟨hg.os.trans hb.os, hg.tape.trans hb.tape, hg.output.trans hb.output, Nat.le_trans hb.size (Nat.le_trans (by simp) hg.size), fun k hk hne => ((hg.block k (by simp; omega) hne).trans (Below.heap_alloc W' _ k (by omega))).trans (hb.block k hk)⟩
  have h1 : w2.heap[w.heap.size + 1 + 1]? = _ := (hg'.block _ hT (fun e => absurd (h.own _ e.symm) (Nat.lt_irrefl _))).trans h.box
  have h2 : w2.heap[w.heap.size + 1]? = _ := (hg'.block _ (by omega) (fun e => by have := h.own _ e.symm; omega)).trans h.res
  have h3 : w2.heap[w.heap.size]? = _ := (hg'.block _ (by omega) (fun e => by have := h.own _ e.symm; omega)).trans h.src
  refine ⟨(Below.heap_setCell _ _ _ _ (by show w.heap.size ≠ w.heap.size + 1 + 1; omega)).trans h3, (Below.heap_setCell _ _ _ _ (by show w.heap.size + 1 ≠ w.heap.size + 1 + 1; omega)).trans h2, heap_setCell_same h1 2 _, ?_, hrow.grown (grown_setCell _ _ _ _) (fun k hk e => ?_), fun k hk => ?_⟩
  · exact pBelow_row (pBelow_row h.low hg' (Nat.le_refl _) (fun k hk => by have := h.own k hk; omega)) (grown_setCell _ _ _ _) (Nat.le_refl _) (fun k hk => by cases hk; omega)
  · cases hk
    simp [Value.ownBlock] at e
    omega
  · simp [Value.ownBlock] at hk
    omega
theorem row_count {w : World} {a : Option Addr} {n c : Nat} {ls : List ByteArray} (h : SRow w (.slice a n c) ls) : n = ls.length := h.sl.1.symm
/-- What To and Of leave. -/
def CpPost (w : World) (t : TermT) (r : Ending) (w' : World) : Prop :=
  ∃ a c, r = .returned (.agg #[.int .i64 t.epoch, .string t.session, .slice a t.typed.length c, .string t.screen]) ∧ SRow w' (.slice a t.typed.length c) t.typed ∧ (∀ g, (Value.slice a t.typed.length c).ownBlock = some g → w.heap.size ≤ g) ∧ Below w.heap.size w w'
theorem CpAt.done {a : Option Addr} {n c : Nat} (h : CpAt w W TY TZ s0 ep se ls sc (.slice a n c)) (hn : n = ls.length) (hg : W.grownBy W' (some (w.heap.size + 1))) : CpPost w ⟨ep, se, ls, sc⟩ (.returned (.agg #[.int .i64 ep, .string se, .slice a n c, .string sc])) W' := by
  subst hn
  exact ⟨a, c, rfl, h.row.grown hg (fun k hk e => by cases hk; have := h.own _ e; omega), (fun g hg => by have := h.own g hg; omega), pBelow_row h.low hg (Nat.le_refl _) (fun k hk => by cases hk; omega)⟩
end
set_option maxRecDepth 100000 in
set_option maxHeartbeats 3200000 in
theorem of36_any (ep : Int) (se sc : ByteArray) (a : Option Addr) (n c : Nat) (ls : List ByteArray) (w : World) (hs : SSl w a n ls) (hn : n ≤ 1000000) :
    Calls Tryz.prog 40 #[.agg #[.int .i64 ep, .string se, .slice a n c, .string sc]] w (CpPost w ⟨ep, se, ls, sc⟩) := by
  have D0 := Lib.hid (CpAt.start w 38 42 #[.int .i64 ep, .string se, .slice a n c, .string sc] ep se sc)
  have hl1 := hs.1
  have Hn1 := Lib.hid hl1
  have HS : Hid (∀ W, Below w.heap.size w W → SSl W a n ls) := fun W hW => hs.later hW
  clear hs hl1
  go_enter Tryz.func40, Tryz.ntmps40
  go_wp2_with fail
  generalize ((w.alloc (.cells #[.int .i64 ep, .string se, .slice a n c, .string sc] 38)).alloc (.cells #[.int .i64 0, .string ⟨#[]⟩, .slice none 0 0, .string ⟨#[]⟩] 42)).alloc (.cells #[.int .i64 ep, .string se, .slice none 0 0, .string sc] 42) = W0 at *
  go_loopg [4] n (fun gk iv wr => ∃ (k : Nat) (b : Option Addr) (d : Nat), k + gk = n ∧ iv = .int .i64 k ∧ Hid (CpAt w wr 38 42 #[.int .i64 ep, .string se, .slice a n c, .string sc] ep se (ls.take k) sc (.slice b k d)))
  case atStart => exact ⟨0, none, 0, by omega, rfl, D0.out⟩
  case round =>
    clear D0
    obtain ⟨k, b, d, hg, rfl, D⟩ := hrel
    have Hg := Lib.hid hg
    have hk : k ≤ n := by omega
    clear hg
    have c2 : wr.cell? ⟨w.heap.size, 2, none⟩ = some (.slice a n c) := cell_of_heap D.out.src 2
    by_cases hlt : k < n
    · obtain ⟨g1, o1, x, rfl, ex, c1⟩ := (HS.out _ D.out.low).at_ hlt
      have HTn : Hid (ls.take (k + 1) = ls.take k ++ [x]) := by show _ = _; rw [List.take_add_one, ex]; rfl
      clear ex
      have c3 : wr.cell? ⟨w.heap.size + 1 + 1, 2, none⟩ = some (.slice b k d) := cell_of_heap D.out.box 2
      have hlt5 := lt_of_heap D.out.box
      have hg1 := World.block_lt_of_cell? wr _ c1
      have Hl : Hid ((ls.take k).length ≤ 1000000) := by show _ ≤ _; rw [List.length_take]; have := Hn1.out; omega
      have Drow : Hid (∀ o, SRow (wr.drew.alloc o) (.slice b k d) (ls.take k)) := fun o => World.ownsRow.alloc D.out.row o
      go_upto_region 5 with fail
      have hne1 := World.new_ne wr ⟨g1, o1 + k, none⟩ c1
      have hne2 := World.new_ne wr ⟨w.heap.size, 2, none⟩ c2
      have hne3 := World.new_ne wr ⟨w.heap.size + 1 + 1, 2, none⟩ c3
      go_region_law (first
        | (refine step_append_string (by rfl) _ _ (by rfl) (.slice b k d) (ls.take k) (by rfl) (Drow.out _) _ wr.heap.size (by rfl) (heap_alloc_new wr.drew _) Hl.out ?_; intro g m cap w6 hrow6 hg6 hat6; have D6 := Lib.hid (D.out.append (Below.refl _ _).drew hrow6 hg6 hat6); have HM := Lib.hid (row_count hrow6); have hh6 := (hg6.block (w.heap.size + 1 + 1) (by simp; omega) (fun e => absurd (D.out.own _ e.symm) (Nat.lt_irrefl _))).trans ((Below.heap_alloc wr.drew _ (w.heap.size + 1 + 1) hlt5).trans D.out.box); have c6 : w6.cell? ⟨w.heap.size + 1 + 1, 2, none⟩ = some (.slice b k d) := cell_of_heap hh6 2; have f6 : w6.frozen? ⟨w.heap.size + 1 + 1, 2, none⟩ = false := frozen_of_heap hh6 2; clear hrow6 hg6 hat6 hh6)
        | fail)
      all_goals
        go_wp2
        go_roundg (n - (k + 1))
        case measure => have := Hg.out; omega
        case rel =>
          have hm : m = k + 1 := by have := HM.out; rw [List.length_append, List.length_take, List.length_singleton] at this; have := Hn1.out; omega
          subst hm
          exact ⟨k + 1, _, _, by have := Hg.out; omega, by go_num, by rw [HTn.out]; exact D6⟩
    · obtain rfl : k = n := by omega
      have Hfull : Hid (ls.take k = ls) := List.take_of_length_le (by have := Hn1.out; omega)
      have e0 : wr.cell? ⟨w.heap.size + 1 + 1, 0, none⟩ = some (.int .i64 ep) := cell_of_heap D.out.box 0
      have e1 : wr.cell? ⟨w.heap.size + 1 + 1, 1, none⟩ = some (.string se) := cell_of_heap D.out.box 1
      have e2 : wr.cell? ⟨w.heap.size + 1 + 1, 2, none⟩ = some (.slice b k d) := cell_of_heap D.out.box 2
      have e3 : wr.cell? ⟨w.heap.size + 1 + 1, 3, none⟩ = some (.string sc) := cell_of_heap D.out.box 3
      have r0 : wr.cell? ⟨w.heap.size + 1, 0, none⟩ = some (.int .i64 0) := cell_of_heap D.out.res 0
      have r1 : wr.cell? ⟨w.heap.size + 1, 1, none⟩ = some (.string ⟨#[]⟩) := cell_of_heap D.out.res 1
      have r2 : wr.cell? ⟨w.heap.size + 1, 2, none⟩ = some (.slice none 0 0) := cell_of_heap D.out.res 2
      have r3 : wr.cell? ⟨w.heap.size + 1, 3, none⟩ = some (.string ⟨#[]⟩) := cell_of_heap D.out.res 3
      have hf : ∀ i, wr.frozen? ⟨w.heap.size + 1, i, none⟩ = false := fun i => frozen_of_heap D.out.res i
      have g0 := hf 0
      have g1 := hf 1
      have g2 := hf 2
      have g3 := hf 3
      clear hf
      rw [Hfull.out] at D
      go_wp2
      refine bodyPost_ret (v := .agg #[.int .i64 ep, .string se, .slice b k d, .string sc]) (by simp [results, Tryz.results40, go_sem, r0, r1, r2, r3]) rfl ?_
      exact D.out.done Hn1.out.symm (grown_set4 _ _ _ _ _ _)
end Go.Proofs.YtfobmfenjdiimaaGreatDoor

namespace Go.Proofs.YtfobmfenjdiimaaGreatDoor
open Go.RowKit
attribute [local go_sem ↓] Go.wp_at_zero Go.wp_at_succ

theorem flat_take (cs : List ChangeT) (m : Nat) : (cs.take m).flatMap changeCells = (cs.flatMap changeCells).take (m * 7) := by
  induction cs generalizing m with
  | nil => simp
  | cons c cs ih =>
    cases m with
    | zero => simp
    | succ m =>
      rw [List.take_succ_cons, List.flatMap_cons, List.flatMap_cons, ih]
      have hl : (changeCells c).length = 7 := rfl
      rw [List.take_append, hl, show (m + 1) * 7 - 7 = m * 7 by omega, List.take_of_length_le (l := changeCells c) (by rw [hl]; omega)]
theorem row_take {w : World} {base : Nat} {av : Option Addr} {N cap m : Nat} {cs : List ChangeT} (h : w.ownsRow base 58 7 (.slice av N cap) cs.length (cs.flatMap changeCells)) (hN : cs.length = N) (hm : m ≤ N) :
    w.ownsRow base 58 7 (.slice av m cap) (cs.take m).length ((cs.take m).flatMap changeCells) := by
  have hl : (cs.take m).length = m := by rw [List.length_take]; omega
  obtain ⟨h1, h2⟩ := h
  refine ⟨?_, ?_⟩
  · rw [flat_take, List.length_take, h1, hl]; omega
  rcases h2 with ⟨hv, h0⟩ | ⟨g, cap', cur, hv, hb, hh, hc, hx, hs, ht⟩
  · obtain rfl : m = 0 := by omega
    cases hv
    exact .inl ⟨rfl, hl⟩
  · cases hv
    refine .inr ⟨g, cap, cur, by rw [hl], hb, hh, by omega, hx, hs, ?_⟩
    rw [flat_take, ← ht, List.take_take, hl]
    congr 1
    omega
theorem own_cap (av : Option Addr) (m c m' c' : Nat) : (Value.slice av m c).ownBlock = (Value.slice av m' c').ownBlock := by cases av <;> rfl
theorem rol_post {b rm lm lm' : Nat} {av : Option Addr} {N cap m : Nat} {sp bs : Nat} {V : AV} {w w' : World} (hv : ViewAt w ⟨b, rm, lm, .slice av N cap, sp, bs⟩ V) (hN : V.calls.length = N) (hm : m ≤ N)
    (hb : w'.heap[b]? = some (.cells #[.pointer (some ⟨sp, 0, none⟩), .map (some rm), .slice av m cap, .map (some lm')] 78 (0, 0))) (hk : Kept (fun k => k = b) w w') (hl : w.heap.size ≤ lm') (hmap : MapIs idxV w' lm' (lastOf (V.calls.take m))) :
    VQ ⟨b, rm, lm, .slice av N cap, sp, bs⟩ (fun _ => False) w ⟨V.base, V.reads, V.calls.take m⟩ w' ⟨b, rm, lm', .slice av m cap, sp, bs⟩ := by
  have hbs : bs ≤ b := hv.lo b (.inl rfl)
  have hbel : Below bs w w' := hk.below hv.top (fun k e => by subst e; exact hbs)
  have hrm := hv.reads.lt
  dsimp only at hrm
  have hbrm : rm ≠ b := fun e => by obtain ⟨es, cl, h1, _⟩ := hv.reads; dsimp only at h1; rw [e, hv.heap] at h1; cases h1
  have hcap : (V.calls.take m).length = m := by rw [List.length_take]; omega
  refine ⟨⟨hb, hv.reads.kept (hk.block rm hrm hbrm), hmap, ?_, by show rm ≠ lm'; omega, hv.usages.below hbel hv.pos, hv.base.later hbel, ?_, hv.pos, Nat.le_trans hv.top hk.size, ?_, fun c hc => hv.ok c (List.mem_of_mem_take hc), hv.rdk⟩, rfl, rfl, rfl, hk.mono (fun k _ e => .inl (.inl e)), ?_⟩
  · have hrow := row_take (by have := hv.calls; dsimp only at this; exact this) hN hm
    refine row_kept hrow (fun g hg => hk.block g ?_ ?_)
    · obtain ⟨cur, hc⟩ := row_lt hrow hg
      exact lt_of_heap hc
    · rintro rfl
      obtain ⟨cur, hc⟩ := row_lt hrow hg
      have := hv.heap
      dsimp only at this
      rw [this] at hc
      cases hc
  · intro k hf
    rcases hf with rfl | rfl | rfl | hf
    · exact hbs
    · exact hv.lo _ (.inr (.inl rfl))
    · exact Nat.le_trans hv.top hl
    · exact hv.lo k (.inr (.inr (.inr ((own_cap _ _ _ _ _).trans hf))))
  · show (V.calls.take m).length ≤ _
    have := hv.len
    omega
  · intro k hf
    rcases hf with rfl | rfl | rfl | hf
    · exact .inl (.inl rfl)
    · exact .inl (.inr (.inl rfl))
    · exact .inr hl
    · exact .inl (.inr (.inr (.inr ((own_cap _ _ _ _ _).trans hf))))
/-- Between two rounds of Rollback's loop. -/
structure RolI (w wr : World) (b rm sp : Nat) (av : Option Addr) (m cap lm' : Nat) (cs : List ChangeT) (k : Nat) : Prop where
  heap : wr.heap[b]? = some (.cells #[.pointer (some ⟨sp, 0, none⟩), .map (some rm), .slice av m cap, .map (some lm')] 78 (0, 0))
  map : MapIs idxV wr lm' (lastOf (cs.take k))
  kept : Kept (fun j => j = b) w wr
  lo : w.heap.size ≤ lm'
theorem rol_start {b rm lm N cap sp bs m : Nat} {av av' : Option Addr} {V : AV} {w : World} (hv : ViewAt w ⟨b, rm, lm, .slice av N cap, sp, bs⟩ V) (cap' : Nat) :
    RolI w (((w.setCell ⟨b, 2, none⟩ (.slice av' m cap')).setCell ⟨b, 3, none⟩ (.map (some w.heap.size))).alloc (.map #[] 0)) b rm sp av' m cap' w.heap.size V.calls 0 := by
  have hb := hv.heap
  dsimp only at hb
  have hlt := lt_of_heap hb
  have h3 := heap_setCell_same (heap_setCell_same hb 2 (.slice av' m cap')) 3 (.map (some w.heap.size))
  have hsz : ((w.setCell ⟨b, 2, none⟩ (.slice av' m cap')).setCell ⟨b, 3, none⟩ (.map (some w.heap.size))).heap.size = w.heap.size := by rw [size_setCell, size_setCell]
  refine ⟨(Below.heap_alloc _ _ b (by omega)).trans h3, ⟨#[], 0, ?_, rfl, by simp [Stamps]⟩, ⟨rfl, rfl, rfl, by rw [World.size_alloc, hsz]; omega, fun k hk hn => ?_⟩, Nat.le_refl _⟩
  · have := World.alloc_heap_new ((w.setCell ⟨b, 2, none⟩ (.slice av' m cap')).setCell ⟨b, 3, none⟩ (.map (some w.heap.size))) (.map #[] 0)
    rwa [hsz] at this
  · rw [Below.heap_alloc _ _ _ (by omega), Below.heap_setCell _ _ _ _ hn]
    exact Below.heap_setCell _ _ _ _ hn
theorem rol_next {w wr w2 : World} {b rm sp m cap lm' k : Nat} {av : Option Addr} {cs : List ChangeT} {o : Obj} {c : ChangeT} (h : RolI w wr b rm sp av m cap lm' cs k) (hlt : b < w.heap.size) (hc : cs[k]? = some c) (hm : MapIs idxV w2 lm' (aSet (lastOf (cs.take k)) c.name k)) (hg : (wr.alloc o).drew.grownBy w2 (some lm')) : RolI w w2 b rm sp av m cap lm' cs (k + 1) := by
  have hk : k < cs.length := (List.getElem?_eq_some_iff.1 hc).1
  have hlo := h.lo
  have hsz := h.kept.size
  refine ⟨(hg.block b (by simp; omega) (fun e => by have := Option.some.inj e; omega)).trans ((Below.heap_alloc wr.drew _ b (by show b < wr.heap.size; omega)).trans h.heap), ?_, ⟨hg.os.trans h.kept.os, hg.tape.trans h.kept.tape, hg.output.trans h.kept.output, Nat.le_trans (Nat.le_trans hsz (by simp)) hg.size, fun j hj hn => ?_⟩, hlo⟩
  · have e : cs.take (k + 1) = cs.take k ++ [c] := by
      rw [List.take_add_one, hc]; rfl
    rw [e, lastOf_snoc, List.length_take, Nat.min_eq_left (by omega)]
    exact hm
  · exact (hg.block j (by simp; omega) (fun e => by have := Option.some.inj e; omega)).trans ((Below.heap_alloc wr.drew _ j (by show j < wr.heap.size; omega)).trans (h.kept.block j hj hn))
theorem rol_cells {w wr : World} {b rm lm N cap sp bs m k lm' : Nat} {g : Nat} {V : AV} (hv : ViewAt w ⟨b, rm, lm, .slice (some ⟨g, 0, none⟩) N cap, sp, bs⟩ V) (h : RolI w wr b rm sp (some ⟨g, 0, none⟩) m cap lm' V.calls k) {c : ChangeT} (hc : V.calls[k]? = some c) :
    ∀ j u, (changeCells c)[j]? = some u → wr.cell? ⟨g, k * 7 + j, none⟩ = some u := by
  intro j u hu
  have hj : j < 7 := (List.getElem?_eq_some_iff.1 hu).1
  have hk : k < V.calls.length := (List.getElem?_eq_some_iff.1 hc).1
  rcases hv.calls.2 with ⟨h1, _⟩ | ⟨g', cap', cur, h1, h2, h3, h4, h5, h6, h7⟩
  · cases h1
  cases h1
  have hne : g ≠ b := fun e => by
    subst e
    have := hv.heap
    dsimp only at this
    rw [this] at h3
    cases h3
  have hb := (h.kept.block g (lt_of_heap h3) hne).trans h3
  rw [cell_of_heap hb, ← Array.getElem?_toList]
  have hf := flat_get V.calls k j c hc hj hu
  rw [← h7, List.getElem?_take_of_lt (by omega)] at hf
  exact hf

section
variable {w0 w : World} {b M : Nat} {V : AV} {G : Nat → Prop} (s : QM w0 w b M V G)
include s
theorem qmMark : Calls Tryz.prog 37 #[.pointer (some ⟨b, 0, none⟩)] w fun r w' => r = .returned (.int .i64 V.calls.length) ∧ w = w' := by
  obtain ⟨⟨h, hv, hb, rfl, h2, h4⟩, h5⟩ := s
  exact vMark_any h V w hv
end
end Go.Proofs.YtfobmfenjdiimaaGreatDoor

namespace Go.Proofs.YtfobmfenjdiimaaGreatDoor
open Go.RowKit
attribute [local go_sem ↓] Go.wp_at_zero Go.wp_at_succ

def ownR (x : TRow) (k : Nat) : Prop := (Value.slice x.a x.n x.c).ownBlock = some k
/-- The blocks that play guards beside G: the map's, and the rows of its values. -/
def GP (G : Nat → Prop) (mp : Nat) (l : List (Int × TRow)) (k : Nat) : Prop := G k ∨ k = mp ∨ ∃ p ∈ l, ownR p.2 k
/-- In the midst of play. -/
structure PU (w0 w W : World) (b M : Nat) (V : AV) (G : Nat → Prop) (mp : Nat) (l : List (Int × TRow)) : Prop where
  s : QM w0 W b M V (GP G mp l)
  g : ∀ k, G k → W.heap[k]? = w.heap[k]?
  m : MapZ encR W mp l
  row : ∀ p ∈ l, RowK kStr W (.slice p.2.a p.2.n p.2.c) p.2.t.typed
  own : ∀ p ∈ l, ∀ k, ownR p.2 k → mp < k
  gm : ∀ k, G k → k < mp
theorem MapZ.kept {α : Type} {enc : α → Value} {w w' : World} {m : Nat} {l : List (Int × α)} (h : MapZ enc w m l) (hb : w'.heap[m]? = w.heap[m]?) : MapZ enc w' m l := by
  obtain ⟨es, clock, h1, h2, h3⟩ := h
  exact ⟨es, clock, hb.trans h1, h2, h3⟩
theorem MapZ.lt {α : Type} {enc : α → Value} {w : World} {m : Nat} {l : List (Int × α)} (h : MapZ enc w m l) : m < w.heap.size := by
  obtain ⟨es, clock, h1, -⟩ := h
  exact lt_of_heap h1
theorem RowK.same {w w' : World} {v : Value} {xs : List ByteArray} (h : RowK kStr w v xs) (hk : ∀ k, v.ownBlock = some k → w'.heap[k]? = w.heap[k]?) : RowK kStr w' v xs := by
  rcases h with h | ⟨g, off, c, rfl, hc, h⟩
  · exact .inl h
  · refine .inr ⟨g, off, c, rfl, hc, fun j x hx i u hu => ?_⟩
    exact (World.cell?_of_block (a := ⟨g, off + j * kStr.S + i, none⟩) (hk g rfl)).trans (h j x hx i u hu)
section
variable {w0 w W W' : World} {b M mp : Nat} {V V' : AV} {G : Nat → Prop} {l : List (Int × TRow)}
theorem PU.later (d : PU w0 w W b M V G mp l) (hb : Below W.heap.size W W') : PU w0 w W' b M V G mp l :=
  ⟨d.s.later hb, fun k hk => (hb.block k (d.s.glt (.inl hk))).trans (d.g k hk), d.m.kept (hb.block _ d.m.lt), fun p hp => (d.row p hp).later hb, d.own, d.gm⟩
/-- A step of the view. -/
theorem PU.step (d : PU w0 w W b M V G mp l) (s : QM w0 W' b M V' (GP G mp l)) (hk : ∀ k, GP G mp l k → W'.heap[k]? = W.heap[k]?) : PU w0 w W' b M V' G mp l :=
  ⟨s, fun k h => (hk k (.inl h)).trans (d.g k h), d.m.kept (hk _ (.inr (.inl rfl))), fun p hp => (d.row p hp).same (fun k h => hk k (.inr (.inr ⟨p, hp, h⟩))), d.own, d.gm⟩
theorem PU.get (d : PU w0 w W b M V G mp l) (hr : ∃ k, RelU V (funR l) k) (n : Int) : ∃ x : TRow, ((iGet l n).map encR).getD (.agg #[.int .i64 0, .string ⟨#[]⟩, .slice none 0 0, .string ⟨#[]⟩]) = encR x ∧ x.t = (funR l n).getD zeroT ∧ RowK kStr W (.slice x.a x.n x.c) x.t.typed ∧ (∀ k, ownR x k → mp < k ∧ GP G mp l k) ∧ (x.t.session.size ≤ 1000000 ∧ x.t.screen.size ≤ 1000000 ∧ x.t.typed.length ≤ 100000) := by
  unfold funR
  cases hg : iGet l n with
  | none => exact ⟨zeroR, rfl, rfl, RowK.nil _, (fun k h => by cases h), ⟨Nat.zero_le _, Nat.zero_le _, Nat.zero_le _⟩⟩
  | some x =>
    have hm := iGet_mem hg
    obtain ⟨k, hr⟩ := hr
    have hh := hr.has n
    unfold funR at hh
    rw [hg] at hh
    obtain ⟨-, hc⟩ := hh
    have hs := checkT_small hc
    exact ⟨x, rfl, rfl, d.row _ hm, fun k h => ⟨d.own _ hm k h, .inr (.inr ⟨_, hm, h⟩)⟩, Nat.le_trans hs.session (by decide), Nat.le_trans hs.screen (by decide), Nat.le_trans hs.typed (by decide)⟩
/-- The map takes a new value. -/
theorem PU.put (d : PU w0 w W b M V G mp l) (n : Int) (x : TRow) (hm : MapZ encR W' mp (iSet l n x)) (hg : W.grownBy W' (some mp)) (hr : RowK kStr W (.slice x.a x.n x.c) x.t.typed) (ho : ∀ k, ownR x k → mp < k)
    (hs : QM w0 W b M V (fun k => GP G mp l k ∨ ownR x k)) : PU w0 w W' b M V G mp (iSet l n x) := by
  have hk : Kept (fun k => k = mp) W W' := Kept.of_grown hg _ (fun k hk => by cases hk; rfl)
  refine ⟨hs.guarded (Kept.of_grown hg _ (fun k hk => by cases hk; exact .inl (.inr (.inl rfl)))) (fun k h => ?_), fun k h => ?_, hm, fun p hp => ?_, fun p hp k h => ?_, d.gm⟩
  · rcases h with h | h | ⟨p, hp, h⟩
    · exact .inl (.inl (.inl h))
    · exact .inl (.inl (.inr (.inl h)))
    · rcases mem_iSet hp with rfl | hp
      · exact .inl (.inr h)
      · exact .inl (.inl (.inr (.inr ⟨p, hp, h⟩)))
  · refine (hg.block k (d.s.glt (.inl h)) (fun e => ?_)).trans (d.g k h)
    have h1 := Option.some.inj e
    have h2 := d.gm k h
    omega
  · rcases mem_iSet hp with rfl | hp
    · exact hr.grown hg (fun k hk e => by have h1 := Option.some.inj e; have h2 := ho k hk; omega)
    · exact (d.row p hp).grown hg (fun k hk e => by have h1 := Option.some.inj e; have h2 := d.own p hp k hk; omega)
  · rcases mem_iSet hp with rfl | hp
    · exact ho k h
    · exact d.own p hp k h
end
/-- The operation lies in a block of its own. -/
structure PO (w0 wr W : World) (b M : Nat) (V : AV) (G : Nat → Prop) (mp : Nat) (l : List (Int × TRow)) (P : Nat) (oc : Array Value) : Prop where
  s : QM w0 W b M V (fun k => GP G mp l k ∨ k = P)
  op : W.heap[P]? = some (.cells oc 23 (0, 0))
  k : ∀ x, GP G mp l x → W.heap[x]? = wr.heap[x]?
  ge : wr.heap.size ≤ P
section
variable {w0 w wr W W' : World} {b M mp P : Nat} {V V' : AV} {G : Nat → Prop} {l : List (Int × TRow)} {oc : Array Value}
theorem PO.start (d : PU w0 w wr b M V G mp l) (hb : Below wr.heap.size wr W) (oc : Array Value) : PO w0 wr (W.alloc (.cells oc 23)) b M V G mp l W.heap.size oc := by
  have hb2 : Below wr.heap.size wr (W.alloc (.cells oc 23)) := hb.alloc hb.size _
  refine ⟨d.s.fresh hb2 (fun k hk => ?_), World.alloc_heap_new _ _, fun x hx => hb2.block x (d.s.glt hx), hb.size⟩
  rcases hk with hk | hk
  · exact .inl hk
  · subst hk
    exact .inr ⟨hb.size, by simp⟩
theorem PO.later (d : PO w0 wr W b M V G mp l P oc) (hb : Below W.heap.size W W') : PO w0 wr W' b M V G mp l P oc :=
  ⟨d.s.later hb, (hb.block _ (lt_of_heap d.op)).trans d.op, fun x hx => (hb.block x (d.s.glt (.inl hx))).trans (d.k x hx), d.ge⟩
theorem PO.step (d : PO w0 wr W b M V G mp l P oc) (s : QM w0 W' b M V' (fun k => GP G mp l k ∨ k = P)) (hk : ∀ k, (GP G mp l k ∨ k = P) → W'.heap[k]? = W.heap[k]?) : PO w0 wr W' b M V' G mp l P oc :=
  ⟨s, (hk _ (.inr rfl)).trans d.op, fun x hx => (hk _ (.inl hx)).trans (d.k x hx), d.ge⟩
theorem PO.pu (d : PO w0 wr W b M V' G mp l P oc) (p : PU w0 w wr b M V G mp l) : PU w0 w W b M V' G mp l :=
  p.step (d.s.fresh (Below.refl _ _) (fun _ hk => .inl (.inl hk))) d.k
end
/-- What play leaves. -/
def Play36 (w0 w : World) (b M : Nat) (G : Nat → Prop) (r : Ending) (w' : World) : Prop :=
  ∃ V l, r = .returned (.tuple #[.map (some w.heap.size), .bool true]) ∧ PU w0 w w' b M V G w.heap.size l ∧ RelU V (funR l) 30
set_option linter.unusedSimpArgs false in
set_option maxRecDepth 100000 in
set_option maxHeartbeats 12800000 in
theorem play36_any {w0 w : World} {b M : Nat} {V0 : AV} {G : Nat → Prop} (s : QM w0 w b M V0 G) (hV : RelU V0 (fun _ => none) 0) (a : Option Addr) (n c : Nat) (f : Nat → OpU) (hops : ∀ W, Below w0.heap.size w0 W → OpSlU W a n f) :
    Calls Tryz.prog 14 #[.pointer (some ⟨b, 0, none⟩), .slice a n c] w (Play36 w0 w b M G) := by
  have HO : Hid (∀ W, Below w0.heap.size w0 W → OpSlU W a n f) := hops
  have HV0 := Lib.hid hV
  have HP0 : Hid (PU w0 w (w.alloc (.map #[] 0)) b M V0 G w.heap.size []) := by
    have hb : Below w.heap.size w (w.alloc (.map #[] 0)) := (Below.refl _ _).alloc (Nat.le_refl _) _
    refine ⟨s.fresh hb (fun k hk => ?_), fun k hk => hb.block k (s.glt hk), ⟨#[], 0, World.alloc_heap_new w _, rfl, ⟨by simp, by simp⟩⟩, (fun p hp => by cases hp), (fun p hp => by cases hp), fun k hk => s.glt hk⟩
    rcases hk with hk | hk | ⟨p, hp, -⟩
    · exact .inl hk
    · exact .inr ⟨by omega, by simp; omega⟩
    · cases hp
  clear hops hV s
  have hmm := @run_makeMap Tryz.prog
  go_enter Tryz.func14, Tryz.ntmps14
  go_wp2_with fail
  clear hmm
  go_loopg [4, 6] 30 (fun gk mv iv wr => ∃ (k : Nat) (V : AV) (l : List (Int × TRow)), k + gk = 30 ∧ mv = .map (some w.heap.size) ∧ iv = .int .i64 k ∧ Hid (PU w0 w wr b M V G w.heap.size l ∧ RelU V (funR l) k))
  case atStart => exact ⟨0, V0, [], by omega, rfl, rfl, HP0.out, HV0.out⟩
  case round =>
    clear HP0 HV0
    obtain ⟨k, V, l, hg, rfl, rfl, HI⟩ := hrel
    have Hg := Lib.hid hg
    have hk30 : k ≤ 30 := by omega
    clear hg
    by_cases hend : ¬ k < n ∨ (k < n ∧ ¬ k < 30)
    · have HF : Hid (Play36 w0 w b M G (.returned (.tuple #[.map (some w.heap.size), .bool true])) wr) := ⟨V, l, rfl, HI.out.1, ⟨HI.out.2.has, Nat.le_trans HI.out.2.len hk30⟩⟩
      rcases hend with h1 | ⟨h1, h2⟩
      all_goals
        go_wp2
        refine bodyPost_ret (v := .tuple #[.map (some w.heap.size), .bool true]) (by simp [results, Tryz.results14, go_sem]) rfl ?_
        exact HF.out
    have hlt : k < n := by omega
    have h30 : k < 30 := by omega
    clear hend
    obtain ⟨g, off, rfl, hc⟩ := HO.out wr HI.out.1.s.below (by omega)
    obtain ⟨c0, c1, c2, c3, c4, hkd, hwho, htext⟩ := hc k hlt
    clear hc
    generalize f k = o at *
    obtain ⟨kd, num, ep, who, text⟩ := o
    dsimp only at c0 c1 c2 c3 c4 hkd hwho htext
    have Hsz : Hid (who.size ≤ 9223372036854775807 ∧ text.size ≤ 9223372036854775807) := ⟨hwho, htext⟩
    have Hlt := Lib.hid hlt
    go_wp2_with fail
    refine (short36_any kd num ep who text wr Hsz.out.1 Hsz.out.2).mono ?_
    rintro r w1 ⟨rfl, hb1⟩
    have HB1 := Lib.hid hb1
    clear hb1 c0 c1 c2 c3 c4
    have HP2 := Lib.hid (PO.start HI.out.1 HB1.out #[.int .u8 kd, .int .i64 num, .int .i64 ep, .string (cutU who 100), .string (cutU text 3000)])
    clear HB1
    go_wp2_with fail
    generalize w1.alloc (.cells #[.int .u8 kd, .int .i64 num, .int .i64 ep, .string (cutU who 100), .string (cutU text 3000)] 23) = W2 at *
    generalize w1.heap.size = P at *
    refine (qmMark HP2.out.s).mono ?_
    rintro r w2 ⟨rfl, rfl⟩
    clear hwho htext
    have o0 : W2.cell? ⟨P, 0, none⟩ = some (.int .u8 kd) := cell_of_heap HP2.out.op 0
    have o1 : W2.cell? ⟨P, 1, none⟩ = some (.int .i64 num) := cell_of_heap HP2.out.op 1
    have o2 : W2.cell? ⟨P, 2, none⟩ = some (.int .i64 ep) := cell_of_heap HP2.out.op 2
    have o3 : W2.cell? ⟨P, 3, none⟩ = some (.string (cutU who 100)) := cell_of_heap HP2.out.op 3
    have o4 : W2.cell? ⟨P, 4, none⟩ = some (.string (cutU text 3000)) := cell_of_heap HP2.out.op 4
    have HL : Hid (V.calls.length < 1000000) := Nat.lt_of_le_of_lt HI.out.2.len (by omega)
    have HDo : Hid (Calls Tryz.prog 10 #[.pointer (some ⟨b, 0, none⟩), .agg #[.int .u8 kd, .int .i64 num, .int .i64 ep, .string (cutU who 100), .string (cutU text 3000)]] W2 (DoUPost w0 W2 b M V (fun k => GP G w.heap.size l k ∨ k = P) (shortU ⟨kd, num, ep, who, text⟩))) := by
      have h := do36_any HP2.out.s (shortU ⟨kd, num, ep, who, text⟩) hkd (Nat.le_trans (cutU_size _ _) (by decide)) (Nat.le_trans (cutU_size _ _) (by decide)) HL.out
      rw [shortU_short] at h
      exact h
    have Hwz : Hid ((shortU ⟨kd, num, ep, who, text⟩).who.size ≤ 1000) := Nat.le_trans (cutU_size _ _) (by decide)
    cases hr : inRange num ep
    case false =>
      obtain ⟨e1, e2⟩ := u_bad (V := V) (o := shortU ⟨kd, num, ep, who, text⟩) hr
      have hways : num < 1 ∨ (¬ num < 1 ∧ 99 < num) ∨ (¬ num < 1 ∧ ¬ 99 < num ∧ ep < 0) ∨ (¬ num < 1 ∧ ¬ 99 < num ∧ ¬ ep < 0 ∧ 1073741824 < ep) := by
        have h : ¬ (1 ≤ num ∧ num ≤ 99 ∧ 0 ≤ ep ∧ ep ≤ 1073741824) := fun h => (Bool.eq_false_iff.1 hr) (inRange_iff.2 h)
        omega
      clear hr
      unfold DoUPost at HDo
      rw [e1, e2] at HDo
      clear e1 e2
      generalize uLine V (shortU ⟨kd, num, ep, who, text⟩) = ln at *
      generalize uGot V (shortU ⟨kd, num, ep, who, text⟩) = gt at *
      obtain ⟨ge, gs, gl, gc⟩ := gt
      dsimp only at HDo
      go_wp2_with fail
      refine HDo.out.mono ?_
      rintro r w3 ⟨ga, gn, gk', rfl, -, hs3, hk3⟩
      have HP3 := Lib.hid (HP2.out.step hs3 hk3)
      have HA3 : Hid (∀ o, PO w0 wr (w3.alloc o) b M V G w.heap.size l P #[.int .u8 kd, .int .i64 num, .int .i64 ep, .string (cutU who 100), .string (cutU text 3000)]) := fun o => HP3.out.later ((Below.refl _ _).alloc (Nat.le_refl _) _)
      have HC3 : Hid (∀ o i, (w3.alloc o).cell? ⟨P, i, none⟩ = (#[.int .u8 kd, .int .i64 num, .int .i64 ep, .string (cutU who 100), .string (cutU text 3000)] : Array Value)[i]?) := fun o i => cell_of_heap (HA3.out o).op i
      clear hs3 hk3 HDo o0 o1 o2 o3 o4 HP2
      have o1 : ∀ o, (w3.alloc o).cell? ⟨P, 1, none⟩ = some (.int .i64 num) := fun o => HC3.out o 1
      have o2 : ∀ o, (w3.alloc o).cell? ⟨P, 2, none⟩ = some (.int .i64 ep) := fun o => HC3.out o 2
      clear HC3
      rcases hways with h1 | ⟨h1, h2⟩ | ⟨h1, h2, h3⟩ | ⟨h1, h2, h3, h4⟩
      all_goals
        go_wp2_with fail
        refine (qmMark (HA3.out _).s).mono ?_
        rintro r w4 ⟨rfl, rfl⟩
        go_wp2
        go_roundg (30 - (k + 1))
        case measure => have := Hg.out; omega
        case rel => exact ⟨k + 1, V, l, by omega, rfl, by go_num, (HA3.out _).pu HI.out.1, ⟨HI.out.2.has, Nat.le_succ_of_le HI.out.2.len⟩⟩
    case true =>
      obtain ⟨n1, n2, n3, n4⟩ := inRange_iff.1 hr
      obtain ⟨x0, hx, hxt, hxr, hxo, hxz⟩ := HI.out.1.get ⟨k, HI.out.2⟩ num
      have hst := u_step HI.out.2 Hwz.out hr
      obtain ⟨d1, d2, d3, d4, d5, d6⟩ := hst
      rw [show (shortU ⟨kd, num, ep, who, text⟩).num = num from rfl, show (shortU ⟨kd, num, ep, who, text⟩).ep = ep from rfl, ← hxt] at d1 d2 d3 d4 d5 d6
      unfold DoUPost at HDo
      rw [d1, d2, d3] at HDo
      clear d1 d2 d3 hr hxt
      obtain ⟨⟨ep0, se, ls, sc⟩, a0, n0, c0⟩ := x0
      dsimp only at hxr hxz d4 d5 d6
      have HSm : Hid (∀ W, RowK kStr W (.slice a0 n0 c0) ls → (∀ k, (Value.slice a0 n0 c0).ownBlock = some k → k < W.heap.size) → Calls Tryz.prog 38 #[.agg #[.int .i64 ep0, .string se, .slice a0 n0 c0, .string sc], .agg #[.int .u8 kd, .int .i64 num, .int .i64 ep, .string (cutU who 100), .string (cutU text 3000)]] W (SamePost W (.slice a0 n0 c0) ⟨ep0, se, ls, sc⟩ (shortU ⟨kd, num, ep, who, text⟩))) := fun W h1 h2 => by
        have h := same36_any ep0 se sc a0 n0 c0 ls (shortU ⟨kd, num, ep, who, text⟩) W h1 h2 hxz hkd (Nat.le_trans (cutU_size _ _) (by decide)) (Nat.le_trans (cutU_size _ _) (by decide))
        rw [shortU_short] at h
        exact h
      have HX0 : Hid (RowK kStr wr (.slice a0 n0 c0) ls ∧ ∀ k, ownR ⟨⟨ep0, se, ls, sc⟩, a0, n0, c0⟩ k → w.heap.size < k ∧ GP G w.heap.size l k) := ⟨hxr, hxo⟩
      have HLk : Hid (∀ W, MapZ encR W w.heap.size l → (Instr.lookup 51 (.map (some w.heap.size)) (.int .i64 num) false).run Tryz.prog W = .ok (.agg #[.int .i64 ep0, .string se, .slice a0 n0 c0, .string sc]) W) := fun W hW => by
        have h := run_lookup1_int encR W 51 42 Tryz.underlying51 (.agg #[.int .i64 0, .string ⟨#[]⟩, .slice none 0 0, .string ⟨#[]⟩]) (by kernel_rfl) w.heap.size l hW num
        rw [hx] at h
        exact h
      clear hx hxr hxo
      have HCh : Hid (uCh (shortU ⟨kd, num, ep, who, text⟩) = (decide (kd % 8 < 7) && !(decide (kd % 8 = 6) && decide ((cutU text 3000).size = 0)))) := rfl
      have HGl : Hid ((uGotT (shortU ⟨kd, num, ep, who, text⟩) (inT ⟨ep0, se, ls, sc⟩ ep)).typed.length ≤ 1000000) := by
        have h1 := (inT_bounds (T := ⟨ep0, se, ls, sc⟩) (e := ep) hxz.1 hxz.2.1 hxz.2.2).2.2
        unfold uGotT
        split
        · exact Nat.le_trans h1 (by decide)
        · exact Nat.zero_le _
      unfold SamePost at HSm
      rw [show (shortU ⟨kd, num, ep, who, text⟩).ep = ep from rfl] at HSm
      have Hq1 : Hid (∀ e, uOp (shortU ⟨kd, num, ep, who, text⟩) (inT ⟨ep0, se, ls, sc⟩ ep) = e → (uOp (shortU ⟨kd, num, ep, who, text⟩) (inT ⟨ep0, se, ls, sc⟩ ep)).2 = e.2) := fun e h => by rw [h]
      clear Hq1
      generalize uOp (shortU ⟨kd, num, ep, who, text⟩) (inT ⟨ep0, se, ls, sc⟩ ep) = p at *
      generalize uLineT (shortU ⟨kd, num, ep, who, text⟩) (inT ⟨ep0, se, ls, sc⟩ ep) = ln at *
      generalize uGotT (shortU ⟨kd, num, ep, who, text⟩) (inT ⟨ep0, se, ls, sc⟩ ep) = gt at *
      obtain ⟨⟨ne, ns, nl, nc⟩, q⟩ := p
      obtain ⟨ge, gs, gl, gc⟩ := gt
      dsimp only at HDo HSm d4 d5 d6 HGl
      clear hxz
      generalize uV V (shortU ⟨kd, num, ep, who, text⟩) = V1 at *
      generalize uCh (shortU ⟨kd, num, ep, who, text⟩) = ch at *
      have D4 := Lib.hid d4
      have D5 := Lib.hid d5
      have D6 := Lib.hid d6
      clear d4 d5 d6 Hwz
      go_wp2_with fail
      refine HDo.out.mono ?_
      rintro r w3 ⟨ga, gn, gk', rfl, hgr, hs3, hk3⟩
      have HP3 := Lib.hid (HP2.out.step hs3 hk3)
      have HGr := Lib.hid hgr.sl
      clear hs3 hk3 HDo o0 o1 o2 o3 o4 HP2 hgr
      have HP4 := Lib.hid (HP3.out.later ((Below.refl w3.heap.size w3).alloc (Nat.le_refl _) (.cells #[.int .i64 ge, .string gs, .slice ga gn gk', .string gc] 38)))
      have HT4 := Lib.hid (World.alloc_heap_new w3 (.cells #[.int .i64 ge, .string gs, .slice ga gn gk', .string gc] 38))
      have HG4 := Lib.hid (HGr.out.later ((Below.refl w3.heap.size w3).alloc (Nat.le_refl _) (.cells #[.int .i64 ge, .string gs, .slice ga gn gk', .string gc] 38)))
      have HL4 := HLk.out _ (HP4.out.pu HI.out.1).m
      have HC4 : Hid (∀ i, (w3.alloc (.cells #[.int .i64 ge, .string gs, .slice ga gn gk', .string gc] 38)).cell? ⟨P, i, none⟩ = (#[.int .u8 kd, .int .i64 num, .int .i64 ep, .string (cutU who 100), .string (cutU text 3000)] : Array Value)[i]?) := fun i => cell_of_heap HP4.out.op i
      have o0 := HC4.out 0
      have o1 := HC4.out 1
      have o2 := HC4.out 2
      have o3 := HC4.out 3
      have o4 := HC4.out 4
      clear HC4 HP3 HGr HLk
      dsimp at o0 o1 o2 o3 o4
      go_wp2_with fail
      generalize w3.alloc (.cells #[.int .i64 ge, .string gs, .slice ga gn gk', .string gc] 38) = W4 at *
      generalize w3.heap.size = X at *
      refine (HSm.out _ (HX0.out.1.same (fun k hk => HP4.out.k k (HX0.out.2 k hk).2)) (fun k hk => HP4.out.s.glt (.inl (HX0.out.2 k hk).2))).mono ?_
      rintro r w5 ⟨na, nn, nc', xa, xn, xc, rfl, hnr, hxr, hno, hb5⟩
      have HB5 : Hid (Below W4.heap.size W4 w5) := hb5
      have HT5 := Lib.hid ((hb5.block _ (lt_of_heap HT4.out)).trans HT4.out)
      have HG5 := Lib.hid (HG4.out.later hb5)
      have HN5 : Hid (RowK kStr w5 (.slice na nn nc') nl) := hnr
      have HX5 : Hid (RowK kStr w5 (.slice xa xn xc) gl) := hxr
      have HOw : Hid (∀ k, ownR ⟨⟨ne, ns, nl, nc⟩, na, nn, nc'⟩ k → w.heap.size < k ∧ (GP G w.heap.size l k ∨ (W4.heap.size ≤ k ∧ k < w5.heap.size))) := fun k hk => by
        rcases hno k hk with h | h
        · exact ⟨(HX0.out.2 k h).1, .inl (HX0.out.2 k h).2⟩
        · have := (HP4.out.pu HI.out.1).m.lt
          exact ⟨by omega, .inr h⟩
      clear hnr hxr hno hb5 HSm HX0 HT4 HG4 HL4 o0 o1 o2 o3 o4
      have HA5 : Hid (∀ o o', Below w5.heap.size w5 ((w5.alloc o).alloc o')) := fun o o' => ((Below.refl _ _).alloc (Nat.le_refl _) _).alloc (by simp) _
      have HX2 : Hid (∀ o o' : Obj, ((w5.alloc o).alloc o').heap[w5.heap.size]? = some o ∧ ((w5.alloc o).alloc o').heap[w5.heap.size + 1]? = some o') := fun o o' => ⟨(Below.heap_alloc _ _ _ (by simp)).trans (World.alloc_heap_new w5 _), by have := World.alloc_heap_new (w5.alloc o) o'; rw [World.size_alloc] at this; exact this⟩
      dsimp only
      go_upto_region 12 with fail
      have HB6 : Hid (Below w5.heap.size w5 ((w5.alloc (.cells #[.int .i64 ne, .string ns, .slice na nn nc', .string nc] 42)).alloc (.cells #[.int .i64 ge, .string gs, .slice xa xn xc, .string gc] 42))) := HA5.out _ _
      have HY1 := Lib.hid (HX2.out (.cells #[.int .i64 ne, .string ns, .slice na nn nc', .string nc] 42) (.cells #[.int .i64 ge, .string gs, .slice xa xn xc, .string gc] 42)).1
      have HY2 := Lib.hid (HX2.out (.cells #[.int .i64 ne, .string ns, .slice na nn nc', .string nc] 42) (.cells #[.int .i64 ge, .string gs, .slice xa xn xc, .string gc] 42)).2
      clear HA5 HX2
      generalize (w5.alloc (.cells #[.int .i64 ne, .string ns, .slice na nn nc', .string nc] 42)).alloc (.cells #[.int .i64 ge, .string gs, .slice xa xn xc, .string gc] 42) = W6 at *
      have HT6 := Lib.hid ((HB6.out.block _ (lt_of_heap HT5.out)).trans HT5.out)
      have HG6 := Lib.hid (HG5.out.later HB6.out)
      have HX6 := Lib.hid (HX5.out.later HB6.out).ssl
      have HN6 := Lib.hid (HN5.out.later HB6.out)
      have HB46 : Hid (Below W4.heap.size W4 W6) := HB5.out.trans (HB6.out.mono HB5.out.size)
      have HP6 := Lib.hid (HP4.out.later HB46.out)
      have HOw6 : Hid (∀ k, ownR ⟨⟨ne, ns, nl, nc⟩, na, nn, nc'⟩ k → w.heap.size < k ∧ (GP G w.heap.size l k ∨ (W4.heap.size ≤ k ∧ k < W6.heap.size))) := fun k hk => ⟨(HOw.out k hk).1, (HOw.out k hk).2.imp id fun h => ⟨h.1, Nat.lt_of_lt_of_le h.2 HB6.out.size⟩⟩
      have hgn := HG6.out.1
      subst hgn
      have hxn := HX6.out.1
      subst hxn
      have Hgl : Hid (gl.length ≤ 1000000) := HGl.out
      have HSx : Hid (∀ W, Below W6.heap.size W6 W → W.cell? ⟨X, 0, none⟩ = some (.int .i64 ge) ∧ W.cell? ⟨X, 1, none⟩ = some (.string gs) ∧ W.cell? ⟨X, 2, none⟩ = some (.slice ga gl.length gk') ∧ W.cell? ⟨X, 3, none⟩ = some (.string gc) ∧ W.cell? ⟨w5.heap.size + 1, 0, none⟩ = some (.int .i64 ge) ∧ W.cell? ⟨w5.heap.size + 1, 1, none⟩ = some (.string gs) ∧ W.cell? ⟨w5.heap.size + 1, 2, none⟩ = some (.slice xa gl.length xc) ∧ W.cell? ⟨w5.heap.size + 1, 3, none⟩ = some (.string gc)) := fun W hW => by
        have g1 := (hW.block _ (lt_of_heap HT6.out)).trans HT6.out
        have g2 := (hW.block _ (lt_of_heap HY2.out)).trans HY2.out
        exact ⟨cell_of_heap g1 0, cell_of_heap g1 1, cell_of_heap g1 2, cell_of_heap g1 3, cell_of_heap g2 0, cell_of_heap g2 1, cell_of_heap g2 2, cell_of_heap g2 3⟩
      have HOf : Hid (∀ W, Below W6.heap.size W6 W → Calls Tryz.prog 40 #[.agg #[.int .i64 ge, .string gs, .slice ga gl.length gk', .string gc]] W fun r w' => ∃ b d, r = .returned (.agg #[.int .i64 ge, .string gs, .slice b gl.length d, .string gc]) ∧ SSl w' b gl.length gl ∧ Below W.heap.size W w') := fun W hW => (of36_any ge gs gc ga gl.length gk' gl W (HG6.out.later hW) Hgl.out).mono (fun r w' h => by obtain ⟨b, d, h1, h2, -, h4⟩ := h; exact ⟨b, d, h1, h2.sl, h4⟩)
      have HS1 : Hid (∀ W b d, Below W6.heap.size W6 W → SSl W b gl.length gl → Calls Tryz.prog 39 #[.agg #[.int .i64 ge, .string gs, .slice b gl.length d, .string gc], .agg #[.int .i64 ge, .string gs, .slice xa gl.length xc, .string gc]] W fun r w' => r = .returned (.bool true) ∧ Below W.heap.size W w') := fun W b d hW h => (rSame36_any ge gs gc b gl.length d gl ge gs gc xa gl.length xc gl W h (HX6.out.later hW) (by have := Hgl.out; omega)).mono (fun r w' h => ⟨h.1.trans (by rw [decide_eq_true rfl]), h.2⟩)
      have HMk : Hid (∀ W, Below W6.heap.size W6 W → Calls Tryz.prog 37 #[.pointer (some ⟨b, 0, none⟩)] W fun r w' => r = .returned (.int .i64 V1.calls.length) ∧ W = w') := fun W hW => qmMark (HP6.out.s.later hW)
      have hlr : (ln.toList != ln.toList) = false := by simp
      have HD0 : Hid (Below W6.heap.size W6 W6.drew) := (Below.refl _ _).drew
      clear HG5 HX5 HN5 HT5 HG6 HX6 HT6 HB6 HOw HY2
      by_cases hq : q = 0
      · subst hq
        refine wp_region_held_drew (S := (fun W => W.cell? ⟨X, 0, none⟩ = some (.int .i64 ge) ∧ W.cell? ⟨X, 1, none⟩ = some (.string gs) ∧ W.cell? ⟨X, 2, none⟩ = some (.slice ga gl.length gk') ∧ W.cell? ⟨X, 3, none⟩ = some (.string gc) ∧ W.cell? ⟨w5.heap.size + 1, 0, none⟩ = some (.int .i64 ge) ∧ W.cell? ⟨w5.heap.size + 1, 1, none⟩ = some (.string gs) ∧ W.cell? ⟨w5.heap.size + 1, 2, none⟩ = some (.slice xa gl.length xc) ∧ W.cell? ⟨w5.heap.size + 1, 3, none⟩ = some (.string gc))) (by kernel_rfl) (HSx.out _ HD0.out) (fun hHeld0 => ?_)
        refine wpAnyH_take (i := 0) (v := ?_) rfl (by kernel_rfl) (by kernel_rfl) (by kernel_rfl) (fun _ _ _ h => h) (Or.inl ⟨by rfl, ?_⟩) (by assumption) ?_
        rotate_left
        · (intro wx hSw; (try dsimp only at hSw); go_simp <;> with_reducible rfl)
        try simp only [Act.put, List.setIfInBounds_toArray, List.set_cons_zero, List.set_cons_succ, List.getElem_toArray, List.getElem_cons_zero, List.getElem_cons_succ]
        refine wpAnyH_take (i := 1) (v := ?_) rfl (by kernel_rfl) (by kernel_rfl) (by kernel_rfl) (fun _ _ _ h => h) (Or.inl ⟨by rfl, ?_⟩) (by assumption) ?_
        rotate_left
        · (intro wx hSw; (try dsimp only at hSw); go_simp <;> with_reducible rfl)
        try simp only [Act.put, List.setIfInBounds_toArray, List.set_cons_zero, List.set_cons_succ, List.getElem_toArray, List.getElem_cons_zero, List.getElem_cons_succ]
        refine wpAnyH_take (i := 2) (v := ?_) rfl (by kernel_rfl) (by kernel_rfl) (by kernel_rfl) (fun _ _ _ h => h) (Or.inl ⟨by rfl, ?_⟩) (by assumption) ?_
        rotate_left
        · (intro wx hSw; (try dsimp only at hSw); go_simp <;> with_reducible rfl)
        try simp only [Act.put, List.setIfInBounds_toArray, List.set_cons_zero, List.set_cons_succ, List.getElem_toArray, List.getElem_cons_zero, List.getElem_cons_succ]
        refine wpAnyH_take (i := 3) (v := ?_) rfl (by kernel_rfl) (by kernel_rfl) (by kernel_rfl) (fun _ _ _ h => h) (Or.inl ⟨by rfl, ?_⟩) (by assumption) ?_
        rotate_left
        · (intro wx hSw; (try dsimp only at hSw); go_simp <;> with_reducible rfl)
        try simp only [Act.put, List.setIfInBounds_toArray, List.set_cons_zero, List.set_cons_succ, List.getElem_toArray, List.getElem_cons_zero, List.getElem_cons_succ]
        refine wpAnyH_take (i := 4) (v := ?_) rfl (by kernel_rfl) (by kernel_rfl) (by kernel_rfl) (fun _ _ _ h => h) (Or.inl ⟨by rfl, ?_⟩) (by assumption) ?_
        rotate_left
        · (intro wx hSw; (try dsimp only at hSw); go_simp <;> with_reducible rfl)
        try simp only [Act.put, List.setIfInBounds_toArray, List.set_cons_zero, List.set_cons_succ, List.getElem_toArray, List.getElem_cons_zero, List.getElem_cons_succ]
        refine wpAnyH_take (i := 5) (v := ?_) rfl (by kernel_rfl) (by kernel_rfl) (by kernel_rfl) (fun _ _ _ h => h) (Or.inl ⟨by rfl, ?_⟩) (by assumption) ?_
        rotate_left
        · (intro wx hSw; (try dsimp only at hSw); go_simp <;> with_reducible rfl)
        try simp only [Act.put, List.setIfInBounds_toArray, List.set_cons_zero, List.set_cons_succ, List.getElem_toArray, List.getElem_cons_zero, List.getElem_cons_succ]
        refine wpAnyH_take (i := 6) (v := ?_) rfl (by kernel_rfl) (by kernel_rfl) (by kernel_rfl) (fun _ _ _ h => h) (Or.inl ⟨by rfl, ?_⟩) (by assumption) ?_
        rotate_left
        · (intro wx hSw; (try dsimp only at hSw); go_simp <;> with_reducible rfl)
        try simp only [Act.put, List.setIfInBounds_toArray, List.set_cons_zero, List.set_cons_succ, List.getElem_toArray, List.getElem_cons_zero, List.getElem_cons_succ]
        refine wpAnyH_take (i := 7) (v := ?_) rfl (by kernel_rfl) (by kernel_rfl) (by kernel_rfl) (fun _ _ _ h => h) (Or.inl ⟨by rfl, ?_⟩) (by assumption) ?_
        rotate_left
        · (intro wx hSw; (try dsimp only at hSw); go_simp <;> with_reducible rfl)
        try simp only [Act.put, List.setIfInBounds_toArray, List.set_cons_zero, List.set_cons_succ, List.getElem_toArray, List.getElem_cons_zero, List.getElem_cons_succ]
        refine wpAnyH_take (i := 8) (v := ?_) rfl (by kernel_rfl) (by kernel_rfl) (by kernel_rfl) (fun _ _ _ h => h) (Or.inl ⟨by rfl, ?_⟩) (by assumption) ?_
        rotate_left
        · (intro wx hSw; (try dsimp only at hSw); go_simp <;> with_reducible rfl)
        try simp only [Act.put, List.setIfInBounds_toArray, List.set_cons_zero, List.set_cons_succ, List.getElem_toArray, List.getElem_cons_zero, List.getElem_cons_succ]
        refine wpAnyH_take (i := 9) (v := ?_) rfl (by kernel_rfl) (by kernel_rfl) (by kernel_rfl) (fun _ _ _ h => h) (Or.inl ⟨by rfl, ?_⟩) (by assumption) ?_
        rotate_left
        · (intro wx hSw; (try dsimp only at hSw); go_simp <;> with_reducible rfl)
        try simp only [Act.put, List.setIfInBounds_toArray, List.set_cons_zero, List.set_cons_succ, List.getElem_toArray, List.getElem_cons_zero, List.getElem_cons_succ]
        refine wpAnyH_take (i := 11) (v := ?_) rfl (by kernel_rfl) (by kernel_rfl) (by kernel_rfl) (fun _ _ _ h => h) (Or.inl ⟨by rfl, ?_⟩) (by assumption) ?_
        rotate_left
        · (intro wx hSw; (try dsimp only at hSw); go_simp <;> with_reducible rfl)
        try simp only [Act.put, List.setIfInBounds_toArray, List.set_cons_zero, List.set_cons_succ, List.getElem_toArray, List.getElem_cons_zero, List.getElem_cons_succ]
        refine wpAnyH_ready (rs := [10]) (by kernel_rfl) (by simp) ?_
        refine AllReadyH.cons rfl (fun K hK => ?_) AllReadyH.nil
        go_simp
        go_at_call 40
        (with_reducible refine (HOf.out _ HD0.out).mono ?_)
        rintro r v1 ⟨b1, d1, rfl, hr1, hb⟩
        have B1 : Hid (Below W6.heap.size W6 v1) := HD0.out.trans (hb.mono HD0.out.size)
        have R1 := Lib.hid hr1
        clear hr1
        clear hb
        go_wp2_with fail
        refine hK.out _ _ (HSx.out _ B1.out) (fun hHeld1 => ?_)
        clear hK K hHeld0
        try simp only [Act.put, List.setIfInBounds_toArray, List.set_cons_zero, List.set_cons_succ, List.getElem_toArray, List.getElem_cons_zero, List.getElem_cons_succ]
        refine wpAnyH_ready (rs := [12]) (by kernel_rfl) (by simp) ?_
        refine AllReadyH.cons rfl (fun K hK => ?_) AllReadyH.nil
        go_simp
        go_at_call 39
        (with_reducible refine (HS1.out _ _ _ B1.out R1.out).mono ?_)
        rintro r v2 ⟨rfl, hb⟩
        have B2 : Hid (Below W6.heap.size W6 v2) := B1.out.trans (hb.mono B1.out.size)
        clear hb
        go_wp2_with fail
        refine hK.out _ _ (HSx.out _ B2.out) (fun hHeld2 => ?_)
        clear hK K hHeld1
        try simp only [Act.put, List.setIfInBounds_toArray, List.set_cons_zero, List.set_cons_succ, List.getElem_toArray, List.getElem_cons_zero, List.getElem_cons_succ]
        refine wpAnyH_take (i := 13) (v := ?_) rfl (by kernel_rfl) (by kernel_rfl) (by kernel_rfl) (fun _ _ _ h => h) (Or.inl ⟨by rfl, ?_⟩) (by assumption) ?_
        rotate_left
        · (intro wx hSw; (try dsimp only at hSw); go_simp <;> with_reducible rfl)
        try simp only [Act.put, List.setIfInBounds_toArray, List.set_cons_zero, List.set_cons_succ, List.getElem_toArray, List.getElem_cons_zero, List.getElem_cons_succ]
        refine wpAnyH_take (i := 14) (v := ?_) rfl (by kernel_rfl) (by kernel_rfl) (by kernel_rfl) (fun _ _ _ h => h) (Or.inl ⟨by rfl, ?_⟩) (by assumption) ?_
        rotate_left
        · (intro wx hSw; (try dsimp only at hSw); go_simp <;> with_reducible rfl)
        try simp only [Act.put, List.setIfInBounds_toArray, List.set_cons_zero, List.set_cons_succ, List.getElem_toArray, List.getElem_cons_zero, List.getElem_cons_succ]
        refine wpAnyH_take (i := 15) (v := ?_) rfl (by kernel_rfl) (by kernel_rfl) (by kernel_rfl) (fun _ _ _ h => h) (Or.inl ⟨by rfl, ?_⟩) (by assumption) ?_
        rotate_left
        · (intro wx hSw; (try dsimp only at hSw); go_simp <;> with_reducible rfl)
        try simp only [Act.put, List.setIfInBounds_toArray, List.set_cons_zero, List.set_cons_succ, List.getElem_toArray, List.getElem_cons_zero, List.getElem_cons_succ]
        refine wpAnyH_take (i := 16) (v := ?_) rfl (by kernel_rfl) (by kernel_rfl) (by kernel_rfl) (fun _ _ _ h => h) (Or.inl ⟨by rfl, ?_⟩) (by assumption) ?_
        rotate_left
        · (intro wx hSw; (try dsimp only at hSw); go_simp <;> with_reducible rfl)
        try simp only [Act.put, List.setIfInBounds_toArray, List.set_cons_zero, List.set_cons_succ, List.getElem_toArray, List.getElem_cons_zero, List.getElem_cons_succ]
        refine wpAnyH_take (i := 17) (v := ?_) rfl (by kernel_rfl) (by kernel_rfl) (by kernel_rfl) (fun _ _ _ h => h) (Or.inl ⟨by rfl, ?_⟩) (by assumption) ?_
        rotate_left
        · (intro wx hSw; (try dsimp only at hSw); go_simp <;> with_reducible rfl)
        try simp only [Act.put, List.setIfInBounds_toArray, List.set_cons_zero, List.set_cons_succ, List.getElem_toArray, List.getElem_cons_zero, List.getElem_cons_succ]
        refine wpAnyH_take (i := 18) (v := ?_) rfl (by kernel_rfl) (by kernel_rfl) (by kernel_rfl) (fun _ _ _ h => h) (Or.inl ⟨by rfl, ?_⟩) (by assumption) ?_
        rotate_left
        · (intro wx hSw; (try dsimp only at hSw); go_simp <;> with_reducible rfl)
        try simp only [Act.put, List.setIfInBounds_toArray, List.set_cons_zero, List.set_cons_succ, List.getElem_toArray, List.getElem_cons_zero, List.getElem_cons_succ]
        refine wpAnyH_take (i := 19) (v := undef) rfl (by kernel_rfl) (by kernel_rfl) (by kernel_rfl) (fun _ _ _ h => h) (Or.inr ⟨by simp [Region.wanted, yielded, undef], rfl⟩) (by assumption) ?_
        try simp only [Act.put, List.setIfInBounds_toArray, List.set_cons_zero, List.set_cons_succ, List.getElem_toArray, List.getElem_cons_zero, List.getElem_cons_succ]
        refine wpAnyH_take (i := 20) (v := undef) rfl (by kernel_rfl) (by kernel_rfl) (by kernel_rfl) (fun _ _ _ h => h) (Or.inr ⟨by simp [Region.wanted, yielded, undef], rfl⟩) (by assumption) ?_
        try simp only [Act.put, List.setIfInBounds_toArray, List.set_cons_zero, List.set_cons_succ, List.getElem_toArray, List.getElem_cons_zero, List.getElem_cons_succ]
        refine wpAnyH_take (i := 21) (v := undef) rfl (by kernel_rfl) (by kernel_rfl) (by kernel_rfl) (fun _ _ _ h => h) (Or.inr ⟨by simp [Region.wanted, yielded, undef], rfl⟩) (by assumption) ?_
        try simp only [Act.put, List.setIfInBounds_toArray, List.set_cons_zero, List.set_cons_succ, List.getElem_toArray, List.getElem_cons_zero, List.getElem_cons_succ]
        refine wpAnyH_take (i := 22) (v := undef) rfl (by kernel_rfl) (by kernel_rfl) (by kernel_rfl) (fun _ _ _ h => h) (Or.inr ⟨by simp [Region.wanted, yielded, undef], rfl⟩) (by assumption) ?_
        try simp only [Act.put, List.setIfInBounds_toArray, List.set_cons_zero, List.set_cons_succ, List.getElem_toArray, List.getElem_cons_zero, List.getElem_cons_succ]
        refine wpAnyH_take (i := 23) (v := ?_) rfl (by kernel_rfl) (by kernel_rfl) (by kernel_rfl) (fun _ _ _ h => h) (Or.inl ⟨by rfl, ?_⟩) (by assumption) ?_
        rotate_left
        · (intro wx hSw; (try dsimp only at hSw); go_simp <;> with_reducible rfl)
        try simp only [Act.put, List.setIfInBounds_toArray, List.set_cons_zero, List.set_cons_succ, List.getElem_toArray, List.getElem_cons_zero, List.getElem_cons_succ]
        refine wpAnyH_take (i := 24) (v := ?_) rfl (by kernel_rfl) (by kernel_rfl) (by kernel_rfl) (fun _ _ _ h => h) (Or.inl ⟨by rfl, ?_⟩) (by assumption) ?_
        rotate_left
        · (intro wx hSw; (try dsimp only at hSw); go_simp <;> with_reducible rfl)
        try simp only [Act.put, List.setIfInBounds_toArray, List.set_cons_zero, List.set_cons_succ, List.getElem_toArray, List.getElem_cons_zero, List.getElem_cons_succ]
        refine wpAnyH_done (by kernel_rfl) ?_ _
        have HP9 := Lib.hid (HP6.out.later B2.out)
        have HN9 := Lib.hid (HN6.out.later B2.out)
        have HY9 := Lib.hid ((B2.out.block _ (lt_of_heap HY1.out)).trans HY1.out)
        have HB49 : Hid (Below W4.heap.size W4 v2) := HB46.out.trans (B2.out.mono HB46.out.size)
        have o0 : v2.cell? ⟨P, 0, none⟩ = some (.int .u8 kd) := cell_of_heap HP9.out.op 0
        have o1 : v2.cell? ⟨P, 1, none⟩ = some (.int .i64 num) := cell_of_heap HP9.out.op 1
        have o4 : v2.cell? ⟨P, 4, none⟩ = some (.string (cutU text 3000)) := cell_of_heap HP9.out.op 4
        have y0 : v2.cell? ⟨w5.heap.size, 0, none⟩ = some (.int .i64 ne) := cell_of_heap HY9.out 0
        have y1 : v2.cell? ⟨w5.heap.size, 1, none⟩ = some (.string ns) := cell_of_heap HY9.out 1
        have y2 : v2.cell? ⟨w5.heap.size, 2, none⟩ = some (.slice na nn nc') := cell_of_heap HY9.out 2
        have y3 : v2.cell? ⟨w5.heap.size, 3, none⟩ = some (.string nc) := cell_of_heap HY9.out 3
        obtain ⟨w9, hrun, hm9, hg9⟩ := run_mapUpdate_int encR v2 51 42 Tryz.underlying51 w.heap.size l (HP9.out.pu HI.out.1).m num ⟨⟨ne, ns, nl, nc⟩, na, nn, nc'⟩
        unfold encR at hrun
        dsimp only at hrun
        have HF : Hid (ch = true → PU w0 w w9 b M V1 G w.heap.size (iSet l num ⟨⟨ne, ns, nl, nc⟩, na, nn, nc'⟩) ∧ RelU V1 (funR (iSet l num ⟨⟨ne, ns, nl, nc⟩, na, nn, nc'⟩)) (k + 1)) := fun hch => by
          refine ⟨(HP9.out.pu HI.out.1).put num ⟨⟨ne, ns, nl, nc⟩, na, nn, nc'⟩ hm9 hg9 HN9.out (fun k hk => (HOw6.out k hk).1) (HP4.out.s.fresh HB49.out (fun k hk => ?_)), by rw [funR_set]; exact D5.out (by first | rfl | trivial) hch⟩
          rcases hk with hk | hk
          · exact .inl (.inl hk)
          · rcases (HOw6.out k hk).2 with h | h
            · exact .inl (.inl h)
            · exact .inr ⟨h.1, Nat.lt_of_lt_of_le h.2 B2.out.size⟩
        have HF2 : Hid (ch = false → RelU V1 (funR l) (k + 1)) := fun hch => D6.out (fun h => by rw [hch] at h; cases h.2)
        clear hm9 hg9 HN9 HY9 HB49 D4 D5 D6 HOw6 HMk HOf HS1 HSx HD0 R1 B1
        have hways : kd % 8 = 7 ∨ (kd % 8 = 6 ∧ (cutU text 3000).size = 0) ∨ (kd % 8 = 6 ∧ (cutU text 3000).size ≠ 0) ∨ kd % 8 < 6 := by omega
        rcases hways with h7 | ⟨h6, ht⟩ | ⟨h6, ht⟩ | h5
        · have hch : ch = false := by rw [HCh.out, decide_eq_false (by omega)]; rfl
          have hj : (kd : Int) % 8 = 7 := by omega
          have HR := Lib.hid (HF2.out hch)
          clear HF hch HCh hrun
          go_wp2
          go_roundg (30 - (k + 1))
          case measure => have := Hg.out; omega
          case rel => exact ⟨k + 1, V1, l, by omega, rfl, by go_num, HP9.out.pu HI.out.1, HR.out⟩
        · have hch : ch = false := by rw [HCh.out, decide_eq_true h6, decide_eq_true ht]; simp
          have hj : (kd : Int) % 8 = 6 := by omega
          have he := empty_of ht
          have HR := Lib.hid (HF2.out hch)
          clear HF hch HCh hrun ht
          go_wp2
          go_roundg (30 - (k + 1))
          case measure => have := Hg.out; omega
          case rel => exact ⟨k + 1, V1, l, by omega, rfl, by go_num, HP9.out.pu HI.out.1, HR.out⟩
        · have hch : ch = true := by rw [HCh.out, decide_eq_true h6, decide_eq_false ht, decide_eq_true (by omega)]; rfl
          have hj : (kd : Int) % 8 = 6 := by omega
          have he := nonempty_of ht
          have HR := Lib.hid (HF.out hch)
          clear HF hch HCh ht
          go_wp2
          go_roundg (30 - (k + 1))
          case measure => have := Hg.out; omega
          case rel => exact ⟨k + 1, V1, _, by omega, rfl, by go_num, HR.out⟩
        · have hch : ch = true := by rw [HCh.out, decide_eq_false (by omega : ¬ kd % 8 = 6), decide_eq_true (by omega)]; rfl
          have hj : (kd : Int) % 8 < 6 := by omega
          have hj2 : (((kd : Int) % 8) == 6) = false := beq_eq_false_iff_ne.2 (by omega)
          have HR := Lib.hid (HF.out hch)
          clear HF hch HCh
          go_wp2
          go_roundg (30 - (k + 1))
          case measure => have := Hg.out; omega
          case rel => exact ⟨k + 1, V1, _, by omega, rfl, by go_num, HR.out⟩
      · have hne : ((q : Int) != 0) = true := bne_iff_ne.2 (by omega)
        have hne2 : ((q : Int) == 0) = false := beq_eq_false_iff_ne.2 (by omega)
        have hc4 := D4.out hq
        rw [hc4] at HMk
        have hmm : ((V.calls.length : Int) != V.calls.length) = false := by simp
        refine wp_region_held_drew (S := (fun W => W.cell? ⟨X, 0, none⟩ = some (.int .i64 ge) ∧ W.cell? ⟨X, 1, none⟩ = some (.string gs) ∧ W.cell? ⟨X, 2, none⟩ = some (.slice ga gl.length gk') ∧ W.cell? ⟨X, 3, none⟩ = some (.string gc) ∧ W.cell? ⟨w5.heap.size + 1, 0, none⟩ = some (.int .i64 ge) ∧ W.cell? ⟨w5.heap.size + 1, 1, none⟩ = some (.string gs) ∧ W.cell? ⟨w5.heap.size + 1, 2, none⟩ = some (.slice xa gl.length xc) ∧ W.cell? ⟨w5.heap.size + 1, 3, none⟩ = some (.string gc))) (by kernel_rfl) (HSx.out _ HD0.out) (fun hHeld0 => ?_)
        refine wpAnyH_take (i := 0) (v := ?_) rfl (by kernel_rfl) (by kernel_rfl) (by kernel_rfl) (fun _ _ _ h => h) (Or.inl ⟨by rfl, ?_⟩) (by assumption) ?_
        rotate_left
        · (intro wx hSw; (try dsimp only at hSw); go_simp <;> with_reducible rfl)
        try simp only [Act.put, List.setIfInBounds_toArray, List.set_cons_zero, List.set_cons_succ, List.getElem_toArray, List.getElem_cons_zero, List.getElem_cons_succ]
        refine wpAnyH_take (i := 1) (v := ?_) rfl (by kernel_rfl) (by kernel_rfl) (by kernel_rfl) (fun _ _ _ h => h) (Or.inl ⟨by rfl, ?_⟩) (by assumption) ?_
        rotate_left
        · (intro wx hSw; (try dsimp only at hSw); go_simp <;> with_reducible rfl)
        try simp only [Act.put, List.setIfInBounds_toArray, List.set_cons_zero, List.set_cons_succ, List.getElem_toArray, List.getElem_cons_zero, List.getElem_cons_succ]
        refine wpAnyH_take (i := 2) (v := ?_) rfl (by kernel_rfl) (by kernel_rfl) (by kernel_rfl) (fun _ _ _ h => h) (Or.inl ⟨by rfl, ?_⟩) (by assumption) ?_
        rotate_left
        · (intro wx hSw; (try dsimp only at hSw); go_simp <;> with_reducible rfl)
        try simp only [Act.put, List.setIfInBounds_toArray, List.set_cons_zero, List.set_cons_succ, List.getElem_toArray, List.getElem_cons_zero, List.getElem_cons_succ]
        refine wpAnyH_take (i := 3) (v := ?_) rfl (by kernel_rfl) (by kernel_rfl) (by kernel_rfl) (fun _ _ _ h => h) (Or.inl ⟨by rfl, ?_⟩) (by assumption) ?_
        rotate_left
        · (intro wx hSw; (try dsimp only at hSw); go_simp <;> with_reducible rfl)
        try simp only [Act.put, List.setIfInBounds_toArray, List.set_cons_zero, List.set_cons_succ, List.getElem_toArray, List.getElem_cons_zero, List.getElem_cons_succ]
        refine wpAnyH_take (i := 4) (v := ?_) rfl (by kernel_rfl) (by kernel_rfl) (by kernel_rfl) (fun _ _ _ h => h) (Or.inl ⟨by rfl, ?_⟩) (by assumption) ?_
        rotate_left
        · (intro wx hSw; (try dsimp only at hSw); go_simp <;> with_reducible rfl)
        try simp only [Act.put, List.setIfInBounds_toArray, List.set_cons_zero, List.set_cons_succ, List.getElem_toArray, List.getElem_cons_zero, List.getElem_cons_succ]
        refine wpAnyH_take (i := 5) (v := ?_) rfl (by kernel_rfl) (by kernel_rfl) (by kernel_rfl) (fun _ _ _ h => h) (Or.inl ⟨by rfl, ?_⟩) (by assumption) ?_
        rotate_left
        · (intro wx hSw; (try dsimp only at hSw); go_simp <;> with_reducible rfl)
        try simp only [Act.put, List.setIfInBounds_toArray, List.set_cons_zero, List.set_cons_succ, List.getElem_toArray, List.getElem_cons_zero, List.getElem_cons_succ]
        refine wpAnyH_take (i := 6) (v := ?_) rfl (by kernel_rfl) (by kernel_rfl) (by kernel_rfl) (fun _ _ _ h => h) (Or.inl ⟨by rfl, ?_⟩) (by assumption) ?_
        rotate_left
        · (intro wx hSw; (try dsimp only at hSw); go_simp <;> with_reducible rfl)
        try simp only [Act.put, List.setIfInBounds_toArray, List.set_cons_zero, List.set_cons_succ, List.getElem_toArray, List.getElem_cons_zero, List.getElem_cons_succ]
        refine wpAnyH_take (i := 7) (v := ?_) rfl (by kernel_rfl) (by kernel_rfl) (by kernel_rfl) (fun _ _ _ h => h) (Or.inl ⟨by rfl, ?_⟩) (by assumption) ?_
        rotate_left
        · (intro wx hSw; (try dsimp only at hSw); go_simp <;> with_reducible rfl)
        try simp only [Act.put, List.setIfInBounds_toArray, List.set_cons_zero, List.set_cons_succ, List.getElem_toArray, List.getElem_cons_zero, List.getElem_cons_succ]
        refine wpAnyH_take (i := 8) (v := ?_) rfl (by kernel_rfl) (by kernel_rfl) (by kernel_rfl) (fun _ _ _ h => h) (Or.inl ⟨by rfl, ?_⟩) (by assumption) ?_
        rotate_left
        · (intro wx hSw; (try dsimp only at hSw); go_simp <;> with_reducible rfl)
        try simp only [Act.put, List.setIfInBounds_toArray, List.set_cons_zero, List.set_cons_succ, List.getElem_toArray, List.getElem_cons_zero, List.getElem_cons_succ]
        refine wpAnyH_take (i := 9) (v := ?_) rfl (by kernel_rfl) (by kernel_rfl) (by kernel_rfl) (fun _ _ _ h => h) (Or.inl ⟨by rfl, ?_⟩) (by assumption) ?_
        rotate_left
        · (intro wx hSw; (try dsimp only at hSw); go_simp <;> with_reducible rfl)
        try simp only [Act.put, List.setIfInBounds_toArray, List.set_cons_zero, List.set_cons_succ, List.getElem_toArray, List.getElem_cons_zero, List.getElem_cons_succ]
        refine wpAnyH_take (i := 11) (v := ?_) rfl (by kernel_rfl) (by kernel_rfl) (by kernel_rfl) (fun _ _ _ h => h) (Or.inl ⟨by rfl, ?_⟩) (by assumption) ?_
        rotate_left
        · (intro wx hSw; (try dsimp only at hSw); go_simp <;> with_reducible rfl)
        try simp only [Act.put, List.setIfInBounds_toArray, List.set_cons_zero, List.set_cons_succ, List.getElem_toArray, List.getElem_cons_zero, List.getElem_cons_succ]
        refine wpAnyH_ready (rs := [10]) (by kernel_rfl) (by simp) ?_
        refine AllReadyH.cons rfl (fun K hK => ?_) AllReadyH.nil
        go_simp
        go_at_call 40
        (with_reducible refine (HOf.out _ HD0.out).mono ?_)
        rintro r v1 ⟨b1, d1, rfl, hr1, hb⟩
        have B1 : Hid (Below W6.heap.size W6 v1) := HD0.out.trans (hb.mono HD0.out.size)
        have R1 := Lib.hid hr1
        clear hr1
        clear hb
        go_wp2_with fail
        refine hK.out _ _ (HSx.out _ B1.out) (fun hHeld1 => ?_)
        clear hK K hHeld0
        try simp only [Act.put, List.setIfInBounds_toArray, List.set_cons_zero, List.set_cons_succ, List.getElem_toArray, List.getElem_cons_zero, List.getElem_cons_succ]
        refine wpAnyH_ready (rs := [12]) (by kernel_rfl) (by simp) ?_
        refine AllReadyH.cons rfl (fun K hK => ?_) AllReadyH.nil
        go_simp
        go_at_call 39
        (with_reducible refine (HS1.out _ _ _ B1.out R1.out).mono ?_)
        rintro r v2 ⟨rfl, hb⟩
        have B2 : Hid (Below W6.heap.size W6 v2) := B1.out.trans (hb.mono B1.out.size)
        clear hb
        go_wp2_with fail
        refine hK.out _ _ (HSx.out _ B2.out) (fun hHeld2 => ?_)
        clear hK K hHeld1
        try simp only [Act.put, List.setIfInBounds_toArray, List.set_cons_zero, List.set_cons_succ, List.getElem_toArray, List.getElem_cons_zero, List.getElem_cons_succ]
        refine wpAnyH_take (i := 13) (v := ?_) rfl (by kernel_rfl) (by kernel_rfl) (by kernel_rfl) (fun _ _ _ h => h) (Or.inl ⟨by rfl, ?_⟩) (by assumption) ?_
        rotate_left
        · (intro wx hSw; (try dsimp only at hSw); go_simp <;> with_reducible rfl)
        try simp only [Act.put, List.setIfInBounds_toArray, List.set_cons_zero, List.set_cons_succ, List.getElem_toArray, List.getElem_cons_zero, List.getElem_cons_succ]
        refine wpAnyH_take (i := 14) (v := ?_) rfl (by kernel_rfl) (by kernel_rfl) (by kernel_rfl) (fun _ _ _ h => h) (Or.inl ⟨by rfl, ?_⟩) (by assumption) ?_
        rotate_left
        · (intro wx hSw; (try dsimp only at hSw); go_simp <;> with_reducible rfl)
        try simp only [Act.put, List.setIfInBounds_toArray, List.set_cons_zero, List.set_cons_succ, List.getElem_toArray, List.getElem_cons_zero, List.getElem_cons_succ]
        refine wpAnyH_take (i := 15) (v := ?_) rfl (by kernel_rfl) (by kernel_rfl) (by kernel_rfl) (fun _ _ _ h => h) (Or.inl ⟨by rfl, ?_⟩) (by assumption) ?_
        rotate_left
        · (intro wx hSw; (try dsimp only at hSw); go_simp <;> with_reducible rfl)
        try simp only [Act.put, List.setIfInBounds_toArray, List.set_cons_zero, List.set_cons_succ, List.getElem_toArray, List.getElem_cons_zero, List.getElem_cons_succ]
        refine wpAnyH_take (i := 16) (v := ?_) rfl (by kernel_rfl) (by kernel_rfl) (by kernel_rfl) (fun _ _ _ h => h) (Or.inl ⟨by rfl, ?_⟩) (by assumption) ?_
        rotate_left
        · (intro wx hSw; (try dsimp only at hSw); go_simp <;> with_reducible rfl)
        try simp only [Act.put, List.setIfInBounds_toArray, List.set_cons_zero, List.set_cons_succ, List.getElem_toArray, List.getElem_cons_zero, List.getElem_cons_succ]
        refine wpAnyH_take (i := 17) (v := ?_) rfl (by kernel_rfl) (by kernel_rfl) (by kernel_rfl) (fun _ _ _ h => h) (Or.inl ⟨by rfl, ?_⟩) (by assumption) ?_
        rotate_left
        · (intro wx hSw; (try dsimp only at hSw); go_simp <;> with_reducible rfl)
        try simp only [Act.put, List.setIfInBounds_toArray, List.set_cons_zero, List.set_cons_succ, List.getElem_toArray, List.getElem_cons_zero, List.getElem_cons_succ]
        refine wpAnyH_take (i := 18) (v := ?_) rfl (by kernel_rfl) (by kernel_rfl) (by kernel_rfl) (fun _ _ _ h => h) (Or.inl ⟨by rfl, ?_⟩) (by assumption) ?_
        rotate_left
        · (intro wx hSw; (try dsimp only at hSw); go_simp <;> with_reducible rfl)
        try simp only [Act.put, List.setIfInBounds_toArray, List.set_cons_zero, List.set_cons_succ, List.getElem_toArray, List.getElem_cons_zero, List.getElem_cons_succ]
        refine wpAnyH_take (i := 19) (v := ?_) rfl (by kernel_rfl) (by kernel_rfl) (by kernel_rfl) (fun _ _ _ h => h) (Or.inl ⟨by rfl, ?_⟩) (by assumption) ?_
        rotate_left
        · (intro wx hSw; (try dsimp only at hSw); go_simp <;> with_reducible rfl)
        try simp only [Act.put, List.setIfInBounds_toArray, List.set_cons_zero, List.set_cons_succ, List.getElem_toArray, List.getElem_cons_zero, List.getElem_cons_succ]
        refine wpAnyH_take (i := 21) (v := ?_) rfl (by kernel_rfl) (by kernel_rfl) (by kernel_rfl) (fun _ _ _ h => h) (Or.inl ⟨by rfl, ?_⟩) (by assumption) ?_
        rotate_left
        · (intro wx hSw; (try dsimp only at hSw); go_simp <;> with_reducible rfl)
        try simp only [Act.put, List.setIfInBounds_toArray, List.set_cons_zero, List.set_cons_succ, List.getElem_toArray, List.getElem_cons_zero, List.getElem_cons_succ]
        refine wpAnyH_ready (rs := [20]) (by kernel_rfl) (by simp) ?_
        refine AllReadyH.cons rfl (fun K hK => ?_) AllReadyH.nil
        go_simp
        go_at_call 37
        (with_reducible refine (HMk.out _ B2.out).mono ?_)
        rintro r v3 ⟨rfl, rfl⟩
        go_wp2_with fail
        refine hK.out _ _ (HSx.out _ B2.out) (fun hHeld3 => ?_)
        clear hK K hHeld2
        try simp only [Act.put, List.setIfInBounds_toArray, List.set_cons_zero, List.set_cons_succ, List.getElem_toArray, List.getElem_cons_zero, List.getElem_cons_succ]
        refine wpAnyH_take (i := 22) (v := ?_) rfl (by kernel_rfl) (by kernel_rfl) (by kernel_rfl) (fun _ _ _ h => h) (Or.inl ⟨by rfl, ?_⟩) (by assumption) ?_
        rotate_left
        · (intro wx hSw; (try dsimp only at hSw); go_simp <;> with_reducible rfl)
        try simp only [Act.put, List.setIfInBounds_toArray, List.set_cons_zero, List.set_cons_succ, List.getElem_toArray, List.getElem_cons_zero, List.getElem_cons_succ]
        refine wpAnyH_take (i := 23) (v := ?_) rfl (by kernel_rfl) (by kernel_rfl) (by kernel_rfl) (fun _ _ _ h => h) (Or.inl ⟨by rfl, ?_⟩) (by assumption) ?_
        rotate_left
        · (intro wx hSw; (try dsimp only at hSw); go_simp <;> with_reducible rfl)
        try simp only [Act.put, List.setIfInBounds_toArray, List.set_cons_zero, List.set_cons_succ, List.getElem_toArray, List.getElem_cons_zero, List.getElem_cons_succ]
        refine wpAnyH_take (i := 24) (v := ?_) rfl (by kernel_rfl) (by kernel_rfl) (by kernel_rfl) (fun _ _ _ h => h) (Or.inl ⟨by rfl, ?_⟩) (by assumption) ?_
        rotate_left
        · (intro wx hSw; (try dsimp only at hSw); go_simp <;> with_reducible rfl)
        try simp only [Act.put, List.setIfInBounds_toArray, List.set_cons_zero, List.set_cons_succ, List.getElem_toArray, List.getElem_cons_zero, List.getElem_cons_succ]
        refine wpAnyH_done (by kernel_rfl) ?_ _
        have HP9 := Lib.hid (HP6.out.later B2.out)
        have HR : Hid (RelU V1 (funR l) (k + 1)) := D6.out (fun h => hq h.1)
        clear hq HMk HOf HS1 HSx HD0 R1 B1
        go_wp2
        go_roundg (30 - (k + 1))
        case measure => have := Hg.out; omega
        case rel => exact ⟨k + 1, V1, l, by omega, rfl, by go_num, HP9.out.pu HI.out.1, HR.out⟩
end Go.Proofs.YtfobmfenjdiimaaGreatDoor
