/- Law 36: Equal, Same, To, Of. (printed by wip/gen_rtd.py) Law 36: To, Of. (printed by wip/gen_rtd.py) -/
import Derived.Test.YtfobmfenjdiimaaDoorRtC
import Derived.Deep.RegionHeld3
namespace Go.Proofs.YtfobmfenjdiimaaDoor
open Go.RowKit
attribute [local go_sem ↓] Go.wp_at_zero Go.wp_at_succ

theorem below_toD {B : Nat} {w w1 : World} (h : Below B w w1) (k : Nat) : Below B w (w1.drewN k) := ⟨h.os, h.tape, h.output, h.size, h.block⟩
theorem take_eq_s {α : Type} {xs ys : List α} {k : Nat} {x y : α} (hx : xs[k]? = some x) (hy : ys[k]? = some y) (h : xs.take k = ys.take k) (e : x = y) : xs.take (k + 1) = ys.take (k + 1) := by
  rw [List.take_add_one, List.take_add_one, hx, hy, h, e]
theorem str_ne {x y : ByteArray} (h : x ≠ y) : (x.toList == y.toList) = false := by rw [str_beq]; exact decide_eq_false h
theorem str_same (x : ByteArray) : (x.toList != x.toList) = false := by simp
theorem SSl.at_ {w : World} {a : Option Addr} {n : Nat} {ls : List ByteArray} (h : SSl w a n ls) {k : Nat} (hk : k < n) : ∃ g off x, a = some ⟨g, off, none⟩ ∧ ls[k]? = some x ∧ w.cell? ⟨g, off + k, none⟩ = some (.string x) := by
  obtain ⟨g, off, rfl, hc⟩ := h.2 (by omega)
  have hkl : k < ls.length := by rw [h.1]; exact hk
  have hg : ls.getD k ⟨#[]⟩ = ls[k] := by rw [List.getD_eq_getElem?_getD, List.getElem?_eq_getElem hkl]; rfl
  have hcc := hc k hk
  rw [hg] at hcc
  exact ⟨g, off, ls[k], rfl, List.getElem?_eq_getElem hkl, hcc⟩
set_option maxRecDepth 100000 in
set_option maxHeartbeats 3200000 in
theorem slEqS_any (w : World) (p1 p2 : Option Addr) (n m k1 k2 : Nat) (xs ys : List ByteArray) (h1 : SSl w p1 n xs) (h2 : SSl w p2 m ys) (hx : n ≤ 70368744177664) :
    Calls Tryd.prog 44 #[.slice p1 n k1, .slice p2 m k2] w fun r w' => r = .returned (.bool (decide (xs = ys))) ∧ Below w.heap.size w w' := by
  have H1 := Lib.hid h1
  have H2 := Lib.hid h2
  have hl1 := h1.1
  have hl2 := h2.1
  clear h1 h2
  by_cases hn : n = m
  case neg =>
    have HF : Hid (decide (xs = ys) = false) := decide_eq_false (fun e => hn (by rw [← hl1, ← hl2, e]))
    clear hl1 hl2
    have hne : ((n : Int) == (m : Int)) = false := beq_eq_false_iff_ne.2 (by omega)
    go_enter Tryd.func44, Tryd.ntmps44
    go_wp2_with fail
    refine bodyPost_ret (v := .bool false) (by simp [results, Tryd.results44, go_sem]) rfl ?_
    exact ⟨by rw [HF.out], Below.refl _ _⟩
  subst hn
  have Hn := Lib.hid hl1
  have Hm := Lib.hid hl2
  clear hl1 hl2
  go_enter Tryd.func44, Tryd.ntmps44
  go_wp2_with fail
  go_loopg [13] n (fun gk iv wr => ∃ k : Nat, k + gk = n ∧ iv = .int .i64 k ∧ Hid (xs.take k = ys.take k) ∧ Hid (Below w.heap.size w wr))
  case atStart => exact ⟨0, by omega, rfl, (by show _ = _; rw [List.take_zero, List.take_zero]), Below.refl _ _⟩
  case round =>
    obtain ⟨k, hg, rfl, HTk, HB⟩ := hrel
    have Hg := Lib.hid hg
    have hk : k ≤ n := by omega
    clear hg
    by_cases hlt : k < n
    · obtain ⟨g1, o1, x, rfl, ex, c1⟩ := (H1.out.later HB.out).at_ hlt
      obtain ⟨g2, o2, y, rfl, ey, c2⟩ := (H2.out.later HB.out).at_ hlt
      have Hex := Lib.hid ex
      have Hey := Lib.hid ey
      clear ex ey
      by_cases he : x = y
      · have HTn : Hid (xs.take (k + 1) = ys.take (k + 1)) := take_eq_s Hex.out Hey.out HTk.out he
        subst he
        have hx' := str_same x
        go_upto_region 6 with fail
        go_quiet (fail)
        go_wp2
        go_roundg (n - (k + 1))
        case measure => have := Hg.out; omega
        case rel => exact ⟨k + 1, by have := Hg.out; omega, by go_num, HTn.out, below_toD HB.out _⟩
      · have hq := str_ne he
        have HF : Hid (decide (xs = ys) = false) := decide_eq_false (fun e => he (by have h := Hey.out; rw [← e, Hex.out] at h; exact Option.some.inj h))
        clear he
        go_upto_region 6 with fail
        go_quiet (fail)
        go_wp2
        refine bodyPost_ret (v := .bool false) (by simp [results, Tryd.results44, go_sem]) rfl ?_
        exact ⟨by rw [HF.out], below_toD HB.out _⟩
    · have HF : Hid (decide (xs = ys) = true) := decide_eq_true (by
        have h := HTk.out
        rw [List.take_of_length_le (by rw [Hn.out]; omega), List.take_of_length_le (by rw [Hm.out]; omega)] at h
        exact h)
      go_wp2
      refine bodyPost_ret (v := .bool true) (by simp [results, Tryd.results44, go_sem]) rfl ?_
      exact ⟨by rw [HF.out], HB.out⟩
set_option maxRecDepth 100000 in
set_option maxHeartbeats 3200000 in
theorem tEqual_any (ep : Int) (se sc : ByteArray) (a : Option Addr) (n c : Nat) (ls : List ByteArray) (ep2 : Int) (se2 sc2 : ByteArray) (a2 : Option Addr) (n2 c2 : Nat) (ls2 : List ByteArray) (w : World) (hs : SSl w a n ls) (hs2 : SSl w a2 n2 ls2) (hn : n ≤ 70368744177664) :
    Calls Tryd.prog 18 #[.agg #[.int .i64 ep, .string se, .slice a n c, .string sc], .agg #[.int .i64 ep2, .string se2, .slice a2 n2 c2, .string sc2]] w fun r w' => r = .returned (.bool (decide ((⟨ep, se, ls, sc⟩ : TermT) = ⟨ep2, se2, ls2, sc2⟩))) ∧ Below w.heap.size w w' := by
  have HS : Hid (∀ W, Below w.heap.size w W → SSl W a n ls) := fun W hW => hs.later hW
  have HS2 : Hid (∀ W, Below w.heap.size w W → SSl W a2 n2 ls2) := fun W hW => hs2.later hW
  have HA : Hid (∀ o o', Below w.heap.size w ((w.alloc o).alloc o')) := fun o o' => ((Below.refl _ _).alloc (Nat.le_refl _) _).alloc (by rw [World.size_alloc]; omega) _
  clear hs hs2
  by_cases h1 : ep = ep2
  case neg =>
    have HF : Hid (decide ((⟨ep, se, ls, sc⟩ : TermT) = ⟨ep2, se2, ls2, sc2⟩) = false) := decide_eq_false (fun e => h1 (by injection e))
    have hx : (ep == ep2) = false := beq_eq_false_iff_ne.2 h1
    clear h1
    go_enter Tryd.func18, Tryd.ntmps18
    go_wp2
    refine bodyPost_ret (v := .bool false) (by simp [results, Tryd.results18, go_sem]) rfl ?_
    exact ⟨by rw [HF.out], HA.out _ _⟩
  subst h1
  by_cases h2 : se = se2
  case neg =>
    have HF : Hid (decide ((⟨ep, se, ls, sc⟩ : TermT) = ⟨ep, se2, ls2, sc2⟩) = false) := decide_eq_false (fun e => h2 (by injection e))
    have hx := str_ne h2
    clear h2
    go_enter Tryd.func18, Tryd.ntmps18
    go_wp2
    refine bodyPost_ret (v := .bool false) (by simp [results, Tryd.results18, go_sem]) rfl ?_
    exact ⟨by rw [HF.out], HA.out _ _⟩
  subst h2
  by_cases h3 : sc = sc2
  case neg =>
    have HF : Hid (decide ((⟨ep, se, ls, sc⟩ : TermT) = ⟨ep, se, ls2, sc2⟩) = false) := decide_eq_false (fun e => h3 (by injection e))
    have hx := str_ne h3
    clear h3
    go_enter Tryd.func18, Tryd.ntmps18
    go_wp2
    refine bodyPost_ret (v := .bool false) (by simp [results, Tryd.results18, go_sem]) rfl ?_
    exact ⟨by rw [HF.out], HA.out _ _⟩
  subst h3
  have HF : Hid (decide ((⟨ep, se, ls, sc⟩ : TermT) = ⟨ep, se, ls2, sc⟩) = decide (ls = ls2)) := decide_eq_decide.2 ⟨fun e => by injection e, fun e => by rw [e]⟩
  go_enter Tryd.func18, Tryd.ntmps18
  go_wp2_with fail
  refine (slEqS_any _ a a2 n n2 c c2 ls ls2 (HS.out _ (HA.out _ _)) (HS2.out _ (HA.out _ _)) hn).mono ?_
  rintro r w1 ⟨rfl, hb⟩
  have HB := Lib.hid ((HA.out _ _).trans (hb.mono (HA.out _ _).size))
  clear hb
  generalize decide (ls = ls2) = bb at *
  go_wp2
  refine bodyPost_ret (v := .bool bb) (by simp [results, Tryd.results18, go_sem]) rfl ?_
  exact ⟨by rw [HF.out], HB.out⟩
set_option maxRecDepth 100000 in
set_option maxHeartbeats 3200000 in
theorem rSame36_any (ep : Int) (se sc : ByteArray) (a : Option Addr) (n c : Nat) (ls : List ByteArray) (ep2 : Int) (se2 sc2 : ByteArray) (a2 : Option Addr) (n2 c2 : Nat) (ls2 : List ByteArray) (w : World) (hs : SSl w a n ls) (hs2 : SSl w a2 n2 ls2) (hn : n ≤ 70368744177664) :
    Calls Tryd.prog 16 #[.agg #[.int .i64 ep, .string se, .slice a n c, .string sc], .agg #[.int .i64 ep2, .string se2, .slice a2 n2 c2, .string sc2]] w fun r w' => r = .returned (.bool (decide ((⟨ep, se, ls, sc⟩ : TermT) = ⟨ep2, se2, ls2, sc2⟩))) ∧ Below w.heap.size w w' := by
  have hl1 := hs.1
  have hl2 := hs2.1
  have HS : Hid (∀ W, Below w.heap.size w W → SSl W a n ls) := fun W hW => hs.later hW
  have HS2 : Hid (∀ W, Below w.heap.size w W → SSl W a2 n2 ls2) := fun W hW => hs2.later hW
  have HA : Hid (∀ o o', Below w.heap.size w ((w.alloc o).alloc o')) := fun o o' => ((Below.refl _ _).alloc (Nat.le_refl _) _).alloc (by rw [World.size_alloc]; omega) _
  clear hs hs2
  by_cases h1 : ep = ep2
  case neg =>
    have HF : Hid (decide ((⟨ep, se, ls, sc⟩ : TermT) = ⟨ep2, se2, ls2, sc2⟩) = false) := decide_eq_false (fun e => h1 (by injection e))
    have hx : (ep == ep2) = false := beq_eq_false_iff_ne.2 h1
    clear h1
    clear hl1 hl2
    go_enter Tryd.func16, Tryd.ntmps16
    go_wp2
    all_goals
      refine bodyPost_ret (v := .bool false) (by simp [results, Tryd.results16, go_sem]) rfl ?_
      exact ⟨by rw [HF.out], HA.out _ _⟩
  subst h1
  by_cases h2 : se = se2
  case neg =>
    have HF : Hid (decide ((⟨ep, se, ls, sc⟩ : TermT) = ⟨ep, se2, ls2, sc2⟩) = false) := decide_eq_false (fun e => h2 (by injection e))
    have hx := str_ne h2
    clear h2
    clear hl1 hl2
    go_enter Tryd.func16, Tryd.ntmps16
    go_wp2
    all_goals
      refine bodyPost_ret (v := .bool false) (by simp [results, Tryd.results16, go_sem]) rfl ?_
      exact ⟨by rw [HF.out], HA.out _ _⟩
  subst h2
  by_cases h3 : sc = sc2
  case neg =>
    have HF : Hid (decide ((⟨ep, se, ls, sc⟩ : TermT) = ⟨ep, se, ls2, sc2⟩) = false) := decide_eq_false (fun e => h3 (by injection e))
    have hx := str_ne h3
    clear h3
    clear hl1 hl2
    go_enter Tryd.func16, Tryd.ntmps16
    go_wp2
    all_goals
      refine bodyPost_ret (v := .bool false) (by simp [results, Tryd.results16, go_sem]) rfl ?_
      exact ⟨by rw [HF.out], HA.out _ _⟩
  subst h3
  by_cases h4 : n = n2
  case neg =>
    have HF : Hid (decide ((⟨ep, se, ls, sc⟩ : TermT) = ⟨ep, se, ls2, sc⟩) = false) := decide_eq_false (fun e => h4 (by injection e with _ _ e3; rw [← hl1, ← hl2, e3]))
    have hx : ((n : Int) == (n2 : Int)) = false := beq_eq_false_iff_ne.2 (by omega)
    clear h4
    clear hl1 hl2
    go_enter Tryd.func16, Tryd.ntmps16
    go_wp2
    all_goals
      refine bodyPost_ret (v := .bool false) (by simp [results, Tryd.results16, go_sem]) rfl ?_
      exact ⟨by rw [HF.out], HA.out _ _⟩
  subst h4
  have HD : Hid (decide ((⟨ep, se, ls, sc⟩ : TermT) = ⟨ep, se, ls2, sc⟩) = decide (ls = ls2)) := decide_eq_decide.2 ⟨fun e => by injection e, fun e => by rw [e]⟩
  have Hn := Lib.hid hl1
  have Hm := Lib.hid hl2
  have hx1 := str_same se
  have hx2 := str_same sc
  have HX : Hid (∀ o o' : Obj, ((w.alloc o).alloc o').heap[w.heap.size]? = some o ∧ ((w.alloc o).alloc o').heap[w.heap.size + 1]? = some o') := fun o o' => ⟨(Below.heap_alloc _ _ _ (by simp)).trans (World.alloc_heap_new w _), by have := World.alloc_heap_new (w.alloc o) o'; rw [World.size_alloc] at this; exact this⟩
  clear hl1 hl2
  go_enter Tryd.func16, Tryd.ntmps16
  go_wp2_with fail
  have HX0 := Lib.hid (HX.out (.cells #[.int .i64 ep, .string se, .slice a n c, .string sc] 24) (.cells #[.int .i64 ep, .string se, .slice a2 n c2, .string sc] 24))
  have HA0 := Lib.hid (HA.out (.cells #[.int .i64 ep, .string se, .slice a n c, .string sc] 24) (.cells #[.int .i64 ep, .string se, .slice a2 n c2, .string sc] 24))
  clear HX HA hx1 hx2
  generalize (w.alloc (.cells #[.int .i64 ep, .string se, .slice a n c, .string sc] 24)).alloc (.cells #[.int .i64 ep, .string se, .slice a2 n c2, .string sc] 24) = w0 at *
  go_loopg [5] n (fun gk iv wr => ∃ k : Nat, k + gk = n ∧ iv = .int .i64 k ∧ Hid (ls.take k = ls2.take k) ∧ Hid (Below w0.heap.size w0 wr))
  case atStart => exact ⟨0, by omega, rfl, (by show _ = _; rw [List.take_zero, List.take_zero]), Below.refl _ _⟩
  case round =>
    obtain ⟨k, hg, rfl, HTk, HB⟩ := hrel
    have Hg := Lib.hid hg
    have hk : k ≤ n := by omega
    clear hg
    have HBw : Hid (Below w.heap.size w wr) := HA0.out.trans (HB.out.mono HA0.out.size)
    have b1 : wr.cell? ⟨w.heap.size, 2, none⟩ = some (.slice a n c) := cell_of_heap ((HB.out.block _ (lt_of_heap HX0.out.1)).trans HX0.out.1) 2
    have b2 : wr.cell? ⟨w.heap.size + 1, 2, none⟩ = some (.slice a2 n c2) := cell_of_heap ((HB.out.block _ (lt_of_heap HX0.out.2)).trans HX0.out.2) 2
    by_cases hlt : k < n
    · obtain ⟨g1, o1, x, rfl, ex, c1⟩ := (HS.out _ HBw.out).at_ hlt
      obtain ⟨g2, o2, y, rfl, ey, c2⟩ := (HS2.out _ HBw.out).at_ hlt
      have Hex := Lib.hid ex
      have Hey := Lib.hid ey
      clear ex ey
      by_cases he : x = y
      · have HTn : Hid (ls.take (k + 1) = ls2.take (k + 1)) := take_eq_s Hex.out Hey.out HTk.out he
        subst he
        have hx' := str_same x
        go_upto_region 6 with fail
        go_quiet (fail)
        go_wp2
        go_roundg (n - (k + 1))
        case measure => have := Hg.out; omega
        case rel => exact ⟨k + 1, by have := Hg.out; omega, by go_num, HTn.out, below_toD HB.out _⟩
      · have hq := str_ne he
        have HF : Hid (decide (ls = ls2) = false) := decide_eq_false (fun e => he (by have h := Hey.out; rw [← e, Hex.out] at h; exact Option.some.inj h))
        clear he
        go_upto_region 6 with fail
        go_quiet (fail)
        go_wp2
        refine bodyPost_ret (v := .bool false) (by simp [results, Tryd.results16, go_sem]) rfl ?_
        exact ⟨by rw [HD.out, HF.out], below_toD HBw.out _⟩
    · have HF : Hid (decide (ls = ls2) = true) := decide_eq_true (by
        have h := HTk.out
        rw [List.take_of_length_le (by rw [Hn.out]; omega), List.take_of_length_le (by rw [Hm.out]; omega)] at h
        exact h)
      go_wp2
      refine bodyPost_ret (v := .bool true) (by simp [results, Tryd.results16, go_sem]) rfl ?_
      exact ⟨by rw [HD.out, HF.out], HBw.out⟩
end Go.Proofs.YtfobmfenjdiimaaDoor

namespace Go.Proofs.YtfobmfenjdiimaaDoor
open Go.RowKit
attribute [local go_sem ↓] Go.wp_at_zero Go.wp_at_succ

/-- In the midst of To, or Of: the copy stands behind the result's block. -/
structure CpAt (w W : World) (TY TZ : TypeId) (s0 : Array Value) (ep : Int) (se : ByteArray) (ls : List ByteArray) (sc : ByteArray) (tv : Value) : Prop where
  src : W.heap[w.heap.size]? = some (.cells s0 TY (0, 0))
  res : W.heap[w.heap.size + 1]? = some (.cells #[.int .i64 0, .string ⟨#[]⟩, .slice none 0 0, .string ⟨#[]⟩] TZ (0, 0))
  box : W.heap[w.heap.size + 1 + 1]? = some (.cells #[.int .i64 ep, .string se, tv, .string sc] TZ (0, 0))
  low : Below w.heap.size w W
  row : SRow W tv ls
  own : ∀ g, tv.ownBlock = some g → w.heap.size + 1 + 1 < g
section
variable {w W W' w2 : World} {TY TZ : TypeId} {s0 : Array Value} {ep : Int} {se sc : ByteArray} {ls ls' : List ByteArray} {tv : Value}
theorem CpAt.start (w : World) (TY TZ : TypeId) (s0 : Array Value) (ep : Int) (se sc : ByteArray) : CpAt w (((w.alloc (.cells s0 TY)).alloc (.cells #[.int .i64 0, .string ⟨#[]⟩, .slice none 0 0, .string ⟨#[]⟩] TZ)).alloc (.cells #[.int .i64 ep, .string se, .slice none 0 0, .string sc] TZ)) TY TZ s0 ep se [] sc (.slice none 0 0) := by
  have h1 := World.alloc_heap_new w (.cells s0 TY)
  have h2 := World.alloc_heap_new (w.alloc (.cells s0 TY)) (.cells #[.int .i64 0, .string ⟨#[]⟩, .slice none 0 0, .string ⟨#[]⟩] TZ)
  have h3 := World.alloc_heap_new ((w.alloc (.cells s0 TY)).alloc (.cells #[.int .i64 0, .string ⟨#[]⟩, .slice none 0 0, .string ⟨#[]⟩] TZ)) (.cells #[.int .i64 ep, .string se, .slice none 0 0, .string sc] TZ)
  rw [World.size_alloc] at h2
  rw [World.size_alloc, World.size_alloc] at h3
  refine ⟨(Below.heap_alloc _ _ _ (by simp; omega)).trans ((Below.heap_alloc _ _ _ (by simp)).trans h1), (Below.heap_alloc _ _ _ (by simp)).trans h2, h3, (((Below.refl _ _).alloc (Nat.le_refl _) _).alloc (by simp) _).alloc (by simp; omega) _, World.ownsRow_nil _ _ _ _, fun g hg => by cases hg⟩
theorem CpAt.append {o : Obj} {g n cap : Nat} (h : CpAt w W TY TZ s0 ep se ls sc tv) (hb : Below W.heap.size W W') (hrow : SRow w2 (.slice (some ⟨g, 0, none⟩) n cap) ls') (hg : (W'.alloc o).grownBy w2 tv.ownBlock) (hat : tv.ownBlock = some g ∨ g = (W'.alloc o).heap.size) :
    CpAt w (w2.setCell ⟨w.heap.size + 1 + 1, 2, none⟩ (.slice (some ⟨g, 0, none⟩) n cap)) TY TZ s0 ep se ls' sc (.slice (some ⟨g, 0, none⟩) n cap) := by
  have hT := lt_of_heap h.box
  have hsz := hb.size
  have hgT : w.heap.size + 1 + 1 < g := by
    rcases hat with e | e
    · exact h.own g e
    · rw [e]; simp; omega
  have hg' : W.grownBy w2 tv.ownBlock := ⟨hg.os.trans hb.os, hg.tape.trans hb.tape, hg.output.trans hb.output, Nat.le_trans hb.size (Nat.le_trans (by simp) hg.size), fun k hk hne => ((hg.block k (by simp; omega) hne).trans (Below.heap_alloc W' _ k (by omega))).trans (hb.block k hk)⟩
  have h1 : w2.heap[w.heap.size + 1 + 1]? = _ := (hg'.block _ hT (fun e => absurd (h.own _ e.symm) (Nat.lt_irrefl _))).trans h.box
  have h2 : w2.heap[w.heap.size + 1]? = _ := (hg'.block _ (by omega) (fun e => by have := h.own _ e.symm; omega)).trans h.res
  have h3 : w2.heap[w.heap.size]? = _ := (hg'.block _ (by omega) (fun e => by have := h.own _ e.symm; omega)).trans h.src
  refine ⟨(Below.heap_setCell _ _ _ _ (by show w.heap.size ≠ w.heap.size + 1 + 1; omega)).trans h3, (Below.heap_setCell _ _ _ _ (by show w.heap.size + 1 ≠ w.heap.size + 1 + 1; omega)).trans h2, heap_setCell_same h1 2 _, ?_, hrow.grown (grown_setCell _ _ _ _) (fun k hk e => ?_), fun k hk => ?_⟩
  · exact pBelow_row (pBelow_row h.low hg' (Nat.le_refl _) (fun k hk => by have := h.own k hk; omega)) (grown_setCell _ _ _ _) (Nat.le_refl _) (fun k hk => by cases hk; omega)
  · cases hk
    simp [Value.ownBlock] at e
    omega
  · simp [Value.ownBlock] at hk
    omega
theorem row_count {w : World} {a : Option Addr} {n c : Nat} {ls : List ByteArray} (h : SRow w (.slice a n c) ls) : n = ls.length := h.sl.1.symm
/-- What To and Of leave. -/
def CpPost (w : World) (t : TermT) (r : Ending) (w' : World) : Prop :=
  ∃ a c, r = .returned (.agg #[.int .i64 t.epoch, .string t.session, .slice a t.typed.length c, .string t.screen]) ∧ SRow w' (.slice a t.typed.length c) t.typed ∧ (∀ g, (Value.slice a t.typed.length c).ownBlock = some g → w.heap.size ≤ g) ∧ Below w.heap.size w w'
theorem CpAt.done {a : Option Addr} {n c : Nat} (h : CpAt w W TY TZ s0 ep se ls sc (.slice a n c)) (hn : n = ls.length) (hg : W.grownBy W' (some (w.heap.size + 1))) : CpPost w ⟨ep, se, ls, sc⟩ (.returned (.agg #[.int .i64 ep, .string se, .slice a n c, .string sc])) W' := by
  subst hn
  exact ⟨a, c, rfl, h.row.grown hg (fun k hk e => by cases hk; have := h.own _ e; omega), (fun g hg => by have := h.own g hg; omega), pBelow_row h.low hg (Nat.le_refl _) (fun k hk => by cases hk; omega)⟩
end
set_option maxRecDepth 100000 in
set_option maxHeartbeats 3200000 in
theorem to36_any (ep : Int) (se sc : ByteArray) (a : Option Addr) (n c : Nat) (ls : List ByteArray) (w : World) (hs : SSl w a n ls) (hn : n ≤ 1000000) (hlim : n ≤ 20) :
    Calls Tryd.prog 10 #[.agg #[.int .i64 ep, .string se, .slice a n c, .string sc]] w (CpPost w ⟨ep, se, ls, sc⟩) := by
  have D0 := Lib.hid (CpAt.start w 24 33 #[.int .i64 ep, .string se, .slice a n c, .string sc] ep se sc)
  have hl1 := hs.1
  have Hn1 := Lib.hid hl1
  have HS : Hid (∀ W, Below w.heap.size w W → SSl W a n ls) := fun W hW => hs.later hW
  clear hs hl1
  go_enter Tryd.func10, Tryd.ntmps10
  go_wp2_with fail
  generalize ((w.alloc (.cells #[.int .i64 ep, .string se, .slice a n c, .string sc] 24)).alloc (.cells #[.int .i64 0, .string ⟨#[]⟩, .slice none 0 0, .string ⟨#[]⟩] 33)).alloc (.cells #[.int .i64 ep, .string se, .slice none 0 0, .string sc] 33) = W0 at *
  go_loopg [4] n (fun gk iv wr => ∃ (k : Nat) (b : Option Addr) (d : Nat), k + gk = n ∧ iv = .int .i64 k ∧ Hid (CpAt w wr 24 33 #[.int .i64 ep, .string se, .slice a n c, .string sc] ep se (ls.take k) sc (.slice b k d)))
  case atStart => exact ⟨0, none, 0, by omega, rfl, D0.out⟩
  case round =>
    clear D0
    obtain ⟨k, b, d, hg, rfl, D⟩ := hrel
    have Hg := Lib.hid hg
    have hk : k ≤ n := by omega
    clear hg
    have c2 : wr.cell? ⟨w.heap.size, 2, none⟩ = some (.slice a n c) := cell_of_heap D.out.src 2
    by_cases hlt : k < n
    · have hlt20 : k < 20 := by omega
      obtain ⟨g1, o1, x, rfl, ex, c1⟩ := (HS.out _ D.out.low).at_ hlt
      have HTn : Hid (ls.take (k + 1) = ls.take k ++ [x]) := by show _ = _; rw [List.take_add_one, ex]; rfl
      clear ex
      have c3 : wr.cell? ⟨w.heap.size + 1 + 1, 2, none⟩ = some (.slice b k d) := cell_of_heap D.out.box 2
      have hlt5 := lt_of_heap D.out.box
      have hg1 := World.block_lt_of_cell? wr _ c1
      have Hl : Hid ((ls.take k).length ≤ 1000000) := by show _ ≤ _; rw [List.length_take]; have := Hn1.out; omega
      have Drow : Hid (∀ o, SRow (wr.drew.alloc o) (.slice b k d) (ls.take k)) := fun o => World.ownsRow.alloc D.out.row o
      go_upto_region 5 with fail
      have hne1 := World.new_ne wr ⟨g1, o1 + k, none⟩ c1
      have hne2 := World.new_ne wr ⟨w.heap.size, 2, none⟩ c2
      have hne3 := World.new_ne wr ⟨w.heap.size + 1 + 1, 2, none⟩ c3
      go_region_law (first
        | (refine step_append_string (by rfl) _ _ (by rfl) (.slice b k d) (ls.take k) (by rfl) (Drow.out _) _ wr.heap.size (by rfl) (heap_alloc_new wr.drew _) Hl.out ?_; intro g m cap w6 hrow6 hg6 hat6; have D6 := Lib.hid (D.out.append (Below.refl _ _).drew hrow6 hg6 hat6); have HM := Lib.hid (row_count hrow6); have hh6 := (hg6.block (w.heap.size + 1 + 1) (by simp; omega) (fun e => absurd (D.out.own _ e.symm) (Nat.lt_irrefl _))).trans ((Below.heap_alloc wr.drew _ (w.heap.size + 1 + 1) hlt5).trans D.out.box); have c6 : w6.cell? ⟨w.heap.size + 1 + 1, 2, none⟩ = some (.slice b k d) := cell_of_heap hh6 2; have f6 : w6.frozen? ⟨w.heap.size + 1 + 1, 2, none⟩ = false := frozen_of_heap hh6 2; clear hrow6 hg6 hat6 hh6)
        | fail)
      all_goals
        go_wp2
        go_roundg (n - (k + 1))
        case measure => have := Hg.out; omega
        case rel =>
          have hm : m = k + 1 := by have := HM.out; rw [List.length_append, List.length_take, List.length_singleton] at this; have := Hn1.out; omega
          subst hm
          exact ⟨k + 1, _, _, by have := Hg.out; omega, by go_num, by rw [HTn.out]; exact D6⟩
    · obtain rfl : k = n := by omega
      have Hfull : Hid (ls.take k = ls) := List.take_of_length_le (by have := Hn1.out; omega)
      have e0 : wr.cell? ⟨w.heap.size + 1 + 1, 0, none⟩ = some (.int .i64 ep) := cell_of_heap D.out.box 0
      have e1 : wr.cell? ⟨w.heap.size + 1 + 1, 1, none⟩ = some (.string se) := cell_of_heap D.out.box 1
      have e2 : wr.cell? ⟨w.heap.size + 1 + 1, 2, none⟩ = some (.slice b k d) := cell_of_heap D.out.box 2
      have e3 : wr.cell? ⟨w.heap.size + 1 + 1, 3, none⟩ = some (.string sc) := cell_of_heap D.out.box 3
      have r0 : wr.cell? ⟨w.heap.size + 1, 0, none⟩ = some (.int .i64 0) := cell_of_heap D.out.res 0
      have r1 : wr.cell? ⟨w.heap.size + 1, 1, none⟩ = some (.string ⟨#[]⟩) := cell_of_heap D.out.res 1
      have r2 : wr.cell? ⟨w.heap.size + 1, 2, none⟩ = some (.slice none 0 0) := cell_of_heap D.out.res 2
      have r3 : wr.cell? ⟨w.heap.size + 1, 3, none⟩ = some (.string ⟨#[]⟩) := cell_of_heap D.out.res 3
      have hf : ∀ i, wr.frozen? ⟨w.heap.size + 1, i, none⟩ = false := fun i => frozen_of_heap D.out.res i
      have g0 := hf 0
      have g1 := hf 1
      have g2 := hf 2
      have g3 := hf 3
      clear hf
      rw [Hfull.out] at D
      go_wp2
      refine bodyPost_ret (v := .agg #[.int .i64 ep, .string se, .slice b k d, .string sc]) (by simp [results, Tryd.results10, go_sem, r0, r1, r2, r3]) rfl ?_
      exact D.out.done Hn1.out.symm (grown_set4 _ _ _ _ _ _)
set_option maxRecDepth 100000 in
set_option maxHeartbeats 3200000 in
theorem of36_any (ep : Int) (se sc : ByteArray) (a : Option Addr) (n c : Nat) (ls : List ByteArray) (w : World) (hs : SSl w a n ls) (hn : n ≤ 1000000) :
    Calls Tryd.prog 17 #[.agg #[.int .i64 ep, .string se, .slice a n c, .string sc]] w (CpPost w ⟨ep, se, ls, sc⟩) := by
  have D0 := Lib.hid (CpAt.start w 33 24 #[.int .i64 ep, .string se, .slice a n c, .string sc] ep se sc)
  have hl1 := hs.1
  have Hn1 := Lib.hid hl1
  have HS : Hid (∀ W, Below w.heap.size w W → SSl W a n ls) := fun W hW => hs.later hW
  clear hs hl1
  go_enter Tryd.func17, Tryd.ntmps17
  go_wp2_with fail
  generalize ((w.alloc (.cells #[.int .i64 ep, .string se, .slice a n c, .string sc] 33)).alloc (.cells #[.int .i64 0, .string ⟨#[]⟩, .slice none 0 0, .string ⟨#[]⟩] 24)).alloc (.cells #[.int .i64 ep, .string se, .slice none 0 0, .string sc] 24) = W0 at *
  go_loopg [4] n (fun gk iv wr => ∃ (k : Nat) (b : Option Addr) (d : Nat), k + gk = n ∧ iv = .int .i64 k ∧ Hid (CpAt w wr 33 24 #[.int .i64 ep, .string se, .slice a n c, .string sc] ep se (ls.take k) sc (.slice b k d)))
  case atStart => exact ⟨0, none, 0, by omega, rfl, D0.out⟩
  case round =>
    clear D0
    obtain ⟨k, b, d, hg, rfl, D⟩ := hrel
    have Hg := Lib.hid hg
    have hk : k ≤ n := by omega
    clear hg
    have c2 : wr.cell? ⟨w.heap.size, 2, none⟩ = some (.slice a n c) := cell_of_heap D.out.src 2
    by_cases hlt : k < n
    · obtain ⟨g1, o1, x, rfl, ex, c1⟩ := (HS.out _ D.out.low).at_ hlt
      have HTn : Hid (ls.take (k + 1) = ls.take k ++ [x]) := by show _ = _; rw [List.take_add_one, ex]; rfl
      clear ex
      have c3 : wr.cell? ⟨w.heap.size + 1 + 1, 2, none⟩ = some (.slice b k d) := cell_of_heap D.out.box 2
      have hlt5 := lt_of_heap D.out.box
      have hg1 := World.block_lt_of_cell? wr _ c1
      have Hl : Hid ((ls.take k).length ≤ 1000000) := by show _ ≤ _; rw [List.length_take]; have := Hn1.out; omega
      have Drow : Hid (∀ o, SRow (wr.drew.alloc o) (.slice b k d) (ls.take k)) := fun o => World.ownsRow.alloc D.out.row o
      go_upto_region 5 with fail
      have hne1 := World.new_ne wr ⟨g1, o1 + k, none⟩ c1
      have hne2 := World.new_ne wr ⟨w.heap.size, 2, none⟩ c2
      have hne3 := World.new_ne wr ⟨w.heap.size + 1 + 1, 2, none⟩ c3
      go_region_law (first
        | (refine step_append_string (by rfl) _ _ (by rfl) (.slice b k d) (ls.take k) (by rfl) (Drow.out _) _ wr.heap.size (by rfl) (heap_alloc_new wr.drew _) Hl.out ?_; intro g m cap w6 hrow6 hg6 hat6; have D6 := Lib.hid (D.out.append (Below.refl _ _).drew hrow6 hg6 hat6); have HM := Lib.hid (row_count hrow6); have hh6 := (hg6.block (w.heap.size + 1 + 1) (by simp; omega) (fun e => absurd (D.out.own _ e.symm) (Nat.lt_irrefl _))).trans ((Below.heap_alloc wr.drew _ (w.heap.size + 1 + 1) hlt5).trans D.out.box); have c6 : w6.cell? ⟨w.heap.size + 1 + 1, 2, none⟩ = some (.slice b k d) := cell_of_heap hh6 2; have f6 : w6.frozen? ⟨w.heap.size + 1 + 1, 2, none⟩ = false := frozen_of_heap hh6 2; clear hrow6 hg6 hat6 hh6)
        | fail)
      all_goals
        go_wp2
        go_roundg (n - (k + 1))
        case measure => have := Hg.out; omega
        case rel =>
          have hm : m = k + 1 := by have := HM.out; rw [List.length_append, List.length_take, List.length_singleton] at this; have := Hn1.out; omega
          subst hm
          exact ⟨k + 1, _, _, by have := Hg.out; omega, by go_num, by rw [HTn.out]; exact D6⟩
    · obtain rfl : k = n := by omega
      have Hfull : Hid (ls.take k = ls) := List.take_of_length_le (by have := Hn1.out; omega)
      have e0 : wr.cell? ⟨w.heap.size + 1 + 1, 0, none⟩ = some (.int .i64 ep) := cell_of_heap D.out.box 0
      have e1 : wr.cell? ⟨w.heap.size + 1 + 1, 1, none⟩ = some (.string se) := cell_of_heap D.out.box 1
      have e2 : wr.cell? ⟨w.heap.size + 1 + 1, 2, none⟩ = some (.slice b k d) := cell_of_heap D.out.box 2
      have e3 : wr.cell? ⟨w.heap.size + 1 + 1, 3, none⟩ = some (.string sc) := cell_of_heap D.out.box 3
      have r0 : wr.cell? ⟨w.heap.size + 1, 0, none⟩ = some (.int .i64 0) := cell_of_heap D.out.res 0
      have r1 : wr.cell? ⟨w.heap.size + 1, 1, none⟩ = some (.string ⟨#[]⟩) := cell_of_heap D.out.res 1
      have r2 : wr.cell? ⟨w.heap.size + 1, 2, none⟩ = some (.slice none 0 0) := cell_of_heap D.out.res 2
      have r3 : wr.cell? ⟨w.heap.size + 1, 3, none⟩ = some (.string ⟨#[]⟩) := cell_of_heap D.out.res 3
      have hf : ∀ i, wr.frozen? ⟨w.heap.size + 1, i, none⟩ = false := fun i => frozen_of_heap D.out.res i
      have g0 := hf 0
      have g1 := hf 1
      have g2 := hf 2
      have g3 := hf 3
      clear hf
      rw [Hfull.out] at D
      go_wp2
      refine bodyPost_ret (v := .agg #[.int .i64 ep, .string se, .slice b k d, .string sc]) (by simp [results, Tryd.results17, go_sem, r0, r1, r2, r3]) rfl ?_
      exact D.out.done Hn1.out.symm (grown_set4 _ _ _ _ _ _)
end Go.Proofs.YtfobmfenjdiimaaDoor
