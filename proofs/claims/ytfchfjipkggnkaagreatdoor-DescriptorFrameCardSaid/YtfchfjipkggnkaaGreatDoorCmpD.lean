/- cmp.Compare at its three types, cmp.Or, slices.Compare. lineage: Ordinals of a valid name. lineage.Compare, object.Compare: the order of names. object.Compare: the order of the names of objects. -/
import Derived.Test.YtfchfjipkggnkaaGreatDoorOrdN
import Derived.Test.YtfchfjipkggnkaaGreatDoorMaps
import Derived.Test.YtfchfjipkggnkaaGreatDoorLinV
import Derived.Deep.RegionHeld3
import Derived.Deep.DrawnRows
import Derived.BigQuiet
import Derived.WalkLawsBesides
namespace Go.Proofs.YtfchfjipkggnkaaGreatDoor
open Go.RowKit

theorem nanI_any (x : Int) (w : World) : Calls Tryz.prog 120 #[.int .i64 x] w fun e w' => e = .returned (.bool false) ∧ w = w' := by
  go_enter Tryz.func120, Tryz.ntmps120
  go_wp2
  go_ret
  exact ⟨by simp, rfl⟩
theorem nanS_any (x : ByteArray) (w : World) : Calls Tryz.prog 124 #[.string x] w fun e w' => e = .returned (.bool false) ∧ w = w' := by
  go_enter Tryz.func124, Tryz.ntmps124
  go_wp2
  go_ret
  exact ⟨by simp, rfl⟩
theorem nanN_any (x : ByteArray) (w : World) : Calls Tryz.prog 133 #[.string x] w fun e w' => e = .returned (.bool false) ∧ w = w' := by
  go_enter Tryz.func133, Tryz.ntmps133
  go_wp2
  go_ret
  exact ⟨by simp, rfl⟩

theorem retI {a b : Int} (h : a = b) : Ending.returned (.int .i64 a) = .returned (.int .i64 b) := by rw [h]

theorem cmpInt_any (x y : Int) (w : World) : Calls Tryz.prog 98 #[.int .i64 x, .int .i64 y] w fun e w' => e = .returned (.int .i64 (cmpI x y)) ∧ w = w' := by
  by_cases h1 : x < y
  · have hr : cmpI x y = -1 := by simp [cmpI, h1]
    rw [hr]
    clear hr
    go_enter Tryz.func98, Tryz.ntmps98
    go_wp2_with (first | (go_at_call 120; refine (nanI_any _ _).mono ?_; rintro e w' ⟨rfl, rfl⟩))
    go_ret
    exact ⟨rfl, rfl⟩
  · by_cases h2 : y < x
    · have hr : cmpI x y = 1 := by simp [cmpI, h1, h2]
      rw [hr]
      clear hr
      go_enter Tryz.func98, Tryz.ntmps98
      go_wp2_with (first | (go_at_call 120; refine (nanI_any _ _).mono ?_; rintro e w' ⟨rfl, rfl⟩))
      go_ret
      exact ⟨rfl, rfl⟩
    · have hr : cmpI x y = 0 := by simp [cmpI, h1, h2]
      rw [hr]
      clear hr
      go_enter Tryz.func98, Tryz.ntmps98
      go_wp2_with (first | (go_at_call 120; refine (nanI_any _ _).mono ?_; rintro e w' ⟨rfl, rfl⟩))
      go_ret
      exact ⟨rfl, rfl⟩
theorem cmpInt_is (x y v : Int) (h : cmpI x y = v) (w : World) : Calls Tryz.prog 98 #[.int .i64 x, .int .i64 y] w fun e w' => e = .returned (.int .i64 v) ∧ w = w' := by
  subst h; exact cmpInt_any x y w
theorem cmpIL_vals (l m : List Int) : cmpIL l m = -1 ∨ cmpIL l m = 0 ∨ cmpIL l m = 1 := by
  induction l generalizing m with
  | nil => cases m <;> simp [cmpIL]
  | cons a l ih => cases m with
    | nil => simp [cmpIL]
    | cons b m => simp only [cmpIL]; split; simp; split; simp; exact ih m
theorem cmpS_vals (x y : ByteArray) : cmpS x y = -1 ∨ cmpS x y = 0 ∨ cmpS x y = 1 := cmpIL_vals _ _
theorem less_list (l m : List UInt8) : Op.bytesLess l m = decide (cmpIL (l.map fun b => (b.toNat : Int)) (m.map fun b => (b.toNat : Int)) < 0) := by
  induction l generalizing m with
  | nil => cases m <;> rfl
  | cons a l ih => cases m with
    | nil => rfl
    | cons b m =>
      simp only [Op.bytesLess, List.map_cons, cmpIL, ih]
      rw [Bool.eq_iff_iff]
      simp only [Bool.or_eq_true, Bool.and_eq_true, decide_eq_true_eq, beq_iff_eq, UInt8.lt_iff_toNat_lt, ← UInt8.toNat_inj]
      repeat' split
      all_goals omega
theorem bytesLess_cmp (x y : ByteArray) : Op.bytesLess x.toList y.toList = decide (cmpS x y < 0) := by
  rw [less_list, ByteArray.toList_eq, ByteArray.toList_eq]; rfl
theorem str_eq_cmp (x y : ByteArray) : (x.toList == y.toList) = decide (cmpS x y = 0) := by
  rw [str_beq]
  simp only [cmpS_ok.zero]
theorem cmpStr_any (x y : ByteArray) (w : World) : Calls Tryz.prog 101 #[.string x, .string y] w fun e w' => e = .returned (.int .i64 (cmpS x y)) ∧ w = w' := by
  have l1 := bytesLess_cmp x y
  have l2 := str_eq_cmp x y
  rcases cmpS_vals x y with h | h | h
  all_goals
    rw [h] at l1 l2 ⊢
    have L1 := l1
    have L2 := l2
    clear l1 l2 h
    simp only [Int.reduceLT, Int.reduceNeg, Int.reduceEq, decide_true, decide_false] at L1 L2
    go_enter Tryz.func101, Tryz.ntmps101
    go_wp2_with (first | (go_at_call 124; refine (nanS_any _ _).mono ?_; rintro e w' ⟨rfl, rfl⟩))
    go_ret
    exact ⟨rfl, rfl⟩
theorem cmpNam_any (x y : ByteArray) (w : World) : Calls Tryz.prog 123 #[.string x, .string y] w fun e w' => e = .returned (.int .i64 (cmpS x y)) ∧ w = w' := by
  have l1 := bytesLess_cmp x y
  have l2 := str_eq_cmp x y
  rcases cmpS_vals x y with h | h | h
  all_goals
    rw [h] at l1 l2 ⊢
    have L1 := l1
    have L2 := l2
    clear l1 l2 h
    simp only [Int.reduceLT, Int.reduceNeg, Int.reduceEq, decide_true, decide_false] at L1 L2
    go_enter Tryz.func123, Tryz.ntmps123
    go_wp2_with (first | (go_at_call 133; refine (nanN_any _ _).mono ?_; rintro e w' ⟨rfl, rfl⟩))
    go_ret
    exact ⟨rfl, rfl⟩
/-- The first that is not zero. -/
def or3 (a b c : Int) : Int := if a ≠ 0 then a else if b ≠ 0 then b else c
set_option maxRecDepth 100000 in
set_option maxHeartbeats 800000 in
theorem cmpOr_any (a b c : Int) (g : Nat) (w : World) (h0 : w.cell? ⟨g, 0, none⟩ = some (.int .i64 a)) (h1 : w.cell? ⟨g, 1, none⟩ = some (.int .i64 b)) (h2 : w.cell? ⟨g, 2, none⟩ = some (.int .i64 c)) :
    Calls Tryz.prog 100 #[.slice (some ⟨g, 0, none⟩) 3 3] w fun e w' => e = .returned (.int .i64 (or3 a b c)) ∧ w = w' := by
  by_cases ha : a = 0
  · by_cases hb : b = 0
    · by_cases hc : c = 0
      · have hr : or3 a b c = 0 := by simp [or3, ha, hb, hc]
        rw [hr]; clear hr
        subst ha hb hc
        go_enter Tryz.func100, Tryz.ntmps100
        go_wp2
        refine wp_loop_rounds 4 ?_
        rw [rounds_succ]; go_wp2; rw [rounds_succ]; go_wp2; rw [rounds_succ]; go_wp2; rw [rounds_succ]; go_wp2
        go_ret
        exact ⟨rfl, rfl⟩
      · have hr : or3 a b c = c := by simp [or3, ha, hb]
        rw [hr]; clear hr
        subst ha hb
        have hc' : (c == 0) = false := by simpa using hc
        have hc2 : (c != 0) = true := by simpa using hc
        clear hc
        go_enter Tryz.func100, Tryz.ntmps100
        go_wp2
        refine wp_loop_rounds 4 ?_
        rw [rounds_succ]; go_wp2; rw [rounds_succ]; go_wp2; rw [rounds_succ]; go_wp2
        go_ret
        exact ⟨rfl, rfl⟩
    · have hr : or3 a b c = b := by simp [or3, ha, hb]
      rw [hr]; clear hr
      subst ha
      have hb' : (b == 0) = false := by simpa using hb
      have hb2 : (b != 0) = true := by simpa using hb
      clear hb
      go_enter Tryz.func100, Tryz.ntmps100
      go_wp2
      refine wp_loop_rounds 4 ?_
      rw [rounds_succ]; go_wp2; rw [rounds_succ]; go_wp2
      go_ret
      exact ⟨rfl, rfl⟩
  · have hr : or3 a b c = a := by simp [or3, ha]
    rw [hr]; clear hr
    have ha' : (a == 0) = false := by simpa using ha
    have ha2 : (a != 0) = true := by simpa using ha
    clear ha
    go_enter Tryz.func100, Tryz.ntmps100
    go_wp2
    refine wp_loop_rounds 4 ?_
    rw [rounds_succ]; go_wp2
    go_ret
    exact ⟨rfl, rfl⟩

/-- A slice that reads as a list of integers. -/
def RowI (w : World) (v : Value) (xs : List Int) : Prop := ∃ a cap, v = .slice a xs.length cap ∧ ∀ k, k < xs.length → ∃ g, a = some ⟨g, 0, none⟩ ∧ w.cell? ⟨g, k, none⟩ = some (.int .i64 (xs.getD k 0))

theorem cmpIL_step (xs ys : List Int) (k : Nat) (h1 : k < xs.length) (h2 : k < ys.length) :
    cmpIL (xs.drop k) (ys.drop k) = if cmpI (xs.getD k 0) (ys.getD k 0) ≠ 0 then cmpI (xs.getD k 0) (ys.getD k 0) else cmpIL (xs.drop (k + 1)) (ys.drop (k + 1)) := by
  rw [List.drop_eq_getElem_cons h1, List.drop_eq_getElem_cons h2, List.getD_eq_getElem?_getD, List.getD_eq_getElem?_getD, List.getElem?_eq_getElem h1, List.getElem?_eq_getElem h2]
  simp only [cmpIL, cmpI, Option.getD_some]
  repeat' split
  all_goals first | rfl | (exfalso; omega) | (simp_all)
theorem cmpIL_end1 (xs ys : List Int) (k : Nat) (h1 : xs.length ≤ k) : cmpIL (xs.drop k) (ys.drop k) = if k < ys.length then -1 else 0 := by
  rw [List.drop_eq_nil_of_le h1]
  by_cases h : k < ys.length
  · rw [if_pos h, List.drop_eq_getElem_cons h]; rfl
  · rw [if_neg h, List.drop_eq_nil_of_le (by omega)]; rfl
theorem cmpIL_end2 (xs ys : List Int) (k : Nat) (h1 : k < xs.length) (h2 : ys.length ≤ k) : cmpIL (xs.drop k) (ys.drop k) = 1 := by
  rw [List.drop_eq_getElem_cons h1, List.drop_eq_nil_of_le h2]; rfl

set_option maxRecDepth 100000 in
set_option maxHeartbeats 800000 in
theorem slCompare_any (v1 v2 : Value) (xs ys : List Int) (w : World) (h1 : RowI w v1 xs) (h2 : RowI w v2 ys) (hx : xs.length ≤ 1000000) :
    Calls Tryz.prog 121 #[v1, v2] w fun e w' => e = .returned (.int .i64 (cmpIL xs ys)) ∧ w = w' := by
  obtain ⟨a1, c1, rfl, h1⟩ := h1
  obtain ⟨a2, c2, rfl, h2⟩ := h2
  have H1 := Lib.hid h1
  have H2 := Lib.hid h2
  clear h1 h2
  have hfin : Hid (∀ k, cmpIL (xs.drop k) (ys.drop k) = cmpIL (xs.drop k) (ys.drop k)) := fun _ => rfl
  clear hfin
  go_enter Tryz.func121, Tryz.ntmps121
  go_wp2
  go_loop [11] (fun i => ∃ k : Nat, i = .int .i64 k ∧ k ≤ xs.length ∧ Hid (cmpIL xs ys = cmpIL (xs.drop k) (ys.drop k)) ∧ k ≤ ys.length) (fun i => xs.length - (intOf i).toNat)
  case atStart => exact ⟨0, rfl, Nat.zero_le _, rfl, Nat.zero_le _⟩
  case round =>
    obtain ⟨k, rfl, hk, Hc, hk2⟩ := hrel
    by_cases hlt : k < xs.length
    · obtain ⟨g1, rfl, q1⟩ := H1.out k hlt
      by_cases hlt2 : k < ys.length
      · obtain ⟨g2, rfl, q2⟩ := H2.out k hlt2
        have hst := cmpIL_step xs ys k hlt hlt2
        by_cases hz : cmpI (xs.getD k 0) (ys.getD k 0) = 0
        · rw [if_neg (by simpa using hz)] at hst
          have Hst := Lib.hid hst; clear hst
          have hcon := cmpInt_is (xs.getD k 0) (ys.getD k 0) 0 hz
          generalize xs.getD k 0 = x at *
          generalize ys.getD k 0 = y at *
          clear hz
          go_wp2_with (go_at_call 98; refine (hcon _).mono ?_; rintro e w' ⟨rfl, rfl⟩)
          go_round
          case rel => exact ⟨k + 1, by go_num, by omega, Hc.out.trans Hst.out, by omega⟩
          case measure => simp [intOf]; omega
        · rw [if_pos hz] at hst
          have hcon := cmpInt_any (xs.getD k 0) (ys.getD k 0)
          have Hst := Lib.hid hst; clear hst
          generalize hr : cmpI (xs.getD k 0) (ys.getD k 0) = r at *
          have hz1 : (r == 0) = false := by simpa using hz
          have hz2 : (r != 0) = true := by simpa using hz
          clear hz hr
          generalize xs.getD k 0 = x at *
          generalize ys.getD k 0 = y at *
          go_wp2_with (go_at_call 98; refine (hcon _).mono ?_; rintro e w' ⟨rfl, rfl⟩)
          go_ret
          exact ⟨retI (Hst.out.symm.trans Hc.out.symm), rfl⟩
      · have hst := cmpIL_end2 xs ys k hlt (by omega)
        have Hst := Lib.hid hst; clear hst
        go_wp2_with fail
        go_ret
        exact ⟨retI (Hst.out.symm.trans Hc.out.symm), rfl⟩
    · have hst := cmpIL_end1 xs ys k (by omega)
      by_cases hl2 : k < ys.length
      · rw [if_pos hl2] at hst
        have Hst := Lib.hid hst; clear hst
        have hl3 : xs.length < ys.length := by omega
        go_wp2_with fail
        go_ret
        exact ⟨retI (Hst.out.symm.trans Hc.out.symm), rfl⟩
      · rw [if_neg hl2] at hst
        have Hst := Lib.hid hst; clear hst
        have hl3 : ¬ xs.length < ys.length := by omega
        go_wp2_with fail
        go_ret
        exact ⟨retI (Hst.out.symm.trans Hc.out.symm), rfl⟩
end Go.Proofs.YtfchfjipkggnkaaGreatDoor

namespace Go.Proofs.YtfchfjipkggnkaaGreatDoor
open Go.RowKit Go.Shelf
attribute [local go_sem] Oper.semAt_some

theorem Tryz.infoInt : (Tryz.prog.info? 3).map (fun i => (i.zero, i.size, i.bytes)) = some (some (.int .i64 0), 1, 8) := by kernel_rfl

theorem row_block {w : World} {b : Nat} {e : TypeId} {size : Nat} {v : Value} {n : Nat} {xs : List Value} (h : w.ownsRow b e size v n xs) {g : Nat} (hg : v.ownBlock = some g) : ∃ cur, w.heap[g]? = some (.cells cur e (0, 0)) := by
  rcases h.2 with ⟨hv, _⟩ | ⟨g', cap, cur, hv, hb, hh, r⟩
  · rw [hv] at hg; cases hg
  · rw [hv] at hg; simp [Value.ownBlock] at hg; subst hg; exact ⟨cur, hh⟩
theorem kpT_append {W w1 : World} {n₀ B k : Nat} {v v' : Value} {xs : List Value} {tmp : Obj} (hv : Boxed W B 188 v) (hrow : W.ownsRow n₀ 3 1 v k xs) (hgrow : (W.alloc tmp).grownBy w1 v.ownBlock) :
    KpT W (w1.setCell ⟨B, 0, none⟩ v') := by
  refine ⟨Nat.le_trans (Nat.le_trans (by simp) hgrow.size) (Nat.le_of_eq (size_setCell _ _ _).symm), fun i c t fr hi ht => ?_⟩
  have hil := lt_of_heap hi
  refine (Below.heap_setCell _ _ _ i (fun e => ?_)).trans ((hgrow.block i (by simp; omega) (fun e => ?_)).trans ((Below.heap_alloc _ _ _ hil).trans hi))
  · dsimp only at e
    subst e
    have := hi.symm.trans hv
    cases this
    rcases ht with h | h <;> revert h <;> decide
  · obtain ⟨cur, hc⟩ := row_block hrow e.symm
    have := hi.symm.trans hc
    cases this
    rcases ht with h | h <;> revert h <;> decide

/-- What Ordinals hands back. -/
def OrdsPost (w : World) (xs : List Int) (r : Ending) (w' : World) : Prop := ∃ v, r = .returned v ∧ RowI w' v xs ∧ Below w.heap.size w w'

theorem rowI_of_owns {W : World} {n₀ k : Nat} {v : Value} {xs : List Int} (h : W.ownsRow n₀ 3 1 v k (xs.map (Value.int .i64))) (hk : k = xs.length) : RowI W v xs := by
  subst hk
  rcases h.2 with ⟨rfl, h0⟩ | ⟨g, cap, cur, rfl, hb, hg, r⟩
  · exact ⟨none, 0, by rw [h0], fun k hk => by omega⟩
  · refine ⟨some ⟨g, 0, none⟩, cap, rfl, fun k hk => ⟨g, rfl, ?_⟩⟩
    have := h.cellAt k (by omega)
    rw [this]
    simp [List.getElem?_eq_getElem hk]

set_option maxRecDepth 100000 in
set_option maxHeartbeats 4000000 in
theorem ordinals_in (s : ByteArray) (hs : s.size ≤ 70368744177664) (hval : ∀ p ∈ partsOf s.data.toList, p.err = 0) (w : World) :
    CallsIn Fence.wide 3 Tryz.prog 122 #[.string s] w (OrdsPost w (ordsB s)) := by
  refine callsIn_of_wp_marks Tryz.func122 rfl trivial ?_ rfl
  simp only [Tryz.ntmps122, List.size_toArray, List.length_cons, List.length_nil, Nat.reduceAdd, Nat.reduceSub, Array.replicate_succ, Array.replicate_zero, List.push_toArray, List.append_toArray, List.nil_append, List.cons_append]
  obtain ⟨i0, hi, hz0, hz1, hz2⟩ := info_parts Tryz.infoInt
  gi_wp2_with (refine ⟨trivial, ?_⟩; gi_at_call 80; refine (callsIn_wide.2 (parts_any s _)).mono ?_; rintro e w' ⟨rfl, rfl⟩)
  have bR := ((Boxed.new w 188 (.slice none 0 0)).alloc (.cells #[.slice none 0 0] 188)).alloc (.cells #[.string s] 9)
  have bL := (Boxed.new (w.alloc (.cells #[.slice none 0 0] 188)) 188 (.slice none 0 0)).alloc (.cells #[.string s] 9)
  have bS := heap_alloc_new ((w.alloc (.cells #[.slice none 0 0] 188)).alloc (.cells #[.slice none 0 0] 188)) (.cells #[.string s] 9)
  have hB0 : Below w.heap.size w (((w.alloc (.cells #[.slice none 0 0] 188)).alloc (.cells #[.slice none 0 0] 188)).alloc (.cells #[.string s] 9)) :=
    (((Below.refl _ w).alloc (Nat.le_refl _) _).alloc (by simp) _).alloc (by simp; omega) _
  have hsz : (((w.alloc (.cells #[.slice none 0 0] 188)).alloc (.cells #[.slice none 0 0] 188)).alloc (.cells #[.string s] 9)).heap.size = w.heap.size + 3 := by simp
  simp only [World.size_alloc] at bR bL bS
  obtain ⟨W0, hW0⟩ : ∃ W0, ((w.alloc (.cells #[.slice none 0 0] 188)).alloc (.cells #[.slice none 0 0] 188)).alloc (.cells #[.string s] 9) = W0 := ⟨_, rfl⟩
  rw [hW0] at bR bL bS hB0 hsz ⊢
  clear hW0
  have hmix : Tryz.prog.follows .mixedOrders = true := by kernel_rfl
  refine wpIn_rangeFunc_ownH rfl (by decide) (gf := 115) (lb := #[.pointer (some ⟨w.heap.size + 1 + 1, 0, none⟩)]) rfl trivial (enters_of Tryz.func115 (by kernel_rfl) rfl)
    (parts_stops (3 - 1) (by decide) (w.heap.size + 1 + 1) s hs W0 bS) KpT.trans KpT.putObj (Below.refl _ _) (fun _ => rfl)
    (fun pre W => (∃ v, Boxed W (w.heap.size + 1) 188 v ∧ W.ownsRow w.heap.size 3 1 v pre.length (pre.map fun p => Value.int .i64 p.ord) ∧ True) ∧ Boxed W w.heap.size 188 (.slice none 0 0) ∧ Below w.heap.size w W)
    (fun c pre W => ∃ pre' x, c = .ret ∧ pre = pre' ++ [x] ∧ x.err ≠ 0 ∧ Below w.heap.size w W)
    ?hI ?hIx ⟨⟨_, bL, World.ownsRow_nil _ _ _ _, trivial⟩, bR, hB0⟩
    (fun x a' W => ∃ Bx, w.heap.size + 2 ≤ Bx ∧ W.heap[Bx]? = some (.cells #[.int .i64 x.ord, .int .i64 x.pos, .int .i64 x.err] 136 (0, 0)) ∧
      a' = { tmps := #[.string s, undef, .pointer (some ⟨w.heap.size, 0, none⟩), .pointer (some ⟨w.heap.size + 1, 0, none⟩), .pointer (some ⟨Bx, 0, none⟩), .string s, .func (.func 115) #[] #[.pointer (some ⟨w.heap.size + 1 + 1, 0, none⟩)], .agg #[.int .i64 x.ord, .int .i64 x.pos, .int .i64 x.err], undef, undef, undef, undef, undef, undef, undef, undef, undef], defers := [] })
    ?hAx ?assign ?body ?done ?stop
  case hI =>
    exact OwnFrom.and (Own.from (holdsRow_own w.heap.size (w.heap.size + 1) 188 3 1 (fun pre : List PartT => pre.length) (fun pre => pre.map fun p => Value.int .i64 p.ord) (fun _ _ => True)) _)
      (OwnFrom.and (Own.from (boxed_own w.heap.size 188 (fun _ : List PartT => .slice none 0 0)) _) (ownFrom_below (Nat.le_refl _) (by omega)))
  case hIx =>
    rintro c st X Y row ⟨pre', x, hc, hp, hx, hb⟩ hg hr
    exact ⟨pre', x, hc, hp, hx, ownFrom_below (β := Unit) (Nat.le_refl _) (show w.heap.size ≤ W0.heap.size by omega) () X Y row hb hg hr⟩
  case hAx =>
    rintro x a' st X Y row ⟨Bx, hBx, hh, ha⟩ hg hr
    refine ⟨Bx, hBx, (hg.block Bx (lt_of_heap hh) (fun e => ?_)).trans hh, ha⟩
    obtain ⟨_, o, ho, hc⟩ := hr Bx e.symm
    rw [hh] at ho; cases ho; cases hc
  case assign =>
    rintro l pre x W K ⟨⟨v, hv, hrow, _⟩, hR, hb⟩ hK
    have hs1 : w.heap.size + 1 < W.heap.size := hv.lt
    gi_wp2
    exact hK _ _ ((KeepsOthers.alloc _ _).from _) (KpT.of_below ((Below.refl _ W).alloc (Nat.le_refl _) _)) ⟨⟨v, hv.alloc _, hrow.alloc _, trivial⟩, hR.alloc _, hb.alloc hb.size _⟩ ⟨W.heap.size, by omega, heap_alloc_new W _, rfl⟩
  case body =>
    rintro l pre x a' W hl ⟨r, hr0⟩ ⟨⟨v, hv, hrow, _⟩, hR, hb⟩ ⟨Bx, hBx, hh, rfl⟩ hlt
    obtain ⟨x1, x2, x3⟩ := x
    dsimp only at *
    have c0 : W.cell? ⟨Bx, 0, none⟩ = some (.int .i64 x1) := cell_of_heap hh 0
    have c2 : W.cell? ⟨Bx, 2, none⟩ = some (.int .i64 x3) := cell_of_heap hh 2
    have hc := hv.cell
    have Hh := Lib.hid hh; clear hh
    have dr := hR.cell
    have fr := hR.frozen
    have hv0 := hv.lt
    by_cases hx3 : x3 = 0
    · have he' : ((x3 : Int) != 0) = false := by rw [hx3]; rfl
      clear hx3 dr fr
      gi_wp2_with (gi_at_builtin; refine wpListIn_append_own _ rfl _ _ 188 rfl w.heap.size 3 i0 (.int .i64 0) 1 8 Tryz.underlying188 hi hz0 hz1 hz2 rfl (by decide) _ _ _ rfl (hrow.alloc _) ⟨W.heap.size, 0, none⟩ 1 1 [.int .i64 x1] rfl rfl (cell_one_new _ _ _) (by simp [Value.oneCell']) (by unfold maxLen; omega) (by omega) (by have := hb.size; simp; omega) ?_; intro v' w1 hown' hgrow _; obtain ⟨g', cap', rfl⟩ := ownsRow_succ hown'; obtain ⟨hv1, hv2, hr2, hk2, hb2⟩ := hv.appended (by decide) hrow hb.size (by omega) hown' hgrow; have hkp := kpT_append (v' := .slice (some ⟨g', 0, none⟩) (pre.length + 1) cap') hv hrow hgrow; have d1 := hv1.cell; have f1 := hv1.frozen)
      have hR2 : Boxed (w1.setCell ⟨w.heap.size + 1, 0, none⟩ (.slice (some ⟨g', 0, none⟩) (pre.length + 1) cap')) w.heap.size 188 (.slice none 0 0) := ((hR.alloc _).kept hgrow (hR.not_row (by decide) hrow)).other (by omega) _
      exact ⟨hk2.from _, hkp, ⟨_, hv2, by simpa using hr2, trivial⟩, hR2, hb.trans hb2⟩
    · have he' : ((x3 : Int) != 0) = true := bne_iff_ne.2 (by omega)
      have He := Lib.hid hx3; clear hx3
      gi_wp2
      exact ⟨(KeepsOthers.setCell _ _ _).from _, pre, ⟨x1, x2, x3⟩, rfl, rfl, He.out, hb.setCell (p := ⟨w.heap.size, 0, none⟩) (Nat.le_refl _) _⟩
  case done =>
    rintro D xs W hD hxs ⟨⟨v, hv, hrow, _⟩, hR, hb⟩ hK
    have Hxs := Lib.hid hxs; clear hxs
    have hc := hv.cell
    have hd := hR.cell
    have fd := hR.frozen
    obtain ⟨a, cap, hvf⟩ : ∃ a cap, v = .slice a xs.length cap := by
      rcases hrow.2 with ⟨e1, e2⟩ | ⟨g, cap, cur, e1, _⟩
      · exact ⟨none, 0, by rw [e1, e2]⟩
      · exact ⟨_, cap, e1⟩
    subst hvf
    have HK := Lib.hid hK; clear hK
    gi_wp2
    have hK' := (KeepsOthers.setCell W ⟨w.heap.size, 0, none⟩ (.slice a xs.length cap)).same D _ HK.out rfl
    have hr2 : (W.setCell ⟨w.heap.size, 0, none⟩ (.slice a xs.length cap)).ownsRow w.heap.size 3 1 (.slice a xs.length cap) xs.length (xs.map fun p => Value.int .i64 p.ord) := hrow.kept (grownBy_setCell' W w.heap.size _) (.inr (hR.not_row (by decide) hrow).symm)
    have q0 := cell_kept (hR.set (.slice a xs.length cap)).cell (grownBy_putObj' _ D (.deferred none)) (fun r e => by cases e; exact ⟨_, hK', rfl⟩)
    have hr3 := ownsRow_putObj hr2 (.deferred none) hK' rfl
    have hB' := (hb.setCell (p := ⟨w.heap.size, 0, none⟩) (Nat.le_refl _) (.slice a xs.length cap)).trans (belowK_b (w := w) (Nat.le_refl _) _ D _ (.deferred none) (by omega) hK' rfl rfl)
    refine ⟨by simp, .inl ⟨_, _, rfl, run_takeDeferred hK', ?_⟩⟩
    refine ⟨.slice a xs.length cap, ?_, _, rfl, ?_, hB'⟩
    · simp [results, Tryz.f122, go_sem, q0]
    · refine rowI_of_owns (n₀ := w.heap.size) (k := xs.length) ?_ (by rw [Hxs.out]; simp [ordsB])
      have : (ordsB s).map (Value.int .i64) = xs.map fun p => Value.int .i64 p.ord := by rw [Hxs.out]; simp [ordsB]
      rw [this]
      exact hr3
  case stop =>
    rintro D c pre W hD hpre h hK
    obtain ⟨pre', x, _, rfl, hx, _⟩ := h
    exact absurd (hval x (by obtain ⟨t, ht⟩ := hpre; rw [← ht]; simp)) hx
theorem ordinals_any (s : ByteArray) (hs : s.size ≤ 70368744177664) (hval : validB s = true) (w : World) :
    Calls Tryz.prog 122 #[.string s] w (OrdsPost w (ordsB s)) := callsIn_wide.1 (ordinals_in s hs (valid_parts hval) w)
end Go.Proofs.YtfchfjipkggnkaaGreatDoor

namespace Go.Proofs.YtfchfjipkggnkaaGreatDoor
open Go.RowKit

theorem RowI.below {w w' : World} {v : Value} {xs : List Int} (h : RowI w v xs) (hb : Below w.heap.size w w') : RowI w' v xs := by
  obtain ⟨a, cap, rfl, hc⟩ := h
  refine ⟨a, cap, rfl, fun k hk => ?_⟩
  obtain ⟨g, rfl, hg⟩ := hc k hk
  exact ⟨g, rfl, (hb.cell (p := ⟨g, k, none⟩) (World.block_lt_of_cell? w _ hg)).trans hg⟩
theorem ords_length (s : ByteArray) : (ordsB s).length ≤ 1000000 := by
  have := parts_length s.data.toList
  simp [ordsB]
  omega

set_option maxHeartbeats 800000 in
theorem lCompare_any (a b : ByteArray) (ha : a.size ≤ 70368744177664) (hb : b.size ≤ 70368744177664) (w : World) :
    Calls Tryz.prog 99 #[.string a, .string b] w fun e w' => e = .returned (.int .i64 (lcmp a b)) ∧ Below w.heap.size w w' := by
  have hse := str_beq a b
  by_cases h0 : a = b
  · have hr : lcmp a b = 0 := by simp [lcmp, h0]
    rw [hr]; clear hr
    have hse' : (a.toList == b.toList) = true := by rw [hse]; simpa using h0
    clear hse h0
    go_enter Tryz.func99, Tryz.ntmps99
    go_wp2_with fail
    go_ret
    exact ⟨rfl, Below.refl _ _⟩
  · have hse' : (a.toList == b.toList) = false := by rw [hse]; simpa using h0
    clear hse
    by_cases va : validB a = true
    · by_cases vb : validB b = true
      · have hr : lcmp a b = cmpIL (ordsB a) (ordsB b) := by simp [lcmp, h0, va, vb]
        rw [hr]; clear hr
        have Va := Lib.hid va; have Vb := Lib.hid vb; clear va vb h0
        go_enter Tryz.func99, Tryz.ntmps99
        go_wp2_with fail
        refine (valid_is a true ha Va.out _).mono ?_
        rintro e w1 ⟨rfl, hb1⟩
        go_wp2_with fail
        refine (valid_is b true hb Vb.out _).mono ?_
        rintro e w2 ⟨rfl, hb2⟩
        go_wp2_with fail
        refine (ordinals_any a ha Va.out _).mono ?_
        rintro e w3 ⟨v1, rfl, r1, hb3⟩
        go_wp2_with fail
        refine (ordinals_any b hb Vb.out _).mono ?_
        rintro e w4 ⟨v2, rfl, r2, hb4⟩
        go_wp2_with fail
        refine (slCompare_any v1 v2 _ _ _ (r1.below hb4) r2 (ords_length a)).mono ?_
        rintro e w5 ⟨rfl, rfl⟩
        go_wp2_with fail
        go_ret
        exact ⟨rfl, hb1.trans ((hb2.mono hb1.size).trans ((hb3.mono (Nat.le_trans hb1.size hb2.size)).trans (hb4.mono (Nat.le_trans hb1.size (Nat.le_trans hb2.size hb3.size)))))⟩
      · have hr : lcmp a b = -1 := by simp [lcmp, h0, va, vb]
        rw [hr]; clear hr
        have Va := Lib.hid va; have Vb := Lib.hid (show validB b = false by simpa using vb); clear va vb h0
        go_enter Tryz.func99, Tryz.ntmps99
        go_wp2_with fail
        refine (valid_is a true ha Va.out _).mono ?_
        rintro e w1 ⟨rfl, hb1⟩
        go_wp2_with fail
        refine (valid_is b false hb Vb.out _).mono ?_
        rintro e w2 ⟨rfl, hb2⟩
        go_wp2_with fail
        go_ret
        exact ⟨rfl, hb1.trans (hb2.mono hb1.size)⟩
    · by_cases vb : validB b = true
      · have hr : lcmp a b = 1 := by simp [lcmp, h0, va, vb]
        rw [hr]; clear hr
        have Va := Lib.hid (show validB a = false by simpa using va); have Vb := Lib.hid vb; clear va vb h0
        go_enter Tryz.func99, Tryz.ntmps99
        go_wp2_with fail
        refine (valid_is a false ha Va.out _).mono ?_
        rintro e w1 ⟨rfl, hb1⟩
        go_wp2_with fail
        refine (valid_is b true hb Vb.out _).mono ?_
        rintro e w2 ⟨rfl, hb2⟩
        go_wp2_with fail
        go_ret
        exact ⟨rfl, hb1.trans (hb2.mono hb1.size)⟩
      · have hr : lcmp a b = cmpS a b := by simp [lcmp, h0, va, vb]
        rw [hr]; clear hr
        have Va := Lib.hid (show validB a = false by simpa using va); have Vb := Lib.hid (show validB b = false by simpa using vb); clear va vb h0
        go_enter Tryz.func99, Tryz.ntmps99
        go_wp2_with fail
        refine (valid_is a false ha Va.out _).mono ?_
        rintro e w1 ⟨rfl, hb1⟩
        go_wp2_with fail
        refine (valid_is b false hb Vb.out _).mono ?_
        rintro e w2 ⟨rfl, hb2⟩
        go_wp2_with fail
        refine (cmpNam_any a b _).mono ?_
        rintro e w3 ⟨rfl, rfl⟩
        go_wp2_with fail
        go_ret
        exact ⟨rfl, hb1.trans (hb2.mono hb1.size)⟩
theorem lCompare_is (a b : ByteArray) (v : Int) (h : lcmp a b = v) (ha : a.size ≤ 70368744177664) (hb : b.size ≤ 70368744177664) (w : World) :
    Calls Tryz.prog 99 #[.string a, .string b] w fun e w' => e = .returned (.int .i64 v) ∧ Below w.heap.size w w' := by
  subst h; exact lCompare_any a b ha hb w
end Go.Proofs.YtfchfjipkggnkaaGreatDoor

namespace Go.Proofs.YtfchfjipkggnkaaGreatDoor
open Go.RowKit

def nkey (n : NameT) : Int × ByteArray × Int × Int × ByteArray := (n.kind, n.owner, n.number, n.index, n.text)
def cmpT (a b : Int × Int × ByteArray) : Int := cmpL cmpI (cmpL cmpI cmpS) a b
def cmpN (a b : NameT) : Int := cmpL cmpI (cmpL lcmp cmpT) (nkey a) (nkey b)
theorem cmpN_ok : CmpOk cmpN := cmpOn_ok nkey (fun a b h => by
  obtain ⟨a1, a2, a3, a4, a5⟩ := a
  obtain ⟨b1, b2, b3, b4, b5⟩ := b
  simp only [nkey, Prod.mk.injEq] at h
  obtain ⟨rfl, rfl, rfl, rfl, rfl⟩ := h
  rfl) (cmpL_ok cmpI_ok (cmpL_ok lcmp_ok (cmpL_ok cmpI_ok (cmpL_ok cmpI_ok cmpS_ok))))
theorem second_newC (w : World) (o1 o2 : Obj) : ((w.alloc o1).alloc o2).heap[w.heap.size + 1]? = some o2 := by have := World.alloc_heap_new (w.alloc o1) o2; rwa [World.size_alloc] at this
theorem cmpT_or (a b : Int × Int × ByteArray) : cmpT a b = or3 (cmpI a.1 b.1) (cmpI a.2.1 b.2.1) (cmpS a.2.2 b.2.2) := rfl


set_option maxRecDepth 100000 in
set_option maxHeartbeats 1600000 in
theorem oCompare_any (a b : NameT) (ha : FitN a) (hb : FitN b) (w : World) :
    Calls Tryz.prog 68 #[nameV a, nameV b] w fun e w' => e = .returned (.int .i64 (cmpN a b)) ∧ Below w.heap.size w w' := by
  obtain ⟨a1, a2, a3, a4, a5⟩ := a
  obtain ⟨b1, b2, b3, b4, b5⟩ := b
  obtain ⟨ha2, ha5⟩ := ha
  obtain ⟨hb2, hb5⟩ := hb
  dsimp only at *
  have hsz : ((w.alloc (.cells #[.int .i64 a1, .string a2, .int .i64 a3, .int .i64 a4, .string a5] 56)).alloc (.cells #[.int .i64 b1, .string b2, .int .i64 b3, .int .i64 b4, .string b5] 56)).heap.size = w.heap.size + 2 := by simp
  have hB0 : Below w.heap.size w ((w.alloc (.cells #[.int .i64 a1, .string a2, .int .i64 a3, .int .i64 a4, .string a5] 56)).alloc (.cells #[.int .i64 b1, .string b2, .int .i64 b3, .int .i64 b4, .string b5] 56)) := ((Below.refl _ w).alloc (Nat.le_refl _) _).alloc (by simp) _
  unfold nameV
  by_cases h1 : cmpI a1 b1 = 0
  · have hcon1 := cmpInt_is a1 b1 0 h1
    by_cases h2 : lcmp a2 b2 = 0
    · have hr : cmpN ⟨a1, a2, a3, a4, a5⟩ ⟨b1, b2, b3, b4, b5⟩ = or3 (cmpI a3 b3) (cmpI a4 b4) (cmpS a5 b5) := by
        simp [cmpN, nkey, cmpL, h1, h2, cmpT_or]
      rw [hr]; clear hr
      have hcon2 := lCompare_is a2 b2 0 h2 ha2 hb2
      clear h1 h2
      have HB0 := Lib.hid hB0; clear hB0
      go_enter Tryz.func68, Tryz.ntmps68
      go_wp2_with fail
      refine (hcon1 _).mono ?_
      rintro e w1 ⟨rfl, rfl⟩
      go_wp2_with fail
      refine (hcon2 _).mono ?_
      rintro e w1 ⟨rfl, hb1⟩
      have k := fun (j : Nat) => cell_of_heap ((hb1.block w.heap.size (by simp; omega)).trans ((Below.heap_alloc _ _ _ (by simp)).trans (World.alloc_heap_new w _))) j
      have m := fun (j : Nat) => cell_of_heap ((hb1.block (w.heap.size + 1) (by simp)).trans (second_newC w _ _)) j
      have k2 : w1.cell? ⟨w.heap.size, 2, none⟩ = some (.int .i64 a3) := k 2
      have k3 : w1.cell? ⟨w.heap.size, 3, none⟩ = some (.int .i64 a4) := k 3
      have k4 : w1.cell? ⟨w.heap.size, 4, none⟩ = some (.string a5) := k 4
      have m2 : w1.cell? ⟨w.heap.size + 1, 2, none⟩ = some (.int .i64 b3) := m 2
      have m3 : w1.cell? ⟨w.heap.size + 1, 3, none⟩ = some (.int .i64 b4) := m 3
      have m4 : w1.cell? ⟨w.heap.size + 1, 4, none⟩ = some (.string b5) := m 4
      have hlt : w.heap.size + 1 < w1.heap.size := by have := hb1.size; rw [hsz] at this; omega
      clear k m hsz
      have Hb1 := Lib.hid hb1; clear hb1
      go_wp2_with fail
      go_region_held3 (fun w' => w'.cell? ⟨w.heap.size, 2, none⟩ = some (.int .i64 a3) ∧ w'.cell? ⟨w.heap.size, 3, none⟩ = some (.int .i64 a4) ∧ w'.cell? ⟨w.heap.size, 4, none⟩ = some (.string a5) ∧ w'.cell? ⟨w.heap.size + 1, 2, none⟩ = some (.int .i64 b3) ∧ w'.cell? ⟨w.heap.size + 1, 3, none⟩ = some (.int .i64 b4) ∧ w'.cell? ⟨w.heap.size + 1, 4, none⟩ = some (.string b5)) (first | go_keep | exact ⟨k2, k3, k4, m2, m3, m4⟩)
        (first
          | (go_at_call 101; refine (cmpStr_any a5 b5 _).mono ?_; rintro e w' ⟨rfl, rfl⟩)
          | (go_at_call 98; refine (cmpInt_any _ _ _).mono ?_; rintro e w' ⟨rfl, rfl⟩)
          | (go_at_call 100; refine (cmpOr_any _ _ _ _ _ (cell_of_heap (heap_alloc_new _ _) 0) (cell_of_heap (heap_alloc_new _ _) 1) (cell_of_heap (heap_alloc_new _ _) 2)).mono ?_; rintro e w' ⟨rfl, rfl⟩)
          | fail)
      all_goals go_wp2
      all_goals go_ret
      all_goals exact ⟨rfl, (((HB0.out.trans (Hb1.out.mono (by simp; omega))).drew).alloc (Nat.le_of_lt (Nat.lt_trans (Nat.lt_succ_self _) hlt)) _)⟩
    · have hr : cmpN ⟨a1, a2, a3, a4, a5⟩ ⟨b1, b2, b3, b4, b5⟩ = lcmp a2 b2 := by
        simp [cmpN, nkey, cmpL, h1, h2]
      rw [hr]; clear hr
      have hcon2 := lCompare_any a2 b2 ha2 hb2
      generalize lcmp a2 b2 = r at *
      have h2a : (r == 0) = false := by simpa using h2
      have h2b : (r != 0) = true := by simpa using h2
      clear h1 h2 hsz
      have HB0 := Lib.hid hB0; clear hB0
      go_enter Tryz.func68, Tryz.ntmps68
      go_wp2_with fail
      refine (hcon1 _).mono ?_
      rintro e w1 ⟨rfl, rfl⟩
      go_wp2_with fail
      refine (hcon2 _).mono ?_
      rintro e w1 ⟨rfl, hb1⟩
      go_wp2_with fail
      go_ret
      exact ⟨rfl, HB0.out.trans (hb1.mono (by simp; omega))⟩
  · have hr : cmpN ⟨a1, a2, a3, a4, a5⟩ ⟨b1, b2, b3, b4, b5⟩ = cmpI a1 b1 := by
      simp [cmpN, nkey, cmpL, h1]
    rw [hr]; clear hr
    have hcon1 := cmpInt_any a1 b1
    generalize cmpI a1 b1 = r at *
    have h1a : (r == 0) = false := by simpa using h1
    have h1b : (r != 0) = true := by simpa using h1
    clear h1 hsz
    have HB0 := Lib.hid hB0; clear hB0
    go_enter Tryz.func68, Tryz.ntmps68
    go_wp2_with fail
    refine (hcon1 _).mono ?_
    rintro e w1 ⟨rfl, rfl⟩
    go_wp2_with fail
    go_ret
    exact ⟨rfl, HB0.out⟩
end Go.Proofs.YtfchfjipkggnkaaGreatDoor
