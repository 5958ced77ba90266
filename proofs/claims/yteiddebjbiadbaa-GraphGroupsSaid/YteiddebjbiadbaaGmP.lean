/- graph: Path. (printed by wip/gen_gmp.py) -/
import Derived.Test.YteiddebjbiadbaaGmQ
import Derived.Test.YteiddebjbiadbaaGmC
import Derived.Test.YteiddebjbiadbaaGmW
namespace Go.Proofs.Yteiddebjbiadbaa
open Go.RowKit Gr
attribute [local go_sem ↓] Go.wp_at_zero Go.wp_at_succ

theorem numRow_at {w : World} {b : Nat} {L : List Int} (h : RowIs w b 3 (L.map (Value.int .i64))) {i : Nat} (hi : i < L.length) : w.cell? ⟨b, i, none⟩ = some (.int .i64 (at_ L i)) := by
  refine RowIs.cell h ?_
  rw [List.getElem?_map, List.getElem?_eq_getElem hi]
  unfold at_
  rw [List.getD_eq_getElem?_getD, List.getElem?_eq_getElem hi]
  rfl
theorem numRow_set {w : World} {b : Nat} {L : List Int} (h : RowIs w b 3 (L.map (Value.int .i64))) (i : Nat) (c : Int) : RowIs (w.setCell ⟨b, i, none⟩ (.int .i64 c)) b 3 ((L.set i c).map (Value.int .i64)) := by
  have := RowIs.set h i (.int .i64 c)
  rw [List.map_set]
  exact this
/-- Path under way: the box of left, and left. -/
structure PhAt (w0 : World) (bl lg n : Nat) (L : List Int) (W : World) : Prop where
  low : Below w0.heap.size w0 W
  box : W.cell? ⟨bl, 0, none⟩ = some (.slice (some ⟨lg, 0, none⟩) n n)
  row : RowIs W lg 3 (L.map (Value.int .i64))
  len : L.length = n
  up : w0.heap.size ≤ bl ∧ w0.heap.size ≤ lg ∧ bl ≠ lg
theorem PhAt.later {w0 : World} {bl lg n : Nat} {L : List Int} {W W' : World} (h : PhAt w0 bl lg n L W) (hb : Below W.heap.size W W') : PhAt w0 bl lg n L W' :=
  ⟨h.low.trans (hb.mono h.low.size), ((bcell hb).1 _ _ (World.block_lt_of_cell? W _ h.box)).trans h.box, h.row.later hb, h.len, h.up⟩
theorem PhAt.set {w0 : World} {bl lg n : Nat} {L : List Int} {W : World} (h : PhAt w0 bl lg n L W) (i : Nat) (c : Int) : PhAt w0 bl lg n (L.set i c) (W.setCell ⟨lg, i, none⟩ (.int .i64 c)) :=
  ⟨h.low.setCell (p := ⟨lg, i, none⟩) h.up.2.1 _, cell_grown (grown_setCell W lg i _) h.box h.up.2.2, numRow_set h.row i c, by rw [List.length_set]; exact h.len, h.up⟩
theorem PhAt.grown {w0 : World} {bl lg n : Nat} {L : List Int} {W W' : World} (h : PhAt w0 bl lg n L W) {row : Option Nat} (hg : W.grownBy W' row) (hr : ∀ k, row = some k → w0.heap.size ≤ k ∧ k ≠ bl ∧ k ≠ lg) : PhAt w0 bl lg n L W' :=
  ⟨below_grow h.low hg (Nat.le_refl _) (fun k hk => (hr k hk).1), (World.cell?_of_block (a := ⟨bl, 0, none⟩) (hg.block bl (World.block_lt_of_cell? W _ h.box) (fun e => (hr bl e.symm).2.1 rfl))).trans h.box, RowIs.kept h.row (hg.block lg (RowIs.lt h.row) (fun e => (hr lg e.symm).2.2 rfl)), h.len, h.up⟩
/-- The closure: is a node one step nearer? -/
theorem near_any {w0 W : World} {bl lg n bn : Nat} {L : List Int} {x c : Nat} (h : PhAt w0 bl lg n L W) (hn : W.cell? ⟨bn, 0, none⟩ = some (.int .i64 (c : Int))) (hx : x < n) (hc : c < n) (hb : -1 ≤ at_ L c ∧ at_ L c ≤ 5000) :
    Calls Try.prog 39 #[.int .i64 (x : Int), .pointer (some ⟨bl, 0, none⟩), .pointer (some ⟨bn, 0, none⟩)] W fun r w' => r = .returned (.bool (decide (at_ L x = at_ L c - 1))) ∧ Below W.heap.size W w' := by
  have d1 := numRow_at h.row (i := x) (by rw [h.len]; exact hx)
  have d2 := numRow_at h.row (i := c) (by rw [h.len]; exact hc)
  have d3 := h.box
  have hxi : (x : Int) < (n : Int) := by omega
  have hci : (c : Int) < (n : Int) := by omega
  generalize at_ L x = a at d1 ⊢
  generalize at_ L c = b at d2 hb ⊢
  obtain ⟨hb1, hb2⟩ := hb
  obtain ⟨q, hq⟩ : ∃ q, decide (a = b - 1) = q := ⟨_, rfl⟩
  rw [hq]
  have Hq := Lib.hid hq
  clear h hq
  go_enter Try.func39, Try.ntmps39
  go_upto_region 1 with fail
  go_quiet (fail)
  go_wp2
  go_ret
  refine ⟨?_, Below.dn (Below.refl _ _) _⟩
  rw [← Hq.out]
  simp
  rw [Bool.eq_iff_iff, beq_iff_eq, decide_eq_true_iff]
theorem indexFunc_any {w0 w : World} {bl lg n bn : Nat} {L : List Int} {c : Nat} {va : Value} {l : List Nat} (h : PhAt w0 bl lg n L w) (hn : w.cell? ⟨bn, 0, none⟩ = some (.int .i64 (c : Int))) (hc : c < n) (hb : -1 ≤ at_ L c ∧ at_ L c ≤ 5000) (hl : ∀ x ∈ l, x < n) (hln : l.length ≤ 4096) (hr : RowK kNat w va l) {i x : Nat}
    (hi : l[i]? = some x) (hx : at_ L x = at_ L c - 1) (hbefore : ∀ j y, j < i → l[j]? = some y → at_ L y ≠ at_ L c - 1) :
    Calls Try.prog 38 #[va, .func (.func 39) #[] #[.pointer (some ⟨bl, 0, none⟩), .pointer (some ⟨bn, 0, none⟩)]] w fun r w' => r = .returned (.int .i64 (i : Int)) ∧ Below w.heap.size w w' := by
  obtain ⟨av, cv, rfl, -⟩ := hr.form
  have H := Lib.hid h
  have Hr := Lib.hid hr
  have Hnn := Lib.hid hn
  have Hi := Lib.hid hi
  have Hx := Lib.hid hx
  have Hbf := Lib.hid hbefore
  have Hb := Lib.hid hb
  have Hl := Lib.hid hl
  clear h hr hn hi hx hbefore hb hl
  go_enter Try.func38, Try.ntmps38
  go_wp2
  go_loopg [8] i (fun gk iv wr => ∃ j : Nat, j + gk = i ∧ iv = .int .i64 (j : Int) ∧ Hid (Below w.heap.size w wr))
  case atStart => exact ⟨0, by omega, rfl, Below.refl _ _⟩
  case round =>
    obtain ⟨j, hj, rfl, HB⟩ := hrel
    have hil := (List.getElem?_eq_some_iff.1 Hi.out).1
    obtain ⟨y, hy⟩ : ∃ y, l[j]? = some y := ⟨_, List.getElem?_eq_getElem (by omega)⟩
    obtain ⟨g, off, rfl, hca⟩ := (Hr.out.later HB.out).at_ hy
    have d1 := hca 0 _ rfl
    simp only [kNat, Nat.mul_one, Nat.add_zero] at d1
    have hli : (j : Int) < (l.length : Int) := by omega
    have hjs : j < 4096 := by omega
    have Hj := Lib.hid hj
    have hyn := Hl.out y (List.mem_of_getElem? hy)
    have HC := Lib.hid (near_any (H.out.later HB.out) (((bcell HB.out).1 _ _ (World.block_lt_of_cell? w _ Hnn.out)).trans Hnn.out) hyn hc Hb.out)
    have Hy := Lib.hid hy
    clear hil hy hj
    go_wp2_with fail
    refine HC.out.mono ?_
    rintro r w2 ⟨rfl, hb2⟩
    have HB2 : Hid (Below w.heap.size w w2) := HB.out.trans (hb2.mono HB.out.size)
    clear hb2 HC d1 HB
    by_cases hji : j = i
    · have hxy : y = x := by rw [hji] at Hy; exact Option.some.inj (Hy.out.symm.trans Hi.out)
      rw [hxy, decide_eq_true Hx.out]
      subst hji
      clear Hy hxy hyn
      go_wp2
      go_ret
      exact ⟨rfl, HB2.out⟩
    · rw [decide_eq_false (Hbf.out j y (by have := Hj.out; omega) Hy.out)]
      go_wp2
      go_roundg (i - (j + 1))
      case measure => have := Hj.out; omega
      case rel => exact ⟨j + 1, by have := Hj.out; omega, by go_num, HB2⟩
theorem OwnK.sole {base : Nat} {w : World} {B x : Nat} {c : Array Value} (h : w.heap[B]? = some (.cells c 3 (0, 0))) (hc : c = #[.int .i64 (x : Int)]) (hb : base ≤ B) : OwnK kNat base w (.slice (some ⟨B, 0, none⟩) 1 1) [x] := by
  subst hc
  exact ⟨rfl, .inr ⟨B, 1, #[.int .i64 (x : Int)], rfl, hb, h, Nat.le_refl _, by unfold maxLen; decide, by simp [kNat], rfl⟩⟩
/-- What is known of the edges behind the rows. -/
structure GEs (es : List Ed) (n : Nat) (A B : Nat → List Nat) : Prop where
  a : ∀ i j, j ∈ A i ↔ (i, j) ∈ es
  b : ∀ i j, j ∈ B i ↔ (j, i) ∈ es
  ins : Ins n es
def nilT : Value := .tuple #[.slice none 0 0, .bool false]
def PathPost (w : World) (n : Nat) (A B : Nat → List Nat) (f t : Int) (r : Ending) (w' : World) : Prop :=
  Below w.heap.size w w' ∧ ((nodeB n f && nodeB n t) = false ∧ r = .returned nilT ∨ ∃ a b : Nat, f = a ∧ t = b ∧ a < n ∧ b < n ∧ (at_ (leftF B n b) a < 0 ∧ r = .returned nilT
    ∨ 0 ≤ at_ (leftF B n b) a ∧ ∃ v, r = .returned (.tuple #[v, .bool true]) ∧ OwnK kNat w.heap.size w' v (pathF A (leftF B n b) b (at_ (leftF B n b) a).toNat a)))
set_option linter.unusedSimpArgs false in
set_option maxHeartbeats 3200000 in
theorem path_any {w : World} {p n : Nat} {A B : Nat → List Nat} {es : List Ed} (h : GOk w p n A B) (hE : GEs es n A B) (f t : Int) : Calls Try.prog 13 #[.pointer (some ⟨p, 0, none⟩), .int .i64 f, .int .i64 t] w (PathPost w n A B f t) := by
  have H := Lib.hid h
  obtain ⟨hn, ga, gb, c0, c1, hra, hrb⟩ := h.at_
  have Hn := Lib.hid hn
  have Hra := Lib.hid hra
  have Hrb := Lib.hid hrb
  have HE := Lib.hid hE
  clear h hra hrb hE
  by_cases hf : nodeB n f = false
  · have Hf := Lib.hid hf
    go_enter Try.func13, Try.ntmps13
    go_wp2_with fail
    refine (has_any H.out.at_ f).mono ?_
    rintro r y ⟨rfl, rfl⟩
    rw [hf]
    go_wp2
    refine bodyPost_ret (v := nilT) (by simp [results, nilT, Try.results13, go_sem]) rfl ?_
    exact ⟨Below.refl _ _, .inl ⟨by rw [Hf.out]; rfl, rfl⟩⟩
  have hf1 : nodeB n f = true := by simpa using hf
  by_cases ht : nodeB n t = false
  · have Ht := Lib.hid ht
    clear hf
    go_enter Try.func13, Try.ntmps13
    go_wp2_with fail
    refine (has_any H.out.at_ f).mono ?_
    rintro r y ⟨rfl, rfl⟩
    rw [hf1]
    go_wp2_with fail
    refine (has_any H.out.at_ t).mono ?_
    rintro r y ⟨rfl, rfl⟩
    rw [ht]
    go_wp2
    refine bodyPost_ret (v := nilT) (by simp [results, nilT, Try.results13, go_sem]) rfl ?_
    exact ⟨Below.refl _ _, .inl ⟨by rw [Ht.out, Bool.and_false], rfl⟩⟩
  have ht1 : nodeB n t = true := by simpa using ht
  have hf2 := nodeB_iff.1 hf1
  have ht2 := nodeB_iff.1 ht1
  obtain ⟨a, rfl⟩ := Int.eq_ofNat_of_zero_le hf2.1
  obtain ⟨b, rfl⟩ := Int.eq_ofNat_of_zero_le ht2.1
  have Hab : Hid (a < n ∧ b < n) := ⟨by have := hf2.2; omega, by have := ht2.2; omega⟩
  have hai : (a : Int) < (n : Int) := hf2.2
  have hbi : (b : Int) < (n : Int) := ht2.2
  have hmk := run_make_row' (P := Try.prog) 30 3 (.int .i64 0) 8 Try.underlying30 (by kernel_rfl) rfl .i64 .i64 n (by omega) (by omega)
  clear hf ht hf2 ht2
  go_enter Try.func13, Try.ntmps13
  go_wp2_with fail
  refine (has_any H.out.at_ (a : Int)).mono ?_
  rintro r y ⟨rfl, rfl⟩
  rw [hf1]
  go_wp2_with fail
  refine (has_any H.out.at_ (b : Int)).mono ?_
  rintro r y ⟨rfl, rfl⟩
  rw [ht1]
  clear hf1 ht1
  go_upto_region 4 with fail
  obtain ⟨x1, hx1⟩ : ∃ x1, y.alloc (.cells (madeCells #[.int .i64 0] n) 3) = x1 := ⟨_, rfl⟩
  have z1 : x1.heap.size = y.heap.size + 1 := by rw [← hx1, World.size_alloc]
  have r1 : RowIs x1 y.heap.size 3 (List.replicate n (.int .i64 0)) := by rw [← hx1]; exact made_row _ _ _ _
  have b1 : Below y.heap.size y x1 := by rw [← hx1]; exact (Below.refl _ _).alloc (Nat.le_refl _) _
  obtain ⟨x2, hx2⟩ : ∃ x2, x1.alloc (.cells #[.slice (some ⟨y.heap.size, 0, none⟩) n n] 30) = x2 := ⟨_, rfl⟩
  have r2 : RowIs x2 (y.heap.size + 1) 30 [.slice (some ⟨y.heap.size, 0, none⟩) n n] := by rw [← hx2, ← z1]; exact new_row _ _ _
  have b2 : Below x1.heap.size x1 x2 := by rw [← hx2]; exact (Below.refl _ _).alloc (Nat.le_refl _) _
  rw [hx1, hx2]
  have HP0 : Hid (PhAt y (y.heap.size + 1) y.heap.size n (List.replicate 0 (-1) ++ List.replicate (n - 0) 0) x2) := by
    refine ⟨b1.trans (b2.mono (by omega)), r2.cell rfl, ?_, by simp, by omega, by omega, by omega⟩
    have := r1.later b2
    rw [show (List.replicate 0 (-1 : Int) ++ List.replicate (n - 0) (0 : Int)).map (Value.int .i64) = List.replicate n (Value.int .i64 0) from by simp]
    exact this
  have Hsz : Hid (y.heap.size + 1 < x2.heap.size) := RowIs.lt r2
  obtain ⟨bl, hbl⟩ : ∃ b, y.heap.size + 1 = b := ⟨_, rfl⟩
  obtain ⟨lg, hlg⟩ : ∃ b, y.heap.size = b := ⟨_, rfl⟩
  rw [hbl] at HP0 Hsz ⊢
  have Hlg := Lib.hid hlg
  have HP0' : Hid (PhAt y bl lg n (List.replicate 0 (-1) ++ List.replicate (n - 0) 0) x2) := by rw [← hlg]; exact HP0
  rw [hlg]
  have Hbl : Hid (bl = lg + 1) := by rw [← hbl, ← hlg]; exact rfl
  have Hc1 := Lib.hid c1
  have Hc0 := Lib.hid c0
  clear hx1 hx2 z1 r1 b1 r2 b2 hbl hlg HP0 hmk c0 c1
  have e0 := HP0'.out.box
  go_wp2
  clear e0
  go_loopg [34] n (fun gk iv wr => ∃ i : Nat, i + gk = n ∧ iv = .int .i64 (i : Int) ∧ Hid (PhAt y bl lg n (List.replicate i (-1) ++ List.replicate (n - i) 0) wr) ∧ Hid (x2.heap.size ≤ wr.heap.size))
  case atStart => exact ⟨0, by omega, rfl, HP0', Nat.le_refl _⟩
  case round =>
    obtain ⟨i, hi, rfl, HPi, Hxs⟩ := hrel
    by_cases hlt : i < n
    · have e0 := HPi.out.box
      have e1 := numRow_at HPi.out.row (i := i) (by rw [HPi.out.len]; exact hlt)
      have e2 := RowIs.free HPi.out.row i
      have hli : (i : Int) < (n : Int) := by omega
      have his : i < 4096 := by omega
      have HP2 := HPi.out.set i (-1)
      have hL : (List.replicate i (-1 : Int) ++ List.replicate (n - i) 0).set i (-1) = List.replicate (i + 1) (-1) ++ List.replicate (n - (i + 1)) 0 := by
        apply List.ext_getElem
        · simp; omega
        · intro k h1 h2
          simp only [List.getElem_set, List.getElem_append, List.getElem_replicate, List.length_replicate]
          split <;> split <;> (try split) <;> first | rfl | omega
      rw [hL] at HP2
      have HP3 := Lib.hid HP2
      have Hi := Lib.hid hi
      have Hlt := Lib.hid hlt
      have Hxs2 : Hid (x2.heap.size ≤ (wr.setCell ⟨lg, i, none⟩ (.int .i64 (-1))).heap.size) := by show _ ≤ _; rw [size_setCell]; exact Hxs.out
      clear HPi HP2 hL hi hlt Hxs
      go_wp2
      go_roundg (n - (i + 1))
      case measure => have := Hi.out; have := Hlt.out; omega
      case rel => exact ⟨i + 1, by have := Hi.out; have := Hlt.out; omega, by go_num, HP3, Hxs2⟩
    · have hli : ¬ (i : Int) < (n : Int) := by omega
      have hin : i = n := by omega
      rw [hin] at HPi
      have HPa : Hid (PhAt y bl lg n (List.replicate n (-1)) wr) := by
        have h := HPi.out
        have e : (List.replicate n (-1 : Int) ++ List.replicate (n - n) (0 : Int)) = List.replicate n (-1 : Int) := by simp
        rw [e] at h
        exact h
      have e0 := HPa.out.box
      have e1 := numRow_at HPa.out.row (i := b) (by rw [HPa.out.len]; exact Hab.out.2)
      have e2 := RowIs.free HPa.out.row b
      have HPb := Lib.hid (HPa.out.set b 0)
      have Hxs2 : Hid (x2.heap.size ≤ (wr.setCell ⟨lg, b, none⟩ (.int .i64 0)).heap.size) := by show _ ≤ _; rw [size_setCell]; exact Hxs.out
      clear HPi HPa hlt hi hin Hxs
      go_upto_region 10 with fail
      clear e0 e1 e2
      obtain ⟨x3, hx3⟩ : ∃ x3, wr.setCell ⟨lg, b, none⟩ (.int .i64 0) = x3 := ⟨_, rfl⟩
      rw [hx3] at HPb Hxs2 ⊢
      clear hx3
      have hb4 : Below x3.heap.size x3 (x3.alloc (.cells #[.int .i64 (b : Int)] 3)) := (Below.refl _ _).alloc (Nat.le_refl _) _
      have HP4 := Lib.hid (HPb.out.later hb4)
      have HQ4 : Hid (IWin (x3.alloc (.cells #[.int .i64 (b : Int)] 3)) (.slice (some ⟨x3.heap.size, 0, none⟩) 1 1) [b]) := .inr ⟨x3.heap.size, 0, 1, #[.int .i64 (b : Int)], rfl, heap_alloc_new x3 _, Nat.le_refl _, by unfold maxLen; decide, by simp, rfl⟩
      have HB1 : Hid (bl < x3.heap.size ∧ lg < x3.heap.size ∧ y.heap.size ≤ x3.heap.size) := ⟨by have := Hsz.out; have := Hxs2.out; omega, by have := Hsz.out; have := Hxs2.out; have := Hbl.out; omega, HPb.out.low.size⟩
      clear hb4 HPb Hxs2
      have HS : Hid (negs ((List.replicate n (-1 : Int)).set b 0) + 1 ≤ n ∧ (∀ i, at_ ((List.replicate n (-1 : Int)).set b 0) i = if i = b then 0 else -1)) := by
        refine ⟨?_, start_at Hab.out.2⟩
        have h1 : negs (List.replicate n (-1 : Int)) ≤ n := by unfold negs; exact Nat.le_trans List.countP_le_length (by simp)
        have := negs_set (L := List.replicate n (-1)) (m := b) (c := 0) (by simpa using Hab.out.2) (by rw [at_rep]; omega) (by omega)
        omega
      go_wp2
      go_loopg [10] n (fun gk qv wr => ∃ (L : List Int) (Q : List Nat), Hid (leftF B n b = bfsF B gk L Q) ∧ Hid (negs L + Q.length ≤ gk) ∧ Hid (∀ q ∈ Q, q < n ∧ 0 ≤ at_ L q) ∧ Hid (∀ i, -1 ≤ at_ L i ∧ at_ L i + gk ≤ n) ∧ Hid (PhAt y bl lg n L wr) ∧ Hid (IWin wr qv Q) ∧ Hid (∀ k, qv.ownBlock = some k → x3.heap.size ≤ k) ∧ Hid (x3.heap.size ≤ wr.heap.size) ∧ Hid (gk ≤ n))
      case atStart =>
        refine ⟨(List.replicate n (-1)).set b 0, [b], rfl, HS.out.1, fun q hq => ?_, fun i => ?_, HP4, HQ4, fun k hk => ?_, by show _ ≤ _; rw [World.size_alloc]; omega, Nat.le_refl n⟩
        · obtain rfl : q = b := by simpa using hq
          exact ⟨Hab.out.2, by rw [HS.out.2, if_pos rfl]; omega⟩
        · rw [HS.out.2]; split <;> omega
        · simp [Value.ownBlock] at hk; omega
      case round =>
        obtain ⟨L, Q, HL, HN, HQ, HBd, HP, HW, HK, HZ, HGk⟩ := hrel
        cases Q with
        | nil =>
          obtain ⟨qa, qc, hqv, -⟩ := HW.out.form
          subst hqv
          have hLe : leftF B n b = L := by
            rw [HL.out]
            cases gk <;> rfl
          have HLe := Lib.hid hLe
          have hD : Dist es n b L := by rw [← hLe]; exact left_ok HE.out.b HE.out.ins Hab.out.2
          have HD := Lib.hid hD
          have d1 := HP.out.box
          have d2 := numRow_at HP.out.row (i := a) (by rw [HP.out.len]; exact Hab.out.1)
          obtain ⟨la, hla⟩ : ∃ x, at_ L a = x := ⟨_, rfl⟩
          rw [hla] at d2
          have Hla := Lib.hid hla
          clear HL HN HQ HW HK hLe hD hla
          simp only [List.length_nil]
          by_cases hneg : la < 0
          · have HF : Hid (PathPost y n A B a b (.returned nilT) wr) := ⟨HP.out.low, .inr ⟨a, b, rfl, rfl, Hab.out.1, Hab.out.2, .inl ⟨by rw [HLe.out, Hla.out]; exact hneg, rfl⟩⟩⟩
            go_wp2
            refine bodyPost_ret (v := nilT) (by simp [results, nilT, Try.results13, go_sem]) rfl ?_
            exact HF.out
          · have Hnn : Hid (0 ≤ la) := by show (0 : Int) ≤ la; omega
            obtain ⟨ka, hka⟩ := Int.eq_ofNat_of_zero_le Hnn.out
            have Hka := Lib.hid hka
            clear hka
            go_upto_region 24 with fail
            obtain ⟨w1, hw1⟩ : ∃ w1, wr.alloc (.cells #[.int .i64 (a : Int)] 3) = w1 := ⟨_, rfl⟩
            have z1 : w1.heap.size = wr.heap.size + 1 := by rw [← hw1, World.size_alloc]
            have o1 : OwnK kNat x3.heap.size w1 (.slice (some ⟨wr.heap.size, 0, none⟩) 1 1) [a] := by rw [← hw1]; exact OwnK.sole (heap_alloc_new wr _) rfl HZ.out
            have b1 : Below wr.heap.size wr w1 := by rw [← hw1]; exact (Below.refl _ _).alloc (Nat.le_refl _) _
            obtain ⟨w2, hw2⟩ : ∃ w2, w1.alloc (.cells #[.int .i64 (a : Int)] 3) = w2 := ⟨_, rfl⟩
            have b2 : Below w1.heap.size w1 w2 := by rw [← hw2]; exact (Below.refl _ _).alloc (Nat.le_refl _) _
            have r2 : RowIs w2 (wr.heap.size + 1) 3 [.int .i64 (a : Int)] := by rw [← hw2, ← z1]; exact new_row _ _ _
            rw [hw1, hw2]
            have HO0 := Lib.hid (o1.later b2)
            have HR0 := Lib.hid r2
            have HP0 := Lib.hid ((HP.out.later b1).later b2)
            have HZ0 : Hid (x3.heap.size ≤ w2.heap.size) := by have := HZ.out; have := b2.size; show _ ≤ _; omega
            have HX0 : Hid (x3.heap.size ≤ wr.heap.size + 1) := by have := HZ.out; show _ ≤ _; omega
            have Hab0 : Hid (ka ≤ 4096) := by have h1 := (HBd.out a).2; rw [Hla.out, Hka.out] at h1; show _ ≤ _; omega
            have Hcv : Hid (∀ i, at_ L i ≤ 4096) := fun i => by have h1 := (HBd.out i).2; omega
            clear hw1 z1 o1 b1 hw2 b2 r2 HP HZ d1 d2 HBd HGk
            go_loopg [13, 14] ka (fun gk pv nv wr => ∃ (cur : Nat) (pre : List Nat) (bn : Nat), nv = .pointer (some ⟨bn, 0, none⟩) ∧ Hid (RowIs wr bn 3 [.int .i64 (cur : Int)]) ∧ Hid (at_ L cur = gk) ∧ Hid (cur < n) ∧ Hid (pathF A L b ka a = pre ++ pathF A L b gk cur) ∧ Hid (OwnK kNat x3.heap.size wr pv (pre ++ [cur])) ∧ Hid (pre.length + gk ≤ 4096) ∧ Hid (PhAt y bl lg n L wr) ∧ Hid (x3.heap.size ≤ bn) ∧ Hid (pv.ownBlock ≠ some bn))
            case atStart => exact ⟨a, [], wr.heap.size + 1, rfl, HR0, by show _ = _; rw [Hla.out]; exact Hka.out, Hab.out.1, rfl, HO0, by have := Hab0.out; show 0 + ka ≤ 4096; omega, HP0, HX0, by intro e; simp [Value.ownBlock] at e⟩
            case round =>
              obtain ⟨cur, pre, bn, rfl, HR, HC, Hcn, HF, HO, HPl, HPP, HX, HNb⟩ := hrel
              have c0 := HR.out.cell (i := 0) rfl
              have hci : (cur : Int) < (n : Int) := by have := Hcn.out; omega
              by_cases hcb : cur = b
              · have hcbi : (cur : Int) = (b : Int) := by omega
                have hg0 : gk = 0 := by have h1 := HC.out; rw [hcb, HD.out.zero] at h1; omega
                have HFin : Hid (PathPost y n A B a b (.returned (.tuple #[u13, .bool true])) wr) := by
                  refine ⟨HPP.out.low, .inr ⟨a, b, rfl, rfl, Hab.out.1, Hab.out.2, .inr ⟨by rw [HLe.out, Hla.out]; exact Hnn.out, u13, rfl, ?_⟩⟩⟩
                  rw [HLe.out, Hla.out, Hka.out, Int.toNat_natCast]
                  have h1 := HF.out
                  rw [hg0, hcb] at h1
                  have h2 := HO.out
                  rw [hcb] at h2
                  have h3 : pathF A L b 0 b = [b] := rfl
                  rw [h1, h3]
                  exact h2.mono HB1.out.2.2
                clear HF HO HC HR
                go_wp2
                refine bodyPost_ret (v := .tuple #[u13, .bool true]) (by simp [results, Try.results13, go_sem]) rfl ?_
                exact HFin.out
              · have hcbi : ¬ (cur : Int) = (b : Int) := by omega
                have Hcb := Lib.hid hcb
                have hpos := HD.out.near cur hcb (by rw [HC.out]; omega)
                obtain ⟨k, hk⟩ : ∃ k, gk = k + 1 := ⟨gk - 1, by have h1 := hpos.1; rw [HC.out] at h1; omega⟩
                subst hk
                obtain ⟨-, j0, hj0, hd0⟩ := hpos
                have hfind : ∃ (i x : Nat), (A cur)[i]? = some x ∧ at_ L x = at_ L cur - 1 ∧ (∀ (j z : Nat), j < i → (A cur)[j]? = some z → at_ L z ≠ at_ L cur - 1) ∧ (A cur).find? (fun j => at_ L j == at_ L cur - 1) = some x := by
                  have hm := (HE.out.a cur j0).2 hj0
                  cases hf : (A cur).find? (fun j => at_ L j == at_ L cur - 1) with
                  | none =>
                    have := List.find?_eq_none.1 hf j0 hm
                    simp at this
                    omega
                  | some x =>
                    obtain ⟨h1, i, hi, h2, h3⟩ := List.find?_eq_some_iff_getElem.1 hf
                    refine ⟨i, x, by rw [List.getElem?_eq_getElem hi, h2], by simpa using h1, fun j z hji hz => ?_, rfl⟩
                    have h4 := h3 j hji
                    obtain ⟨hjl, rfl⟩ := List.getElem?_eq_some_iff.1 hz
                    simpa using h4
                obtain ⟨i, x, hi, hx, hbf, hfd⟩ := hfind
                have hxn : x < n := H.out.a cur x (List.mem_of_getElem? hi)
                have hxi : (x : Int) < (n : Int) := by omega
                have Hfd := Lib.hid hfd
                have Hx := Lib.hid hx
                have Hxn := Lib.hid hxn
                obtain ⟨v, hv1, hv2⟩ := Hra.out cur Hcn.out
                obtain ⟨va, vc, rfl, -⟩ := hv2.form
                have e1 := ((bcell HPP.out.low).1 _ _ (World.block_lt_of_cell? y _ hv1)).trans hv1
                have hgc : wr.cell? ⟨p, 0, none⟩ = some (.slice (some ⟨ga, 0, none⟩) n n) := ((bcell HPP.out.low).1 _ _ (World.block_lt_of_cell? y _ Hc0.out)).trans Hc0.out
                have HCall : Hid (Calls Try.prog 38 #[.slice va (A cur).length vc, .func (.func 39) #[] #[.pointer (some ⟨bl, 0, none⟩), .pointer (some ⟨bn, 0, none⟩)]] wr.drew fun r w' => r = .returned (.int .i64 (i : Int)) ∧ Below wr.drew.heap.size wr.drew w') :=
                  indexFunc_any (HPP.out.later (Below.refl _ _).drew) c0 Hcn.out ⟨by rw [HC.out]; omega, by have := Hcv.out cur; omega⟩ (H.out.a cur) (H.out.la cur) ((hv2.later HPP.out.low).later (Below.refl _ _).drew) hi hx hbf
                have Hv := Lib.hid hv2
                have Hi := Lib.hid hi
                clear hi hx hbf hfd hxn hv1 hv2 hj0 hd0 hcb
                go_upto_region 25 with fail
                refine wp_region_held_drew (S := (fun W => (W.cell? ⟨p, 0, none⟩ = some (.slice (some ⟨ga, 0, none⟩) n n) ∧ W.cell? ⟨bn, 0, none⟩ = some (.int .i64 (cur : Int))) ∧ W.cell? ⟨ga, cur, none⟩ = some (.slice va (A cur).length vc))) (by kernel_rfl) (⟨⟨hgc, c0⟩, e1⟩) (fun hH0 => ?_)
                refine wpAnyH_take (i := 0) (v := ?_) rfl (by kernel_rfl) (by kernel_rfl) (by kernel_rfl) (fun _ _ _ h => h) (Or.inl ⟨by rfl, ?_⟩) (by assumption) ?_
                rotate_left
                · (intro wx hSw; (try dsimp only at hSw); go_simp <;> with_reducible rfl)
                try simp only [Act.put, List.setIfInBounds_toArray, List.set_cons_zero, List.set_cons_succ, List.getElem_toArray, List.getElem_cons_zero, List.getElem_cons_succ]
                refine wpAnyH_take (i := 1) (v := ?_) rfl (by kernel_rfl) (by kernel_rfl) (by kernel_rfl) (fun _ _ _ h => h) (Or.inl ⟨by rfl, ?_⟩) (by assumption) ?_
                rotate_left
                · (intro wx hSw; (try dsimp only at hSw); go_simp <;> with_reducible rfl)
                try simp only [Act.put, List.setIfInBounds_toArray, List.set_cons_zero, List.set_cons_succ, List.getElem_toArray, List.getElem_cons_zero, List.getElem_cons_succ]
                refine wpAnyH_take (i := 2) (v := ?_) rfl (by kernel_rfl) (by kernel_rfl) (by kernel_rfl) (fun _ _ _ h => h) (Or.inl ⟨by rfl, ?_⟩) (by assumption) ?_
                rotate_left
                · (intro wx hSw; (try dsimp only at hSw); go_simp <;> with_reducible rfl)
                try simp only [Act.put, List.setIfInBounds_toArray, List.set_cons_zero, List.set_cons_succ, List.getElem_toArray, List.getElem_cons_zero, List.getElem_cons_succ]
                refine wpAnyH_take (i := 3) (v := ?_) rfl (by kernel_rfl) (by kernel_rfl) (by kernel_rfl) (fun _ _ _ h => h) (Or.inl ⟨by rfl, ?_⟩) (by assumption) ?_
                rotate_left
                · (intro wx hSw; (try dsimp only at hSw); go_simp <;> with_reducible rfl)
                try simp only [Act.put, List.setIfInBounds_toArray, List.set_cons_zero, List.set_cons_succ, List.getElem_toArray, List.getElem_cons_zero, List.getElem_cons_succ]
                refine wpAnyH_take (i := 4) (v := ?_) rfl (by kernel_rfl) (by kernel_rfl) (by kernel_rfl) (fun _ _ _ h => h) (Or.inl ⟨by rfl, ?_⟩) (by assumption) ?_
                rotate_left
                · (intro wx hSw; (try dsimp only at hSw); go_simp <;> with_reducible rfl)
                try simp only [Act.put, List.setIfInBounds_toArray, List.set_cons_zero, List.set_cons_succ, List.getElem_toArray, List.getElem_cons_zero, List.getElem_cons_succ]
                refine wpAnyH_take (i := 5) (v := ?_) rfl (by kernel_rfl) (by kernel_rfl) (by kernel_rfl) (fun _ _ _ h => h) (Or.inl ⟨by rfl, ?_⟩) (by assumption) ?_
                rotate_left
                · (intro wx hSw; (try dsimp only at hSw); go_simp <;> with_reducible rfl)
                try simp only [Act.put, List.setIfInBounds_toArray, List.set_cons_zero, List.set_cons_succ, List.getElem_toArray, List.getElem_cons_zero, List.getElem_cons_succ]
                refine wpAnyH_take (i := 6) (v := ?_) rfl (by kernel_rfl) (by kernel_rfl) (by kernel_rfl) (fun _ _ _ h => h) (Or.inl ⟨by rfl, ?_⟩) (by assumption) ?_
                rotate_left
                · (intro wx hSw; (try dsimp only at hSw); go_simp <;> with_reducible rfl)
                try simp only [Act.put, List.setIfInBounds_toArray, List.set_cons_zero, List.set_cons_succ, List.getElem_toArray, List.getElem_cons_zero, List.getElem_cons_succ]
                refine wpAnyH_take (i := 7) (v := ?_) rfl (by kernel_rfl) (by kernel_rfl) (by kernel_rfl) (fun _ _ _ h => h) (Or.inl ⟨by rfl, ?_⟩) (by assumption) ?_
                rotate_left
                · (intro wx hSw; (try dsimp only at hSw); go_simp <;> with_reducible rfl)
                try simp only [Act.put, List.setIfInBounds_toArray, List.set_cons_zero, List.set_cons_succ, List.getElem_toArray, List.getElem_cons_zero, List.getElem_cons_succ]
                refine wpAnyH_ready (rs := [8]) (by kernel_rfl) (by simp) ?_
                refine AllReadyH.cons rfl (fun K hK => ?_) AllReadyH.nil
                go_simp
                go_at_call 38
                with_reducible refine HCall.out.mono ?_
                rintro r w5 ⟨rfl, hb⟩
                have HB5 := Lib.hid (below_undrew hb)
                have hcl : ∀ x i u, wr.cell? ⟨x, i, none⟩ = some u → w5.cell? ⟨x, i, none⟩ = some u := fun x i u hx => ((bcell HB5.out).1 _ _ (World.block_lt_of_cell? wr _ hx)).trans hx
                clear hb HCall
                go_wp2_with fail
                refine hK.out _ _ (⟨⟨hcl _ _ _ hgc, hcl _ _ _ c0⟩, hcl _ _ _ e1⟩) (fun hH1 => ?_)
                clear hK K hH0
                try simp only [Act.put, List.setIfInBounds_toArray, List.set_cons_zero, List.set_cons_succ, List.getElem_toArray, List.getElem_cons_zero, List.getElem_cons_succ]
                clear hcl
                refine wpAnyH_take (i := 9) (v := ?_) rfl (by kernel_rfl) (by kernel_rfl) (by kernel_rfl) (fun _ _ _ h => h) (Or.inl ⟨by rfl, ?_⟩) (by assumption) ?_
                rotate_left
                · (intro wx hSw; (try dsimp only at hSw); go_simp <;> with_reducible rfl)
                try simp only [Act.put, List.setIfInBounds_toArray, List.set_cons_zero, List.set_cons_succ, List.getElem_toArray, List.getElem_cons_zero, List.getElem_cons_succ]
                refine wpAnyH_done (by kernel_rfl) ?_ _
                have e2 := ((Hv.out.later (HPP.out.later HB5.out).low).at_ Hi.out)
                obtain ⟨rg, ro, rfl, hca⟩ := e2
                have e3 := hca 0 _ rfl
                simp only [kNat, Nat.mul_one, Nat.add_zero] at e3
                have e4 := hH1.1.1
                have e5 := hH1.1.2
                have e6 := hH1.2
                have f5 := RowIs.free (HR.out.later HB5.out) 0
                have hil : (i : Int) < ((A cur).length : Int) := by have := (List.getElem?_eq_some_iff.1 Hi.out).1; omega
                have HPP5 := Lib.hid (HPP.out.later HB5.out)
                have HO5 := Lib.hid (HO.out.later HB5.out)
                have HR5 := Lib.hid (HR.out.later HB5.out)
                have Hbnl : Hid (bn < w5.heap.size) := RowIs.lt HR5.out
                clear hH1 hca e1 c0 hgc HPP HO HR
                go_upto_region 26 with fail
                go_region
                clear e3 e4 e5 e6 f5
                have hg6 := grown_setCell w5 bn 0 (.int .i64 (x : Int))
                have HPP6 : Hid (PhAt y bl lg n L (w5.setCell ⟨bn, 0, none⟩ (.int .i64 (x : Int))).drew) := (HPP5.out.grown hg6 (fun k hk => by cases hk; have h1 := HX.out; have h2 := HB1.out; omega)).later (Below.refl _ _).drew
                have HO6 : Hid (OwnK kNat x3.heap.size (w5.setCell ⟨bn, 0, none⟩ (.int .i64 (x : Int))).drew u13 (pre ++ [cur])) := OwnK.later (HO5.out.kept hg6 (fun k hk e => by cases e; exact HNb.out hk)) (Below.refl _ _).drew
                have HR6 : Hid (RowIs (w5.setCell ⟨bn, 0, none⟩ (.int .i64 (x : Int))).drew bn 3 [.int .i64 (x : Int)]) := RowIs.later (HR5.out.set 0 _) (Below.refl _ _).drew
                have Hz6 : Hid (x3.heap.size ≤ (w5.setCell ⟨bn, 0, none⟩ (.int .i64 (x : Int))).drew.heap.size) := by
                  have h1 := HX.out
                  have h2 := Hbnl.out
                  have h3 : (w5.setCell ⟨bn, 0, none⟩ (.int .i64 (x : Int))).drew.heap.size = w5.heap.size := size_setCell _ _ _
                  show _ ≤ _
                  omega
                obtain ⟨w6, hw6⟩ : ∃ w6, (w5.setCell ⟨bn, 0, none⟩ (.int .i64 (x : Int))).drew = w6 := ⟨_, rfl⟩
                rw [hw6] at HPP6 HO6 HR6 Hz6 ⊢
                clear hg6 hw6 HPP5 HO5 HR5
                have g1 := HR6.out.cell (i := 0) rfl
                have Hll : Hid ((pre ++ [cur]).length + 1 ≤ 1000000) := by have := HPl.out; show _ ≤ _; simp; omega
                go_wp2_with (first
                  | (at_builtin; refine wpList_append_one (K := kNat) rfl _ _ rfl x3.heap.size u13 (pre ++ [cur]) rfl HO6.out x _ _ rfl rfl Hll.out Hz6.out ?_; intro v9 w9 ho9 hg9 hat9; have HO9 := Lib.hid ho9; have HPP9 : Hid (PhAt y bl lg n L w9) := HPP6.out.grown hg9 (fun k hk => by have h1 := (HO6.out.lt hk).1; have h2 := HB1.out; omega); have g2 : w9.cell? ⟨bn, 0, none⟩ = some (.int .i64 (x : Int)) := ((World.cell?_of_block (a := ⟨bn, 0, none⟩) (hg9.block bn (RowIs.lt HR6.out) (Ne.symm HNb.out))).trans g1); have Hsz9 : Hid (x3.heap.size ≤ w9.heap.size) := Nat.le_trans Hz6.out hg9.size; clear ho9 hg9 hat9 g1 HO6 HPP6 HR6 Hz6)
                  | go_in)
                have HB10 : Below w9.heap.size w9 (w9.alloc (.cells #[.int .i64 (x : Int)] 3)) := (Below.refl _ _).alloc (Nat.le_refl _) _
                have HP10 := Lib.hid (HPP9.out.later HB10)
                have HO10 := Lib.hid (HO9.out.later HB10)
                have HR10 : Hid (RowIs (w9.alloc (.cells #[.int .i64 (x : Int)] 3)) w9.heap.size 3 [.int .i64 (x : Int)]) := new_row _ _ _
                go_roundg k
                case measure => omega
                case rel =>
                  refine ⟨x, pre ++ [cur], w9.heap.size, rfl, HR10, ?_, Hxn, ?_, HO10, ?_, HP10, Hsz9, ?_⟩
                  · have h1 := HC.out
                    have h2 := Hx.out
                    show _ = _
                    omega
                  · show _ = _
                    rw [HF.out, List.append_assoc]
                    congr 1
                    show cur :: (if cur = b then [] else match (A cur).find? (fun j => at_ L j == at_ L cur - 1) with | some j => pathF A L b k j | none => []) = _
                    rw [if_neg Hcb.out, Hfd.out]
                    rfl
                  · have := HPl.out
                    show _ ≤ _
                    simp
                    omega
                  · intro e
                    have := (HO9.out.lt e).2
                    omega
        | cons q qs =>
          obtain ⟨k, hk⟩ : ∃ k, gk = k + 1 := ⟨gk - 1, by have := HN.out; simp at this; omega⟩
          subst hk
          have Hgk : Hid (k + 1 ≤ n) := HGk
          obtain ⟨qa, qc, hqv, -⟩ := HW.out.form
          subst hqv
          obtain ⟨qg, qo, rfl, cq⟩ := HW.out.at_ (j := 0) (x := q) rfl
          rw [Nat.add_zero] at cq
          have hqn := (HQ.out q List.mem_cons_self).1
          obtain ⟨v, hv1, hv2⟩ := Hrb.out q hqn
          obtain ⟨va, vc, rfl, -⟩ := hv2.form
          have e1 := ((bcell HP.out.low).1 _ _ (World.block_lt_of_cell? y _ hv1)).trans hv1
          have HGc := Lib.hid (H.out.at_.later HP.out.low)
          have hgc : wr.cell? ⟨p, 1, none⟩ = some (.slice (some ⟨gb, 0, none⟩) n n) := ((bcell HP.out.low).1 _ _ (World.block_lt_of_cell? y _ Hc1.out)).trans Hc1.out
          have hqi : (q : Int) < (n : Int) := by omega
          have hql : (0 : Int) < (((q :: qs).length : Nat) : Int) := by simp
          have Hv := Lib.hid hv2
          have Hqn := Lib.hid hqn
          clear hv1 hv2 HGc hqn
          go_upto_region 13 with fail
          go_quiet (fail)
          have HPq := Lib.hid (HP.out.later (Below.dn (Below.refl _ _) nq))
          have HWq : Hid (IWin (wr.drewN nq) (.slice (some ⟨qg, qo, none⟩) (q :: qs).length qc) (q :: qs)) := HW.out
          have HQq := Lib.hid (HQ.out q List.mem_cons_self).2
          have HQs : Hid (∀ x ∈ qs, x < n ∧ 0 ≤ at_ L x) := fun x hx => HQ.out x (List.mem_cons_of_mem _ hx)
          obtain ⟨m0, hm0⟩ : ∃ m, (q :: qs).length = m := ⟨_, rfl⟩
          rw [hm0] at HWq HK ⊢
          clear cq e1 hgc hql HP HW HQ hm0
          obtain ⟨wq, hwq⟩ : ∃ wq, wr.drewN nq = wq := ⟨_, rfl⟩
          have HZq : Hid (x3.heap.size ≤ wq.heap.size) := by rw [← hwq]; exact HZ.out
          rw [hwq] at HPq HWq ⊢
          clear hwq HZ
          go_wp2
          go_loopg [10, 61] (B q).length (fun gj qv jv wr => ∃ (j : Nat) (L' : List Int) (Q' : List Nat), j + gj = (B q).length ∧ jv = .int .i64 (j : Int) ∧ Hid (((B q).take j).foldl (bfsRow q) (L, qs) = (L', Q')) ∧ Hid (negs L' + Q'.length = negs L + qs.length) ∧ Hid (at_ L' q = at_ L q) ∧ Hid (∀ x ∈ Q', x < n ∧ 0 ≤ at_ L' x) ∧ Hid (∀ i, -1 ≤ at_ L' i ∧ at_ L' i + k ≤ n) ∧ Hid (PhAt y bl lg n L' wr) ∧ Hid (IWin wr qv (q :: Q')) ∧ Hid (∀ k, qv.ownBlock = some k → x3.heap.size ≤ k) ∧ Hid (x3.heap.size ≤ wr.heap.size))
          case atStart => exact ⟨0, L, qs, by omega, rfl, rfl, rfl, rfl, HQs, fun i => ⟨(HBd.out i).1, by have := (HBd.out i).2; omega⟩, HPq, HWq, HK, HZq⟩
          case round =>
            obtain ⟨j, L', Q', hj, rfl, HF, HN2, Hq2, HQ2, HB2, HP2, HW2, HK2, HZ2⟩ := hrel
            obtain ⟨qa, qc2, hqv, -⟩ := HW2.out.form
            subst hqv
            have Hj := Lib.hid hj
            by_cases hlt : j < (B q).length
            · obtain ⟨m, hm⟩ : ∃ m, (B q)[j]? = some m := ⟨_, List.getElem?_eq_getElem hlt⟩
              obtain ⟨rg, ro, rfl, hca⟩ := (Hv.out.later HP2.out.low).at_ hm
              have d1 := hca 0 _ rfl
              simp only [kNat, Nat.mul_one, Nat.add_zero] at d1
              have hmn : m < n := H.out.b q m (List.mem_of_getElem? hm)
              have d2 := HP2.out.box
              have d3 := numRow_at HP2.out.row (i := m) (by rw [HP2.out.len]; exact hmn)
              have d4 := numRow_at HP2.out.row (i := q) (by rw [HP2.out.len]; exact Hqn.out)
              have f3 := RowIs.free HP2.out.row m
              obtain ⟨qg2, qo2, rfl, cq⟩ := HW2.out.at_ (j := 0) (x := q) rfl
              rw [Nat.add_zero] at cq
              have hql : (0 : Int) < (((q :: Q').length : Nat) : Int) := by simp
              have hli : (j : Int) < ((B q).length : Int) := by omega
              have hjs : j < 4096 := by have := H.out.lb q; omega
              have hmi : (m : Int) < (n : Int) := by omega
              have hst : ((B q).take (j + 1)).foldl (bfsRow q) (L, qs) = bfsRow q (L', Q') m := by
                rw [List.take_add_one, hm, List.foldl_append, HF.out]; rfl
              have Hst := Lib.hid hst
              have Hlt := Lib.hid hlt
              have Hmn := Lib.hid hmn
              obtain ⟨lm, hlm⟩ : ∃ x, at_ L' m = x := ⟨_, rfl⟩
              obtain ⟨lq, hlq⟩ : ∃ x, at_ L' q = x := ⟨_, rfl⟩
              rw [hlm] at d3
              rw [hlq] at d4
              have Hlm := Lib.hid hlm
              have Hlq := Lib.hid hlq
              have hb1 : -1 ≤ lq ∧ lq ≤ 4096 := by have h := HB2.out q; rw [hlq] at h; omega
              obtain ⟨hb1, hb2⟩ := hb1
              clear hca hm hst hj hlt hmn hlm hlq
              by_cases hneg : lm < 0
              · have Hneg := Lib.hid hneg
                go_upto_region 17 with fail
                go_region
                clear d1 d2 d3 d4 f3 cq
                have HP3 := Lib.hid ((HP2.out.set m (lq + 1)).later (Below.refl _ _).drew)
                have HW3 : Hid (IWin (wr.setCell ⟨lg, m, none⟩ (.int .i64 (lq + 1))).drew (.slice (some ⟨qg2, qo2, none⟩) (q :: Q').length qc2) (q :: Q')) := IWin.kept (w := wr) HW2.out (fun k hk => Below.heap_setCell wr ⟨lg, m, none⟩ _ k (by have h1 := HK2.out k hk; have h2 := HB1.out.2.1; show k ≠ lg; omega))
                have HP3len : Hid (L'.length = n) := HP2.out.len
                obtain ⟨ws, hws⟩ : ∃ ws, (wr.setCell ⟨lg, m, none⟩ (.int .i64 (lq + 1))).drew = ws := ⟨_, rfl⟩
                have Hwz : Hid (x3.heap.size ≤ ws.heap.size) := by rw [← hws]; show _ ≤ (wr.setCell ⟨lg, m, none⟩ (.int .i64 (lq + 1))).heap.size; rw [size_setCell]; exact HZ2.out
                rw [hws] at HP3 HW3 ⊢
                clear hws HP2 HW2
                have HWa : Hid (∀ o, IWin (ws.alloc o) (.slice (some ⟨qg2, qo2, none⟩) (q :: Q').length qc2) (q :: Q')) := fun o => IWin.kept HW3.out (fun k hk => heap_alloc_old ws o (HW3.out.lt k hk))
                have HPa : Hid (∀ o, PhAt y bl lg n (L'.set m (lq + 1)) (ws.alloc o)) := fun o => HP3.out.later ((Below.refl _ _).alloc (Nat.le_refl _) _)
                have Hll : Hid ((q :: Q').length ≤ 1000000) := by have h1 := HN2.out; have h2 := HN.out; have h3 := Hgk.out; show (q :: Q').length ≤ _; simp only [List.length_cons] at *; omega
                go_wp2_with (first
                  | (at_builtin; refine wpList_append_win rfl _ _ rfl (.slice (some ⟨qg2, qo2, none⟩) (q :: Q').length qc2) (q :: Q') rfl (HWa.out _) m ws.heap.size rfl (heap_alloc_new ws _) Hll.out ?_; intro v9 w9 hw9 hg9 hat9; have HW9 := Lib.hid hw9; have HZ9 : Hid (x3.heap.size ≤ w9.heap.size) := Nat.le_trans Hwz.out (Nat.le_trans (by rw [World.size_alloc]; omega) hg9.size); have HP9 : Hid (PhAt y bl lg n (L'.set m (lq + 1)) w9) := (HPa.out _).grown hg9 (fun k hk => by have h1 := HK2.out k hk; have h2 := HB1.out; omega); have Hat9 := Lib.hid hat9; clear hw9 hg9 hat9)
                  | go_in)
                go_roundg ((B q).length - (j + 1))
                case measure => have := Hj.out; have := Hlt.out; omega
                case rel =>
                  refine ⟨j + 1, L'.set m (lq + 1), Q' ++ [m], by have := Hj.out; have := Hlt.out; omega, by go_num, ?_, ?_, ?_, fun x hx => ?_, fun i => ?_, HP9, HW9, fun k hk => ?_, HZ9⟩
                  · rw [Hst.out]; show bfsRow q (L', Q') m = _; unfold bfsRow; dsimp only; rw [Hlm.out, if_pos Hneg.out, Hlq.out]
                  · show _ = _
                    have h1 := negs_set (L := L') (m := m) (c := lq + 1) (by rw [HP3len.out]; exact Hmn.out) (by rw [Hlm.out]; exact Hneg.out) (by have := HQq.out; have h2 := Hq2.out; rw [Hlq.out] at h2; omega)
                    have h3 := HN2.out
                    rw [List.length_append, List.length_singleton]
                    omega
                  · show _ = _
                    rw [at_set (by rw [HP3len.out]; exact Hmn.out), if_neg (fun e => by have h1 := HQq.out; rw [← Hq2.out, e, Hlm.out] at h1; have := Hneg.out; omega)]
                    exact Hq2.out
                  · rw [at_set (by rw [HP3len.out]; exact Hmn.out)]
                    rcases List.mem_append.1 hx with hx | hx
                    · refine ⟨(HQ2.out x hx).1, ?_⟩
                      split
                      · have := HQq.out; have h2 := Hq2.out; rw [Hlq.out] at h2; omega
                      · exact (HQ2.out x hx).2
                    · obtain rfl : x = m := by simpa using hx
                      rw [if_pos rfl]
                      exact ⟨Hmn.out, by have := HQq.out; have h2 := Hq2.out; rw [Hlq.out] at h2; omega⟩
                  · rw [at_set (by rw [HP3len.out]; exact Hmn.out)]
                    split
                    · have h2 := Hq2.out
                      have h3 := HBd.out q
                      have h4 := HQq.out
                      rw [Hlq.out] at h2
                      omega
                    · exact HB2.out i
                  · rcases Hat9.out with q1 | q1
                    · rw [q1] at hk; exact HK2.out k hk
                    · rw [q1] at hk
                      have := Option.some.inj hk
                      have h2 := Hwz.out
                      rw [World.size_alloc] at this
                      omega
              · have Hneg := Lib.hid hneg
                clear cq
                go_wp2
                go_roundg ((B q).length - (j + 1))
                case measure => have := Hj.out; have := Hlt.out; omega
                case rel =>
                  refine ⟨j + 1, L', Q', by have := Hj.out; have := Hlt.out; omega, by go_num, ?_, HN2, Hq2, HQ2, HB2, HP2, HW2, HK2, HZ2⟩
                  show _ = _
                  rw [Hst.out]; unfold bfsRow; dsimp only; rw [Hlm.out, if_neg (by have := Hneg.out; omega)]
            · have hli : ¬ (j : Int) < ((B q).length : Int) := by omega
              have hall : (B q).take j = B q := List.take_of_length_le (by omega)
              rw [hall] at HF
              have HL2 : Hid (leftF B n b = bfsF B k L' Q') := by
                show _ = _
                rw [HL.out]
                show bfsF B k _ _ = _
                rw [HF.out]
              have HNk : Hid (negs L' + Q'.length ≤ k) := by have h1 := HN2.out; have h2 := HN.out; simp only [List.length_cons] at h2; show _ ≤ _; omega
              have Hgk2 : Hid (k ≤ n) := by have := Hgk.out; show _ ≤ _; omega
              obtain ⟨qg2, qo2, rfl, -⟩ := HW2.out.at_ (j := 0) (x := q) rfl
              obtain ⟨ht1, ht2⟩ := HW2.out.tail (by simp)
              simp only [List.length_cons, Nat.add_sub_cancel, List.drop_succ_cons, List.drop_zero] at ht1 ht2
              have Ht1 := Lib.hid ht1
              have Ht2 := Lib.hid ht2
              have hcq : (Q'.length + 1) ≤ qc2 := by
                obtain ⟨a', c', e, hle⟩ := HW2.out.form
                cases e
                simpa using hle
              have Hqc := Lib.hid hcq
              clear ht1 ht2 hcq hall hlt hj HF HW2
              simp only [List.length_cons]
              by_cases hc1 : qc2 = 1
              · subst hc1
                have hq0 : Q'.length = 0 := by have := Hqc.out; omega
                have HW4 : Hid (IWin wr (.slice (some ⟨qg2, qo2, none⟩) 0 0) Q') := Ht2.out rfl
                rw [hq0]
                clear Ht1 Ht2 Hqc hq0
                go_wp2
                go_roundg k
                case measure => omega
                case rel => exact ⟨L', Q', HL2, HNk, HQ2, HB2, HP2, HW4, HK2, HZ2, Hgk2⟩
              · have hcc : (1 : Int) ≤ (qc2 : Int) := by have := Hqc.out; omega
                have HW4 : Hid (IWin wr (.slice (some ⟨qg2, qo2 + 1, none⟩) Q'.length (qc2 - 1)) Q') := Ht1.out
                clear Ht1 Ht2 Hqc
                go_wp2
                go_roundg k
                case measure => omega
                case rel => exact ⟨L', Q', HL2, HNk, HQ2, HB2, HP2, HW4, HK2, HZ2, Hgk2⟩
end Go.Proofs.Yteiddebjbiadbaa
