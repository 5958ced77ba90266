/- graph: edges in order: the comparison, the library's sort. (printed by wip/gen_gms.py) -/
import Derived.Test.YteiddebjbiadbaaGmA
import Derived.Test.YteiddebjbiadbaaShlE
import Derived.Test.YteiddebjbiadbaaDrawn
import Derived.Shelf.SlSortCmp.NoneTotal
namespace Go.Proofs.Yteiddebjbiadbaa
open Go.RowKit Gr
attribute [local go_sem ↓] Go.wp_at_zero Go.wp_at_succ

def cmpI (x y : Int) : Int := if x < y then -1 else if y < x then 1 else 0
theorem isnan_any (x : Int) (w : World) : Calls Try.prog 64 #[.int .i64 x] w fun r w' => r = .returned (.bool false) ∧ Below w.heap.size w w' := by
  go_enter Try.func64, Try.ntmps64
  go_wp2
  go_ret
  exact ⟨rfl, Below.refl _ _⟩
theorem compare_any (x y : Int) (w : World) : Calls Try.prog 47 #[.int .i64 x, .int .i64 y] w fun r w' => r = .returned (.int .i64 (cmpI x y)) ∧ Below w.heap.size w w' := by
  have hways : (x < y ∧ cmpI x y = -1) ∨ (¬ x < y ∧ y < x ∧ cmpI x y = 1) ∨ (¬ x < y ∧ ¬ y < x ∧ cmpI x y = 0) := by
    unfold cmpI
    by_cases h : x < y
    · exact .inl ⟨h, if_pos h⟩
    · by_cases h2 : y < x
      · exact .inr (.inl ⟨h, h2, by rw [if_neg h, if_pos h2]⟩)
      · exact .inr (.inr ⟨h, h2, by rw [if_neg h, if_neg h2]⟩)
  generalize cmpI x y = e at hways ⊢
  have Hw := Lib.hid hways
  clear hways
  go_enter Try.func47, Try.ntmps47
  go_wp2_with fail
  refine (isnan_any x _).mono ?_
  rintro r w1 ⟨rfl, hb1⟩
  have HB1 := Lib.hid hb1
  clear hb1
  go_wp2_with fail
  refine (isnan_any y _).mono ?_
  rintro r w2 ⟨rfl, hb2⟩
  have HB2 := Lib.hid (HB1.out.trans (hb2.mono HB1.out.size))
  clear hb2 HB1
  rcases Hw.out with ⟨h, he⟩ | ⟨h, h2, he⟩ | ⟨h, h2, he⟩
  all_goals
    subst he
    go_wp2
    go_ret
    exact ⟨rfl, HB2.out⟩
def orI (x y : Int) : Int := if x ≠ 0 then x else y
theorem or_any (x y : Int) (w : World) : Calls Try.prog 46 #[.slice (some ⟨w.heap.size, 0, none⟩) 2 2] (w.alloc (.cells #[.int .i64 x, .int .i64 y] 3)) fun r w' => r = .returned (.int .i64 (orI x y)) ∧ Below (w.alloc (.cells #[.int .i64 x, .int .i64 y] 3)).heap.size (w.alloc (.cells #[.int .i64 x, .int .i64 y] 3)) w' := by
  have hr : RowIs (w.alloc (.cells #[.int .i64 x, .int .i64 y] 3)) w.heap.size 3 [.int .i64 x, .int .i64 y] := new_row _ _ _
  obtain ⟨w1, hw1⟩ : ∃ w1, w.alloc (.cells #[.int .i64 x, .int .i64 y] 3) = w1 := ⟨_, rfl⟩
  obtain ⟨g, hg⟩ : ∃ g, w.heap.size = g := ⟨_, rfl⟩
  rw [hw1, hg] at hr
  rw [hw1, hg]
  clear hw1 hg
  have he : ∃ e, e = (if x ≠ 0 then x else y) ∧ orI x y = e := ⟨_, rfl, rfl⟩
  obtain ⟨e, he, he2⟩ := he
  rw [he2]
  clear he2
  have He := Lib.hid he
  clear he
  go_enter Try.func46, Try.ntmps46
  go_wp2
  go_loopg [8] 2 (fun gk iv wr => Hid (Below w1.heap.size w1 wr) ∧ ((gk = 2 ∧ iv = .int .i64 0) ∨ (gk = 1 ∧ iv = .int .i64 1 ∧ Hid (x = 0)) ∨ (gk = 0 ∧ iv = .int .i64 2 ∧ Hid (x = 0) ∧ Hid (y = 0))))
  case atStart => exact ⟨Below.refl _ _, .inl ⟨rfl, rfl⟩⟩
  case round =>
    obtain ⟨HB, h⟩ := hrel
    have d0 : wr.cell? ⟨g, 0, none⟩ = some (.int .i64 x) := (hr.later HB.out).cell (i := 0) rfl
    have d1 : wr.cell? ⟨g, 1, none⟩ = some (.int .i64 y) := (hr.later HB.out).cell (i := 1) rfl
    rcases h with ⟨rfl, rfl⟩ | ⟨rfl, rfl, hx⟩ | ⟨rfl, rfl, hx, hy⟩
    · by_cases h0 : x = 0
      · have H0 := Lib.hid h0
        go_wp2
        go_roundg 1
        case measure => omega
        case rel => exact ⟨HB, .inr (.inl ⟨rfl, by go_num, H0⟩)⟩
      · have hee : e = x := by rw [He.out, if_pos h0]
        subst hee
        go_wp2
        go_ret
        exact ⟨rfl, HB.out⟩
    · by_cases h0 : y = 0
      · have H0 := Lib.hid h0
        go_wp2
        go_roundg 0
        case measure => omega
        case rel => exact ⟨HB, .inr (.inr ⟨rfl, by go_num, hx, H0⟩)⟩
      · have hee : e = y := by rw [He.out, if_neg (by have := hx.out; simp [this])]
        subst hee
        go_wp2
        go_ret
        exact ⟨rfl, HB.out⟩
    · have hee : e = 0 := by rw [He.out, if_neg (by have := hx.out; simp [this])]; exact hy.out
      subst hee
      go_wp2
      go_ret
      exact ⟨rfl, HB.out⟩
theorem cellL {w w' : World} {x i : Nat} {v : Value} (h : w.cell? ⟨x, i, none⟩ = some v) (hb : Below w.heap.size w w') : w'.cell? ⟨x, i, none⟩ = some v := ((bcell hb).1 x i (World.block_lt_of_cell? w _ h)).trans h
def cfE (a b : Int × Int) : Int := orI (cmpI a.1 b.1) (cmpI a.2 b.2)
set_option linter.unusedSimpArgs false in
theorem new1_any (a b : Int × Int) (w : World) : Calls Try.prog 45 #[.agg #[.int .i64 a.1, .int .i64 a.2], .agg #[.int .i64 b.1, .int .i64 b.2]] w fun r w' => r = .returned (.int .i64 (cfE a b)) ∧ Below w.heap.size w w' := by
  obtain ⟨x1, hx1⟩ : ∃ x1, w.alloc (.cells #[.int .i64 a.1, .int .i64 a.2] 60) = x1 := ⟨_, rfl⟩
  have z1 : x1.heap.size = w.heap.size + 1 := by rw [← hx1, World.size_alloc]
  obtain ⟨x2, hx2⟩ : ∃ x2, x1.alloc (.cells #[.int .i64 b.1, .int .i64 b.2] 60) = x2 := ⟨_, rfl⟩
  have b1 : Below w.heap.size w x1 := by rw [← hx1]; exact (Below.refl _ _).alloc (Nat.le_refl _) _
  have b2 : Below x1.heap.size x1 x2 := by rw [← hx2]; exact (Below.refl _ _).alloc (Nat.le_refl _) _
  have r1 : RowIs x1 w.heap.size 60 [.int .i64 a.1, .int .i64 a.2] := by rw [← hx1]; exact new_row _ _ _
  have r2 : RowIs x2 (w.heap.size + 1) 60 [.int .i64 b.1, .int .i64 b.2] := by rw [← hx2, ← z1]; exact new_row _ _ _
  have R1 := Lib.hid (r1.later b2)
  have R2 := Lib.hid r2
  have HB0 : Hid (Below w.heap.size w x2.drew) := (b1.trans (b2.mono (by omega))).drew
  have hc : cfE a b = orI (cmpI a.1 b.1) (cmpI a.2 b.2) := rfl
  rw [hc]
  have Hx1 := Lib.hid hx1
  have Hx2 := Lib.hid hx2
  clear hc z1 b1 b2 r1 r2 hx1 hx2
  go_enter Try.func45, Try.ntmps45
  go_upto_region 1 with fail
  rw [Hx1.out, Hx2.out]
  clear Hx1 Hx2
  refine wp_region_held_drew (S := (fun W => (W.cell? ⟨w.heap.size, 0, none⟩ = some (.int .i64 a.1) ∧ W.cell? ⟨w.heap.size, 1, none⟩ = some (.int .i64 a.2)) ∧ W.cell? ⟨w.heap.size + 1, 0, none⟩ = some (.int .i64 b.1) ∧ W.cell? ⟨w.heap.size + 1, 1, none⟩ = some (.int .i64 b.2))) (by kernel_rfl) (⟨⟨R1.out.cell rfl, R1.out.cell rfl⟩, R2.out.cell rfl, R2.out.cell rfl⟩) (fun hH0 => ?_)
  refine wpAnyH_take (i := 0) (v := ?_) rfl (by kernel_rfl) (by kernel_rfl) (by kernel_rfl) (fun _ _ _ h => h) (Or.inl ⟨by rfl, ?_⟩) (by assumption) ?_
  rotate_left
  · (intro wx hSw; (try dsimp only at hSw); go_simp <;> with_reducible rfl)
  try simp only [Act.put, List.setIfInBounds_toArray, List.set_cons_zero, List.set_cons_succ, List.getElem_toArray, List.getElem_cons_zero, List.getElem_cons_succ]
  refine wpAnyH_take (i := 1) (v := ?_) rfl (by kernel_rfl) (by kernel_rfl) (by kernel_rfl) (fun _ _ _ h => h) (Or.inl ⟨by rfl, ?_⟩) (by assumption) ?_
  rotate_left
  · (intro wx hSw; (try dsimp only at hSw); go_simp <;> with_reducible rfl)
  try simp only [Act.put, List.setIfInBounds_toArray, List.set_cons_zero, List.set_cons_succ, List.getElem_toArray, List.getElem_cons_zero, List.getElem_cons_succ]
  refine wpAnyH_take (i := 2) (v := ?_) rfl (by kernel_rfl) (by kernel_rfl) (by kernel_rfl) (fun _ _ _ h => h) (Or.inl ⟨by rfl, ?_⟩) (by assumption) ?_
  rotate_left
  · (intro wx hSw; (try dsimp only at hSw); go_simp <;> with_reducible rfl)
  try simp only [Act.put, List.setIfInBounds_toArray, List.set_cons_zero, List.set_cons_succ, List.getElem_toArray, List.getElem_cons_zero, List.getElem_cons_succ]
  refine wpAnyH_take (i := 3) (v := ?_) rfl (by kernel_rfl) (by kernel_rfl) (by kernel_rfl) (fun _ _ _ h => h) (Or.inl ⟨by rfl, ?_⟩) (by assumption) ?_
  rotate_left
  · (intro wx hSw; (try dsimp only at hSw); go_simp <;> with_reducible rfl)
  try simp only [Act.put, List.setIfInBounds_toArray, List.set_cons_zero, List.set_cons_succ, List.getElem_toArray, List.getElem_cons_zero, List.getElem_cons_succ]
  refine wpAnyH_take (i := 5) (v := ?_) rfl (by kernel_rfl) (by kernel_rfl) (by kernel_rfl) (fun _ _ _ h => h) (Or.inl ⟨by rfl, ?_⟩) (by assumption) ?_
  rotate_left
  · (intro wx hSw; (try dsimp only at hSw); go_simp <;> with_reducible rfl)
  try simp only [Act.put, List.setIfInBounds_toArray, List.set_cons_zero, List.set_cons_succ, List.getElem_toArray, List.getElem_cons_zero, List.getElem_cons_succ]
  refine wpAnyH_take (i := 6) (v := ?_) rfl (by kernel_rfl) (by kernel_rfl) (by kernel_rfl) (fun _ _ _ h => h) (Or.inl ⟨by rfl, ?_⟩) (by assumption) ?_
  rotate_left
  · (intro wx hSw; (try dsimp only at hSw); go_simp <;> with_reducible rfl)
  try simp only [Act.put, List.setIfInBounds_toArray, List.set_cons_zero, List.set_cons_succ, List.getElem_toArray, List.getElem_cons_zero, List.getElem_cons_succ]
  refine wpAnyH_take (i := 7) (v := ?_) rfl (by kernel_rfl) (by kernel_rfl) (by kernel_rfl) (fun _ _ _ h => h) (Or.inl ⟨by rfl, ?_⟩) (by assumption) ?_
  rotate_left
  · (intro wx hSw; (try dsimp only at hSw); go_simp <;> with_reducible rfl)
  try simp only [Act.put, List.setIfInBounds_toArray, List.set_cons_zero, List.set_cons_succ, List.getElem_toArray, List.getElem_cons_zero, List.getElem_cons_succ]
  refine wpAnyH_take (i := 8) (v := ?_) rfl (by kernel_rfl) (by kernel_rfl) (by kernel_rfl) (fun _ _ _ h => h) (Or.inl ⟨by rfl, ?_⟩) (by assumption) ?_
  rotate_left
  · (intro wx hSw; (try dsimp only at hSw); go_simp <;> with_reducible rfl)
  try simp only [Act.put, List.setIfInBounds_toArray, List.set_cons_zero, List.set_cons_succ, List.getElem_toArray, List.getElem_cons_zero, List.getElem_cons_succ]
  refine wpAnyH_ready (rs := [4]) (by kernel_rfl) (by simp) ?_
  refine AllReadyH.cons rfl (fun K hK => ?_) AllReadyH.nil
  go_simp
  go_at_call 47
  with_reducible refine (compare_any _ _ _).mono ?_
  rintro r y1 ⟨rfl, hb⟩
  have HB1 := Lib.hid hb
  go_wp2_with fail
  refine hK.out _ _ (⟨⟨cellL hH0.1.1 hb, cellL hH0.1.2 hb⟩, cellL hH0.2.1 hb, cellL hH0.2.2 hb⟩) (fun hH1 => ?_)
  clear hK K hH0
  try simp only [Act.put, List.setIfInBounds_toArray, List.set_cons_zero, List.set_cons_succ, List.getElem_toArray, List.getElem_cons_zero, List.getElem_cons_succ]
  clear hb
  refine wpAnyH_ready (rs := [9]) (by kernel_rfl) (by simp) ?_
  refine AllReadyH.cons rfl (fun K hK => ?_) AllReadyH.nil
  go_simp
  go_at_call 47
  with_reducible refine (compare_any _ _ _).mono ?_
  rintro r y2 ⟨rfl, hb⟩
  have HB2 := Lib.hid (HB1.out.trans (hb.mono HB1.out.size))
  go_wp2_with fail
  refine hK.out _ _ (⟨⟨cellL hH1.1.1 hb, cellL hH1.1.2 hb⟩, cellL hH1.2.1 hb, cellL hH1.2.2 hb⟩) (fun hH2 => ?_)
  clear hK K hH1
  try simp only [Act.put, List.setIfInBounds_toArray, List.set_cons_zero, List.set_cons_succ, List.getElem_toArray, List.getElem_cons_zero, List.getElem_cons_succ]
  clear hb HB1
  refine wpAnyH_ready (rs := [10]) (by kernel_rfl) (by simp) ?_
  refine AllReadyH.cons rfl (fun K hK => ?_) AllReadyH.nil
  have hb : Below y2.heap.size y2 (y2.alloc (.cells #[.int .i64 (cmpI a.1 b.1), .int .i64 (cmpI a.2 b.2)] 3)) := (Below.refl _ _).alloc (Nat.le_refl _) _
  have HB3 := Lib.hid (HB2.out.trans (hb.mono HB2.out.size))
  go_simp
  refine hK.out _ _ (⟨⟨cellL hH2.1.1 hb, cellL hH2.1.2 hb⟩, cellL hH2.2.1 hb, cellL hH2.2.2 hb⟩) (fun hH3 => ?_)
  clear hK K hH2
  try simp only [Act.put, List.setIfInBounds_toArray, List.set_cons_zero, List.set_cons_succ, List.getElem_toArray, List.getElem_cons_zero, List.getElem_cons_succ]
  clear hb HB2
  refine wpAnyH_ready (rs := [11]) (by kernel_rfl) (by simp) ?_
  refine AllReadyH.cons rfl (fun K hK => ?_) AllReadyH.nil
  go_simp
  go_at_call 46
  with_reducible refine (or_any _ _ _).mono ?_
  rintro r y4 ⟨rfl, hb⟩
  have HB4 := Lib.hid (HB3.out.trans (hb.mono HB3.out.size))
  go_wp2_with fail
  refine hK.out _ _ (⟨⟨cellL hH3.1.1 hb, cellL hH3.1.2 hb⟩, cellL hH3.2.1 hb, cellL hH3.2.2 hb⟩) (fun hH4 => ?_)
  clear hK K hH3
  try simp only [Act.put, List.setIfInBounds_toArray, List.set_cons_zero, List.set_cons_succ, List.getElem_toArray, List.getElem_cons_zero, List.getElem_cons_succ]
  clear hb HB3
  refine wpAnyH_take (i := 12) (v := ?_) rfl (by kernel_rfl) (by kernel_rfl) (by kernel_rfl) (fun _ _ _ h => h) (Or.inl ⟨by rfl, ?_⟩) (by assumption) ?_
  rotate_left
  · (intro wx hSw; (try dsimp only at hSw); go_simp <;> with_reducible rfl)
  try simp only [Act.put, List.setIfInBounds_toArray, List.set_cons_zero, List.set_cons_succ, List.getElem_toArray, List.getElem_cons_zero, List.getElem_cons_succ]
  refine wpAnyH_done (by kernel_rfl) ?_ _
  go_wp2
  go_ret
  exact ⟨rfl, HB0.out.trans (HB4.out.mono HB0.out.size)⟩
/-! ### The library's sort -/
def encE (e : Int × Int) : List Value := [.int .i64 e.1, .int .i64 e.2]
def ltI (a b : Int × Int) : Prop := a.1 < b.1 ∨ (a.1 = b.1 ∧ a.2 < b.2)
theorem ltI_iff (a b : Int × Int) : cfE a b < 0 ↔ ltI a b := by
  unfold cfE orI cmpI ltI
  split <;> split <;> (try split) <;> (try split) <;> omega
instance (a b : Int × Int) : Decidable (ltI a b) := by unfold ltI; infer_instance
theorem ltOf_E (a b : Int × Int) : ltOf cfE a b = decide (ltI a b) := by
  show decide (cfE a b < 0) = _
  rw [decide_eq_decide]; exact ltI_iff a b
theorem swoE : Go.Sort.SWO (ltOf cfE) where
  irrefl x := by rw [ltOf_E, decide_eq_false_iff_not]; unfold ltI; omega
  trans x y z h1 h2 := by
    rw [ltOf_E, decide_eq_true_eq] at *
    unfold ltI at *; omega
  ntrans x y z h1 h2 := by
    rw [ltOf_E, decide_eq_false_iff_not] at *
    unfold ltI at *; omega
/-- Edges lie in the block g, none frozen. -/
def HoldE (w : World) (g : Nat) (l : List (Int × Int)) : Prop := ∀ i e, l[i]? = some e → w.cell? ⟨g, i * 2, none⟩ = some (.int .i64 e.1) ∧ w.cell? ⟨g, i * 2 + 1, none⟩ = some (.int .i64 e.2) ∧ w.frozen? ⟨g, i * 2, none⟩ = false ∧ w.frozen? ⟨g, i * 2 + 1, none⟩ = false
theorem lays_E (g : Nat) (size : Nat) (w : World) : CmpLays Try.prog 45 #[] encE 2 cfE g 0 size w :=
  fun _ _ _ _ x y => calls_grown (new1_any x y _)
theorem sortE_any {w : World} {base g cap : Nat} {l : List (Int × Int)} (h : HoldE w g l) (hg : base ≤ g) (hlt : g < w.heap.size) (hlen : l.length ≤ 1000000) :
    Calls Try.prog 44 #[.slice (some ⟨g, 0, none⟩) l.length cap, .func (.func 45) #[] #[]] w fun r w' => r = .returned (.tuple #[]) ∧ ∃ l', l'.Perm l ∧ l'.Pairwise (fun a b => ¬ ltI b a) ∧ HoldE w' g l' ∧ Below base w w' := by
  have eg : ∀ args w, (callFunc 45 args).run Try.prog w = .ok (.enter 45 args) w := enters_of Try.func45 (by kernel_rfl) rfl
  have hH : Go.Sort.HoldsK encE 2 w g 0 l.toArray := by
    intro t ht
    rw [Go.Sort.size_flatK] at ht
    have hi : t / 2 < l.length := by simp at ht; omega
    obtain ⟨h1, h2, h3, h4⟩ := h (t / 2) l[t / 2] (List.getElem?_eq_getElem hi)
    rw [Nat.zero_add, Go.Sort.get_flatK _ _ _ _ ht, getElem!_pos l.toArray _ (by simpa using hi)]
    rcases (by omega : t % 2 = 0 ∨ t % 2 = 1) with q | q
    · rw [q]
      rw [show t / 2 * 2 = t by omega] at h1 h3
      exact ⟨h1, h3⟩
    · rw [q]
      rw [show t / 2 * 2 + 1 = t by omega] at h2 h4
      exact ⟨h2, h4⟩
  have hcon := AnyQ.slices_SortFunc sortEd 2 Try.isAgg60 Try.sizeOf60 encE (fun _ => rfl) (fun x v hv => by
    simp [encE] at hv
    rcases hv with rfl | rfl <;> rfl) cfE swoE 45 #[] g 0 cap l.toArray w eg (lays_E g l.toArray.size w) hH hlt (by simp; omega)
  rw [List.size_toArray] at hcon
  refine hcon.mono ?_
  rintro e w' ⟨rfl, d', n, os, hp, hs, rfl⟩
  have hsz' : d'.size = l.length := by have := hp.1; simpa using this
  refine ⟨rfl, d'.toList, ?_, ?_, fun i x hx => ?_, ?_⟩
  · have h := hp.2.2
    have e1 : d'.extract 0 l.length = d' := by rw [← hsz']; simp
    have e2 : l.toArray.extract 0 l.length = l.toArray := by
      have : l.length = l.toArray.size := by simp
      rw [this]; simp
    rw [e1, e2] at h
    exact h
  · rw [List.pairwise_iff_getElem]
    intro i j hi hj hij
    have h := hs i j (Nat.zero_le _) hij (by simpa [hsz'] using hj)
    rw [getElem!_pos d' j (by simpa using hj), getElem!_pos d' i (by simpa using hi), ltOf_E, decide_eq_false_iff_not] at h
    simpa using h
  · have hh := holdsK_sortWorldK encE 2 w g 0 n l.toArray d' os hlt hH (by simpa using hsz')
    rw [Array.getElem?_toList] at hx
    obtain ⟨hi, rfl⟩ := Array.getElem?_eq_some_iff.1 hx
    have h0 : i * 2 < d'.size * 2 := by omega
    have h1 : i * 2 + 1 < d'.size * 2 := by omega
    have k0 := hh (i * 2) (by rw [Go.Sort.size_flatK]; exact h0)
    have k1 := hh (i * 2 + 1) (by rw [Go.Sort.size_flatK]; exact h1)
    rw [Nat.zero_add, Go.Sort.get_flatK _ _ _ _ h0, show i * 2 / 2 = i by omega, show i * 2 % 2 = 0 by omega, getElem!_pos d' i hi] at k0
    rw [Nat.zero_add, Go.Sort.get_flatK _ _ _ _ h1, show (i * 2 + 1) / 2 = i by omega, show (i * 2 + 1) % 2 = 1 by omega, getElem!_pos d' i hi] at k1
    exact ⟨k0.1, k1.1, k0.2, k1.2⟩
  · refine ⟨rfl, rfl, rfl, ?_, fun k hk => ?_⟩
    · simp [sortWorldK, Go.Sort.grow, Go.Sort.putRowK, Go.Sort.putRow, Go.Sort.mapBlock, Go.Sort.ahead]
    · simp only [sortWorldK, Go.Sort.grow, Go.Sort.putRowK, Go.Sort.putRow, Go.Sort.mapBlock, Go.Sort.ahead]
      rw [Array.getElem?_append_left (by simp; omega), Array.getElem?_modify, if_neg (by omega)]
end Go.Proofs.Yteiddebjbiadbaa
