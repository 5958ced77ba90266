/- Law 24: Base. -/
import Derived.Test.YthghfhnicdoebaaGreatDoorVplA
import Derived.Test.YthghfhnicdoebaaGreatDoorShoA
import Derived.Test.YthghfhnicdoebaaGreatDoorRfI
import Derived.Deep.LoopGhost
import Derived.Deep.RegionHeld3
import Derived.Deep.CutBlock
namespace Go.Proofs.YthghfhnicdoebaaGreatDoor
open Go.RowKit
attribute [local go_sem ↓] Go.wp_at_zero Go.wp_at_succ

/-- The objects of the first changes. -/
def baseL (fo : Nat → ChangeT) : Nat → List (NameT × ByteArray)
  | 0 => []
  | k + 1 => if (shortC (fo k)).absent = true then baseL fo k else if checkE (shortC (fo k)).name ≠ 0 then baseL fo k else putL cmpN (baseL fo k) (shortC (fo k)).name (shortC (fo k)).value
structure LOk (l : List (NameT × ByteArray)) (k : Nat) : Prop where
  s : SortL cmpN l
  n : l.length ≤ k
  e : ∀ e ∈ l, FitN e.1 ∧ checkE e.1 = 0 ∧ e.2.size ≤ 70
theorem fit_short (c : ChangeT) : FitN (shortC c).name := by
  have h1 := cutB_size c.name.owner 100
  have h2 := cutB_size c.name.text 100
  unfold FitN shortC
  dsimp only
  omega
theorem LOk.more {l : List (NameT × ByteArray)} {k m : Nat} (h : LOk l k) (hk : k ≤ m) : LOk l m := ⟨h.s, Nat.le_trans h.n hk, h.e⟩
theorem baseL_ok (fo : Nat → ChangeT) (k : Nat) : LOk (baseL fo k) k := by
  induction k with
  | zero => exact ⟨List.Pairwise.nil, Nat.le_refl _, fun _ h => nomatch h⟩
  | succ k ih =>
    unfold baseL
    split
    · exact ih.more (Nat.le_succ _)
    split
    · exact ih.more (Nat.le_succ _)
    · rename_i he
      refine ⟨sort_put cmpN_ok ih.s _ _, Nat.le_trans (put_length _ _) (Nat.succ_le_succ ih.n), fun e h => ?_⟩
      rcases putL_mem h with rfl | h
      · exact ⟨fit_short _, Decidable.of_not_not he, short_size _⟩
      · exact ih.e e h
theorem LOk.fit {l : List (NameT × ByteArray)} {k : Nat} (h : LOk l k) : ∀ e ∈ l, FitN e.1 := fun e he => (h.e e he).1
theorem base_skip {fo : Nat → ChangeT} {k : Nat} (h : (shortC (fo k)).absent = true) : baseL fo (k + 1) = baseL fo k := if_pos h
theorem base_bad {fo : Nat → ChangeT} {k : Nat} (h : checkE (shortC (fo k)).name ≠ 0) : baseL fo (k + 1) = baseL fo k := by
  show (if _ then _ else _) = _
  split
  · rfl
  · first | rfl | exact if_pos h
theorem base_good {fo : Nat → ChangeT} {k : Nat} (h : (shortC (fo k)).absent = false) (hc : checkE (shortC (fo k)).name = 0) : baseL fo (k + 1) = putL cmpN (baseL fo k) (shortC (fo k)).name (shortC (fo k)).value := by
  show (if _ then _ else _) = _
  rw [if_neg (by rw [h]; decide)]
  exact if_neg (not_not_intro hc)
theorem setF_put {l : List (NameT × ByteArray)} (h : SortL cmpN l) (n : NameT) (v : ByteArray) : setF (getL cmpN l) n v = getL cmpN (putL cmpN l n v) := by
  funext k
  rw [get_put cmpN_ok h, setF]
  simp only [cmpN_ok.zero]
theorem put_ne (l : List (NameT × ByteArray)) (n : NameT) (v : ByteArray) : putL cmpN l n v ≠ [] := by
  cases l with
  | nil => exact List.cons_ne_nil _ _
  | cons e l =>
    unfold putL
    split
    · exact List.cons_ne_nil _ _
    · split <;> exact List.cons_ne_nil _ _
/-- A slice of changes of the reference that can be read. -/
def C24Sl (w : World) (a : Option Addr) (n : Nat) (f : Nat → ChangeT) : Prop :=
  0 < n → ∃ g off, a = some ⟨g, off, none⟩ ∧ ∀ j, j < n → w.cell? ⟨g, off + j * 7, none⟩ = some (.int .i64 (f j).name.kind) ∧ w.cell? ⟨g, off + j * 7 + 1, none⟩ = some (.string (f j).name.owner) ∧ w.cell? ⟨g, off + j * 7 + 2, none⟩ = some (.int .i64 (f j).name.number) ∧
    w.cell? ⟨g, off + j * 7 + 3, none⟩ = some (.int .i64 (f j).name.index) ∧ w.cell? ⟨g, off + j * 7 + 4, none⟩ = some (.string (f j).name.text) ∧ w.cell? ⟨g, off + j * 7 + 5, none⟩ = some (.string (f j).value) ∧ w.cell? ⟨g, off + j * 7 + 6, none⟩ = some (.bool (f j).absent) ∧
    (f j).name.owner.size ≤ 9223372036854775807 ∧ (f j).name.text.size ≤ 9223372036854775807 ∧ (f j).value.size ≤ 9223372036854775807
theorem C24Sl.later {w w' : World} {a : Option Addr} {n : Nat} {f : Nat → ChangeT} (h : C24Sl w a n f) (hb : Below w.heap.size w w') : C24Sl w' a n f := fun h0 => by
  obtain ⟨g, off, rfl, hc⟩ := h h0
  have hg : g < w.heap.size := World.block_lt_of_cell? w _ (hc 0 h0).1
  refine ⟨g, off, rfl, fun j hj => ?_⟩
  obtain ⟨c0, c1, c2, c3, c4, c5, c6, c7⟩ := hc j hj
  exact ⟨((bcell hb).1 _ _ hg).trans c0, ((bcell hb).1 _ _ hg).trans c1, ((bcell hb).1 _ _ hg).trans c2, ((bcell hb).1 _ _ hg).trans c3, ((bcell hb).1 _ _ hg).trans c4, ((bcell hb).1 _ _ hg).trans c5, ((bcell hb).1 _ _ hg).trans c6, c7⟩
structure BI (w wr : World) (fo : Nat → ChangeT) (k sp : Nat) (v : Value) : Prop where
  below : Below w.heap.size w wr
  base : BaseN k wr.heap.size wr sp (getL cmpN (baseL fo k))
  row : RowK kE wr v (baseL fo k)
  ne : v = .slice none 0 0 ∨ baseL fo k ≠ []
theorem BI.next {w wr w' : World} {fo : Nat → ChangeT} {k sp : Nat} {v : Value} (h : BI w wr fo k sp v) (hb : Below wr.heap.size wr w') (he : baseL fo (k + 1) = baseL fo k) : BI w w' fo (k + 1) sp v := by
  refine ⟨h.below.trans (hb.mono h.below.size), ?_, by rw [he]; exact h.row.later hb, by rw [he]; exact h.ne⟩
  rw [he]
  obtain ⟨t, h1, h2, h3⟩ := (h.base.later hb).up hb.size
  exact ⟨t, h1, Nat.le_succ_of_le h2, h3⟩
/-- What Base leaves. -/
def Base24Post (fo : Nat → ChangeT) (k : Nat) (w : World) (r : Ending) (w' : World) : Prop := ∃ sp v, r = .returned (.tuple #[.pointer (some ⟨sp, 0, none⟩), v]) ∧ BI w w' fo k sp v

set_option maxRecDepth 100000 in
set_option maxHeartbeats 3200000 in
theorem base24_any (a : Option Addr) (n c : Nat) (fo : Nat → ChangeT) (w : World) (hu : Usages w) (hn : n ≤ 9223372036854775807) (hl : C24Sl w a n fo) :
    Calls Tryz.prog 8 #[.slice a n c] w (Base24Post fo (min n 12) w) := by
  have Hl := Lib.hid hl; clear hl
  have Hu := Lib.hid hu; clear hu
  have HMin : Hid (∀ k, k ≤ n → k ≤ 12 → ¬ (k < n ∧ k < 12) → min n 12 = k) := fun k h1 h2 h3 => by omega
  generalize min n 12 = mm at *
  go_enter Tryz.func8, Tryz.ntmps8
  go_wp2_with fail
  refine (stateNew_any w).mono ?_
  rintro r w1 ⟨rfl, rfl⟩
  have I0 : Hid (BI w (w.alloc (.cells #[.pointer none] 109)) fo 0 w.heap.size (.slice none 0 0)) := ⟨(Below.refl _ _).alloc (Nat.le_refl _) _, baseN_empty w, RowK.nil _, .inl rfl⟩
  generalize (w.alloc (.cells #[.pointer none] 109)) = w1 at *
  generalize w.heap.size = sp0 at *
  go_wp2_with fail
  go_loopg [4, 5, 6] n (fun gk sv wv iv wr => ∃ (k sp : Nat), k + gk = n ∧ iv = .int .i64 k ∧ k ≤ 12 ∧ sv = .pointer (some ⟨sp, 0, none⟩) ∧ Hid (BI w wr fo k sp wv))
  case atStart => exact ⟨0, sp0, by omega, rfl, by omega, rfl, I0⟩
  case round =>
    clear I0
    obtain ⟨k, sp, hk, rfl, hk12, rfl, HI⟩ := hrel
    have Hk := Lib.hid hk
    have hkn : k ≤ n := by omega
    clear hk
    by_cases hlt : k < n ∧ k < 12
    · obtain ⟨hlt, hlt12⟩ := hlt
      clear HMin
      obtain ⟨g, off, rfl, hc⟩ := Hl.out.later HI.out.below (by omega)
      obtain ⟨c0, c1, c2, c3, c4, c5, c6, z0, z1, z2⟩ := hc k hlt
      clear hc
      have HSk : Hid ((shortC (fo k)).absent = true → baseL fo (k + 1) = baseL fo k) := base_skip
      have HBad : Hid (checkE (shortC (fo k)).name ≠ 0 → baseL fo (k + 1) = baseL fo k) := base_bad
      have HGood : Hid ((shortC (fo k)).absent = false → checkE (shortC (fo k)).name = 0 → baseL fo (k + 1) = putL cmpN (baseL fo k) (shortC (fo k)).name (shortC (fo k)).value) := base_good
      have HFit : Hid (FitN (shortC (fo k)).name) := fit_short _
      have HSz : Hid ((shortC (fo k)).value.size ≤ 70) := short_size _
      have HSh : Hid (∀ W, Calls Tryz.prog 35 #[.agg #[.int .i64 (fo k).name.kind, .string (fo k).name.owner, .int .i64 (fo k).name.number, .int .i64 (fo k).name.index, .string (fo k).name.text, .string (fo k).value, .bool (fo k).absent]] W fun r w' => r = .returned (.agg #[.int .i64 (shortC (fo k)).name.kind, .string (shortC (fo k)).name.owner, .int .i64 (shortC (fo k)).name.number, .int .i64 (shortC (fo k)).name.index, .string (shortC (fo k)).name.text, .string (shortC (fo k)).value, .bool (shortC (fo k)).absent]) ∧ Below W.heap.size W w') := fun W => short_any _ _ _ _ _ _ _ W z0 z1 z2
      clear z0 z1 z2
      generalize shortC (fo k) = s at *
      obtain ⟨⟨s1, s2, s3, s4, s5⟩, s6, s7⟩ := s
      dsimp only at *
      go_wp2_with fail
      refine (HSh.out wr).mono ?_
      rintro r w3 ⟨rfl, hb3⟩
      have HB3 := Lib.hid hb3
      have HB4 : Hid (Below wr.heap.size wr (w3.alloc (.cells #[.int .i64 s1, .string s2, .int .i64 s3, .int .i64 s4, .string s5, .string s6, .bool s7] 40))) := hb3.trans (((Below.refl _ _).alloc (Nat.le_refl _) _).mono hb3.size)
      clear hb3 c0 c1 c2 c3 c4 c5 c6 HSh
      cases s7 with
      | true =>
        have HIn := Lib.hid (HI.out.next HB4.out (HSk.out (by first | rfl | trivial)))
        clear HI HB3
        go_wp2
        go_roundg (n - (k + 1))
        case measure => have := Hk.out; omega
        case rel => exact ⟨k + 1, sp, by have := Hk.out; omega, by go_num, by omega, rfl, HIn⟩
      | false =>
        have HX := Lib.hid (heap_alloc_new w3 (.cells #[.int .i64 s1, .string s2, .int .i64 s3, .int .i64 s4, .string s5, .string s6, .bool false] 40))
        go_upto_region 8 with fail
        generalize (w3.alloc (.cells #[.int .i64 s1, .string s2, .int .i64 s3, .int .i64 s4, .string s5, .string s6, .bool false] 40)) = U at *
        generalize w3.heap.size = X at *
        have HS : Hid (∀ W, Below U.heap.size U W → W.cell? ⟨X, 0, none⟩ = some (.int .i64 s1) ∧ W.cell? ⟨X, 1, none⟩ = some (.string s2) ∧ W.cell? ⟨X, 2, none⟩ = some (.int .i64 s3) ∧ W.cell? ⟨X, 3, none⟩ = some (.int .i64 s4) ∧ W.cell? ⟨X, 4, none⟩ = some (.string s5) ∧ W.cell? ⟨X, 5, none⟩ = some (.string s6)) := fun W hW => by
          have h := (hW.block X (lt_of_heap HX.out)).trans HX.out
          exact ⟨cell_of_heap h 0, cell_of_heap h 1, cell_of_heap h 2, cell_of_heap h 3, cell_of_heap h 4, cell_of_heap h 5⟩
        have HTo : Hid (∀ W, Calls Tryz.prog 36 #[.agg #[.int .i64 s1, .string s2, .int .i64 s3, .int .i64 s4, .string s5]] W fun r w' => r = .returned (.agg #[.int .i64 s1, .string s2, .int .i64 s3, .int .i64 s4, .string s5]) ∧ Below W.heap.size W w') := fun W => to04_any s1 s2 s3 s4 s5 W
        have HUU := Lib.hid (Below.refl U.heap.size U).drew
        have HUsU : Hid (∀ W, Below U.heap.size U W → Usages W) := fun W hW => (Hu.out.below (HI.out.below.trans (HB4.out.mono HI.out.below.size)) Hu.out.pos).below hW ((Hu.out.below (HI.out.below.trans (HB4.out.mono HI.out.below.size)) Hu.out.pos).pos)
        clear HX HB3
        by_cases he : checkE ⟨s1, s2, s3, s4, s5⟩ = 0
        · have HWi : Hid (∀ W, Below U.heap.size U W → Calls Tryz.prog 28 #[.pointer (some ⟨sp, 0, none⟩), .agg #[.int .i64 s1, .string s2, .int .i64 s3, .int .i64 s4, .string s5], .string s6] W (SWPost k W (getL cmpN (baseL fo k)) ⟨s1, s2, s3, s4, s5⟩ s6)) := fun W hW =>
            baseWith (B := W.heap.size) (HUsU.out W hW) (((HI.out.base.later HB4.out).up HB4.out.size |>.later hW).up hW.size) (by omega) (nameOk_of HFit.out he) (by have := HSz.out; omega)
          have HWr : Hid (∀ W, Below U.heap.size U W → Calls Tryz.prog 37 #[u5, .agg #[.int .i64 s1, .string s2, .int .i64 s3, .int .i64 s4, .string s5], .string s6] W (RWithP (baseL fo k) ⟨s1, s2, s3, s4, s5⟩ s6 W)) := fun W hW =>
            rWith_any W u5 _ ((HI.out.row.later HB4.out).later hW) ⟨s1, s2, s3, s4, s5⟩ s6 HFit.out (baseL_ok fo k).fit (by have := (baseL_ok fo k).n; omega) (baseL_ok fo k).s (by have := HSz.out; omega)
          have HE : Hid (withE ⟨s1, s2, s3, s4, s5⟩ s6 = 0) := by
            show _ = _
            unfold withE
            rw [if_neg (not_not_intro he), if_neg (by have := HSz.out; omega)]
          have HG := Lib.hid (HGood.out (by first | rfl | trivial) he)
          clear HSk HBad HGood he
          go_region_held3 (fun W => W.cell? ⟨X, 0, none⟩ = some (.int .i64 s1) ∧ W.cell? ⟨X, 1, none⟩ = some (.string s2) ∧ W.cell? ⟨X, 2, none⟩ = some (.int .i64 s3) ∧ W.cell? ⟨X, 3, none⟩ = some (.int .i64 s4) ∧ W.cell? ⟨X, 4, none⟩ = some (.string s5) ∧ W.cell? ⟨X, 5, none⟩ = some (.string s6)) (first | with_reducible exact HS.out _ HUU.out | with_reducible exact HS.out _ HB5.out | with_reducible exact HS.out _ HB6.out | go_keep)
            (first
              | (go_at_call 36; refine (HTo.out _).mono ?_; rintro r w5 ⟨rfl, hb5⟩; have HB5 : Hid (Below U.heap.size U w5) := (Below.refl _ _).drew.trans hb5; clear hb5)
              | (go_at_call 28; refine (HWi.out _ HB5.out).mono ?_; rintro r w6 ⟨sp6, rfl, hb6, hbn6⟩; have HB6 : Hid (Below U.heap.size U w6) := HB5.out.trans (hb6.mono HB5.out.size); have Hbn6 := Lib.hid hbn6; clear hb6 hbn6)
              | fail)
          have x0 := (HS.out w6 HB6.out).1
          have x1 := (HS.out w6 HB6.out).2.1
          have x2 := (HS.out w6 HB6.out).2.2.1
          have x3 := (HS.out w6 HB6.out).2.2.2.1
          have x4 := (HS.out w6 HB6.out).2.2.2.2.1
          have x5 := (HS.out w6 HB6.out).2.2.2.2.2
          go_wp2_with fail
          refine (HWr.out w6 HB6.out).mono ?_
          rintro r w7 ⟨v7, e7, rfl, rfl, hrow7, hb7⟩
          rw [HE.out] at hrow7 ⊢
          have HIn : Hid (BI w w7 fo (k + 1) sp6 v7) := by
            have h1 : Below wr.heap.size wr w7 := HB4.out.trans ((HB6.out.trans (hb7.mono HB6.out.size)).mono HB4.out.size)
            refine ⟨HI.out.below.trans (h1.mono HI.out.below.size), ?_, ?_, .inr (by rw [HG.out]; exact put_ne _ _ _)⟩
            · rw [HG.out, ← setF_put (baseL_ok fo k).s]
              exact (Hbn6.out.later hb7).up hb7.size
            · rw [HG.out]
              exact hrow7 rfl
          clear hrow7 hb7 HI HB4 HB5 HB6 Hbn6 x0 x1 x2 x3 x4 x5 HWi HWr
          go_wp2
          go_roundg (n - (k + 1))
          case measure => have := Hk.out; omega
          case rel => exact ⟨k + 1, sp6, by have := Hk.out; omega, by go_num, by omega, rfl, HIn⟩
        · have HWi : Hid (∀ W, Below U.heap.size U W → Calls Tryz.prog 28 #[.pointer (some ⟨sp, 0, none⟩), .agg #[.int .i64 s1, .string s2, .int .i64 s3, .int .i64 s4, .string s5], .string s6] W fun r w' => r = .returned (.tuple #[.pointer none, .int .i64 12]) ∧ Below W.heap.size W w') := fun W hW =>
            stateWith_name sp ⟨s1, s2, s3, s4, s5⟩ s6 _ W he (fun W' hW' => checkName_any ⟨s1, s2, s3, s4, s5⟩ W' ((HUsU.out W hW).below hW' (HUsU.out W hW).pos) HFit.out)
          have HWr : Hid (∀ W, Below U.heap.size U W → Calls Tryz.prog 37 #[u5, .agg #[.int .i64 s1, .string s2, .int .i64 s3, .int .i64 s4, .string s5], .string s6] W (RWithP (baseL fo k) ⟨s1, s2, s3, s4, s5⟩ s6 W)) := fun W hW =>
            rWith_any W u5 _ ((HI.out.row.later HB4.out).later hW) ⟨s1, s2, s3, s4, s5⟩ s6 HFit.out (baseL_ok fo k).fit (by have := (baseL_ok fo k).n; omega) (baseL_ok fo k).s (by have := HSz.out; omega)
          have HE : Hid (withE ⟨s1, s2, s3, s4, s5⟩ s6 = 12) := if_pos he
          have HG := Lib.hid (HBad.out he)
          clear HSk HBad HGood he
          go_region_held3 (fun W => W.cell? ⟨X, 0, none⟩ = some (.int .i64 s1) ∧ W.cell? ⟨X, 1, none⟩ = some (.string s2) ∧ W.cell? ⟨X, 2, none⟩ = some (.int .i64 s3) ∧ W.cell? ⟨X, 3, none⟩ = some (.int .i64 s4) ∧ W.cell? ⟨X, 4, none⟩ = some (.string s5) ∧ W.cell? ⟨X, 5, none⟩ = some (.string s6)) (first | with_reducible exact HS.out _ HUU.out | with_reducible exact HS.out _ HB5.out | with_reducible exact HS.out _ HB6.out | go_keep)
            (first
              | (go_at_call 36; refine (HTo.out _).mono ?_; rintro r w5 ⟨rfl, hb5⟩; have HB5 : Hid (Below U.heap.size U w5) := (Below.refl _ _).drew.trans hb5; clear hb5)
              | (go_at_call 28; refine (HWi.out _ HB5.out).mono ?_; rintro r w6 ⟨rfl, hb6⟩; have HB6 : Hid (Below U.heap.size U w6) := HB5.out.trans (hb6.mono HB5.out.size); clear hb6)
              | fail)
          have x0 := (HS.out w6 HB6.out).1
          have x1 := (HS.out w6 HB6.out).2.1
          have x2 := (HS.out w6 HB6.out).2.2.1
          have x3 := (HS.out w6 HB6.out).2.2.2.1
          have x4 := (HS.out w6 HB6.out).2.2.2.2.1
          have x5 := (HS.out w6 HB6.out).2.2.2.2.2
          go_wp2_with fail
          refine (HWr.out w6 HB6.out).mono ?_
          rintro r w7 ⟨v7, e7, rfl, rfl, -, hb7⟩
          rw [HE.out]
          have HIn : Hid (BI w w7 fo (k + 1) sp u5) := HI.out.next (HB4.out.trans ((HB6.out.trans (hb7.mono HB6.out.size)).mono HB4.out.size)) HG.out
          clear hb7 HI HB4 HB5 HB6 x0 x1 x2 x3 x4 x5 HWi HWr
          go_wp2
          go_roundg (n - (k + 1))
          case measure => have := Hk.out; omega
          case rel => exact ⟨k + 1, sp, by have := Hk.out; omega, by go_num, by omega, rfl, HIn⟩
    · have hways : ¬ k < n ∨ (k < n ∧ ¬ k < 12) := by omega
      have HM := Lib.hid (HMin.out k hkn hk12 hlt)
      clear hlt HMin
      rcases hways with h5 | ⟨h5, h5'⟩
      all_goals
        have HP : Hid (Base24Post fo mm w (.returned (.tuple #[.pointer (some ⟨sp, 0, none⟩), u5])) wr) := ⟨sp, u5, rfl, by rw [HM.out]; exact HI.out⟩
        go_wp2
        go_ret2
        exact HP.out
/-- What Base returns, its row apart. -/
def BaseRow (l : List (NameT × ByteArray)) (w : World) (r : Ending) (w' : World) : Prop :=
  ∃ sp a n c, r = .returned (.tuple #[.pointer (some ⟨sp, 0, none⟩), .slice a n c]) ∧ Below w.heap.size w w' ∧ BaseN 12 w'.heap.size w' sp (getL cmpN l) ∧ RowK kE w' (.slice a n c) l ∧ (Value.slice a n c = Value.slice none 0 0 ∨ l ≠ [])
theorem base_row {fo : Nat → ChangeT} {n : Nat} {w w' : World} {r : Ending} (h : Base24Post fo (min n 12) w r w') : BaseRow (baseL fo (min n 12)) w r w' := by
  obtain ⟨sp, v, rfl, hi⟩ := h
  obtain ⟨a, c, e, -⟩ := hi.row.form
  subst e
  obtain ⟨t, h1, h2, h3⟩ := hi.base
  exact ⟨sp, a, _, c, rfl, hi.below, ⟨t, h1, Nat.le_trans h2 (Nat.min_le_right _ _), h3⟩, hi.row, hi.ne⟩
/-- The block of a row of objects is no block of slices. -/
theorem rowE_not {W : World} {v : Value} {xs : List (NameT × ByteArray)} (h : RowK kE W v xs) (hne : v = .slice none 0 0 ∨ xs ≠ []) {P : Nat} {cs : Array Value} {T : TypeId} {fr : Nat × Nat} (hP : W.heap[P]? = some (.cells cs T fr)) (hcs : ∀ (i : Nat) (u : Value), cs[i]? = some u → ∃ a n c, u = Value.slice a n c) : ∀ k, v.ownBlock = some k → k ≠ P := by
  intro k hk e
  subst e
  rcases hne with rfl | hne
  · cases hk
  · rcases h with ⟨-, rfl⟩ | ⟨g, off, c, rfl, hc, h⟩
    · exact hne rfl
    · cases xs with
      | nil => exact hne rfl
      | cons x xs =>
        have h0 := h 0 x rfl 0 (.int .i64 x.1.kind) rfl
        cases hk
        rw [cell_of_heap hP] at h0
        obtain ⟨a, n, c, e⟩ := hcs _ _ h0
        cases e
theorem rowE_lt {W : World} {v : Value} {xs : List (NameT × ByteArray)} (h : RowK kE W v xs) (hne : v = .slice none 0 0 ∨ xs ≠ []) : ∀ k, v.ownBlock = some k → k < W.heap.size := by
  intro k hk
  rcases hne with rfl | hne
  · cases hk
  · rcases h with ⟨-, rfl⟩ | ⟨g, off, c, rfl, hc, h⟩
    · exact absurd rfl hne
    · cases xs with
      | nil => exact absurd rfl hne
      | cons x xs =>
        have h0 := h 0 x rfl 0 (.int .i64 x.1.kind) rfl
        cases hk
        exact World.block_lt_of_cell? W _ h0
end Go.Proofs.YthghfhnicdoebaaGreatDoor
