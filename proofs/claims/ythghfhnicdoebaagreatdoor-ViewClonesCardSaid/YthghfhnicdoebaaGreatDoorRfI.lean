/- Reference 04: Check. (printed by wip/gen_rf.py) Rows of structs whose parts lie cell by cell: reading, slicing, append. Reference 05: Find, Get. (printed by wip/gen_rf.py) Reference 05: Get, With. (printed by wip/gen_rf.py) Reference 05: With. (printed by wip/gen_rf.py) -/
import Derived.Test.YthghfhnicdoebaaGreatDoorRfD
import Derived.Test.YthghfhnicdoebaaGreatDoorNeqC
import Derived.BigQuiet
import Derived.Deep.CutBlock
import Derived.Deep.DeepCutAuto
import Derived.Deep.RegionHeld3
import Derived.Maps.AppendAt
import Derived.Laws.AppendOwnNone
import Derived.Laws.OwnMore
import Derived.Deep.LoopGhost
import Derived.Deep.RegionLaw
namespace Go.Proofs.YthghfhnicdoebaaGreatDoor
open Go.RowKit

theorem below_toDrewN3 {B : Nat} {w w1 : World} (h : Below B w w1) (k : Nat) : Below B w (w1.drewN k) := ⟨h.os, h.tape, h.output, h.size, h.block⟩
theorem checkE_no {n : NameT} (h : ¬ (1 ≤ n.kind ∧ n.kind ≤ 20)) : checkE n = 11 := by unfold checkE; rw [if_pos h]
theorem checkE_u {n : NameT} (h : 1 ≤ n.kind ∧ n.kind ≤ 20) : checkE n = checkU (useT n.kind.toNat).owner (useT n.kind.toNat).number (useT n.kind.toNat).index (useT n.kind.toNat).text (useT n.kind.toNat).most n := by
  unfold checkE
  rw [if_neg (fun h2 => h2 h)]
  rfl
theorem most_nat (k : Int) (h : 1 ≤ k ∧ k ≤ 20) : 0 ≤ (useT k.toNat).most := by
  have hk : k = 1 ∨ k = 2 ∨ k = 3 ∨ k = 4 ∨ k = 5 ∨ k = 6 ∨ k = 7 ∨ k = 8 ∨ k = 9 ∨ k = 10 ∨ k = 11 ∨ k = 12 ∨ k = 13 ∨ k = 14 ∨ k = 15 ∨ k = 16 ∨ k = 17 ∨ k = 18 ∨ k = 19 ∨ k = 20 := by omega
  clear h
  rcases hk with rfl | rfl | rfl | rfl | rfl | rfl | rfl | rfl | rfl | rfl | rfl | rfl | rfl | rfl | rfl | rfl | rfl | rfl | rfl | rfl
  all_goals decide
theorem emp_yes {s : ByteArray} (h : s = ⟨#[]⟩) : s.toList.isEmpty = true := by subst h; rw [toList_empty]; rfl
/-- Whether something is set that the kind does not use. -/
def B4 (o nu ix tx : Bool) (n : NameT) : Bool := decide ((o = false ∧ n.owner ≠ ⟨#[]⟩) ∨ (nu = false ∧ n.number ≠ 0) ∨ (ix = false ∧ n.index ≠ 0) ∨ (tx = false ∧ n.text ≠ ⟨#[]⟩))
def B8 (mm : Int) (n : NameT) : Bool := decide (n.number < 0 ∨ 1073741824 < n.number ∨ n.index < 0 ∨ max mm 0 < n.index)
theorem checkU_val (o nu ix tx : Bool) (mo : Int) (n : NameT) (h0 : 0 ≤ mo) : checkU o nu ix tx mo n = if B4 o nu ix tx n = true then 1 else if (o && !validB n.owner) = true then 12 else if B8 (if ix = true then mo else -1) n = true then 2 else if (tx && !wordB n.text) = true then 12 else 0 := by
  unfold checkU B4 B8
  simp only [decide_eq_true_eq]
  split
  · rfl
  rename_i h4
  have e2 : (o && !validB n.owner) = true ↔ (o = true ∧ validB n.owner = false) := by cases o <;> cases validB n.owner <;> simp
  have e3 : (tx && !wordB n.text) = true ↔ (tx = true ∧ wordB n.text = false) := by cases tx <;> cases wordB n.text <;> simp
  have e8 : (n.number < 0 ∨ 1073741824 < n.number ∨ n.index < 0 ∨ max (if ix = true then mo else -1) 0 < n.index) ↔ ((nu = true ∧ ¬ (0 ≤ n.number ∧ n.number ≤ 1073741824)) ∨ (ix = true ∧ ¬ (0 ≤ n.index ∧ n.index ≤ mo))) := by
    have hn : nu = false → n.number = 0 := fun h => Classical.byContradiction fun h2 => h4 (.inr (.inl ⟨h, h2⟩))
    have hi : ix = false → n.index = 0 := fun h => Classical.byContradiction fun h2 => h4 (.inr (.inr (.inl ⟨h, h2⟩)))
    cases nu <;> cases ix <;> simp at * <;> omega
  simp only [e2, e3, e8]

theorem rChk_no (n1 : Int) (n2 : ByteArray) (n3 n4 : Int) (n5 : ByteArray) (w : World) (h : ¬ (1 ≤ n1 ∧ n1 ≤ 20)) : Calls Tryz.prog 72 #[.agg #[.int .i64 n1, .string n2, .int .i64 n3, .int .i64 n4, .string n5]] w fun r w' => r = .returned (.int .i64 11) ∧ Below w.heap.size w w' := by
  have hb : Hid (∀ o, Below w.heap.size w (w.alloc o)) := fun o => (Below.refl _ _).alloc (Nat.le_refl _) _
  have hways : n1 < 1 ∨ (1 ≤ n1 ∧ 20 < n1) := by omega
  clear h
  rcases hways with h | ⟨h, h'⟩
  all_goals
    go_enter Tryz.func72, Tryz.ntmps72
    go_wp2
    go_ret
    exact ⟨rfl, hb.out _⟩

set_option maxRecDepth 100000 in
set_option maxHeartbeats 3200000 in
theorem rChk_yes (n1 : Int) (n2 : ByteArray) (n3 n4 : Int) (n5 : ByteArray) (w : World) (h : 1 ≤ n1 ∧ n1 ≤ 20) (hs2 : n2.size ≤ 70368744177664) (hs5 : n5.size ≤ 70368744177664) (o nu ix tx : Bool) (mm : Int)
    (hO : ∀ W, Calls Tryz.prog 93 #[.int .i64 n1] W fun r w' => r = .returned (.bool o) ∧ W = w') (hN : ∀ W, Calls Tryz.prog 94 #[.int .i64 n1] W fun r w' => r = .returned (.bool nu) ∧ W = w') (hM : ∀ W, Calls Tryz.prog 95 #[.int .i64 n1] W fun r w' => r = .returned (.int .i64 mm) ∧ W = w') (hT : ∀ W, Calls Tryz.prog 96 #[.int .i64 n1] W fun r w' => r = .returned (.bool tx) ∧ W = w')
    (hm1 : ix = true → 0 ≤ mm) (hm2 : ix = false → mm < 0) (v : Int) (hv : (if B4 o nu ix tx ⟨n1, n2, n3, n4, n5⟩ = true then 1 else if (o && !validB n2) = true then 12 else if B8 mm ⟨n1, n2, n3, n4, n5⟩ = true then 2 else if (tx && !wordB n5) = true then 12 else 0) = v) :
    Calls Tryz.prog 72 #[.agg #[.int .i64 n1, .string n2, .int .i64 n3, .int .i64 n4, .string n5]] w fun r w' => r = .returned (.int .i64 v) ∧ Below w.heap.size w w' := by
  obtain ⟨h1, h2⟩ := h
  have HO := Lib.hid hO
  have HN := Lib.hid hN
  have HM := Lib.hid hM
  have HT := Lib.hid hT
  have Hv := Lib.hid hv
  clear hO hN hM hT hv
  have Bw : Hid (∀ o, Below w.heap.size w (w.alloc o)) := fun o => (Below.refl _ _).alloc (Nat.le_refl _) _
  have Ow : Hid (∀ o, (w.alloc o).heap[w.heap.size]? = some o) := fun o => heap_alloc_new w o
  go_enter Tryz.func72, Tryz.ntmps72
  go_upto_region 4 with fail
  have HB1 := Lib.hid (Bw.out (.cells #[.int .i64 n1, .string n2, .int .i64 n3, .int .i64 n4, .string n5] 38))
  have HX1 := Lib.hid (Ow.out (.cells #[.int .i64 n1, .string n2, .int .i64 n3, .int .i64 n4, .string n5] 38))
  clear Bw Ow
  generalize w.alloc (.cells #[.int .i64 n1, .string n2, .int .i64 n3, .int .i64 n4, .string n5] 38) = w1 at *
  have x1 : w1.cell? ⟨w.heap.size, 1, none⟩ = some (.string n2) := cell_of_heap HX1.out 1
  have x2 : w1.cell? ⟨w.heap.size, 2, none⟩ = some (.int .i64 n3) := cell_of_heap HX1.out 2
  have x3 : w1.cell? ⟨w.heap.size, 3, none⟩ = some (.int .i64 n4) := cell_of_heap HX1.out 3
  have x4 : w1.cell? ⟨w.heap.size, 4, none⟩ = some (.string n5) := cell_of_heap HX1.out 4
  go_cut [13] (fun v wx => v = .bool (B4 o nu ix tx ⟨n1, n2, n3, n4, n5⟩) ∧ wx = w1)
  case first =>
    cases o with
    | true =>
      cases nu with
      | true =>
        cases ix with
        | true =>
          have hmm : ¬ mm < 0 := by have := hm1 rfl; omega
          cases tx with
          | true =>
            have HV : Hid (B4 true true true true ⟨n1, n2, n3, n4, n5⟩ = false) := decide_eq_false (by simp)
            go_wp2_with (first
              | (go_at_call 93; refine (HO.out _).mono ?_; rintro r w9 ⟨rfl, rfl⟩)
              | (go_at_call 94; refine (HN.out _).mono ?_; rintro r w9 ⟨rfl, rfl⟩)
              | (go_at_call 95; refine (HM.out _).mono ?_; rintro r w9 ⟨rfl, rfl⟩)
              | (go_at_call 96; refine (HT.out _).mono ?_; rintro r w9 ⟨rfl, rfl⟩))
            go_meet
            exact ⟨by rw [HV.out], rfl⟩
          | false =>
            by_cases hz3 : n5 = ⟨#[]⟩
            · have hy3 : n5.toList.isEmpty = true := (emp_yes hz3)
              have HV : Hid (B4 true true true false ⟨n1, n2, n3, n4, n5⟩ = false) := decide_eq_false (by simp [hz3])
              clear hz3
              go_wp2_with (first
                | (go_at_call 93; refine (HO.out _).mono ?_; rintro r w9 ⟨rfl, rfl⟩)
                | (go_at_call 94; refine (HN.out _).mono ?_; rintro r w9 ⟨rfl, rfl⟩)
                | (go_at_call 95; refine (HM.out _).mono ?_; rintro r w9 ⟨rfl, rfl⟩)
                | (go_at_call 96; refine (HT.out _).mono ?_; rintro r w9 ⟨rfl, rfl⟩))
              go_meet
              exact ⟨by rw [HV.out], rfl⟩
            · have hy3 : n5.toList.isEmpty = false := (emp_no hz3)
              have HV : Hid (B4 true true true false ⟨n1, n2, n3, n4, n5⟩ = true) := decide_eq_true (.inr (.inr (.inr (⟨rfl, hz3⟩))))
              clear hz3
              go_wp2_with (first
                | (go_at_call 93; refine (HO.out _).mono ?_; rintro r w9 ⟨rfl, rfl⟩)
                | (go_at_call 94; refine (HN.out _).mono ?_; rintro r w9 ⟨rfl, rfl⟩)
                | (go_at_call 95; refine (HM.out _).mono ?_; rintro r w9 ⟨rfl, rfl⟩)
                | (go_at_call 96; refine (HT.out _).mono ?_; rintro r w9 ⟨rfl, rfl⟩))
              go_meet
              exact ⟨by rw [HV.out], rfl⟩
        | false =>
          have hmm : mm < 0 := hm2 rfl
          by_cases hz2 : n4 = 0
          · have hy2 : (n4 == 0) = true := beq_iff_eq.2 hz2
            have hw2 : (n4 != 0) = false := bne_eq_false_iff_eq.2 hz2
            cases tx with
            | true =>
              have HV : Hid (B4 true true false true ⟨n1, n2, n3, n4, n5⟩ = false) := decide_eq_false (by simp [hz2])
              clear hz2
              go_wp2_with (first
                | (go_at_call 93; refine (HO.out _).mono ?_; rintro r w9 ⟨rfl, rfl⟩)
                | (go_at_call 94; refine (HN.out _).mono ?_; rintro r w9 ⟨rfl, rfl⟩)
                | (go_at_call 95; refine (HM.out _).mono ?_; rintro r w9 ⟨rfl, rfl⟩)
                | (go_at_call 96; refine (HT.out _).mono ?_; rintro r w9 ⟨rfl, rfl⟩))
              go_meet
              exact ⟨by rw [HV.out], rfl⟩
            | false =>
              by_cases hz3 : n5 = ⟨#[]⟩
              · have hy3 : n5.toList.isEmpty = true := (emp_yes hz3)
                have HV : Hid (B4 true true false false ⟨n1, n2, n3, n4, n5⟩ = false) := decide_eq_false (by simp [hz2, hz3])
                clear hz2 hz3
                go_wp2_with (first
                  | (go_at_call 93; refine (HO.out _).mono ?_; rintro r w9 ⟨rfl, rfl⟩)
                  | (go_at_call 94; refine (HN.out _).mono ?_; rintro r w9 ⟨rfl, rfl⟩)
                  | (go_at_call 95; refine (HM.out _).mono ?_; rintro r w9 ⟨rfl, rfl⟩)
                  | (go_at_call 96; refine (HT.out _).mono ?_; rintro r w9 ⟨rfl, rfl⟩))
                go_meet
                exact ⟨by rw [HV.out], rfl⟩
              · have hy3 : n5.toList.isEmpty = false := (emp_no hz3)
                have HV : Hid (B4 true true false false ⟨n1, n2, n3, n4, n5⟩ = true) := decide_eq_true (.inr (.inr (.inr (⟨rfl, hz3⟩))))
                clear hz2 hz3
                go_wp2_with (first
                  | (go_at_call 93; refine (HO.out _).mono ?_; rintro r w9 ⟨rfl, rfl⟩)
                  | (go_at_call 94; refine (HN.out _).mono ?_; rintro r w9 ⟨rfl, rfl⟩)
                  | (go_at_call 95; refine (HM.out _).mono ?_; rintro r w9 ⟨rfl, rfl⟩)
                  | (go_at_call 96; refine (HT.out _).mono ?_; rintro r w9 ⟨rfl, rfl⟩))
                go_meet
                exact ⟨by rw [HV.out], rfl⟩
          · have hy2 : (n4 == 0) = false := beq_eq_false_iff_ne.2 hz2
            have hw2 : (n4 != 0) = true := bne_iff_ne.2 hz2
            have HV : Hid (B4 true true false tx ⟨n1, n2, n3, n4, n5⟩ = true) := decide_eq_true (.inr (.inr (.inl ⟨rfl, hz2⟩)))
            clear hz2
            go_wp2_with (first
              | (go_at_call 93; refine (HO.out _).mono ?_; rintro r w9 ⟨rfl, rfl⟩)
              | (go_at_call 94; refine (HN.out _).mono ?_; rintro r w9 ⟨rfl, rfl⟩)
              | (go_at_call 95; refine (HM.out _).mono ?_; rintro r w9 ⟨rfl, rfl⟩)
              | (go_at_call 96; refine (HT.out _).mono ?_; rintro r w9 ⟨rfl, rfl⟩))
            go_meet
            exact ⟨by rw [HV.out], rfl⟩
      | false =>
        by_cases hz1 : n3 = 0
        · have hy1 : (n3 == 0) = true := beq_iff_eq.2 hz1
          have hw1 : (n3 != 0) = false := bne_eq_false_iff_eq.2 hz1
          cases ix with
          | true =>
            have hmm : ¬ mm < 0 := by have := hm1 rfl; omega
            cases tx with
            | true =>
              have HV : Hid (B4 true false true true ⟨n1, n2, n3, n4, n5⟩ = false) := decide_eq_false (by simp [hz1])
              clear hz1
              go_wp2_with (first
                | (go_at_call 93; refine (HO.out _).mono ?_; rintro r w9 ⟨rfl, rfl⟩)
                | (go_at_call 94; refine (HN.out _).mono ?_; rintro r w9 ⟨rfl, rfl⟩)
                | (go_at_call 95; refine (HM.out _).mono ?_; rintro r w9 ⟨rfl, rfl⟩)
                | (go_at_call 96; refine (HT.out _).mono ?_; rintro r w9 ⟨rfl, rfl⟩))
              go_meet
              exact ⟨by rw [HV.out], rfl⟩
            | false =>
              by_cases hz3 : n5 = ⟨#[]⟩
              · have hy3 : n5.toList.isEmpty = true := (emp_yes hz3)
                have HV : Hid (B4 true false true false ⟨n1, n2, n3, n4, n5⟩ = false) := decide_eq_false (by simp [hz1, hz3])
                clear hz1 hz3
                go_wp2_with (first
                  | (go_at_call 93; refine (HO.out _).mono ?_; rintro r w9 ⟨rfl, rfl⟩)
                  | (go_at_call 94; refine (HN.out _).mono ?_; rintro r w9 ⟨rfl, rfl⟩)
                  | (go_at_call 95; refine (HM.out _).mono ?_; rintro r w9 ⟨rfl, rfl⟩)
                  | (go_at_call 96; refine (HT.out _).mono ?_; rintro r w9 ⟨rfl, rfl⟩))
                go_meet
                exact ⟨by rw [HV.out], rfl⟩
              · have hy3 : n5.toList.isEmpty = false := (emp_no hz3)
                have HV : Hid (B4 true false true false ⟨n1, n2, n3, n4, n5⟩ = true) := decide_eq_true (.inr (.inr (.inr (⟨rfl, hz3⟩))))
                clear hz1 hz3
                go_wp2_with (first
                  | (go_at_call 93; refine (HO.out _).mono ?_; rintro r w9 ⟨rfl, rfl⟩)
                  | (go_at_call 94; refine (HN.out _).mono ?_; rintro r w9 ⟨rfl, rfl⟩)
                  | (go_at_call 95; refine (HM.out _).mono ?_; rintro r w9 ⟨rfl, rfl⟩)
                  | (go_at_call 96; refine (HT.out _).mono ?_; rintro r w9 ⟨rfl, rfl⟩))
                go_meet
                exact ⟨by rw [HV.out], rfl⟩
          | false =>
            have hmm : mm < 0 := hm2 rfl
            by_cases hz2 : n4 = 0
            · have hy2 : (n4 == 0) = true := beq_iff_eq.2 hz2
              have hw2 : (n4 != 0) = false := bne_eq_false_iff_eq.2 hz2
              cases tx with
              | true =>
                have HV : Hid (B4 true false false true ⟨n1, n2, n3, n4, n5⟩ = false) := decide_eq_false (by simp [hz1, hz2])
                clear hz1 hz2
                go_wp2_with (first
                  | (go_at_call 93; refine (HO.out _).mono ?_; rintro r w9 ⟨rfl, rfl⟩)
                  | (go_at_call 94; refine (HN.out _).mono ?_; rintro r w9 ⟨rfl, rfl⟩)
                  | (go_at_call 95; refine (HM.out _).mono ?_; rintro r w9 ⟨rfl, rfl⟩)
                  | (go_at_call 96; refine (HT.out _).mono ?_; rintro r w9 ⟨rfl, rfl⟩))
                go_meet
                exact ⟨by rw [HV.out], rfl⟩
              | false =>
                by_cases hz3 : n5 = ⟨#[]⟩
                · have hy3 : n5.toList.isEmpty = true := (emp_yes hz3)
                  have HV : Hid (B4 true false false false ⟨n1, n2, n3, n4, n5⟩ = false) := decide_eq_false (by simp [hz1, hz2, hz3])
                  clear hz1 hz2 hz3
                  go_wp2_with (first
                    | (go_at_call 93; refine (HO.out _).mono ?_; rintro r w9 ⟨rfl, rfl⟩)
                    | (go_at_call 94; refine (HN.out _).mono ?_; rintro r w9 ⟨rfl, rfl⟩)
                    | (go_at_call 95; refine (HM.out _).mono ?_; rintro r w9 ⟨rfl, rfl⟩)
                    | (go_at_call 96; refine (HT.out _).mono ?_; rintro r w9 ⟨rfl, rfl⟩))
                  go_meet
                  exact ⟨by rw [HV.out], rfl⟩
                · have hy3 : n5.toList.isEmpty = false := (emp_no hz3)
                  have HV : Hid (B4 true false false false ⟨n1, n2, n3, n4, n5⟩ = true) := decide_eq_true (.inr (.inr (.inr (⟨rfl, hz3⟩))))
                  clear hz1 hz2 hz3
                  go_wp2_with (first
                    | (go_at_call 93; refine (HO.out _).mono ?_; rintro r w9 ⟨rfl, rfl⟩)
                    | (go_at_call 94; refine (HN.out _).mono ?_; rintro r w9 ⟨rfl, rfl⟩)
                    | (go_at_call 95; refine (HM.out _).mono ?_; rintro r w9 ⟨rfl, rfl⟩)
                    | (go_at_call 96; refine (HT.out _).mono ?_; rintro r w9 ⟨rfl, rfl⟩))
                  go_meet
                  exact ⟨by rw [HV.out], rfl⟩
            · have hy2 : (n4 == 0) = false := beq_eq_false_iff_ne.2 hz2
              have hw2 : (n4 != 0) = true := bne_iff_ne.2 hz2
              have HV : Hid (B4 true false false tx ⟨n1, n2, n3, n4, n5⟩ = true) := decide_eq_true (.inr (.inr (.inl ⟨rfl, hz2⟩)))
              clear hz1 hz2
              go_wp2_with (first
                | (go_at_call 93; refine (HO.out _).mono ?_; rintro r w9 ⟨rfl, rfl⟩)
                | (go_at_call 94; refine (HN.out _).mono ?_; rintro r w9 ⟨rfl, rfl⟩)
                | (go_at_call 95; refine (HM.out _).mono ?_; rintro r w9 ⟨rfl, rfl⟩)
                | (go_at_call 96; refine (HT.out _).mono ?_; rintro r w9 ⟨rfl, rfl⟩))
              go_meet
              exact ⟨by rw [HV.out], rfl⟩
        · have hy1 : (n3 == 0) = false := beq_eq_false_iff_ne.2 hz1
          have hw1 : (n3 != 0) = true := bne_iff_ne.2 hz1
          have HV : Hid (B4 true false ix tx ⟨n1, n2, n3, n4, n5⟩ = true) := decide_eq_true (.inr (.inl ⟨rfl, hz1⟩))
          clear hz1
          go_wp2_with (first
            | (go_at_call 93; refine (HO.out _).mono ?_; rintro r w9 ⟨rfl, rfl⟩)
            | (go_at_call 94; refine (HN.out _).mono ?_; rintro r w9 ⟨rfl, rfl⟩)
            | (go_at_call 95; refine (HM.out _).mono ?_; rintro r w9 ⟨rfl, rfl⟩)
            | (go_at_call 96; refine (HT.out _).mono ?_; rintro r w9 ⟨rfl, rfl⟩))
          go_meet
          exact ⟨by rw [HV.out], rfl⟩
    | false =>
      by_cases hz0 : n2 = ⟨#[]⟩
      · have hy0 : n2.toList.isEmpty = true := (emp_yes hz0)
        cases nu with
        | true =>
          cases ix with
          | true =>
            have hmm : ¬ mm < 0 := by have := hm1 rfl; omega
            cases tx with
            | true =>
              have HV : Hid (B4 false true true true ⟨n1, n2, n3, n4, n5⟩ = false) := decide_eq_false (by simp [hz0])
              clear hz0
              go_wp2_with (first
                | (go_at_call 93; refine (HO.out _).mono ?_; rintro r w9 ⟨rfl, rfl⟩)
                | (go_at_call 94; refine (HN.out _).mono ?_; rintro r w9 ⟨rfl, rfl⟩)
                | (go_at_call 95; refine (HM.out _).mono ?_; rintro r w9 ⟨rfl, rfl⟩)
                | (go_at_call 96; refine (HT.out _).mono ?_; rintro r w9 ⟨rfl, rfl⟩))
              go_meet
              exact ⟨by rw [HV.out], rfl⟩
            | false =>
              by_cases hz3 : n5 = ⟨#[]⟩
              · have hy3 : n5.toList.isEmpty = true := (emp_yes hz3)
                have HV : Hid (B4 false true true false ⟨n1, n2, n3, n4, n5⟩ = false) := decide_eq_false (by simp [hz0, hz3])
                clear hz0 hz3
                go_wp2_with (first
                  | (go_at_call 93; refine (HO.out _).mono ?_; rintro r w9 ⟨rfl, rfl⟩)
                  | (go_at_call 94; refine (HN.out _).mono ?_; rintro r w9 ⟨rfl, rfl⟩)
                  | (go_at_call 95; refine (HM.out _).mono ?_; rintro r w9 ⟨rfl, rfl⟩)
                  | (go_at_call 96; refine (HT.out _).mono ?_; rintro r w9 ⟨rfl, rfl⟩))
                go_meet
                exact ⟨by rw [HV.out], rfl⟩
              · have hy3 : n5.toList.isEmpty = false := (emp_no hz3)
                have HV : Hid (B4 false true true false ⟨n1, n2, n3, n4, n5⟩ = true) := decide_eq_true (.inr (.inr (.inr (⟨rfl, hz3⟩))))
                clear hz0 hz3
                go_wp2_with (first
                  | (go_at_call 93; refine (HO.out _).mono ?_; rintro r w9 ⟨rfl, rfl⟩)
                  | (go_at_call 94; refine (HN.out _).mono ?_; rintro r w9 ⟨rfl, rfl⟩)
                  | (go_at_call 95; refine (HM.out _).mono ?_; rintro r w9 ⟨rfl, rfl⟩)
                  | (go_at_call 96; refine (HT.out _).mono ?_; rintro r w9 ⟨rfl, rfl⟩))
                go_meet
                exact ⟨by rw [HV.out], rfl⟩
          | false =>
            have hmm : mm < 0 := hm2 rfl
            by_cases hz2 : n4 = 0
            · have hy2 : (n4 == 0) = true := beq_iff_eq.2 hz2
              have hw2 : (n4 != 0) = false := bne_eq_false_iff_eq.2 hz2
              cases tx with
              | true =>
                have HV : Hid (B4 false true false true ⟨n1, n2, n3, n4, n5⟩ = false) := decide_eq_false (by simp [hz0, hz2])
                clear hz0 hz2
                go_wp2_with (first
                  | (go_at_call 93; refine (HO.out _).mono ?_; rintro r w9 ⟨rfl, rfl⟩)
                  | (go_at_call 94; refine (HN.out _).mono ?_; rintro r w9 ⟨rfl, rfl⟩)
                  | (go_at_call 95; refine (HM.out _).mono ?_; rintro r w9 ⟨rfl, rfl⟩)
                  | (go_at_call 96; refine (HT.out _).mono ?_; rintro r w9 ⟨rfl, rfl⟩))
                go_meet
                exact ⟨by rw [HV.out], rfl⟩
              | false =>
                by_cases hz3 : n5 = ⟨#[]⟩
                · have hy3 : n5.toList.isEmpty = true := (emp_yes hz3)
                  have HV : Hid (B4 false true false false ⟨n1, n2, n3, n4, n5⟩ = false) := decide_eq_false (by simp [hz0, hz2, hz3])
                  clear hz0 hz2 hz3
                  go_wp2_with (first
                    | (go_at_call 93; refine (HO.out _).mono ?_; rintro r w9 ⟨rfl, rfl⟩)
                    | (go_at_call 94; refine (HN.out _).mono ?_; rintro r w9 ⟨rfl, rfl⟩)
                    | (go_at_call 95; refine (HM.out _).mono ?_; rintro r w9 ⟨rfl, rfl⟩)
                    | (go_at_call 96; refine (HT.out _).mono ?_; rintro r w9 ⟨rfl, rfl⟩))
                  go_meet
                  exact ⟨by rw [HV.out], rfl⟩
                · have hy3 : n5.toList.isEmpty = false := (emp_no hz3)
                  have HV : Hid (B4 false true false false ⟨n1, n2, n3, n4, n5⟩ = true) := decide_eq_true (.inr (.inr (.inr (⟨rfl, hz3⟩))))
                  clear hz0 hz2 hz3
                  go_wp2_with (first
                    | (go_at_call 93; refine (HO.out _).mono ?_; rintro r w9 ⟨rfl, rfl⟩)
                    | (go_at_call 94; refine (HN.out _).mono ?_; rintro r w9 ⟨rfl, rfl⟩)
                    | (go_at_call 95; refine (HM.out _).mono ?_; rintro r w9 ⟨rfl, rfl⟩)
                    | (go_at_call 96; refine (HT.out _).mono ?_; rintro r w9 ⟨rfl, rfl⟩))
                  go_meet
                  exact ⟨by rw [HV.out], rfl⟩
            · have hy2 : (n4 == 0) = false := beq_eq_false_iff_ne.2 hz2
              have hw2 : (n4 != 0) = true := bne_iff_ne.2 hz2
              have HV : Hid (B4 false true false tx ⟨n1, n2, n3, n4, n5⟩ = true) := decide_eq_true (.inr (.inr (.inl ⟨rfl, hz2⟩)))
              clear hz0 hz2
              go_wp2_with (first
                | (go_at_call 93; refine (HO.out _).mono ?_; rintro r w9 ⟨rfl, rfl⟩)
                | (go_at_call 94; refine (HN.out _).mono ?_; rintro r w9 ⟨rfl, rfl⟩)
                | (go_at_call 95; refine (HM.out _).mono ?_; rintro r w9 ⟨rfl, rfl⟩)
                | (go_at_call 96; refine (HT.out _).mono ?_; rintro r w9 ⟨rfl, rfl⟩))
              go_meet
              exact ⟨by rw [HV.out], rfl⟩
        | false =>
          by_cases hz1 : n3 = 0
          · have hy1 : (n3 == 0) = true := beq_iff_eq.2 hz1
            have hw1 : (n3 != 0) = false := bne_eq_false_iff_eq.2 hz1
            cases ix with
            | true =>
              have hmm : ¬ mm < 0 := by have := hm1 rfl; omega
              cases tx with
              | true =>
                have HV : Hid (B4 false false true true ⟨n1, n2, n3, n4, n5⟩ = false) := decide_eq_false (by simp [hz0, hz1])
                clear hz0 hz1
                go_wp2_with (first
                  | (go_at_call 93; refine (HO.out _).mono ?_; rintro r w9 ⟨rfl, rfl⟩)
                  | (go_at_call 94; refine (HN.out _).mono ?_; rintro r w9 ⟨rfl, rfl⟩)
                  | (go_at_call 95; refine (HM.out _).mono ?_; rintro r w9 ⟨rfl, rfl⟩)
                  | (go_at_call 96; refine (HT.out _).mono ?_; rintro r w9 ⟨rfl, rfl⟩))
                go_meet
                exact ⟨by rw [HV.out], rfl⟩
              | false =>
                by_cases hz3 : n5 = ⟨#[]⟩
                · have hy3 : n5.toList.isEmpty = true := (emp_yes hz3)
                  have HV : Hid (B4 false false true false ⟨n1, n2, n3, n4, n5⟩ = false) := decide_eq_false (by simp [hz0, hz1, hz3])
                  clear hz0 hz1 hz3
                  go_wp2_with (first
                    | (go_at_call 93; refine (HO.out _).mono ?_; rintro r w9 ⟨rfl, rfl⟩)
                    | (go_at_call 94; refine (HN.out _).mono ?_; rintro r w9 ⟨rfl, rfl⟩)
                    | (go_at_call 95; refine (HM.out _).mono ?_; rintro r w9 ⟨rfl, rfl⟩)
                    | (go_at_call 96; refine (HT.out _).mono ?_; rintro r w9 ⟨rfl, rfl⟩))
                  go_meet
                  exact ⟨by rw [HV.out], rfl⟩
                · have hy3 : n5.toList.isEmpty = false := (emp_no hz3)
                  have HV : Hid (B4 false false true false ⟨n1, n2, n3, n4, n5⟩ = true) := decide_eq_true (.inr (.inr (.inr (⟨rfl, hz3⟩))))
                  clear hz0 hz1 hz3
                  go_wp2_with (first
                    | (go_at_call 93; refine (HO.out _).mono ?_; rintro r w9 ⟨rfl, rfl⟩)
                    | (go_at_call 94; refine (HN.out _).mono ?_; rintro r w9 ⟨rfl, rfl⟩)
                    | (go_at_call 95; refine (HM.out _).mono ?_; rintro r w9 ⟨rfl, rfl⟩)
                    | (go_at_call 96; refine (HT.out _).mono ?_; rintro r w9 ⟨rfl, rfl⟩))
                  go_meet
                  exact ⟨by rw [HV.out], rfl⟩
            | false =>
              have hmm : mm < 0 := hm2 rfl
              by_cases hz2 : n4 = 0
              · have hy2 : (n4 == 0) = true := beq_iff_eq.2 hz2
                have hw2 : (n4 != 0) = false := bne_eq_false_iff_eq.2 hz2
                cases tx with
                | true =>
                  have HV : Hid (B4 false false false true ⟨n1, n2, n3, n4, n5⟩ = false) := decide_eq_false (by simp [hz0, hz1, hz2])
                  clear hz0 hz1 hz2
                  go_wp2_with (first
                    | (go_at_call 93; refine (HO.out _).mono ?_; rintro r w9 ⟨rfl, rfl⟩)
                    | (go_at_call 94; refine (HN.out _).mono ?_; rintro r w9 ⟨rfl, rfl⟩)
                    | (go_at_call 95; refine (HM.out _).mono ?_; rintro r w9 ⟨rfl, rfl⟩)
                    | (go_at_call 96; refine (HT.out _).mono ?_; rintro r w9 ⟨rfl, rfl⟩))
                  go_meet
                  exact ⟨by rw [HV.out], rfl⟩
                | false =>
                  by_cases hz3 : n5 = ⟨#[]⟩
                  · have hy3 : n5.toList.isEmpty = true := (emp_yes hz3)
                    have HV : Hid (B4 false false false false ⟨n1, n2, n3, n4, n5⟩ = false) := decide_eq_false (by simp [hz0, hz1, hz2, hz3])
                    clear hz0 hz1 hz2 hz3
                    go_wp2_with (first
                      | (go_at_call 93; refine (HO.out _).mono ?_; rintro r w9 ⟨rfl, rfl⟩)
                      | (go_at_call 94; refine (HN.out _).mono ?_; rintro r w9 ⟨rfl, rfl⟩)
                      | (go_at_call 95; refine (HM.out _).mono ?_; rintro r w9 ⟨rfl, rfl⟩)
                      | (go_at_call 96; refine (HT.out _).mono ?_; rintro r w9 ⟨rfl, rfl⟩))
                    go_meet
                    exact ⟨by rw [HV.out], rfl⟩
                  · have hy3 : n5.toList.isEmpty = false := (emp_no hz3)
                    have HV : Hid (B4 false false false false ⟨n1, n2, n3, n4, n5⟩ = true) := decide_eq_true (.inr (.inr (.inr (⟨rfl, hz3⟩))))
                    clear hz0 hz1 hz2 hz3
                    go_wp2_with (first
                      | (go_at_call 93; refine (HO.out _).mono ?_; rintro r w9 ⟨rfl, rfl⟩)
                      | (go_at_call 94; refine (HN.out _).mono ?_; rintro r w9 ⟨rfl, rfl⟩)
                      | (go_at_call 95; refine (HM.out _).mono ?_; rintro r w9 ⟨rfl, rfl⟩)
                      | (go_at_call 96; refine (HT.out _).mono ?_; rintro r w9 ⟨rfl, rfl⟩))
                    go_meet
                    exact ⟨by rw [HV.out], rfl⟩
              · have hy2 : (n4 == 0) = false := beq_eq_false_iff_ne.2 hz2
                have hw2 : (n4 != 0) = true := bne_iff_ne.2 hz2
                have HV : Hid (B4 false false false tx ⟨n1, n2, n3, n4, n5⟩ = true) := decide_eq_true (.inr (.inr (.inl ⟨rfl, hz2⟩)))
                clear hz0 hz1 hz2
                go_wp2_with (first
                  | (go_at_call 93; refine (HO.out _).mono ?_; rintro r w9 ⟨rfl, rfl⟩)
                  | (go_at_call 94; refine (HN.out _).mono ?_; rintro r w9 ⟨rfl, rfl⟩)
                  | (go_at_call 95; refine (HM.out _).mono ?_; rintro r w9 ⟨rfl, rfl⟩)
                  | (go_at_call 96; refine (HT.out _).mono ?_; rintro r w9 ⟨rfl, rfl⟩))
                go_meet
                exact ⟨by rw [HV.out], rfl⟩
          · have hy1 : (n3 == 0) = false := beq_eq_false_iff_ne.2 hz1
            have hw1 : (n3 != 0) = true := bne_iff_ne.2 hz1
            have HV : Hid (B4 false false ix tx ⟨n1, n2, n3, n4, n5⟩ = true) := decide_eq_true (.inr (.inl ⟨rfl, hz1⟩))
            clear hz0 hz1
            go_wp2_with (first
              | (go_at_call 93; refine (HO.out _).mono ?_; rintro r w9 ⟨rfl, rfl⟩)
              | (go_at_call 94; refine (HN.out _).mono ?_; rintro r w9 ⟨rfl, rfl⟩)
              | (go_at_call 95; refine (HM.out _).mono ?_; rintro r w9 ⟨rfl, rfl⟩)
              | (go_at_call 96; refine (HT.out _).mono ?_; rintro r w9 ⟨rfl, rfl⟩))
            go_meet
            exact ⟨by rw [HV.out], rfl⟩
      · have hy0 : n2.toList.isEmpty = false := (emp_no hz0)
        have HV : Hid (B4 false nu ix tx ⟨n1, n2, n3, n4, n5⟩ = true) := decide_eq_true (.inl ⟨rfl, hz0⟩)
        clear hz0
        go_wp2_with (first
          | (go_at_call 93; refine (HO.out _).mono ?_; rintro r w9 ⟨rfl, rfl⟩)
          | (go_at_call 94; refine (HN.out _).mono ?_; rintro r w9 ⟨rfl, rfl⟩)
          | (go_at_call 95; refine (HM.out _).mono ?_; rintro r w9 ⟨rfl, rfl⟩)
          | (go_at_call 96; refine (HT.out _).mono ?_; rintro r w9 ⟨rfl, rfl⟩))
        go_meet
        exact ⟨by rw [HV.out], rfl⟩
  case rest =>
    obtain ⟨rfl, rfl⟩ := hcut
    generalize wc = w2 at *
    cases hb4 : B4 o nu ix tx ⟨n1, n2, n3, n4, n5⟩ with
    | true =>
      have Hb4 := Lib.hid hb4
      clear hb4
      go_wp2
      go_ret
      exact ⟨retI (by rw [← Hv.out, if_pos Hb4.out]), HB1.out⟩
    | false =>
      have Hb4 : Hid (¬ B4 o nu ix tx ⟨n1, n2, n3, n4, n5⟩ = true) := by show ¬ _; rw [hb4]; simp
      clear hb4
      go_upto_region 6 with fail
      go_cut [52] (fun v wx => v = .bool (o && !validB n2) ∧ Hid (Below w2.heap.size w2 wx))
      case first =>
        cases o with
        | false =>
          go_wp2_with (first
            | (go_at_call 93; refine (HO.out _).mono ?_; rintro r w9 ⟨rfl, rfl⟩))
          go_meet
          exact ⟨rfl, Below.refl _ _⟩
        | true =>
          cases hv2 : validB n2 with
          | true =>
            have HV2 := Lib.hid hv2
            clear hv2
            go_wp2_with (first
              | (go_at_call 93; refine (HO.out _).mono ?_; rintro r w9 ⟨rfl, rfl⟩)
              | (go_at_call 97; refine (rValid_is n2 true HV2.out hs2 _).mono ?_; rintro r w9 ⟨rfl, hb9⟩; have HB9 := Lib.hid hb9; clear hb9))
            go_meet
            exact ⟨by rw [HV2.out]; rfl, HB9.out⟩
          | false =>
            have HV2 := Lib.hid hv2
            clear hv2
            go_wp2_with (first
              | (go_at_call 93; refine (HO.out _).mono ?_; rintro r w9 ⟨rfl, rfl⟩)
              | (go_at_call 97; refine (rValid_is n2 false HV2.out hs2 _).mono ?_; rintro r w9 ⟨rfl, hb9⟩; have HB9 := Lib.hid hb9; clear hb9))
            go_meet
            exact ⟨by rw [HV2.out]; rfl, HB9.out⟩
      case rest =>
        obtain ⟨rfl, hbx⟩ := hcut
        have HBx := Lib.hid hbx
        have HB2 : Hid (Below w.heap.size w wc) := HB1.out.trans (HBx.out.mono HB1.out.size)
        have HX2 := Lib.hid ((HBx.out.block _ (lt_of_heap HX1.out)).trans HX1.out)
        clear hbx x1 x2 x3 x4 HBx
        generalize wc = w3 at *
        cases hb6 : (o && !validB n2) with
        | true =>
          have Hb6 := Lib.hid hb6
          clear hb6
          go_wp2
          go_ret
          exact ⟨retI (by rw [← Hv.out, if_neg Hb4.out, if_pos Hb6.out]), HB2.out⟩
        | false =>
          have Hb6 : Hid (¬ (o && !validB n2) = true) := by show ¬ _; rw [hb6]; simp
          clear hb6
          have x2 : w3.cell? ⟨w.heap.size, 2, none⟩ = some (.int .i64 n3) := cell_of_heap HX2.out 2
          have x3 : w3.cell? ⟨w.heap.size, 3, none⟩ = some (.int .i64 n4) := cell_of_heap HX2.out 3
          go_upto_region 8 with fail
          by_cases g1 : n3 < 0
          · have HV : Hid (B8 mm ⟨n1, n2, n3, n4, n5⟩ = true) := decide_eq_true (.inl g1)
            go_quiet ((go_at_call 95; exact Calls.quiet_of_same ((HM.out _).mono fun _ _ h => ⟨h.1, h.2.symm⟩)))
            go_wp2
            go_ret
            exact ⟨retI (by rw [← Hv.out, if_neg Hb4.out, if_neg Hb6.out, if_pos HV.out]), below_toDrewN3 HB2.out _⟩
          by_cases g2 : 1073741824 < n3
          · have HV : Hid (B8 mm ⟨n1, n2, n3, n4, n5⟩ = true) := decide_eq_true (.inr (.inl g2))
            go_quiet ((go_at_call 95; exact Calls.quiet_of_same ((HM.out _).mono fun _ _ h => ⟨h.1, h.2.symm⟩)))
            go_wp2
            go_ret
            exact ⟨retI (by rw [← Hv.out, if_neg Hb4.out, if_neg Hb6.out, if_pos HV.out]), below_toDrewN3 HB2.out _⟩
          by_cases g3 : n4 < 0
          · have HV : Hid (B8 mm ⟨n1, n2, n3, n4, n5⟩ = true) := decide_eq_true (.inr (.inr (.inl g3)))
            go_quiet ((go_at_call 95; exact Calls.quiet_of_same ((HM.out _).mono fun _ _ h => ⟨h.1, h.2.symm⟩)))
            go_wp2
            go_ret
            exact ⟨retI (by rw [← Hv.out, if_neg Hb4.out, if_neg Hb6.out, if_pos HV.out]), below_toDrewN3 HB2.out _⟩
          have hways : (0 ≤ mm ∧ mm < n4) ∨ (¬ 0 ≤ mm ∧ 0 < n4) ∨ (0 ≤ mm ∧ ¬ mm < n4) ∨ (¬ 0 ≤ mm ∧ ¬ 0 < n4) := by omega
          rcases hways with ⟨g4, g5⟩ | ⟨g4, g5⟩ | ⟨g4, g5⟩ | ⟨g4, g5⟩
          · have HV : Hid (B8 mm ⟨n1, n2, n3, n4, n5⟩ = true) := decide_eq_true (.inr (.inr (.inr (by dsimp only; omega))))
            go_quiet ((go_at_call 95; exact Calls.quiet_of_same ((HM.out _).mono fun _ _ h => ⟨h.1, h.2.symm⟩)))
            go_wp2
            go_ret
            exact ⟨retI (by rw [← Hv.out, if_neg Hb4.out, if_neg Hb6.out, if_pos HV.out]), below_toDrewN3 HB2.out _⟩
          · have HV : Hid (B8 mm ⟨n1, n2, n3, n4, n5⟩ = true) := decide_eq_true (.inr (.inr (.inr (by dsimp only; omega))))
            go_quiet ((go_at_call 95; exact Calls.quiet_of_same ((HM.out _).mono fun _ _ h => ⟨h.1, h.2.symm⟩)))
            go_wp2
            go_ret
            exact ⟨retI (by rw [← Hv.out, if_neg Hb4.out, if_neg Hb6.out, if_pos HV.out]), below_toDrewN3 HB2.out _⟩
          · have HV : Hid (¬ B8 mm ⟨n1, n2, n3, n4, n5⟩ = true) := by show ¬ _; unfold B8; rw [decide_eq_true_eq]; dsimp only; omega
            go_quiet ((go_at_call 95; exact Calls.quiet_of_same ((HM.out _).mono fun _ _ h => ⟨h.1, h.2.symm⟩)))
            have HB3 : Hid (Below w.heap.size w (w3.drewN nq)) := below_toDrewN3 HB2.out _
            have x4 : (w3.drewN nq).cell? ⟨w.heap.size, 4, none⟩ = some (.string n5) := cell_of_heap HX2.out 4
            clear g1 g2 g3 x2 x3
            generalize w3.drewN nq = w4 at *
            cases tx with
            | false =>
              go_wp2_with (first
                | (go_at_call 96; refine (HT.out _).mono ?_; rintro r w9 ⟨rfl, rfl⟩))
              go_ret
              exact ⟨retI (by rw [← Hv.out, if_neg Hb4.out, if_neg Hb6.out, if_neg HV.out]; rfl), HB3.out⟩
            | true =>
              cases hw : wordB n5 with
              | true =>
                have HW := Lib.hid hw
                clear hw
                go_wp2_with (first
                  | (go_at_call 96; refine (HT.out _).mono ?_; rintro r w9 ⟨rfl, rfl⟩)
                  | (go_at_call 98; refine (rWord_is n5 true HW.out _ (by omega)).mono ?_; rintro r w9 ⟨rfl, rfl⟩))
                go_ret
                exact ⟨retI (by rw [← Hv.out, if_neg Hb4.out, if_neg Hb6.out, if_neg HV.out, HW.out]; rfl), HB3.out⟩
              | false =>
                have HW := Lib.hid hw
                clear hw
                go_wp2_with (first
                  | (go_at_call 96; refine (HT.out _).mono ?_; rintro r w9 ⟨rfl, rfl⟩)
                  | (go_at_call 98; refine (rWord_is n5 false HW.out _ (by omega)).mono ?_; rintro r w9 ⟨rfl, rfl⟩))
                go_ret
                exact ⟨retI (by rw [← Hv.out, if_neg Hb4.out, if_neg Hb6.out, if_neg HV.out, HW.out]; rfl), HB3.out⟩
          · have HV : Hid (¬ B8 mm ⟨n1, n2, n3, n4, n5⟩ = true) := by show ¬ _; unfold B8; rw [decide_eq_true_eq]; dsimp only; omega
            go_quiet ((go_at_call 95; exact Calls.quiet_of_same ((HM.out _).mono fun _ _ h => ⟨h.1, h.2.symm⟩)))
            have HB3 : Hid (Below w.heap.size w (w3.drewN nq)) := below_toDrewN3 HB2.out _
            have x4 : (w3.drewN nq).cell? ⟨w.heap.size, 4, none⟩ = some (.string n5) := cell_of_heap HX2.out 4
            clear g1 g2 g3 x2 x3
            generalize w3.drewN nq = w4 at *
            cases tx with
            | false =>
              go_wp2_with (first
                | (go_at_call 96; refine (HT.out _).mono ?_; rintro r w9 ⟨rfl, rfl⟩))
              go_ret
              exact ⟨retI (by rw [← Hv.out, if_neg Hb4.out, if_neg Hb6.out, if_neg HV.out]; rfl), HB3.out⟩
            | true =>
              cases hw : wordB n5 with
              | true =>
                have HW := Lib.hid hw
                clear hw
                go_wp2_with (first
                  | (go_at_call 96; refine (HT.out _).mono ?_; rintro r w9 ⟨rfl, rfl⟩)
                  | (go_at_call 98; refine (rWord_is n5 true HW.out _ (by omega)).mono ?_; rintro r w9 ⟨rfl, rfl⟩))
                go_ret
                exact ⟨retI (by rw [← Hv.out, if_neg Hb4.out, if_neg Hb6.out, if_neg HV.out, HW.out]; rfl), HB3.out⟩
              | false =>
                have HW := Lib.hid hw
                clear hw
                go_wp2_with (first
                  | (go_at_call 96; refine (HT.out _).mono ?_; rintro r w9 ⟨rfl, rfl⟩)
                  | (go_at_call 98; refine (rWord_is n5 false HW.out _ (by omega)).mono ?_; rintro r w9 ⟨rfl, rfl⟩))
                go_ret
                exact ⟨retI (by rw [← Hv.out, if_neg Hb4.out, if_neg Hb6.out, if_neg HV.out, HW.out]; rfl), HB3.out⟩

theorem rChk_any (n : NameT) (hf : FitN n) (w : World) : Calls Tryz.prog 72 #[nameV n] w fun r w' => r = .returned (.int .i64 (checkE n)) ∧ Below w.heap.size w w' := by
  by_cases hk : 1 ≤ n.kind ∧ n.kind ≤ 20
  · refine rChk_yes n.kind n.owner n.number n.index n.text w hk hf.1 hf.2 _ _ (useT n.kind.toNat).index _ _ (fun W => owned_any _ hk W) (fun W => numbered_any _ hk W) (fun W => most_any _ hk W) (fun W => texted_any _ hk W) (fun h => by rw [if_pos h]; exact most_nat _ hk) (fun h => by rw [if_neg (by simp [h])]; decide) _ ?_
    rw [checkE_u hk, checkU_val _ _ _ _ _ _ (most_nat _ hk)]
  · rw [checkE_no hk]
    exact rChk_no n.kind n.owner n.number n.index n.text w hk
theorem rChk_is (n : NameT) (v : Int) (h : checkE n = v) (hf : FitN n) (w : World) : Calls Tryz.prog 72 #[nameV n] w fun r w' => r = .returned (.int .i64 v) ∧ Below w.heap.size w w' := by
  subst h; exact rChk_any n hf w
end Go.Proofs.YthghfhnicdoebaaGreatDoor

namespace Go.Proofs.YthghfhnicdoebaaGreatDoor
open Go.RowKit

/-- A kind of rows. -/
structure KindK (α : Type) where
  cells : α → List Value
  S : Nat
  T : TypeId
  sl : TypeId
  z : Value
  B : Nat
  len : ∀ x, (cells x).length = S
  pos : 0 < S
  one : ∀ x u, u ∈ cells x → u.oneCell' = true
  und : Tryz.prog.underlying sl = some (.slice T)
  info : (Tryz.prog.info? T).map (fun i => (i.zero, i.size, i.bytes)) = some (some z, S, B)
  zs : z.cells.size = S
  hB : B ≤ 1000
section
variable {α : Type} (K : KindK α)
theorem KindK.flat_len (xs : List α) : (xs.flatMap K.cells).length = xs.length * K.S := by
  induction xs with
  | nil => simp
  | cons x xs ih =>
    simp only [List.flatMap_cons, List.length_append, ih, K.len, List.length_cons, Nat.add_mul, Nat.one_mul]
    omega
theorem KindK.flat_at (xs : List α) (j : Nat) (x : α) (h : xs[j]? = some x) (i : Nat) (u : Value) (hu : (K.cells x)[i]? = some u) : (xs.flatMap K.cells)[j * K.S + i]? = some u := by
  induction xs generalizing j with
  | nil => simp at h
  | cons y xs ih =>
    simp only [List.flatMap_cons]
    have hl := K.len y
    have hi : i < K.S := by have := (List.getElem?_eq_some_iff.1 hu).1; rw [K.len] at this; exact this
    cases j with
    | zero =>
      simp at h
      subst h
      rw [List.getElem?_append_left (by rw [hl]; omega)]
      simpa using hu
    | succ j =>
      have hr : (j + 1) * K.S = j * K.S + K.S := Nat.succ_mul j K.S
      rw [List.getElem?_append_right (by rw [hl]; omega), hl]
      have := ih j (by simpa using h)
      rw [show (j + 1) * K.S + i - K.S = j * K.S + i by omega]
      exact this
theorem KindK.flat_back (xs : List α) (j : Nat) (u : Value) (h : (xs.flatMap K.cells)[j]? = some u) : ∃ x, xs[j / K.S]? = some x ∧ (K.cells x)[j % K.S]? = some u := by
  have hlt : j < xs.length * K.S := by rw [← K.flat_len]; exact (List.getElem?_eq_some_iff.1 h).1
  have hi : j / K.S < xs.length := Nat.div_lt_of_lt_mul (by rw [Nat.mul_comm]; exact hlt)
  have hm : j % K.S < K.S := Nat.mod_lt _ K.pos
  have hx : xs[j / K.S]? = some xs[j / K.S] := List.getElem?_eq_getElem hi
  have hl : j % K.S < (K.cells xs[j / K.S]).length := by rw [K.len]; exact hm
  refine ⟨_, hx, ?_⟩
  have h2 := K.flat_at xs (j / K.S) _ hx (j % K.S) _ (List.getElem?_eq_getElem hl)
  rw [Nat.div_add_mod' j K.S, h] at h2
  rw [List.getElem?_eq_getElem hl]
  exact h2.symm
/-- A row that can be read. -/
def RowK (w : World) (v : Value) (xs : List α) : Prop :=
  (v = .slice none 0 0 ∧ xs = []) ∨ ∃ g off c, v = .slice (some ⟨g, off, none⟩) xs.length c ∧ xs.length ≤ c ∧ ∀ j x, xs[j]? = some x → ∀ i u, (K.cells x)[i]? = some u → w.cell? ⟨g, off + j * K.S + i, none⟩ = some u
/-- A row of the call's own. -/
def OwnK (base : Nat) (w : World) (v : Value) (xs : List α) : Prop := w.ownsRow base K.T K.S v xs.length (xs.flatMap K.cells)
variable {K}
theorem RowK.later {w w' : World} {v : Value} {xs : List α} (h : RowK K w v xs) (hb : Below w.heap.size w w') : RowK K w' v xs := by
  rcases h with h | ⟨g, off, c, rfl, hc, h⟩
  · exact .inl h
  · refine .inr ⟨g, off, c, rfl, hc, fun j x hx i u hu => ?_⟩
    have h1 := h j x hx i u hu
    exact ((bcell hb).1 _ _ (World.block_lt_of_cell? w _ h1)).trans h1
theorem RowK.grown {w w' : World} {v : Value} {xs : List α} {row : Option Nat} (h : RowK K w v xs) (hg : w.grownBy w' row) (hne : ∀ k, v.ownBlock = some k → row ≠ some k) : RowK K w' v xs := by
  rcases h with h | ⟨g, off, c, rfl, hc, h⟩
  · exact .inl h
  · refine .inr ⟨g, off, c, rfl, hc, fun j x hx i u hu => ?_⟩
    have h1 := h j x hx i u hu
    have hl := World.block_lt_of_cell? w _ h1
    exact (World.cell?_of_block (a := ⟨g, off + j * K.S + i, none⟩) (hg.block g hl (fun e => hne g rfl e.symm))).trans h1
theorem RowK.nil (w : World) : RowK K w (.slice none 0 0) [] := .inl ⟨rfl, rfl⟩
theorem RowK.form {w : World} {v : Value} {xs : List α} (h : RowK K w v xs) : ∃ a c, v = .slice a xs.length c ∧ xs.length ≤ c ∧ (a = none → xs = [] ∧ c = 0) := by
  rcases h with ⟨rfl, rfl⟩ | ⟨g, off, c, rfl, hc, -⟩
  · exact ⟨none, 0, rfl, Nat.le_refl _, fun _ => ⟨rfl, rfl⟩⟩
  · exact ⟨_, c, rfl, hc, fun h => nomatch h⟩
theorem RowK.at_ {w : World} {a : Option Addr} {n c : Nat} {xs : List α} (h : RowK K w (.slice a n c) xs) {j : Nat} {x : α} (hx : xs[j]? = some x) : ∃ g off, a = some ⟨g, off, none⟩ ∧ ∀ i u, (K.cells x)[i]? = some u → w.cell? ⟨g, off + j * K.S + i, none⟩ = some u := by
  rcases h with ⟨-, rfl⟩ | ⟨g, off, c, e, hc, h⟩
  · simp at hx
  · cases e
    exact ⟨g, off, rfl, h j x hx⟩
theorem RowK.len {w : World} {a : Option Addr} {n c : Nat} {xs : List α} (h : RowK K w (.slice a n c) xs) : xs.length = n := by
  rcases h with ⟨e, rfl⟩ | ⟨g, off, c, e, hc, h⟩
  · cases e; rfl
  · cases e; rfl
theorem RowK.take {w : World} {g off n c : Nat} {xs : List α} (h : RowK K w (.slice (some ⟨g, off, none⟩) n c) xs) {k : Nat} (hk : k ≤ n) : RowK K w (.slice (some ⟨g, off, none⟩) k c) (xs.take k) := by
  have hl := h.len
  rcases h with ⟨e, -⟩ | ⟨g', off', c', e, hc, h⟩
  · cases e
  · cases e
    have hlt : (xs.take k).length = k := by rw [List.length_take]; omega
    refine .inr ⟨g, off, c, by rw [hlt], by omega, fun j x hx i u hu => h j x ?_ i u hu⟩
    have := (List.getElem?_eq_some_iff.1 hx).1
    rwa [List.getElem?_take_of_lt (by omega)] at hx
theorem RowK.drop {w : World} {g off n c : Nat} {xs : List α} (h : RowK K w (.slice (some ⟨g, off, none⟩) n c) xs) {k : Nat} (hk : k ≤ n) : RowK K w (.slice (some ⟨g, off + k * K.S, none⟩) (n - k) (c - k)) (xs.drop k) := by
  have hl := h.len
  rcases h with ⟨e, -⟩ | ⟨g', off', c', e, hc, h⟩
  · cases e
  · cases e
    have hlt : (xs.drop k).length = xs.length - k := List.length_drop
    refine .inr ⟨g, off + k * K.S, c - k, by rw [hlt], by omega, fun j x hx i u hu => ?_⟩
    rw [List.getElem?_drop] at hx
    have := h (k + j) x hx i u hu
    rw [Nat.add_mul] at this
    rw [show off + k * K.S + j * K.S + i = off + (k * K.S + j * K.S) + i by omega]
    exact this
theorem RowK.empty {w : World} {g off c : Nat} : RowK K w (.slice (some ⟨g, off, none⟩) 0 c) [] := .inr ⟨g, off, c, rfl, Nat.zero_le _, fun j x hx => by simp at hx⟩
theorem RowK.one {w : World} {B : Nat} {x : α} {fr : Nat × Nat} {cs : Array Value} {T : TypeId} (hB : w.heap[B]? = some (.cells cs T fr)) (hc : K.cells x = cs.toList) : RowK K w (.slice (some ⟨B, 0, none⟩) 1 1) [x] := by
  refine .inr ⟨B, 0, 1, rfl, Nat.le_refl _, fun j y hy i u hu => ?_⟩
  have hj : j = 0 := by have := (List.getElem?_eq_some_iff.1 hy).1; simp at this; exact this
  subst hj
  simp at hy
  subst hy
  rw [hc] at hu
  have h2 := cell_of_heap hB i
  rw [show 0 + 0 * K.S + i = i by omega, h2]
  simpa using hu
theorem OwnK.row {base : Nat} {w : World} {v : Value} {xs : List α} (h : OwnK K base w v xs) : RowK K w v xs := by
  have hh := h
  rcases hh.2 with ⟨hv, h0⟩ | ⟨g, cap, cur, hv, _, _, hnc, _⟩
  · exact .inl ⟨hv, List.length_eq_zero_iff.1 h0⟩
  · refine .inr ⟨g, 0, cap, hv, hnc, fun j x hx i u hu => ?_⟩
    have hcs := World.ownsRow.cells h (g := g) (by rw [hv]; rfl) _ _ (K.flat_at xs j x hx i u hu)
    have hadd : ∀ k, (⟨g, 0, none⟩ : Addr).add k = ⟨g, 0 + k, none⟩ := fun k => by unfold Addr.add; split <;> simp_all
    rw [hadd] at hcs
    rw [show 0 + j * K.S + i = 0 + (j * K.S + i) by omega]
    exact hcs
theorem OwnK.later {base : Nat} {w w' : World} {v : Value} {xs : List α} (h : OwnK K base w v xs) (hb : Below w.heap.size w w') : OwnK K base w' v xs := by
  obtain ⟨h1, h2⟩ := h
  refine ⟨h1, ?_⟩
  rcases h2 with h2 | ⟨g, cap, cur, hv, hg, hh, r⟩
  · exact .inl h2
  · exact .inr ⟨g, cap, cur, hv, hg, (hb.block g (lt_of_heap hh)).trans hh, r⟩
theorem OwnK.nil (base : Nat) (w : World) : OwnK K base w (.slice none 0 0) [] := World.ownsRow_nil _ _ _ _
theorem OwnK.empty {base : Nat} {w : World} {B : Nat} (h : w.heap[B]? = some (.cells #[] K.T (0, 0))) (hb : base ≤ B) : OwnK K base w (.slice (some ⟨B, 0, none⟩) 0 0) [] :=
  ⟨by simp, .inr ⟨B, 0, #[], rfl, hb, h, Nat.le_refl _, Nat.zero_le _, by simp, by simp⟩⟩
theorem OwnK.below {base : Nat} {w w' : World} {v : Value} {xs : List α} {w0 : World} (h : OwnK K base w v xs) (hg : w.grownBy w' v.ownBlock) (hb : Below w0.heap.size w0 w) (hb2 : w0.heap.size ≤ base) : Below w0.heap.size w0 w' :=
  below_grow hb hg (Nat.le_refl _) (fun k hk => Nat.le_trans hb2 (World.ownsRow.lt h k hk).1)
/-- append of a row to one of the call's own. -/
theorem run_append_K (w : World) (ty : TypeId) (base : Nat) (v : Value) (xs : List α) (h : OwnK K base w v xs) (x : Value) (ys : List α) (h2 : RowK K w x ys) (hlen : xs.length + ys.length ≤ 1000000) (hbase : base ≤ w.heap.size) :
    ∃ v' w', (Builtin.append_ #[K.sl, K.sl] ty #[v, x]).run Tryz.prog w = .ok v' w' ∧ OwnK K base w' v' (xs ++ ys) ∧ w.grownBy w' v.ownBlock ∧ (v'.ownBlock = v.ownBlock ∨ v'.ownBlock = some w.heap.size) := by
  obtain ⟨i0, hi, hz0, hz1, hz2⟩ := info_parts K.info
  rcases h2 with ⟨rfl, rfl⟩ | ⟨g, off, c, rfl, hc, hcs⟩
  · exact ⟨v, w, run_append_owned_none (P := Tryz.prog) (w := w) base K.sl ty K.T i0 K.S K.und hi v xs.length (xs.flatMap K.cells) h, by rw [List.append_nil]; exact h, grown_refl _ _, .inl rfl⟩
  · have hnews : ∀ j u, (ys.flatMap K.cells)[j]? = some u → w.cell? ((⟨g, off, none⟩ : Addr).add j) = some u := fun j u hu => by
      obtain ⟨y, hy, hyu⟩ := K.flat_back ys j u hu
      have h3 := hcs _ y hy _ u hyu
      have hadd : (⟨g, off, none⟩ : Addr).add j = ⟨g, off + j, none⟩ := by unfold Addr.add; split <;> simp_all
      rw [hadd]
      rw [show off + j / K.S * K.S + j % K.S = off + j by have := Nat.div_add_mod' j K.S; omega] at h3
      exact h3
    obtain ⟨v', w', hr, h3, h4, _, h5⟩ := run_append_own_at (P := Tryz.prog) w base K.sl ty K.T i0 K.z K.S K.B K.und hi hz0 hz1 hz2 K.zs K.pos v xs.length (xs.flatMap K.cells) h ⟨g, off, none⟩ ys.length c (ys.flatMap K.cells) (K.flat_len ys) hnews
      (fun u hu => by
        obtain ⟨y, _, hy⟩ := List.mem_flatMap.1 hu
        exact K.one y u hy) (by unfold maxLen; omega) (by
        have := K.hB
        calc (xs.length + ys.length) * K.B ≤ 1000000 * 1000 := Nat.mul_le_mul hlen this
          _ ≤ 140737488355328 := by decide) hbase
    refine ⟨v', w', hr, ?_, h4, h5⟩
    unfold OwnK
    rw [List.length_append, List.flatMap_append]
    exact h3
theorem step_append_K {ops : Array Oper} {o : Oper} {a : Act} {J : Act → World → Prop} {Q : Exit → Act → World → Prop} {E : Prop} (hgd : o.guard = none) (s y : Operand)
    (ho : o.op = .call { callee := .builtin .append, args := #[s, y], argTypes := #[K.sl, K.sl] }) {w : World} (base : Nat) (v : Value) (xs : List α) (hs : a.eval s = v) (hrow : OwnK K base w v xs)
    (x : Value) (ys : List α) (hx : a.eval y = x) (h2 : RowK K w x ys) (hlen : xs.length + ys.length ≤ 1000000) (hbase : base ≤ w.heap.size)
    (h : ∀ v' w', OwnK K base w' v' (xs ++ ys) → w.grownBy w' v.ownBlock → (v'.ownBlock = v.ownBlock ∨ v'.ownBlock = some w.heap.size) → J (a.put o.dst v') w') :
    if Region.wanted o (yielded ops a.tmps) = true then Oper.wp Tryz.prog o a w J Q else E := by
  have hw : Region.wanted o (yielded ops a.tmps) = true := by simp [Region.wanted, hgd]
  rw [if_pos hw]
  obtain ⟨v', w', hr, h2, h3, h4⟩ := run_append_K w o.type base v xs hrow x ys h2 hlen hbase
  unfold Oper.wp execOp
  simp only [ho, resolve, invoke, builtin, Sem.run_bind, Sem.run_pure, Result.andThen_ok, List.map_toArray, List.map_cons, List.map_nil, hs, hx, hr]
  exact h v' w' h2 h3 h4
theorem wpList_append_K {ops : Array Oper} {rest : List Oper} {o : Oper} {a : Act} {Q : Exit → Act → World → Prop} (hgd : o.guard = none) (s y : Operand)
    (ho : o.op = .call { callee := .builtin .append, args := #[s, y], argTypes := #[K.sl, K.sl] }) {w : World} (base : Nat) (v : Value) (xs : List α) (hs : a.eval s = v) (hrow : OwnK K base w v xs)
    (x : Value) (ys : List α) (hx : a.eval y = x) (h2 : RowK K w x ys) (hlen : xs.length + ys.length ≤ 1000000) (hbase : base ≤ w.heap.size)
    (h : ∀ v' w', OwnK K base w' v' (xs ++ ys) → w.grownBy w' v.ownBlock → (v'.ownBlock = v.ownBlock ∨ v'.ownBlock = some w.heap.size) → wpList Tryz.prog ops Q rest (a.put o.dst v') w') :
    wpList Tryz.prog ops Q (o :: rest) a w := by
  refine wpList_plain hgd fun _ hK => ?_
  obtain ⟨v', w', hr, h2, h3, h4⟩ := run_append_K w o.type base v xs hrow x ys h2 hlen hbase
  unfold Oper.wp execOp
  simp only [ho, resolve, invoke, builtin, Sem.run_bind, Sem.run_pure, Result.andThen_ok, List.map_toArray, List.map_cons, List.map_nil, hs, hx, hr]
  exact hK _ _ (h v' w' h2 h3 h4)
end
/-- The three kinds: names, objects, changes of the references. -/
def kN : KindK NameT where
  cells n := [.int .i64 n.kind, .string n.owner, .int .i64 n.number, .int .i64 n.index, .string n.text]
  S := 5
  T := 38
  sl := 31
  z := .agg #[.int .i64 0, .string ⟨#[]⟩, .int .i64 0, .int .i64 0, .string ⟨#[]⟩]
  B := 56
  len _ := rfl
  pos := by decide
  one x u hu := by simp at hu; rcases hu with rfl | rfl | rfl | rfl | rfl <;> rfl
  und := Tryz.underlying31
  info := by kernel_rfl
  zs := rfl
  hB := by decide
def kE : KindK (NameT × ByteArray) where
  cells e := [.int .i64 e.1.kind, .string e.1.owner, .int .i64 e.1.number, .int .i64 e.1.index, .string e.1.text, .string e.2]
  S := 6
  T := 106
  sl := 26
  z := .agg #[.int .i64 0, .string ⟨#[]⟩, .int .i64 0, .int .i64 0, .string ⟨#[]⟩, .string ⟨#[]⟩]
  B := 72
  len _ := rfl
  pos := by decide
  one x u hu := by simp at hu; rcases hu with rfl | rfl | rfl | rfl | rfl | rfl <;> rfl
  und := Tryz.underlying26
  info := by kernel_rfl
  zs := rfl
  hB := by decide
def kC : KindK ChangeT where
  cells c := [.int .i64 c.name.kind, .string c.name.owner, .int .i64 c.name.number, .int .i64 c.name.index, .string c.name.text, .string c.value, .bool c.absent]
  S := 7
  T := 40
  sl := 22
  z := .agg #[.int .i64 0, .string ⟨#[]⟩, .int .i64 0, .int .i64 0, .string ⟨#[]⟩, .string ⟨#[]⟩, .bool false]
  B := 80
  len _ := rfl
  pos := by decide
  one x u hu := by simp at hu; rcases hu with rfl | rfl | rfl | rfl | rfl | rfl | rfl <;> rfl
  und := Tryz.underlying22
  info := by kernel_rfl
  zs := rfl
  hB := by decide
end Go.Proofs.YthghfhnicdoebaaGreatDoor

namespace Go.Proofs.YthghfhnicdoebaaGreatDoor
open Go.RowKit

def eqNB (a b : NameT) : Bool := decide (a = b)
set_option maxRecDepth 100000 in
theorem run_equal_N (w : World) (a1 : Int) (a2 : ByteArray) (a3 a4 : Int) (a5 : ByteArray) (b1 : Int) (b2 : ByteArray) (b3 b4 : Int) (b5 : ByteArray) : (Op.equal 38 (.agg #[.int .i64 a1, .string a2, .int .i64 a3, .int .i64 a4, .string a5]) (.agg #[.int .i64 b1, .string b2, .int .i64 b3, .int .i64 b4, .string b5])).run Tryz.prog w = .ok (eqNB ⟨a1, a2, a3, a4, a5⟩ ⟨b1, b2, b3, b4, b5⟩) w := by
  have hu : Tryz.prog.underlying 38 = some (.struct (Tryz.prog.fieldsOf 38)) := by kernel_rfl
  have hst : Tryz.prog.stoodInHeld 38 = false := by kernel_rfl
  simp only [Op.equal, Op.maxDepth]
  rw [run_equalIn_struct w 9999 _ _ _ hu hst]
  simp [go_sem, Tryz.underlying3, Tryz.underlying9]
  have hb : ∀ x y : ByteArray, x.toList = y.toList ↔ x = y := fun x y => by have := str_beq x y; rw [Bool.eq_iff_iff] at this; simpa using this
  simp only [hb, eqNB, NameT.mk.injEq]
  by_cases h1 : a1 = b1
  case neg => simp [h1]
  by_cases h2 : a2 = b2
  case neg => simp [h2]
  by_cases h3 : a3 = b3
  case neg => simp [h3]
  by_cases h4 : a4 = b4
  case neg => simp [h4]
  by_cases h5 : a5 = b5
  case neg => simp [h5]
  simp [h1, h2, h3, h4, h5]
theorem run_eql_N (w : World) (a1 : Int) (a2 : ByteArray) (a3 a4 : Int) (a5 : ByteArray) (b1 : Int) (b2 : ByteArray) (b3 b4 : Int) (b5 : ByteArray) : (binOp .eql 38 (.agg #[.int .i64 a1, .string a2, .int .i64 a3, .int .i64 a4, .string a5]) (.agg #[.int .i64 b1, .string b2, .int .i64 b3, .int .i64 b4, .string b5])).run Tryz.prog w = .ok (.bool (eqNB ⟨a1, a2, a3, a4, a5⟩ ⟨b1, b2, b3, b4, b5⟩)) w := by
  have h := run_equal_N w a1 a2 a3 a4 a5 b1 b2 b3 b4 b5
  simp only [binOp]
  simp [h]
/-- The first place that is not below. -/
def lowK (l : List (NameT × ByteArray)) (n : NameT) : Nat := (l.takeWhile fun e => decide (cmpN e.1 n < 0)).length
def isAt (l : List (NameT × ByteArray)) (n : NameT) : Bool := match l[lowK l n]? with
  | some e => eqNB e.1 n
  | none => false
theorem lowK_eq {l : List (NameT × ByteArray)} {n : NameT} {k : Nat} (hk : k ≤ l.length) (h1 : ∀ j e, j < k → l[j]? = some e → cmpN e.1 n < 0) (h2 : ∀ e, l[k]? = some e → ¬ cmpN e.1 n < 0) : lowK l n = k := by
  unfold lowK
  induction l generalizing k with
  | nil => simp at hk; simp [hk]
  | cons x l ih =>
    cases k with
    | zero =>
      have h3 := h2 x rfl
      rw [List.takeWhile_cons_of_neg (by simpa using h3)]
      rfl
    | succ k =>
      have h3 := h1 0 x (by omega) rfl
      rw [List.takeWhile_cons_of_pos (by simpa using h3), List.length_cons]
      congr 1
      exact ih (by simpa using hk) (fun j e hj he => h1 (j + 1) e (by omega) (by simpa using he)) (fun e he => h2 e (by simpa using he))
theorem lowK_le (l : List (NameT × ByteArray)) (n : NameT) : lowK l n ≤ l.length := by
  unfold lowK
  exact (List.takeWhile_prefix _).length_le
end Go.Proofs.YthghfhnicdoebaaGreatDoor

namespace Go.Proofs.YthghfhnicdoebaaGreatDoor
open Go.RowKit
attribute [local go_sem ↓] run_eql_N

set_option maxRecDepth 100000 in
set_option maxHeartbeats 3200000 in
theorem rFind_any (w : World) (v : Value) (l : List (NameT × ByteArray)) (hl : RowK kE w v l) (n : NameT) (hf : FitN n) (hfe : ∀ e ∈ l, FitN e.1) (hlen : l.length ≤ 1000000) :
    Calls Tryz.prog 71 #[v, nameV n] w fun r w' => r = .returned (.tuple #[.int .i64 (lowK l n), .bool (isAt l n)]) ∧ Below w.heap.size w w' := by
  obtain ⟨a, c, rfl, hc, -⟩ := hl.form
  have HL := Lib.hid hl
  have HF := Lib.hid hf
  have HFe := Lib.hid hfe
  have HLE := Lib.hid (fun k => @lowK_eq l n k)
  clear hl hf hfe
  generalize hll : l.length = len at *
  have Hll := Lib.hid hll
  clear hll
  obtain ⟨b1, b2, b3, b4, b5⟩ := n
  have hN : nameV ⟨b1, b2, b3, b4, b5⟩ = .agg #[.int .i64 b1, .string b2, .int .i64 b3, .int .i64 b4, .string b5] := rfl
  rw [hN]
  clear hN
  have Bw : Hid (∀ o, Below w.heap.size w (w.alloc o)) := fun o => (Below.refl _ _).alloc (Nat.le_refl _) _
  have Ow : Hid (∀ o, (w.alloc o).heap[w.heap.size]? = some o) := fun o => heap_alloc_new w o
  go_enter Tryz.func71, Tryz.ntmps71
  go_wp2_with fail
  have HB := Lib.hid (Bw.out (.cells #[.int .i64 b1, .string b2, .int .i64 b3, .int .i64 b4, .string b5] 38))
  have HX := Lib.hid (Ow.out (.cells #[.int .i64 b1, .string b2, .int .i64 b3, .int .i64 b4, .string b5] 38))
  clear Bw Ow
  generalize w.alloc (.cells #[.int .i64 b1, .string b2, .int .i64 b3, .int .i64 b4, .string b5] 38) = w1 at *
  go_loopg [6] len (fun gk iv wr => ∃ k : Nat, k + gk = len ∧ iv = .int .i64 k ∧ Hid (∀ j e, j < k → l[j]? = some e → cmpN e.1 ⟨b1, b2, b3, b4, b5⟩ < 0) ∧ Hid (Below w1.heap.size w1 wr))
  case atStart => exact ⟨0, by omega, rfl, (fun j e hj => by omega), Below.refl _ _⟩
  case round =>
    obtain ⟨k, hg, rfl, HP, HBr⟩ := hrel
    have Hg := Lib.hid hg
    have hk : k ≤ len := by omega
    clear hg
    have HBw : Hid (Below w.heap.size w wr) := HB.out.trans (HBr.out.mono HB.out.size)
    have HXr := Lib.hid ((HBr.out.block _ (lt_of_heap HX.out)).trans HX.out)
    by_cases hlt : k < len
    · have hkl : k < l.length := by rw [Hll.out]; exact hlt
      have he : l[k]? = some l[k] := List.getElem?_eq_getElem hkl
      have hmem : l[k] ∈ l := List.getElem_mem hkl
      have HFx := Lib.hid (HFe.out _ hmem)
      generalize l[k] = e at *
      have He := Lib.hid he
      obtain ⟨g, off, rfl, hcs⟩ := (HL.out.later HBw.out).at_ he
      obtain ⟨⟨a1, a2, a3, a4, a5⟩, ax⟩ := e
      clear he hmem
      have c0 : wr.cell? ⟨g, off + k * 6, none⟩ = some (.int .i64 a1) := hcs 0 _ rfl
      have c1 : wr.cell? ⟨g, off + k * 6 + 1, none⟩ = some (.string a2) := hcs 1 _ rfl
      have c2 : wr.cell? ⟨g, off + k * 6 + 2, none⟩ = some (.int .i64 a3) := hcs 2 _ rfl
      have c3 : wr.cell? ⟨g, off + k * 6 + 3, none⟩ = some (.int .i64 a4) := hcs 3 _ rfl
      have c4 : wr.cell? ⟨g, off + k * 6 + 4, none⟩ = some (.string a5) := hcs 4 _ rfl
      have d0 : wr.cell? ⟨w.heap.size, 0, none⟩ = some (.int .i64 b1) := cell_of_heap HXr.out 0
      have d1 : wr.cell? ⟨w.heap.size, 1, none⟩ = some (.string b2) := cell_of_heap HXr.out 1
      have d2 : wr.cell? ⟨w.heap.size, 2, none⟩ = some (.int .i64 b3) := cell_of_heap HXr.out 2
      have d3 : wr.cell? ⟨w.heap.size, 3, none⟩ = some (.int .i64 b4) := cell_of_heap HXr.out 3
      have d4 : wr.cell? ⟨w.heap.size, 4, none⟩ = some (.string b5) := cell_of_heap HXr.out 4
      clear hcs
      by_cases hlow : cmpN ⟨a1, a2, a3, a4, a5⟩ ⟨b1, b2, b3, b4, b5⟩ < 0
      · have HLo := Lib.hid hlow
        obtain ⟨r0, hr0⟩ : ∃ r, cmpN ⟨a1, a2, a3, a4, a5⟩ ⟨b1, b2, b3, b4, b5⟩ = r := ⟨_, rfl⟩
        rw [hr0] at hlow
        have HR0 := Lib.hid hr0
        clear hr0
        go_upto_region 2 with fail
        go_region_held3 (fun W => W.cell? ⟨g, off + k * 6, none⟩ = some (.int .i64 a1) ∧ W.cell? ⟨g, off + k * 6 + 1, none⟩ = some (.string a2) ∧ W.cell? ⟨g, off + k * 6 + 2, none⟩ = some (.int .i64 a3) ∧ W.cell? ⟨g, off + k * 6 + 3, none⟩ = some (.int .i64 a4) ∧ W.cell? ⟨g, off + k * 6 + 4, none⟩ = some (.string a5) ∧ W.cell? ⟨w.heap.size, 0, none⟩ = some (.int .i64 b1) ∧ W.cell? ⟨w.heap.size, 1, none⟩ = some (.string b2) ∧ W.cell? ⟨w.heap.size, 2, none⟩ = some (.int .i64 b3) ∧ W.cell? ⟨w.heap.size, 3, none⟩ = some (.int .i64 b4) ∧ W.cell? ⟨w.heap.size, 4, none⟩ = some (.string b5)) (first | with_reducible exact S1.out | with_reducible exact ⟨c0, c1, c2, c3, c4, d0, d1, d2, d3, d4⟩ | go_keep)
          (first
            | (go_at_call 76; refine (nCmp_is ⟨a1, a2, a3, a4, a5⟩ ⟨b1, b2, b3, b4, b5⟩ r0 HR0.out HFx.out HF.out _).mono ?_; rintro r w9 ⟨rfl, hb9⟩; have HB9 : Hid (Below w1.heap.size w1 w9) := HBr.out.trans ((((Below.refl _ _).drew).trans hb9).mono HBr.out.size); have S1 : Hid (w9.cell? ⟨g, off + k * 6, none⟩ = some (.int .i64 a1) ∧ w9.cell? ⟨g, off + k * 6 + 1, none⟩ = some (.string a2) ∧ w9.cell? ⟨g, off + k * 6 + 2, none⟩ = some (.int .i64 a3) ∧ w9.cell? ⟨g, off + k * 6 + 3, none⟩ = some (.int .i64 a4) ∧ w9.cell? ⟨g, off + k * 6 + 4, none⟩ = some (.string a5) ∧ w9.cell? ⟨w.heap.size, 0, none⟩ = some (.int .i64 b1) ∧ w9.cell? ⟨w.heap.size, 1, none⟩ = some (.string b2) ∧ w9.cell? ⟨w.heap.size, 2, none⟩ = some (.int .i64 b3) ∧ w9.cell? ⟨w.heap.size, 3, none⟩ = some (.int .i64 b4) ∧ w9.cell? ⟨w.heap.size, 4, none⟩ = some (.string b5)) := ⟨((bcell hb9).1 _ _ (World.block_lt_of_cell? wr _ c0)).trans c0, ((bcell hb9).1 _ _ (World.block_lt_of_cell? wr _ c1)).trans c1, ((bcell hb9).1 _ _ (World.block_lt_of_cell? wr _ c2)).trans c2, ((bcell hb9).1 _ _ (World.block_lt_of_cell? wr _ c3)).trans c3, ((bcell hb9).1 _ _ (World.block_lt_of_cell? wr _ c4)).trans c4, ((bcell hb9).1 _ _ (World.block_lt_of_cell? wr _ d0)).trans d0, ((bcell hb9).1 _ _ (World.block_lt_of_cell? wr _ d1)).trans d1, ((bcell hb9).1 _ _ (World.block_lt_of_cell? wr _ d2)).trans d2, ((bcell hb9).1 _ _ (World.block_lt_of_cell? wr _ d3)).trans d3, ((bcell hb9).1 _ _ (World.block_lt_of_cell? wr _ d4)).trans d4⟩; clear hb9)
            | fail)
        go_wp2
        go_roundg (len - (k + 1))
        case measure => have := Hg.out; omega
        case rel =>
          refine ⟨k + 1, by omega, by go_num, fun j e hj he => ?_, HB9.out⟩
          by_cases hjk : j = k
          · subst hjk
            rw [He.out] at he
            cases he
            exact HLo.out
          · exact HP.out j e (by omega) he
      · have HLow : Hid (lowK l ⟨b1, b2, b3, b4, b5⟩ = k) := HLE.out k hk HP.out (fun e he => by rw [He.out] at he; cases he; exact Int.not_lt.1 hlow)
        have HAt : Hid (isAt l ⟨b1, b2, b3, b4, b5⟩ = eqNB ⟨a1, a2, a3, a4, a5⟩ ⟨b1, b2, b3, b4, b5⟩) := by show _ = _; unfold isAt; rw [HLow.out, He.out]
        obtain ⟨r0, hr0⟩ : ∃ r, cmpN ⟨a1, a2, a3, a4, a5⟩ ⟨b1, b2, b3, b4, b5⟩ = r := ⟨_, rfl⟩
        rw [hr0] at hlow
        have HR0 := Lib.hid hr0
        clear hr0
        go_upto_region 2 with fail
        go_region_held3 (fun W => W.cell? ⟨g, off + k * 6, none⟩ = some (.int .i64 a1) ∧ W.cell? ⟨g, off + k * 6 + 1, none⟩ = some (.string a2) ∧ W.cell? ⟨g, off + k * 6 + 2, none⟩ = some (.int .i64 a3) ∧ W.cell? ⟨g, off + k * 6 + 3, none⟩ = some (.int .i64 a4) ∧ W.cell? ⟨g, off + k * 6 + 4, none⟩ = some (.string a5) ∧ W.cell? ⟨w.heap.size, 0, none⟩ = some (.int .i64 b1) ∧ W.cell? ⟨w.heap.size, 1, none⟩ = some (.string b2) ∧ W.cell? ⟨w.heap.size, 2, none⟩ = some (.int .i64 b3) ∧ W.cell? ⟨w.heap.size, 3, none⟩ = some (.int .i64 b4) ∧ W.cell? ⟨w.heap.size, 4, none⟩ = some (.string b5)) (first | with_reducible exact S1.out | with_reducible exact ⟨c0, c1, c2, c3, c4, d0, d1, d2, d3, d4⟩ | go_keep)
          (first
            | (go_at_call 76; refine (nCmp_is ⟨a1, a2, a3, a4, a5⟩ ⟨b1, b2, b3, b4, b5⟩ r0 HR0.out HFx.out HF.out _).mono ?_; rintro r w9 ⟨rfl, hb9⟩; have HB9 : Hid (Below w1.heap.size w1 w9) := HBr.out.trans ((((Below.refl _ _).drew).trans hb9).mono HBr.out.size); have S1 : Hid (w9.cell? ⟨g, off + k * 6, none⟩ = some (.int .i64 a1) ∧ w9.cell? ⟨g, off + k * 6 + 1, none⟩ = some (.string a2) ∧ w9.cell? ⟨g, off + k * 6 + 2, none⟩ = some (.int .i64 a3) ∧ w9.cell? ⟨g, off + k * 6 + 3, none⟩ = some (.int .i64 a4) ∧ w9.cell? ⟨g, off + k * 6 + 4, none⟩ = some (.string a5) ∧ w9.cell? ⟨w.heap.size, 0, none⟩ = some (.int .i64 b1) ∧ w9.cell? ⟨w.heap.size, 1, none⟩ = some (.string b2) ∧ w9.cell? ⟨w.heap.size, 2, none⟩ = some (.int .i64 b3) ∧ w9.cell? ⟨w.heap.size, 3, none⟩ = some (.int .i64 b4) ∧ w9.cell? ⟨w.heap.size, 4, none⟩ = some (.string b5)) := ⟨((bcell hb9).1 _ _ (World.block_lt_of_cell? wr _ c0)).trans c0, ((bcell hb9).1 _ _ (World.block_lt_of_cell? wr _ c1)).trans c1, ((bcell hb9).1 _ _ (World.block_lt_of_cell? wr _ c2)).trans c2, ((bcell hb9).1 _ _ (World.block_lt_of_cell? wr _ c3)).trans c3, ((bcell hb9).1 _ _ (World.block_lt_of_cell? wr _ c4)).trans c4, ((bcell hb9).1 _ _ (World.block_lt_of_cell? wr _ d0)).trans d0, ((bcell hb9).1 _ _ (World.block_lt_of_cell? wr _ d1)).trans d1, ((bcell hb9).1 _ _ (World.block_lt_of_cell? wr _ d2)).trans d2, ((bcell hb9).1 _ _ (World.block_lt_of_cell? wr _ d3)).trans d3, ((bcell hb9).1 _ _ (World.block_lt_of_cell? wr _ d4)).trans d4⟩; clear hb9)
            | fail)
        have HF9 : Hid (Below w.heap.size w w9) := HB.out.trans (HB9.out.mono HB.out.size)
        clear c0 c1 c2 c3 c4 d0 d1 d2 d3 d4
        obtain ⟨c0, c1, c2, c3, c4, d0, d1, d2, d3, d4⟩ := id S1.out
        go_upto_region 4 with fail
        go_quiet (fail)
        go_wp2
        refine bodyPost_ret (v := .tuple #[.int .i64 k, .bool (eqNB ⟨a1, a2, a3, a4, a5⟩ ⟨b1, b2, b3, b4, b5⟩)]) (by simp [results, Tryz.results71, go_sem]) rfl ?_
        exact ⟨by rw [HLow.out, HAt.out], below_toDrewN3 HF9.out _⟩
    · have hkl : k = len := by omega
      have HLow : Hid (lowK l ⟨b1, b2, b3, b4, b5⟩ = k) := HLE.out k hk HP.out (fun e he => by have h1 := (List.getElem?_eq_some_iff.1 he).1; have h2 := Hll.out; omega)
      have HAt : Hid (isAt l ⟨b1, b2, b3, b4, b5⟩ = false) := by show _ = _; unfold isAt; rw [HLow.out, List.getElem?_eq_none (by have h2 := Hll.out; omega)]
      clear hkl
      go_upto_region 2 with fail
      go_quiet (fail)
      go_upto_region 4 with fail
      go_quiet (fail)
      go_wp2
      refine bodyPost_ret (v := .tuple #[.int .i64 k, .bool false]) (by simp [results, Tryz.results71, go_sem]) rfl ?_
      exact ⟨by rw [HLow.out, HAt.out], below_toDrewN3 (below_toDrewN3 HBw.out _) _⟩
end Go.Proofs.YthghfhnicdoebaaGreatDoor

namespace Go.Proofs.YthghfhnicdoebaaGreatDoor
open Go.RowKit

theorem low_take {l : List (NameT × ByteArray)} {n : NameT} : ∀ e ∈ l.take (lowK l n), cmpN e.1 n < 0 := fun e he => by
  have h : l.take (lowK l n) = l.takeWhile fun e => decide (cmpN e.1 n < 0) := (List.prefix_iff_eq_take.1 (List.takeWhile_prefix _)).symm
  rw [h] at he
  simpa using List.all_eq_true.1 List.all_takeWhile e he
theorem low_drop {l : List (NameT × ByteArray)} {n : NameT} {e : NameT × ByteArray} (h : l[lowK l n]? = some e) : ¬ cmpN e.1 n < 0 := by
  unfold lowK at h
  induction l with
  | nil => simp at h
  | cons x l ih =>
    by_cases hx : cmpN x.1 n < 0
    · rw [List.takeWhile_cons_of_pos (by simpa using hx), List.length_cons] at h
      exact ih (by simpa using h)
    · rw [List.takeWhile_cons_of_neg (by simpa using hx)] at h
      simp at h
      subst h
      exact hx
theorem low_ways {l : List (NameT × ByteArray)} {n : NameT} (hs : SortL cmpN l) :
    (isAt l n = true ∧ ∃ x, l[lowK l n]? = some (n, x) ∧ lowK l n < l.length ∧ getL cmpN l n = some x ∧ ∀ v, putL cmpN l n v = l.take (lowK l n) ++ [(n, v)] ++ l.drop (lowK l n + 1)) ∨
    (isAt l n = false ∧ getL cmpN l n = none ∧ ∀ v, putL cmpN l n v = l.take (lowK l n) ++ [(n, v)] ++ l.drop (lowK l n)) := by
  have hlo := @low_take l n
  have hdr := @low_drop l n
  have hat : isAt l n = match l[lowK l n]? with | some e => eqNB e.1 n | none => false := rfl
  generalize lowK l n = k at *
  have hsplit : l = l.take k ++ l.drop k := (List.take_append_drop k l).symm
  cases hd : l.drop k with
  | nil =>
    have hlen : l.length ≤ k := List.drop_eq_nil_iff.1 hd
    rw [List.getElem?_eq_none hlen] at hat
    refine .inr ⟨hat, ?_, fun v => ?_⟩
    · rw [hd, List.append_nil] at hsplit
      rw [hsplit]
      exact getL_hi cmpN_ok hlo
    · rw [hd, List.append_nil] at hsplit
      rw [List.append_nil]
      conv => lhs; rw [hsplit]
      have := putL_past cmpN_ok (r := []) (v := v) hlo
      rw [List.append_nil] at this
      exact this
  | cons m b =>
    have hlt : k < l.length := by
      rcases Nat.lt_or_ge k l.length with h | h
      · exact h
      · rw [List.drop_eq_nil_of_le h] at hd; cases hd
    rw [List.drop_eq_getElem_cons hlt] at hd
    obtain ⟨hm, hb⟩ := List.cons.inj hd
    have hk : l[k]? = some m := by rw [List.getElem?_eq_getElem hlt, hm]
    have hnl := hdr hk
    rw [hk] at hat
    have hl2 : l = l.take k ++ m :: b := by
      conv => lhs; rw [hsplit, List.drop_eq_getElem_cons hlt, hm, hb]
    have hs2 : SortL cmpN (l.take k ++ m :: b) := hl2 ▸ hs
    by_cases he : m.1 = n
    · obtain ⟨m1, m2⟩ := m
      dsimp only at he
      subst he
      refine .inl ⟨hat.trans (by simp [eqNB]), m2, hk, hlt, ?_, fun v => ?_⟩
      · conv => lhs; rw [hl2]
        rw [getL_mid cmpN_ok hs2, if_pos (cmpN_ok.refl _)]
      · conv => lhs; rw [hl2]
        rw [putL_eq cmpN_ok hs2 (cmpN_ok.refl _), hb]
        simp
    · have h0 : cmpN n m.1 < 0 := by
        have h1 := cmpN_ok.anti m.1 n
        have h2 : cmpN m.1 n ≠ 0 := fun h => he (cmpN_ok.eq _ _ h)
        omega
      refine .inr ⟨hat.trans (by simp [eqNB, he]), ?_, fun v => ?_⟩
      · conv => lhs; rw [hl2]
        rw [getL_mid cmpN_ok hs2, if_neg (by omega), if_pos h0]
        exact getL_hi cmpN_ok hlo
      · conv => lhs; rw [hl2]
        rw [putL_past cmpN_ok hlo, putL, if_pos h0]
        simp

set_option maxRecDepth 100000 in
set_option maxHeartbeats 1600000 in
theorem rGet_any (w : World) (v : Value) (l : List (NameT × ByteArray)) (hl : RowK kE w v l) (n : NameT) (hf : FitN n) (hfe : ∀ e ∈ l, FitN e.1) (hlen : l.length ≤ 1000000) (hs : SortL cmpN l) :
    Calls Tryz.prog 62 #[v, nameV n] w fun r w' => r = .returned (.tuple #[.string ((getL cmpN l n).getD ⟨#[]⟩), .bool (getL cmpN l n).isSome]) ∧ Below w.heap.size w w' := by
  obtain ⟨a, c, rfl, hc, -⟩ := hl.form
  have HL := Lib.hid hl
  have hfind := rFind_any (w.alloc (.cells #[.int .i64 n.kind, .string n.owner, .int .i64 n.number, .int .i64 n.index, .string n.text] 38)) _ l (hl.later ((Below.refl _ _).alloc (Nat.le_refl _) _)) n hf hfe hlen
  have hB0 : Below w.heap.size w (w.alloc (.cells #[.int .i64 n.kind, .string n.owner, .int .i64 n.number, .int .i64 n.index, .string n.text] 38)) := (Below.refl _ _).alloc (Nat.le_refl _) _
  rcases low_ways (n := n) hs with ⟨h1, x, h2, hlt, h3, -⟩ | ⟨h1, h3, -⟩
  · rw [h3]
    rw [h1] at hfind
    have H2 := Lib.hid h2
    generalize lowK l n = k at *
    generalize hll : l.length = len at *
    have Hll := Lib.hid hll
    clear hll hl hf hfe h1 h2 h3 hs
    obtain ⟨b1, b2, b3, b4, b5⟩ := n
    unfold nameV at hfind ⊢
    dsimp only at hfind hB0 ⊢
    have HB0 := Lib.hid hB0
    clear hB0
    have HFi := Lib.hid hfind
    clear hfind
    go_enter Tryz.func62, Tryz.ntmps62
    go_wp2_with fail
    generalize w.alloc (.cells #[.int .i64 b1, .string b2, .int .i64 b3, .int .i64 b4, .string b5] 38) = w1 at *
    refine HFi.out.mono ?_
    rintro r w2 ⟨rfl, hb2⟩
    have HB2 : Hid (Below w.heap.size w w2) := HB0.out.trans (hb2.mono HB0.out.size)
    obtain ⟨g, off, rfl, hcs⟩ := (HL.out.later HB2.out).at_ H2.out
    have c5 : w2.cell? ⟨g, off + k * 6 + 5, none⟩ = some (.string x) := hcs 5 _ rfl
    clear hcs hb2
    go_wp2
    refine bodyPost_ret (v := .tuple #[.string x, .bool true]) (by simp [results, Tryz.results62, go_sem]) rfl ?_
    exact ⟨rfl, HB2.out⟩
  · rw [h3]
    rw [h1] at hfind
    generalize lowK l n = k at *
    generalize hll : l.length = len at *
    clear hll hl hf hfe h1 h3 hs
    obtain ⟨b1, b2, b3, b4, b5⟩ := n
    unfold nameV at hfind ⊢
    dsimp only at hfind hB0 ⊢
    have HB0 := Lib.hid hB0
    clear hB0
    have HFi := Lib.hid hfind
    clear hfind
    go_enter Tryz.func62, Tryz.ntmps62
    go_wp2_with fail
    generalize w.alloc (.cells #[.int .i64 b1, .string b2, .int .i64 b3, .int .i64 b4, .string b5] 38) = w1 at *
    refine HFi.out.mono ?_
    rintro r w2 ⟨rfl, hb2⟩
    have HB2 : Hid (Below w.heap.size w w2) := HB0.out.trans (hb2.mono HB0.out.size)
    clear hb2
    go_wp2
    refine bodyPost_ret (v := .tuple #[.string ⟨#[]⟩, .bool false]) (by simp [results, Tryz.results62, go_sem]) rfl ?_
    exact ⟨rfl, HB2.out⟩
end Go.Proofs.YthghfhnicdoebaaGreatDoor

namespace Go.Proofs.YthghfhnicdoebaaGreatDoor
open Go.RowKit

def withE (n : NameT) (x : ByteArray) : Int := if checkE n ≠ 0 then 12 else if 65536 < x.size then 5 else 0
/-- What With leaves. -/
def RWithP (l : List (NameT × ByteArray)) (n : NameT) (x : ByteArray) (w : World) (r : Ending) (w' : World) : Prop := ∃ (v : Value) (e : Int), r = .returned (.tuple #[v, .int .i64 e]) ∧ e = withE n x ∧ (e = 0 → RowK kE w' v (putL cmpN l n x)) ∧ Below w.heap.size w w'

set_option maxRecDepth 100000 in
set_option maxHeartbeats 3200000 in
theorem with_nil (w : World) (l : List (NameT × ByteArray)) (hl0 : l = []) (b1 : Int) (b2 : ByteArray) (b3 b4 : Int) (b5 x : ByteArray) (hf : FitN ⟨b1, b2, b3, b4, b5⟩) (hxs : x.size ≤ 9223372036854775807) :
    Calls Tryz.prog 37 #[.slice none 0 0, .agg #[.int .i64 b1, .string b2, .int .i64 b3, .int .i64 b4, .string b5], .string x] w (RWithP l ⟨b1, b2, b3, b4, b5⟩ x w) := by
  have HFi : Hid (∀ W, Below w.heap.size w W → Calls Tryz.prog 71 #[.slice none 0 0, .agg #[.int .i64 b1, .string b2, .int .i64 b3, .int .i64 b4, .string b5]] W fun r w' => r = .returned (.tuple #[.int .i64 0, .bool false]) ∧ Below W.heap.size W w') := fun W hW => rFind_any W _ [] (RowK.nil W) ⟨b1, b2, b3, b4, b5⟩ hf (fun e he => nomatch he) (by simp)
  obtain ⟨k, hk⟩ : ∃ k, k = 0 := ⟨0, rfl⟩
  have HPut : Hid (putL cmpN l ⟨b1, b2, b3, b4, b5⟩ x = l.take k ++ [(⟨b1, b2, b3, b4, b5⟩, x)] ++ l.drop k) := by show _ = _; rw [hl0, hk]; rfl
  have HTk : Hid (RowK kE w (.slice none 0 0) (l.take k)) := by show RowK _ _ _ _; rw [hl0, List.take_nil]; exact RowK.nil w
  have HTd : Hid (RowK kE w (.slice none 0 0) (l.drop k)) := by show RowK _ _ _ _; rw [hl0, List.drop_nil]; exact RowK.nil w
  have Hln : Hid (l.length ≤ 10000) := by show _ ≤ _; rw [hl0]; simp
  clear hl0 hk
  have HLen1 : Hid (([] : List (NameT × ByteArray)).length + (l.take k).length ≤ 1000000) := by show _ ≤ _; rw [List.length_take]; have := Hln.out; simp; omega
  have HLen2 : Hid ((l.take k).length + [((⟨b1, b2, b3, b4, b5⟩ : NameT), x)].length ≤ 1000000) := by show _ ≤ _; rw [List.length_take]; have := Hln.out; simp; omega
  have HF := Lib.hid hf
  clear hf
  have HB0 : Hid (∀ o, Below w.heap.size w (w.alloc o)) := fun o => (Below.refl _ _).alloc (Nat.le_refl _) _
  have HX0 : Hid (∀ o, (w.alloc o).heap[w.heap.size]? = some o) := fun o => heap_alloc_new w o
  go_enter Tryz.func37, Tryz.ntmps37
  go_wp2_with fail
  have HB1 := Lib.hid (HB0.out (.cells #[.int .i64 b1, .string b2, .int .i64 b3, .int .i64 b4, .string b5] 38))
  have HX1 := Lib.hid (HX0.out (.cells #[.int .i64 b1, .string b2, .int .i64 b3, .int .i64 b4, .string b5] 38))
  clear HB0 HX0
  generalize w.alloc (.cells #[.int .i64 b1, .string b2, .int .i64 b3, .int .i64 b4, .string b5] 38) = w1 at *
  refine (HFi.out w1 HB1.out).mono ?_
  rintro r w2 ⟨rfl, hb2⟩
  have HB2 : Hid (Below w.heap.size w w2) := HB1.out.trans (hb2.mono HB1.out.size)
  have HX2 := Lib.hid ((hb2.block _ (lt_of_heap HX1.out)).trans HX1.out)
  clear hb2 HB1 HX1
  have y0 : w2.cell? ⟨w.heap.size, 0, none⟩ = some (.int .i64 b1) := cell_of_heap HX2.out 0
  have y1 : w2.cell? ⟨w.heap.size, 1, none⟩ = some (.string b2) := cell_of_heap HX2.out 1
  have y2 : w2.cell? ⟨w.heap.size, 2, none⟩ = some (.int .i64 b3) := cell_of_heap HX2.out 2
  have y3 : w2.cell? ⟨w.heap.size, 3, none⟩ = some (.int .i64 b4) := cell_of_heap HX2.out 3
  have y4 : w2.cell? ⟨w.heap.size, 4, none⟩ = some (.string b5) := cell_of_heap HX2.out 4
  obtain ⟨q, hq⟩ : ∃ q, checkE ⟨b1, b2, b3, b4, b5⟩ = q := ⟨_, rfl⟩
  have HQ := Lib.hid hq
  clear hq
  by_cases hq0 : q = 0
  case neg =>
    have HWe : Hid (withE ⟨b1, b2, b3, b4, b5⟩ x = 12) := if_pos (by rw [HQ.out]; exact hq0)
    obtain ⟨n1, n2⟩ := ne_bool hq0
    clear hq0
    go_wp2_with fail
    refine (rChk_is ⟨b1, b2, b3, b4, b5⟩ q HQ.out HF.out _).mono ?_
    rintro r w3 ⟨rfl, hb3⟩
    have HB3 : Hid (Below w.heap.size w w3) := HB2.out.trans (hb3.mono HB2.out.size)
    clear hb3 y0 y1 y2 y3 y4
    go_wp2
    refine bodyPost_ret (v := .tuple #[.slice none 0 0, .int .i64 12]) (by simp [results, Tryz.results37, go_sem]) rfl ?_
    exact ⟨_, 12, rfl, HWe.out.symm, fun h => absurd h (by decide), HB3.out⟩
  subst hq0
  by_cases hx : 65536 < x.size
  case pos =>
    have HWe : Hid (withE ⟨b1, b2, b3, b4, b5⟩ x = 5) := by show _ = _; unfold withE; rw [if_neg (by rw [HQ.out]; decide), if_pos hx]
    go_wp2_with fail
    refine (rChk_is ⟨b1, b2, b3, b4, b5⟩ 0 HQ.out HF.out _).mono ?_
    rintro r w3 ⟨rfl, hb3⟩
    have HB3 : Hid (Below w.heap.size w w3) := HB2.out.trans (hb3.mono HB2.out.size)
    clear hb3 y0 y1 y2 y3 y4
    go_wp2
    refine bodyPost_ret (v := .tuple #[.slice none 0 0, .int .i64 5]) (by simp [results, Tryz.results37, go_sem]) rfl ?_
    exact ⟨_, 5, rfl, HWe.out.symm, fun h => absurd h (by decide), HB3.out⟩
  have HWe : Hid (withE ⟨b1, b2, b3, b4, b5⟩ x = 0) := by show _ = _; unfold withE; rw [if_neg (by rw [HQ.out]; decide), if_neg hx]
  go_wp2_with fail
  refine (rChk_is ⟨b1, b2, b3, b4, b5⟩ 0 HQ.out HF.out _).mono ?_
  rintro r U ⟨rfl, hb3⟩
  have HBU : Hid (Below w.heap.size w U) := HB2.out.trans (hb3.mono HB2.out.size)
  have HXU := Lib.hid ((hb3.block _ (lt_of_heap HX2.out)).trans HX2.out)
  clear hb3 y0 y1 y2 y3 y4 HB2 HX2
  have N0 : Hid (∀ o, (U.alloc o).drew.heap[U.heap.size]? = some o) := fun o => heap_alloc_new U o
  have N1 : Hid (∀ o o', ((U.alloc o).alloc o').drew.heap[U.heap.size]? = some o) := fun o o' => (Below.heap_alloc _ _ _ (by simp)).trans (heap_alloc_new U o)
  have N2 : Hid (∀ o o', ((U.alloc o).alloc o').drew.heap[U.heap.size + 1]? = some o') := fun o o' => by
    have h := heap_alloc_new (U.alloc o) o'
    rwa [World.size_alloc] at h
  have HBU1 : Hid (∀ o, Below w.heap.size w (U.alloc o).drew) := fun o => (HBU.out.alloc HBU.out.size _).drew
  have HBU2 : Hid (∀ o o', Below w.heap.size w ((U.alloc o).alloc o').drew) := fun o o' => ((HBU.out.alloc HBU.out.size _).alloc (by have := HBU.out.size; simp; omega) _).drew
  have X1 : Hid (∀ o, (U.alloc o).drew.heap[w.heap.size]? = some (.cells #[.int .i64 b1, .string b2, .int .i64 b3, .int .i64 b4, .string b5] 38 (0, 0))) := fun o => (Below.heap_alloc U o _ (lt_of_heap HXU.out)).trans HXU.out
  have X2 : Hid (∀ o o', ((U.alloc o).alloc o').drew.heap[w.heap.size]? = some (.cells #[.int .i64 b1, .string b2, .int .i64 b3, .int .i64 b4, .string b5] 38 (0, 0))) := fun o o' => (Below.heap_alloc _ o' _ (by have := lt_of_heap HXU.out; simp; omega)).trans ((Below.heap_alloc U o _ (lt_of_heap HXU.out)).trans HXU.out)
  have hul : w.heap.size < U.heap.size := lt_of_heap HXU.out
  have hul1 : w.heap.size < U.heap.size + 1 := by omega
  have hun : U.heap.size ≠ w.heap.size := by omega
  have hub : w.heap.size ≤ U.heap.size := by omega
  have hub1 : w.heap.size ≤ U.heap.size + 1 := by omega
  have u0 : U.cell? ⟨w.heap.size, 0, none⟩ = some (.int .i64 b1) := cell_of_heap HXU.out 0
  have u1 : U.cell? ⟨w.heap.size, 1, none⟩ = some (.string b2) := cell_of_heap HXU.out 1
  have u2 : U.cell? ⟨w.heap.size, 2, none⟩ = some (.int .i64 b3) := cell_of_heap HXU.out 2
  have u3 : U.cell? ⟨w.heap.size, 3, none⟩ = some (.int .i64 b4) := cell_of_heap HXU.out 3
  have u4 : U.cell? ⟨w.heap.size, 4, none⟩ = some (.string b5) := cell_of_heap HXU.out 4
  go_upto_region 8 with fail
  go_cut [10] (fun v wx => Hid (OwnK kE w.heap.size wx v (l.take k ++ [(⟨b1, b2, b3, b4, b5⟩, x)]) ∧ Below w.heap.size w wx))
  case first =>
    go_region_law (first
      | (refine step_append_K (K := kE) (by rfl) _ _ (by rfl) w.heap.size (.slice (some ⟨U.heap.size, 0, none⟩) 0 0) [] (by rfl) (OwnK.empty (N1.out _ _) hub) (.slice none 0 0) (l.take k) (by rfl) (HTk.out.later (HBU2.out _ _)) HLen1.out (HBU2.out _ _).size ?_; intro vq wq hrowq hgq hatq; have Rq : Hid (OwnK kE w.heap.size wq vq (l.take k)) := hrowq; have Bq : Hid (Below w.heap.size w wq) := below_grow (HBU2.out _ _) hgq (Nat.le_refl _) (fun k hk => by have hk : U.heap.size = k := Option.some.inj hk; have := HBU.out.size; omega); have HXq := Lib.hid ((hgq.block _ (by have := lt_of_heap HXU.out; simp <;> omega) (fun e => by have e : w.heap.size = U.heap.size := Option.some.inj e; have := lt_of_heap HXU.out; omega)).trans (X2.out _ _)); have HPk : Hid (wq.heap[U.heap.size + 1]? = some (.cells #[.int .i64 b1, .string b2, .int .i64 b3, .int .i64 b4, .string b5, .string x] 106 (0, 0))) := (hgq.block _ (by simp <;> omega) (fun e => by have e : U.heap.size + 1 = U.heap.size := Option.some.inj e; omega)).trans (N2.out _ _); have q0 := cell_of_heap HXq.out 0; have q1 := cell_of_heap HXq.out 1; have q2 := cell_of_heap HXq.out 2; have q3 := cell_of_heap HXq.out 3; have q4 := cell_of_heap HXq.out 4; have hqlt := lt_of_heap HXq.out; clear hrowq hgq hatq)
      | (refine step_append_K (K := kE) (by rfl) _ _ (by rfl) w.heap.size (.slice (some ⟨U.heap.size + 1, 0, none⟩) 0 0) [] (by rfl) (OwnK.empty (N2.out _ _) hub1) (.slice none 0 0) (l.take k) (by rfl) (HTk.out.later (HBU2.out _ _)) HLen1.out (HBU2.out _ _).size ?_; intro vq wq hrowq hgq hatq; have Rq : Hid (OwnK kE w.heap.size wq vq (l.take k)) := hrowq; have Bq : Hid (Below w.heap.size w wq) := below_grow (HBU2.out _ _) hgq (Nat.le_refl _) (fun k hk => by have hk : U.heap.size + 1 = k := Option.some.inj hk; have := HBU.out.size; omega); have HXq := Lib.hid ((hgq.block _ (by have := lt_of_heap HXU.out; simp <;> omega) (fun e => by have e : w.heap.size = U.heap.size + 1 := Option.some.inj e; have := lt_of_heap HXU.out; omega)).trans (X2.out _ _)); have HPk : Hid (wq.heap[U.heap.size]? = some (.cells #[.int .i64 b1, .string b2, .int .i64 b3, .int .i64 b4, .string b5, .string x] 106 (0, 0))) := (hgq.block _ (by simp <;> omega) (fun e => by have e : U.heap.size = U.heap.size + 1 := Option.some.inj e; omega)).trans (N1.out _ _); have q0 := cell_of_heap HXq.out 0; have q1 := cell_of_heap HXq.out 1; have q2 := cell_of_heap HXq.out 2; have q3 := cell_of_heap HXq.out 3; have q4 := cell_of_heap HXq.out 4; have hqlt := lt_of_heap HXq.out; clear hrowq hgq hatq)
      | (refine step_append_K (K := kE) (by rfl) _ _ (by rfl) w.heap.size (.slice (some ⟨U.heap.size, 0, none⟩) 0 0) [] (by rfl) (OwnK.empty (N0.out _) hub) (.slice none 0 0) (l.take k) (by rfl) (HTk.out.later (HBU1.out _)) HLen1.out (HBU1.out _).size ?_; intro vq wq hrowq hgq hatq; have Rq : Hid (OwnK kE w.heap.size wq vq (l.take k)) := hrowq; have Bq : Hid (Below w.heap.size w wq) := below_grow (HBU1.out _) hgq (Nat.le_refl _) (fun k hk => by have hk : U.heap.size = k := Option.some.inj hk; have := HBU.out.size; omega); have HXq := Lib.hid ((hgq.block _ (by have := lt_of_heap HXU.out; simp <;> omega) (fun e => by have e : w.heap.size = U.heap.size := Option.some.inj e; have := lt_of_heap HXU.out; omega)).trans (X1.out _)); have q0 := cell_of_heap HXq.out 0; have q1 := cell_of_heap HXq.out 1; have q2 := cell_of_heap HXq.out 2; have q3 := cell_of_heap HXq.out 3; have q4 := cell_of_heap HXq.out 4; have hqlt := lt_of_heap HXq.out; clear hrowq hgq hatq)
      | (refine step_append_K (K := kE) (by rfl) _ _ (by rfl) w.heap.size vq (l.take k) (by rfl) Rq.out (.slice (some ⟨_, 0, none⟩) 1 1) [(⟨b1, b2, b3, b4, b5⟩, x)] (by rfl) (RowK.one HPk.out rfl) HLen2.out Bq.out.size ?_; intro vr wr hrowr hgr hatr; have Rr : Hid (OwnK kE w.heap.size wr vr (l.take k ++ [(⟨b1, b2, b3, b4, b5⟩, x)])) := hrowr; have Br : Hid (Below w.heap.size w wr) := OwnK.below Rq.out hgr Bq.out (Nat.le_refl _); clear hrowr hgr hatr)
      | (refine step_append_K (K := kE) (by rfl) _ _ (by rfl) w.heap.size vq (l.take k) (by rfl) (Rq.out.later ((Below.refl _ _).alloc (Nat.le_refl _) _)) (.slice (some ⟨wq.heap.size, 0, none⟩) 1 1) [(⟨b1, b2, b3, b4, b5⟩, x)] (by rfl) (RowK.one (heap_alloc_new wq _) rfl) HLen2.out (Bq.out.alloc Bq.out.size _).size ?_; intro vr wr hrowr hgr hatr; have Rr : Hid (OwnK kE w.heap.size wr vr (l.take k ++ [(⟨b1, b2, b3, b4, b5⟩, x)])) := hrowr; have Br : Hid (Below w.heap.size w wr) := OwnK.below (Rq.out.later ((Below.refl _ _).alloc (Nat.le_refl _) _)) hgr (Bq.out.alloc Bq.out.size _) (Nat.le_refl _); clear hrowr hgr hatr)
      | fail)
    all_goals
      go_wp2
      go_meet
      exact Lib.hid ⟨Rr.out, Br.out⟩
  case rest =>
    obtain ⟨hr, hb⟩ := hcut
    have HR := Lib.hid hr
    have HBr := Lib.hid hb
    clear hr hb N0 N1 N2 HBU1 HBU2 X1 X2
    go_wp2_with (first
      | (at_builtin; go_loud (refine wpList_append_K (K := kE) rfl _ _ rfl w.heap.size u10 (l.take k ++ [(⟨b1, b2, b3, b4, b5⟩, x)]) rfl HR.out (.slice none 0 0) (l.drop k) rfl (HTd.out.later HBr.out) (by simp [List.length_take]; have := Hln.out; omega) HBr.out.size ?_; intro vz wz hrowz hgz hatz; have HRz := Lib.hid hrowz; have HBz : Hid (Below w.heap.size w wz) := OwnK.below HR.out hgz HBr.out (Nat.le_refl _); clear hrowz hgz hatz))
      | go_in)
    go_wp2
    refine bodyPost_ret (v := .tuple #[vz, .int .i64 0]) (by simp [results, Tryz.results37, go_sem]) rfl ?_
    refine ⟨vz, 0, rfl, by rw [HWe.out], fun _ => ?_, HBz.out⟩
    rw [HPut.out]
    exact HRz.out.row

set_option maxRecDepth 100000 in
set_option maxHeartbeats 3200000 in
theorem with_new (w : World) (g off len c : Nat) (l : List (NameT × ByteArray)) (hl : RowK kE w (.slice (some ⟨g, off, none⟩) len c) l) (hs : SortL cmpN l) (hfe : ∀ e ∈ l, FitN e.1) (hlen : l.length ≤ 10000) (b1 : Int) (b2 : ByteArray) (b3 b4 : Int) (b5 x : ByteArray) (hf : FitN ⟨b1, b2, b3, b4, b5⟩) (hxs : x.size ≤ 9223372036854775807) (hat : isAt l ⟨b1, b2, b3, b4, b5⟩ = false) :
    Calls Tryz.prog 37 #[.slice (some ⟨g, off, none⟩) len c, .agg #[.int .i64 b1, .string b2, .int .i64 b3, .int .i64 b4, .string b5], .string x] w (RWithP l ⟨b1, b2, b3, b4, b5⟩ x w) := by
  rcases low_ways (n := ⟨b1, b2, b3, b4, b5⟩) hs with ⟨h1, y, h2, hlt, h3, hput⟩ | ⟨h1, h3, hput⟩
  · exact absurd (h1.symm.trans hat) (by decide)
  have hkl := lowK_le l ⟨b1, b2, b3, b4, b5⟩
  have hlc : len ≤ c := by
    obtain ⟨a', c', e1, e2, -⟩ := hl.form
    cases e1
    exact e2
  have hll := hl.len
  rw [hll] at hkl
  have HFi : Hid (∀ W, Below w.heap.size w W → Calls Tryz.prog 71 #[.slice (some ⟨g, off, none⟩) len c, .agg #[.int .i64 b1, .string b2, .int .i64 b3, .int .i64 b4, .string b5]] W fun r w' => r = .returned (.tuple #[.int .i64 (lowK l ⟨b1, b2, b3, b4, b5⟩), .bool false]) ∧ Below W.heap.size W w') := fun W hW => by
    have h := rFind_any W _ l (hl.later hW) ⟨b1, b2, b3, b4, b5⟩ hf hfe (by omega)
    rw [h1] at h
    exact h
  have HPut := Lib.hid (hput x)
  clear hput h1 h3
  generalize hkk : lowK l ⟨b1, b2, b3, b4, b5⟩ = k at *
  clear hkk
  have HTk : Hid (RowK kE w (.slice (some ⟨g, off, none⟩) k c) (l.take k)) := hl.take hkl
  have HTd : Hid (¬ k = c → RowK kE w (.slice (some ⟨g, off + (k) * 6, none⟩) (len - (k)) (c - (k))) (l.drop (k))) := fun h => hl.drop (by omega)
  have HTe : Hid (k = c → RowK kE w (.slice (some ⟨g, off, none⟩) 0 0) (l.drop (k))) := fun h => by rw [List.drop_eq_nil_of_le (by omega)]; exact RowK.empty
  have Hln : Hid (l.length ≤ 10000) := hlen
  have hkcap : k ≤ c := by omega
  have hlim : decide ((65536 : Int) ≤ (len : Int)) = false := decide_eq_false (by omega)
  have Hlenl : Hid (l.length = len) := hll
  clear hs hfe hlen hl hll hat
  have HLen1 : Hid (([] : List (NameT × ByteArray)).length + (l.take k).length ≤ 1000000) := by show _ ≤ _; rw [List.length_take]; have := Hln.out; simp; omega
  have HLen2 : Hid ((l.take k).length + [((⟨b1, b2, b3, b4, b5⟩ : NameT), x)].length ≤ 1000000) := by show _ ≤ _; rw [List.length_take]; have := Hln.out; simp; omega
  have HF := Lib.hid hf
  clear hf
  have HB0 : Hid (∀ o, Below w.heap.size w (w.alloc o)) := fun o => (Below.refl _ _).alloc (Nat.le_refl _) _
  have HX0 : Hid (∀ o, (w.alloc o).heap[w.heap.size]? = some o) := fun o => heap_alloc_new w o
  go_enter Tryz.func37, Tryz.ntmps37
  go_wp2_with fail
  have HB1 := Lib.hid (HB0.out (.cells #[.int .i64 b1, .string b2, .int .i64 b3, .int .i64 b4, .string b5] 38))
  have HX1 := Lib.hid (HX0.out (.cells #[.int .i64 b1, .string b2, .int .i64 b3, .int .i64 b4, .string b5] 38))
  clear HB0 HX0
  generalize w.alloc (.cells #[.int .i64 b1, .string b2, .int .i64 b3, .int .i64 b4, .string b5] 38) = w1 at *
  refine (HFi.out w1 HB1.out).mono ?_
  rintro r w2 ⟨rfl, hb2⟩
  have HB2 : Hid (Below w.heap.size w w2) := HB1.out.trans (hb2.mono HB1.out.size)
  have HX2 := Lib.hid ((hb2.block _ (lt_of_heap HX1.out)).trans HX1.out)
  clear hb2 HB1 HX1
  have y0 : w2.cell? ⟨w.heap.size, 0, none⟩ = some (.int .i64 b1) := cell_of_heap HX2.out 0
  have y1 : w2.cell? ⟨w.heap.size, 1, none⟩ = some (.string b2) := cell_of_heap HX2.out 1
  have y2 : w2.cell? ⟨w.heap.size, 2, none⟩ = some (.int .i64 b3) := cell_of_heap HX2.out 2
  have y3 : w2.cell? ⟨w.heap.size, 3, none⟩ = some (.int .i64 b4) := cell_of_heap HX2.out 3
  have y4 : w2.cell? ⟨w.heap.size, 4, none⟩ = some (.string b5) := cell_of_heap HX2.out 4
  obtain ⟨q, hq⟩ : ∃ q, checkE ⟨b1, b2, b3, b4, b5⟩ = q := ⟨_, rfl⟩
  have HQ := Lib.hid hq
  clear hq
  by_cases hq0 : q = 0
  case neg =>
    have HWe : Hid (withE ⟨b1, b2, b3, b4, b5⟩ x = 12) := if_pos (by rw [HQ.out]; exact hq0)
    obtain ⟨n1, n2⟩ := ne_bool hq0
    clear hq0
    go_wp2_with fail
    refine (rChk_is ⟨b1, b2, b3, b4, b5⟩ q HQ.out HF.out _).mono ?_
    rintro r w3 ⟨rfl, hb3⟩
    have HB3 : Hid (Below w.heap.size w w3) := HB2.out.trans (hb3.mono HB2.out.size)
    clear hb3 y0 y1 y2 y3 y4
    go_wp2
    refine bodyPost_ret (v := .tuple #[.slice none 0 0, .int .i64 12]) (by simp [results, Tryz.results37, go_sem]) rfl ?_
    exact ⟨_, 12, rfl, HWe.out.symm, fun h => absurd h (by decide), HB3.out⟩
  subst hq0
  by_cases hx : 65536 < x.size
  case pos =>
    have HWe : Hid (withE ⟨b1, b2, b3, b4, b5⟩ x = 5) := by show _ = _; unfold withE; rw [if_neg (by rw [HQ.out]; decide), if_pos hx]
    go_wp2_with fail
    refine (rChk_is ⟨b1, b2, b3, b4, b5⟩ 0 HQ.out HF.out _).mono ?_
    rintro r w3 ⟨rfl, hb3⟩
    have HB3 : Hid (Below w.heap.size w w3) := HB2.out.trans (hb3.mono HB2.out.size)
    clear hb3 y0 y1 y2 y3 y4
    go_wp2
    refine bodyPost_ret (v := .tuple #[.slice none 0 0, .int .i64 5]) (by simp [results, Tryz.results37, go_sem]) rfl ?_
    exact ⟨_, 5, rfl, HWe.out.symm, fun h => absurd h (by decide), HB3.out⟩
  have HWe : Hid (withE ⟨b1, b2, b3, b4, b5⟩ x = 0) := by show _ = _; unfold withE; rw [if_neg (by rw [HQ.out]; decide), if_neg hx]
  go_wp2_with fail
  refine (rChk_is ⟨b1, b2, b3, b4, b5⟩ 0 HQ.out HF.out _).mono ?_
  rintro r U ⟨rfl, hb3⟩
  have HBU : Hid (Below w.heap.size w U) := HB2.out.trans (hb3.mono HB2.out.size)
  have HXU := Lib.hid ((hb3.block _ (lt_of_heap HX2.out)).trans HX2.out)
  clear hb3 y0 y1 y2 y3 y4 HB2 HX2
  have N0 : Hid (∀ o, (U.alloc o).drew.heap[U.heap.size]? = some o) := fun o => heap_alloc_new U o
  have N1 : Hid (∀ o o', ((U.alloc o).alloc o').drew.heap[U.heap.size]? = some o) := fun o o' => (Below.heap_alloc _ _ _ (by simp)).trans (heap_alloc_new U o)
  have N2 : Hid (∀ o o', ((U.alloc o).alloc o').drew.heap[U.heap.size + 1]? = some o') := fun o o' => by
    have h := heap_alloc_new (U.alloc o) o'
    rwa [World.size_alloc] at h
  have HBU1 : Hid (∀ o, Below w.heap.size w (U.alloc o).drew) := fun o => (HBU.out.alloc HBU.out.size _).drew
  have HBU2 : Hid (∀ o o', Below w.heap.size w ((U.alloc o).alloc o').drew) := fun o o' => ((HBU.out.alloc HBU.out.size _).alloc (by have := HBU.out.size; simp; omega) _).drew
  have X1 : Hid (∀ o, (U.alloc o).drew.heap[w.heap.size]? = some (.cells #[.int .i64 b1, .string b2, .int .i64 b3, .int .i64 b4, .string b5] 38 (0, 0))) := fun o => (Below.heap_alloc U o _ (lt_of_heap HXU.out)).trans HXU.out
  have X2 : Hid (∀ o o', ((U.alloc o).alloc o').drew.heap[w.heap.size]? = some (.cells #[.int .i64 b1, .string b2, .int .i64 b3, .int .i64 b4, .string b5] 38 (0, 0))) := fun o o' => (Below.heap_alloc _ o' _ (by have := lt_of_heap HXU.out; simp; omega)).trans ((Below.heap_alloc U o _ (lt_of_heap HXU.out)).trans HXU.out)
  have hul : w.heap.size < U.heap.size := lt_of_heap HXU.out
  have hul1 : w.heap.size < U.heap.size + 1 := by omega
  have hun : U.heap.size ≠ w.heap.size := by omega
  have hub : w.heap.size ≤ U.heap.size := by omega
  have hub1 : w.heap.size ≤ U.heap.size + 1 := by omega
  have u0 : U.cell? ⟨w.heap.size, 0, none⟩ = some (.int .i64 b1) := cell_of_heap HXU.out 0
  have u1 : U.cell? ⟨w.heap.size, 1, none⟩ = some (.string b2) := cell_of_heap HXU.out 1
  have u2 : U.cell? ⟨w.heap.size, 2, none⟩ = some (.int .i64 b3) := cell_of_heap HXU.out 2
  have u3 : U.cell? ⟨w.heap.size, 3, none⟩ = some (.int .i64 b4) := cell_of_heap HXU.out 3
  have u4 : U.cell? ⟨w.heap.size, 4, none⟩ = some (.string b5) := cell_of_heap HXU.out 4
  go_upto_region 8 with fail
  go_cut [10] (fun v wx => Hid (OwnK kE w.heap.size wx v (l.take k ++ [(⟨b1, b2, b3, b4, b5⟩, x)]) ∧ Below w.heap.size w wx))
  case first =>
    go_region_law (first
      | (refine step_append_K (K := kE) (by rfl) _ _ (by rfl) w.heap.size (.slice (some ⟨U.heap.size, 0, none⟩) 0 0) [] (by rfl) (OwnK.empty (N1.out _ _) hub) (.slice (some ⟨g, off, none⟩) k c) (l.take k) (by rfl) (HTk.out.later (HBU2.out _ _)) HLen1.out (HBU2.out _ _).size ?_; intro vq wq hrowq hgq hatq; have Rq : Hid (OwnK kE w.heap.size wq vq (l.take k)) := hrowq; have Bq : Hid (Below w.heap.size w wq) := below_grow (HBU2.out _ _) hgq (Nat.le_refl _) (fun k hk => by have hk : U.heap.size = k := Option.some.inj hk; have := HBU.out.size; omega); have HXq := Lib.hid ((hgq.block _ (by have := lt_of_heap HXU.out; simp <;> omega) (fun e => by have e : w.heap.size = U.heap.size := Option.some.inj e; have := lt_of_heap HXU.out; omega)).trans (X2.out _ _)); have HPk : Hid (wq.heap[U.heap.size + 1]? = some (.cells #[.int .i64 b1, .string b2, .int .i64 b3, .int .i64 b4, .string b5, .string x] 106 (0, 0))) := (hgq.block _ (by simp <;> omega) (fun e => by have e : U.heap.size + 1 = U.heap.size := Option.some.inj e; omega)).trans (N2.out _ _); have q0 := cell_of_heap HXq.out 0; have q1 := cell_of_heap HXq.out 1; have q2 := cell_of_heap HXq.out 2; have q3 := cell_of_heap HXq.out 3; have q4 := cell_of_heap HXq.out 4; have hqlt := lt_of_heap HXq.out; clear hrowq hgq hatq)
      | (refine step_append_K (K := kE) (by rfl) _ _ (by rfl) w.heap.size (.slice (some ⟨U.heap.size + 1, 0, none⟩) 0 0) [] (by rfl) (OwnK.empty (N2.out _ _) hub1) (.slice (some ⟨g, off, none⟩) k c) (l.take k) (by rfl) (HTk.out.later (HBU2.out _ _)) HLen1.out (HBU2.out _ _).size ?_; intro vq wq hrowq hgq hatq; have Rq : Hid (OwnK kE w.heap.size wq vq (l.take k)) := hrowq; have Bq : Hid (Below w.heap.size w wq) := below_grow (HBU2.out _ _) hgq (Nat.le_refl _) (fun k hk => by have hk : U.heap.size + 1 = k := Option.some.inj hk; have := HBU.out.size; omega); have HXq := Lib.hid ((hgq.block _ (by have := lt_of_heap HXU.out; simp <;> omega) (fun e => by have e : w.heap.size = U.heap.size + 1 := Option.some.inj e; have := lt_of_heap HXU.out; omega)).trans (X2.out _ _)); have HPk : Hid (wq.heap[U.heap.size]? = some (.cells #[.int .i64 b1, .string b2, .int .i64 b3, .int .i64 b4, .string b5, .string x] 106 (0, 0))) := (hgq.block _ (by simp <;> omega) (fun e => by have e : U.heap.size = U.heap.size + 1 := Option.some.inj e; omega)).trans (N1.out _ _); have q0 := cell_of_heap HXq.out 0; have q1 := cell_of_heap HXq.out 1; have q2 := cell_of_heap HXq.out 2; have q3 := cell_of_heap HXq.out 3; have q4 := cell_of_heap HXq.out 4; have hqlt := lt_of_heap HXq.out; clear hrowq hgq hatq)
      | (refine step_append_K (K := kE) (by rfl) _ _ (by rfl) w.heap.size (.slice (some ⟨U.heap.size, 0, none⟩) 0 0) [] (by rfl) (OwnK.empty (N0.out _) hub) (.slice (some ⟨g, off, none⟩) k c) (l.take k) (by rfl) (HTk.out.later (HBU1.out _)) HLen1.out (HBU1.out _).size ?_; intro vq wq hrowq hgq hatq; have Rq : Hid (OwnK kE w.heap.size wq vq (l.take k)) := hrowq; have Bq : Hid (Below w.heap.size w wq) := below_grow (HBU1.out _) hgq (Nat.le_refl _) (fun k hk => by have hk : U.heap.size = k := Option.some.inj hk; have := HBU.out.size; omega); have HXq := Lib.hid ((hgq.block _ (by have := lt_of_heap HXU.out; simp <;> omega) (fun e => by have e : w.heap.size = U.heap.size := Option.some.inj e; have := lt_of_heap HXU.out; omega)).trans (X1.out _)); have q0 := cell_of_heap HXq.out 0; have q1 := cell_of_heap HXq.out 1; have q2 := cell_of_heap HXq.out 2; have q3 := cell_of_heap HXq.out 3; have q4 := cell_of_heap HXq.out 4; have hqlt := lt_of_heap HXq.out; clear hrowq hgq hatq)
      | (refine step_append_K (K := kE) (by rfl) _ _ (by rfl) w.heap.size vq (l.take k) (by rfl) Rq.out (.slice (some ⟨_, 0, none⟩) 1 1) [(⟨b1, b2, b3, b4, b5⟩, x)] (by rfl) (RowK.one HPk.out rfl) HLen2.out Bq.out.size ?_; intro vr wr hrowr hgr hatr; have Rr : Hid (OwnK kE w.heap.size wr vr (l.take k ++ [(⟨b1, b2, b3, b4, b5⟩, x)])) := hrowr; have Br : Hid (Below w.heap.size w wr) := OwnK.below Rq.out hgr Bq.out (Nat.le_refl _); clear hrowr hgr hatr)
      | (refine step_append_K (K := kE) (by rfl) _ _ (by rfl) w.heap.size vq (l.take k) (by rfl) (Rq.out.later ((Below.refl _ _).alloc (Nat.le_refl _) _)) (.slice (some ⟨wq.heap.size, 0, none⟩) 1 1) [(⟨b1, b2, b3, b4, b5⟩, x)] (by rfl) (RowK.one (heap_alloc_new wq _) rfl) HLen2.out (Bq.out.alloc Bq.out.size _).size ?_; intro vr wr hrowr hgr hatr; have Rr : Hid (OwnK kE w.heap.size wr vr (l.take k ++ [(⟨b1, b2, b3, b4, b5⟩, x)])) := hrowr; have Br : Hid (Below w.heap.size w wr) := OwnK.below (Rq.out.later ((Below.refl _ _).alloc (Nat.le_refl _) _)) hgr (Bq.out.alloc Bq.out.size _) (Nat.le_refl _); clear hrowr hgr hatr)
      | fail)
    all_goals
      go_wp2
      go_meet
      exact Lib.hid ⟨Rr.out, Br.out⟩
  case rest =>
    obtain ⟨hr, hb⟩ := hcut
    have HR := Lib.hid hr
    have HBr := Lib.hid hb
    clear hr hb N0 N1 N2 HBU1 HBU2 X1 X2
    by_cases hkc : k = c
    · have HTx := Lib.hid (HTe.out hkc)
      have HL0 : Hid ((l.drop (k)).length = len - (k)) := by show _ = _; rw [List.length_drop]; have := Hlenl.out; omega
      go_wp2_with (first
        | (at_builtin; go_loud (refine wpList_append_K (K := kE) rfl _ _ rfl w.heap.size u10 (l.take k ++ [(⟨b1, b2, b3, b4, b5⟩, x)]) rfl HR.out (.slice (some ⟨g, off, none⟩) 0 0) (l.drop (k)) rfl (HTx.out.later HBr.out) (by simp [List.length_take]; have := Hln.out; omega) HBr.out.size ?_; intro vz wz hrowz hgz hatz; have HRz := Lib.hid hrowz; have HBz : Hid (Below w.heap.size w wz) := OwnK.below HR.out hgz HBr.out (Nat.le_refl _); clear hrowz hgz hatz))
        | go_in)
      go_wp2
      refine bodyPost_ret (v := .tuple #[vz, .int .i64 0]) (by simp [results, Tryz.results37, go_sem]) rfl ?_
      refine ⟨vz, 0, rfl, by rw [HWe.out], fun _ => ?_, HBz.out⟩
      rw [HPut.out]
      exact HRz.out.row
    · have HTx := Lib.hid (HTd.out hkc)
      go_wp2_with (first
        | (at_builtin; go_loud (refine wpList_append_K (K := kE) rfl _ _ rfl w.heap.size u10 (l.take k ++ [(⟨b1, b2, b3, b4, b5⟩, x)]) rfl HR.out (.slice (some ⟨g, off + (k) * 6, none⟩) (len - (k)) (c - (k))) (l.drop (k)) rfl (HTx.out.later HBr.out) (by simp [List.length_take]; have := Hln.out; omega) HBr.out.size ?_; intro vz wz hrowz hgz hatz; have HRz := Lib.hid hrowz; have HBz : Hid (Below w.heap.size w wz) := OwnK.below HR.out hgz HBr.out (Nat.le_refl _); clear hrowz hgz hatz))
        | go_in)
      go_wp2
      refine bodyPost_ret (v := .tuple #[vz, .int .i64 0]) (by simp [results, Tryz.results37, go_sem]) rfl ?_
      refine ⟨vz, 0, rfl, by rw [HWe.out], fun _ => ?_, HBz.out⟩
      rw [HPut.out]
      exact HRz.out.row

set_option maxRecDepth 100000 in
set_option maxHeartbeats 3200000 in
theorem with_old (w : World) (g off len c : Nat) (l : List (NameT × ByteArray)) (hl : RowK kE w (.slice (some ⟨g, off, none⟩) len c) l) (hs : SortL cmpN l) (hfe : ∀ e ∈ l, FitN e.1) (hlen : l.length ≤ 10000) (b1 : Int) (b2 : ByteArray) (b3 b4 : Int) (b5 x : ByteArray) (hf : FitN ⟨b1, b2, b3, b4, b5⟩) (hxs : x.size ≤ 9223372036854775807) (hat : isAt l ⟨b1, b2, b3, b4, b5⟩ = true) :
    Calls Tryz.prog 37 #[.slice (some ⟨g, off, none⟩) len c, .agg #[.int .i64 b1, .string b2, .int .i64 b3, .int .i64 b4, .string b5], .string x] w (RWithP l ⟨b1, b2, b3, b4, b5⟩ x w) := by
  rcases low_ways (n := ⟨b1, b2, b3, b4, b5⟩) hs with ⟨h1, y, h2, hlt, h3, hput⟩ | ⟨h1, h3, hput⟩
  case inr => exact absurd (h1.symm.trans hat) (by decide)
  clear h2
  have hkl := lowK_le l ⟨b1, b2, b3, b4, b5⟩
  have hlc : len ≤ c := by
    obtain ⟨a', c', e1, e2, -⟩ := hl.form
    cases e1
    exact e2
  have hll := hl.len
  rw [hll] at hkl
  have HFi : Hid (∀ W, Below w.heap.size w W → Calls Tryz.prog 71 #[.slice (some ⟨g, off, none⟩) len c, .agg #[.int .i64 b1, .string b2, .int .i64 b3, .int .i64 b4, .string b5]] W fun r w' => r = .returned (.tuple #[.int .i64 (lowK l ⟨b1, b2, b3, b4, b5⟩), .bool true]) ∧ Below W.heap.size W w') := fun W hW => by
    have h := rFind_any W _ l (hl.later hW) ⟨b1, b2, b3, b4, b5⟩ hf hfe (by omega)
    rw [h1] at h
    exact h
  have HPut := Lib.hid (hput x)
  clear hput h1 h3
  generalize hkk : lowK l ⟨b1, b2, b3, b4, b5⟩ = k at *
  clear hkk
  have HTk : Hid (RowK kE w (.slice (some ⟨g, off, none⟩) k c) (l.take k)) := hl.take hkl
  have HTd : Hid (¬ k + 1 = c → RowK kE w (.slice (some ⟨g, off + (k + 1) * 6, none⟩) (len - (k + 1)) (c - (k + 1))) (l.drop (k + 1))) := fun h => hl.drop (by omega)
  have HTe : Hid (k + 1 = c → RowK kE w (.slice (some ⟨g, off, none⟩) 0 0) (l.drop (k + 1))) := fun h => by rw [List.drop_eq_nil_of_le (by omega)]; exact RowK.empty
  have Hln : Hid (l.length ≤ 10000) := hlen
  have hkcap : k ≤ c := by omega
  have hlim : decide ((65536 : Int) ≤ (len : Int)) = false := decide_eq_false (by omega)
  have Hlenl : Hid (l.length = len) := hll
  clear hs hfe hlen hl hll hat
  have HLen1 : Hid (([] : List (NameT × ByteArray)).length + (l.take k).length ≤ 1000000) := by show _ ≤ _; rw [List.length_take]; have := Hln.out; simp; omega
  have HLen2 : Hid ((l.take k).length + [((⟨b1, b2, b3, b4, b5⟩ : NameT), x)].length ≤ 1000000) := by show _ ≤ _; rw [List.length_take]; have := Hln.out; simp; omega
  have HF := Lib.hid hf
  clear hf
  have HB0 : Hid (∀ o, Below w.heap.size w (w.alloc o)) := fun o => (Below.refl _ _).alloc (Nat.le_refl _) _
  have HX0 : Hid (∀ o, (w.alloc o).heap[w.heap.size]? = some o) := fun o => heap_alloc_new w o
  go_enter Tryz.func37, Tryz.ntmps37
  go_wp2_with fail
  have HB1 := Lib.hid (HB0.out (.cells #[.int .i64 b1, .string b2, .int .i64 b3, .int .i64 b4, .string b5] 38))
  have HX1 := Lib.hid (HX0.out (.cells #[.int .i64 b1, .string b2, .int .i64 b3, .int .i64 b4, .string b5] 38))
  clear HB0 HX0
  generalize w.alloc (.cells #[.int .i64 b1, .string b2, .int .i64 b3, .int .i64 b4, .string b5] 38) = w1 at *
  refine (HFi.out w1 HB1.out).mono ?_
  rintro r w2 ⟨rfl, hb2⟩
  have HB2 : Hid (Below w.heap.size w w2) := HB1.out.trans (hb2.mono HB1.out.size)
  have HX2 := Lib.hid ((hb2.block _ (lt_of_heap HX1.out)).trans HX1.out)
  clear hb2 HB1 HX1
  have y0 : w2.cell? ⟨w.heap.size, 0, none⟩ = some (.int .i64 b1) := cell_of_heap HX2.out 0
  have y1 : w2.cell? ⟨w.heap.size, 1, none⟩ = some (.string b2) := cell_of_heap HX2.out 1
  have y2 : w2.cell? ⟨w.heap.size, 2, none⟩ = some (.int .i64 b3) := cell_of_heap HX2.out 2
  have y3 : w2.cell? ⟨w.heap.size, 3, none⟩ = some (.int .i64 b4) := cell_of_heap HX2.out 3
  have y4 : w2.cell? ⟨w.heap.size, 4, none⟩ = some (.string b5) := cell_of_heap HX2.out 4
  obtain ⟨q, hq⟩ : ∃ q, checkE ⟨b1, b2, b3, b4, b5⟩ = q := ⟨_, rfl⟩
  have HQ := Lib.hid hq
  clear hq
  by_cases hq0 : q = 0
  case neg =>
    have HWe : Hid (withE ⟨b1, b2, b3, b4, b5⟩ x = 12) := if_pos (by rw [HQ.out]; exact hq0)
    obtain ⟨n1, n2⟩ := ne_bool hq0
    clear hq0
    go_wp2_with fail
    refine (rChk_is ⟨b1, b2, b3, b4, b5⟩ q HQ.out HF.out _).mono ?_
    rintro r w3 ⟨rfl, hb3⟩
    have HB3 : Hid (Below w.heap.size w w3) := HB2.out.trans (hb3.mono HB2.out.size)
    clear hb3 y0 y1 y2 y3 y4
    go_wp2
    refine bodyPost_ret (v := .tuple #[.slice none 0 0, .int .i64 12]) (by simp [results, Tryz.results37, go_sem]) rfl ?_
    exact ⟨_, 12, rfl, HWe.out.symm, fun h => absurd h (by decide), HB3.out⟩
  subst hq0
  by_cases hx : 65536 < x.size
  case pos =>
    have HWe : Hid (withE ⟨b1, b2, b3, b4, b5⟩ x = 5) := by show _ = _; unfold withE; rw [if_neg (by rw [HQ.out]; decide), if_pos hx]
    go_wp2_with fail
    refine (rChk_is ⟨b1, b2, b3, b4, b5⟩ 0 HQ.out HF.out _).mono ?_
    rintro r w3 ⟨rfl, hb3⟩
    have HB3 : Hid (Below w.heap.size w w3) := HB2.out.trans (hb3.mono HB2.out.size)
    clear hb3 y0 y1 y2 y3 y4
    go_wp2
    refine bodyPost_ret (v := .tuple #[.slice none 0 0, .int .i64 5]) (by simp [results, Tryz.results37, go_sem]) rfl ?_
    exact ⟨_, 5, rfl, HWe.out.symm, fun h => absurd h (by decide), HB3.out⟩
  have HWe : Hid (withE ⟨b1, b2, b3, b4, b5⟩ x = 0) := by show _ = _; unfold withE; rw [if_neg (by rw [HQ.out]; decide), if_neg hx]
  go_wp2_with fail
  refine (rChk_is ⟨b1, b2, b3, b4, b5⟩ 0 HQ.out HF.out _).mono ?_
  rintro r U ⟨rfl, hb3⟩
  have HBU : Hid (Below w.heap.size w U) := HB2.out.trans (hb3.mono HB2.out.size)
  have HXU := Lib.hid ((hb3.block _ (lt_of_heap HX2.out)).trans HX2.out)
  clear hb3 y0 y1 y2 y3 y4 HB2 HX2
  have N0 : Hid (∀ o, (U.alloc o).drew.heap[U.heap.size]? = some o) := fun o => heap_alloc_new U o
  have N1 : Hid (∀ o o', ((U.alloc o).alloc o').drew.heap[U.heap.size]? = some o) := fun o o' => (Below.heap_alloc _ _ _ (by simp)).trans (heap_alloc_new U o)
  have N2 : Hid (∀ o o', ((U.alloc o).alloc o').drew.heap[U.heap.size + 1]? = some o') := fun o o' => by
    have h := heap_alloc_new (U.alloc o) o'
    rwa [World.size_alloc] at h
  have HBU1 : Hid (∀ o, Below w.heap.size w (U.alloc o).drew) := fun o => (HBU.out.alloc HBU.out.size _).drew
  have HBU2 : Hid (∀ o o', Below w.heap.size w ((U.alloc o).alloc o').drew) := fun o o' => ((HBU.out.alloc HBU.out.size _).alloc (by have := HBU.out.size; simp; omega) _).drew
  have X1 : Hid (∀ o, (U.alloc o).drew.heap[w.heap.size]? = some (.cells #[.int .i64 b1, .string b2, .int .i64 b3, .int .i64 b4, .string b5] 38 (0, 0))) := fun o => (Below.heap_alloc U o _ (lt_of_heap HXU.out)).trans HXU.out
  have X2 : Hid (∀ o o', ((U.alloc o).alloc o').drew.heap[w.heap.size]? = some (.cells #[.int .i64 b1, .string b2, .int .i64 b3, .int .i64 b4, .string b5] 38 (0, 0))) := fun o o' => (Below.heap_alloc _ o' _ (by have := lt_of_heap HXU.out; simp; omega)).trans ((Below.heap_alloc U o _ (lt_of_heap HXU.out)).trans HXU.out)
  have hul : w.heap.size < U.heap.size := lt_of_heap HXU.out
  have hul1 : w.heap.size < U.heap.size + 1 := by omega
  have hun : U.heap.size ≠ w.heap.size := by omega
  have hub : w.heap.size ≤ U.heap.size := by omega
  have hub1 : w.heap.size ≤ U.heap.size + 1 := by omega
  have u0 : U.cell? ⟨w.heap.size, 0, none⟩ = some (.int .i64 b1) := cell_of_heap HXU.out 0
  have u1 : U.cell? ⟨w.heap.size, 1, none⟩ = some (.string b2) := cell_of_heap HXU.out 1
  have u2 : U.cell? ⟨w.heap.size, 2, none⟩ = some (.int .i64 b3) := cell_of_heap HXU.out 2
  have u3 : U.cell? ⟨w.heap.size, 3, none⟩ = some (.int .i64 b4) := cell_of_heap HXU.out 3
  have u4 : U.cell? ⟨w.heap.size, 4, none⟩ = some (.string b5) := cell_of_heap HXU.out 4
  go_upto_region 8 with fail
  go_cut [10] (fun v wx => Hid (OwnK kE w.heap.size wx v (l.take k ++ [(⟨b1, b2, b3, b4, b5⟩, x)]) ∧ Below w.heap.size w wx))
  case first =>
    go_region_law (first
      | (refine step_append_K (K := kE) (by rfl) _ _ (by rfl) w.heap.size (.slice (some ⟨U.heap.size, 0, none⟩) 0 0) [] (by rfl) (OwnK.empty (N1.out _ _) hub) (.slice (some ⟨g, off, none⟩) k c) (l.take k) (by rfl) (HTk.out.later (HBU2.out _ _)) HLen1.out (HBU2.out _ _).size ?_; intro vq wq hrowq hgq hatq; have Rq : Hid (OwnK kE w.heap.size wq vq (l.take k)) := hrowq; have Bq : Hid (Below w.heap.size w wq) := below_grow (HBU2.out _ _) hgq (Nat.le_refl _) (fun k hk => by have hk : U.heap.size = k := Option.some.inj hk; have := HBU.out.size; omega); have HXq := Lib.hid ((hgq.block _ (by have := lt_of_heap HXU.out; simp <;> omega) (fun e => by have e : w.heap.size = U.heap.size := Option.some.inj e; have := lt_of_heap HXU.out; omega)).trans (X2.out _ _)); have HPk : Hid (wq.heap[U.heap.size + 1]? = some (.cells #[.int .i64 b1, .string b2, .int .i64 b3, .int .i64 b4, .string b5, .string x] 106 (0, 0))) := (hgq.block _ (by simp <;> omega) (fun e => by have e : U.heap.size + 1 = U.heap.size := Option.some.inj e; omega)).trans (N2.out _ _); have q0 := cell_of_heap HXq.out 0; have q1 := cell_of_heap HXq.out 1; have q2 := cell_of_heap HXq.out 2; have q3 := cell_of_heap HXq.out 3; have q4 := cell_of_heap HXq.out 4; have hqlt := lt_of_heap HXq.out; clear hrowq hgq hatq)
      | (refine step_append_K (K := kE) (by rfl) _ _ (by rfl) w.heap.size (.slice (some ⟨U.heap.size + 1, 0, none⟩) 0 0) [] (by rfl) (OwnK.empty (N2.out _ _) hub1) (.slice (some ⟨g, off, none⟩) k c) (l.take k) (by rfl) (HTk.out.later (HBU2.out _ _)) HLen1.out (HBU2.out _ _).size ?_; intro vq wq hrowq hgq hatq; have Rq : Hid (OwnK kE w.heap.size wq vq (l.take k)) := hrowq; have Bq : Hid (Below w.heap.size w wq) := below_grow (HBU2.out _ _) hgq (Nat.le_refl _) (fun k hk => by have hk : U.heap.size + 1 = k := Option.some.inj hk; have := HBU.out.size; omega); have HXq := Lib.hid ((hgq.block _ (by have := lt_of_heap HXU.out; simp <;> omega) (fun e => by have e : w.heap.size = U.heap.size + 1 := Option.some.inj e; have := lt_of_heap HXU.out; omega)).trans (X2.out _ _)); have HPk : Hid (wq.heap[U.heap.size]? = some (.cells #[.int .i64 b1, .string b2, .int .i64 b3, .int .i64 b4, .string b5, .string x] 106 (0, 0))) := (hgq.block _ (by simp <;> omega) (fun e => by have e : U.heap.size = U.heap.size + 1 := Option.some.inj e; omega)).trans (N1.out _ _); have q0 := cell_of_heap HXq.out 0; have q1 := cell_of_heap HXq.out 1; have q2 := cell_of_heap HXq.out 2; have q3 := cell_of_heap HXq.out 3; have q4 := cell_of_heap HXq.out 4; have hqlt := lt_of_heap HXq.out; clear hrowq hgq hatq)
      | (refine step_append_K (K := kE) (by rfl) _ _ (by rfl) w.heap.size (.slice (some ⟨U.heap.size, 0, none⟩) 0 0) [] (by rfl) (OwnK.empty (N0.out _) hub) (.slice (some ⟨g, off, none⟩) k c) (l.take k) (by rfl) (HTk.out.later (HBU1.out _)) HLen1.out (HBU1.out _).size ?_; intro vq wq hrowq hgq hatq; have Rq : Hid (OwnK kE w.heap.size wq vq (l.take k)) := hrowq; have Bq : Hid (Below w.heap.size w wq) := below_grow (HBU1.out _) hgq (Nat.le_refl _) (fun k hk => by have hk : U.heap.size = k := Option.some.inj hk; have := HBU.out.size; omega); have HXq := Lib.hid ((hgq.block _ (by have := lt_of_heap HXU.out; simp <;> omega) (fun e => by have e : w.heap.size = U.heap.size := Option.some.inj e; have := lt_of_heap HXU.out; omega)).trans (X1.out _)); have q0 := cell_of_heap HXq.out 0; have q1 := cell_of_heap HXq.out 1; have q2 := cell_of_heap HXq.out 2; have q3 := cell_of_heap HXq.out 3; have q4 := cell_of_heap HXq.out 4; have hqlt := lt_of_heap HXq.out; clear hrowq hgq hatq)
      | (refine step_append_K (K := kE) (by rfl) _ _ (by rfl) w.heap.size vq (l.take k) (by rfl) Rq.out (.slice (some ⟨_, 0, none⟩) 1 1) [(⟨b1, b2, b3, b4, b5⟩, x)] (by rfl) (RowK.one HPk.out rfl) HLen2.out Bq.out.size ?_; intro vr wr hrowr hgr hatr; have Rr : Hid (OwnK kE w.heap.size wr vr (l.take k ++ [(⟨b1, b2, b3, b4, b5⟩, x)])) := hrowr; have Br : Hid (Below w.heap.size w wr) := OwnK.below Rq.out hgr Bq.out (Nat.le_refl _); clear hrowr hgr hatr)
      | (refine step_append_K (K := kE) (by rfl) _ _ (by rfl) w.heap.size vq (l.take k) (by rfl) (Rq.out.later ((Below.refl _ _).alloc (Nat.le_refl _) _)) (.slice (some ⟨wq.heap.size, 0, none⟩) 1 1) [(⟨b1, b2, b3, b4, b5⟩, x)] (by rfl) (RowK.one (heap_alloc_new wq _) rfl) HLen2.out (Bq.out.alloc Bq.out.size _).size ?_; intro vr wr hrowr hgr hatr; have Rr : Hid (OwnK kE w.heap.size wr vr (l.take k ++ [(⟨b1, b2, b3, b4, b5⟩, x)])) := hrowr; have Br : Hid (Below w.heap.size w wr) := OwnK.below (Rq.out.later ((Below.refl _ _).alloc (Nat.le_refl _) _)) hgr (Bq.out.alloc Bq.out.size _) (Nat.le_refl _); clear hrowr hgr hatr)
      | fail)
    all_goals
      go_wp2
      go_meet
      exact Lib.hid ⟨Rr.out, Br.out⟩
  case rest =>
    obtain ⟨hr, hb⟩ := hcut
    have HR := Lib.hid hr
    have HBr := Lib.hid hb
    clear hr hb N0 N1 N2 HBU1 HBU2 X1 X2
    have hkl1 : k + 1 ≤ len := by have := Hlenl.out; omega
    have hkc1 : k + 1 ≤ c := by omega
    have hk10 : k ≤ 10000 := by have := Hln.out; omega
    by_cases hkc : k + 1 = c
    · have HTx := Lib.hid (HTe.out hkc)
      have HL0 : Hid ((l.drop (k + 1)).length = len - (k + 1)) := by show _ = _; rw [List.length_drop]; have := Hlenl.out; omega
      go_wp2_with (first
        | (at_builtin; go_loud (refine wpList_append_K (K := kE) rfl _ _ rfl w.heap.size u10 (l.take k ++ [(⟨b1, b2, b3, b4, b5⟩, x)]) rfl HR.out (.slice (some ⟨g, off, none⟩) 0 0) (l.drop (k + 1)) rfl (HTx.out.later HBr.out) (by simp [List.length_take]; have := Hln.out; omega) HBr.out.size ?_; intro vz wz hrowz hgz hatz; have HRz := Lib.hid hrowz; have HBz : Hid (Below w.heap.size w wz) := OwnK.below HR.out hgz HBr.out (Nat.le_refl _); clear hrowz hgz hatz))
        | go_in)
      go_wp2
      refine bodyPost_ret (v := .tuple #[vz, .int .i64 0]) (by simp [results, Tryz.results37, go_sem]) rfl ?_
      refine ⟨vz, 0, rfl, by rw [HWe.out], fun _ => ?_, HBz.out⟩
      rw [HPut.out]
      exact HRz.out.row
    · have HTx := Lib.hid (HTd.out hkc)
      go_wp2_with (first
        | (at_builtin; go_loud (refine wpList_append_K (K := kE) rfl _ _ rfl w.heap.size u10 (l.take k ++ [(⟨b1, b2, b3, b4, b5⟩, x)]) rfl HR.out (.slice (some ⟨g, off + (k + 1) * 6, none⟩) (len - (k + 1)) (c - (k + 1))) (l.drop (k + 1)) rfl (HTx.out.later HBr.out) (by simp [List.length_take]; have := Hln.out; omega) HBr.out.size ?_; intro vz wz hrowz hgz hatz; have HRz := Lib.hid hrowz; have HBz : Hid (Below w.heap.size w wz) := OwnK.below HR.out hgz HBr.out (Nat.le_refl _); clear hrowz hgz hatz))
        | go_in)
      go_wp2
      refine bodyPost_ret (v := .tuple #[vz, .int .i64 0]) (by simp [results, Tryz.results37, go_sem]) rfl ?_
      refine ⟨vz, 0, rfl, by rw [HWe.out], fun _ => ?_, HBz.out⟩
      rw [HPut.out]
      exact HRz.out.row

theorem rWith_any (w : World) (v : Value) (l : List (NameT × ByteArray)) (hl : RowK kE w v l) (n : NameT) (x : ByteArray) (hf : FitN n) (hfe : ∀ e ∈ l, FitN e.1) (hlen : l.length ≤ 10000) (hs : SortL cmpN l) (hxs : x.size ≤ 9223372036854775807) :
    Calls Tryz.prog 37 #[v, nameV n, .string x] w (RWithP l n x w) := by
  rcases id hl with ⟨rfl, h0⟩ | ⟨g, off, c, rfl, -, -⟩
  · exact with_nil w l h0 n.kind n.owner n.number n.index n.text x hf hxs
  · cases hat : isAt l n with
    | true => exact with_old w g off l.length c l hl hs hfe hlen n.kind n.owner n.number n.index n.text x hf hxs hat
    | false => exact with_new w g off l.length c l hl hs hfe hlen n.kind n.owner n.number n.index n.text x hf hxs hat
end Go.Proofs.YthghfhnicdoebaaGreatDoor
