/- object.Name.Check of any name. -/
import Derived.Test.YtfobmfenjdiimaaGreatDoorWrdA
import Derived.Test.YtfobmfenjdiimaaGreatDoorViewH
namespace Go.Proofs.YtfobmfenjdiimaaGreatDoor
open Go.RowKit

/-- The first error of a name. -/
def checkE (n : NameT) : Int :=
  if ¬ (1 ≤ n.kind ∧ n.kind ≤ 20) then 11
  else if ((useT n.kind.toNat).owner = false ∧ n.owner ≠ ⟨#[]⟩) ∨ ((useT n.kind.toNat).number = false ∧ n.number ≠ 0) ∨ ((useT n.kind.toNat).index = false ∧ n.index ≠ 0) ∨ ((useT n.kind.toNat).text = false ∧ n.text ≠ ⟨#[]⟩) then 1
  else if (useT n.kind.toNat).owner = true ∧ validB n.owner = false then 12
  else if ((useT n.kind.toNat).number = true ∧ ¬ (0 ≤ n.number ∧ n.number ≤ 1073741824)) ∨ ((useT n.kind.toNat).index = true ∧ ¬ (0 ≤ n.index ∧ n.index ≤ (useT n.kind.toNat).most)) then 2
  else if (useT n.kind.toNat).text = true ∧ wordB n.text = false then 12
  else 0
/-- The same, with the row of the kind. -/
def checkU (o nu ix tx : Bool) (most : Int) (n : NameT) : Int :=
  if (o = false ∧ n.owner ≠ ⟨#[]⟩) ∨ (nu = false ∧ n.number ≠ 0) ∨ (ix = false ∧ n.index ≠ 0) ∨ (tx = false ∧ n.text ≠ ⟨#[]⟩) then 1
  else if o = true ∧ validB n.owner = false then 12
  else if (nu = true ∧ ¬ (0 ≤ n.number ∧ n.number ≤ 1073741824)) ∨ (ix = true ∧ ¬ (0 ≤ n.index ∧ n.index ≤ most)) then 2
  else if tx = true ∧ wordB n.text = false then 12
  else 0

set_option maxHeartbeats 400000 in
theorem isKind_no (k : Int) (w : World) (h : ¬ (1 ≤ k ∧ k ≤ 20)) : Calls Tryz.prog 56 #[.int .i64 k] w fun r w' => r = .returned (.bool false) ∧ w = w' := by
  have hways : ¬ 1 ≤ k ∨ (1 ≤ k ∧ ¬ k ≤ 20) := by omega
  clear h
  rcases hways with h | ⟨h, h'⟩
  all_goals
    go_enter Tryz.func56, Tryz.ntmps56
    go_wp2
    go_ret
    exact ⟨rfl, rfl⟩
theorem emp_no {s : ByteArray} (h : s ≠ ⟨#[]⟩) : s.toList.isEmpty = false := by
  rw [toList_empty]
  simp only [decide_eq_false_iff_not]
  intro h0
  apply h
  have : s.data = #[] := by
    have : s.data.size = 0 := h0
    exact Array.eq_empty_of_size_eq_zero this
  cases s
  simp_all
theorem second_new (w : World) (o1 o2 : Obj) : ((w.alloc o1).alloc o2).heap[w.heap.size + 1]? = some o2 := by
  have := World.alloc_heap_new (w.alloc o1) o2
  rwa [World.size_alloc] at this
structure ChkAt (w w' : World) (n : NameT) (word : ByteArray) (o nu ix tx : Bool) (most : Int) : Prop where
  name : w'.heap[w.heap.size]? = some (.cells #[.int .i64 n.kind, .string n.owner, .int .i64 n.number, .int .i64 n.index, .string n.text] 32 (0, 0))
  row : w'.heap[w.heap.size + 1]? = some (.cells #[.string word, .bool o, .bool nu, .bool ix, .bool tx, .int .i64 most] 117 (0, 0))
  below : Below w.heap.size w w'
theorem ChkAt.later {w w' w2 : World} {n : NameT} {word : ByteArray} {o nu ix tx : Bool} {most : Int} (h : ChkAt w w' n word o nu ix tx most) (hb : Below w'.heap.size w' w2) : ChkAt w w2 n word o nu ix tx most :=
  ⟨(hb.block _ (lt_of_heap h.name)).trans h.name, (hb.block _ (lt_of_heap h.row)).trans h.row, h.below.trans (hb.mono h.below.size)⟩
set_option maxRecDepth 100000 in
set_option maxHeartbeats 2000000 in
theorem checkName_any (n : NameT) (w : World) (hu : Usages w) (hf : FitN n) :
    Calls Tryz.prog 24 #[nameV n] w fun r w' => r = .returned (.int .i64 (checkE n)) ∧ Below w.heap.size w w' := by
  obtain ⟨kind, ow, num, idx, txt⟩ := n
  dsimp only [nameV]
  have hp := hu.pos
  by_cases hk : 1 ≤ kind ∧ kind ≤ 20
  case neg =>
    have he : checkE ⟨kind, ow, num, idx, txt⟩ = 11 := if_pos hk
    rw [he]
    clear he
    go_enter Tryz.func24, Tryz.ntmps24
    go_wp2_with fail
    refine (isKind_no kind _ hk).mono ?_
    rintro e w1 ⟨rfl, rfl⟩
    go_wp2
    go_ret
    exact ⟨rfl, (Below.refl _ _).alloc (Nat.le_refl _) _⟩
  obtain ⟨k, rfl⟩ : ∃ k : Nat, kind = (k : Int) := ⟨kind.toNat, by omega⟩
  have h1 : 1 ≤ (k : Int) := hk.1
  have h2 : (k : Int) ≤ 20 := hk.2
  have hE : checkE ⟨(k : Int), ow, num, idx, txt⟩ = checkU (useT k).owner (useT k).number (useT k).index (useT k).text (useT k).most ⟨(k : Int), ow, num, idx, txt⟩ := by
    unfold checkE checkU
    rw [if_neg (by simpa using hk)]
    rfl
  rw [hE]
  obtain ⟨u0, u1, u2, u3, u4, u5⟩ := hu k (by omega)
  have Hu := Lib.hid hu; clear hu
  have Hf := Lib.hid hf; clear hf
  clear hE hk
  generalize (useT k).owner = o at *
  generalize (useT k).number = nu at *
  generalize (useT k).index = ix at *
  generalize (useT k).text = tx at *
  generalize (useT k).most = most at *
  generalize (⟨(useT k).word.toArray⟩ : ByteArray) = word at *
  have hx : (k : Int) < 21 := by omega
  go_enter Tryz.func24, Tryz.ntmps24
  go_wp2_with fail
  refine (isKind_any k _ h1 h2).mono ?_
  rintro e w1 ⟨rfl, rfl⟩
  go_upto_region 4 with fail
  clear u0 u1 u2 u3 u4 u5 hx h1 h2
  have A : Hid (ChkAt w ((w.alloc (.cells #[.int .i64 k, .string ow, .int .i64 num, .int .i64 idx, .string txt] 32)).alloc (.cells #[.string word, .bool o, .bool nu, .bool ix, .bool tx, .int .i64 most] 117)) ⟨(k : Int), ow, num, idx, txt⟩ word o nu ix tx most) :=
    ⟨(Below.heap_alloc _ _ _ (by simp)).trans (heap_alloc_new w _), second_new w _ _, ((Below.refl _ _).alloc (Nat.le_refl _) _).alloc (by simp) _⟩
  generalize (w.alloc (.cells #[.int .i64 k, .string ow, .int .i64 num, .int .i64 idx, .string txt] 32)).alloc (.cells #[.string word, .bool o, .bool nu, .bool ix, .bool tx, .int .i64 most] 117) = W at *
  have q1 : W.cell? ⟨w.heap.size, 1, none⟩ = some (.string ow) := cell_of_heap A.out.name 1
  have q2 : W.cell? ⟨w.heap.size, 2, none⟩ = some (.int .i64 num) := cell_of_heap A.out.name 2
  have q3 : W.cell? ⟨w.heap.size, 3, none⟩ = some (.int .i64 idx) := cell_of_heap A.out.name 3
  have q4 : W.cell? ⟨w.heap.size, 4, none⟩ = some (.string txt) := cell_of_heap A.out.name 4
  have t1 : W.cell? ⟨w.heap.size + 1, 1, none⟩ = some (.bool o) := cell_of_heap A.out.row 1
  have t2 : W.cell? ⟨w.heap.size + 1, 2, none⟩ = some (.bool nu) := cell_of_heap A.out.row 2
  have t3 : W.cell? ⟨w.heap.size + 1, 3, none⟩ = some (.bool ix) := cell_of_heap A.out.row 3
  have t4 : W.cell? ⟨w.heap.size + 1, 4, none⟩ = some (.bool tx) := cell_of_heap A.out.row 4
  have t5 : W.cell? ⟨w.heap.size + 1, 5, none⟩ = some (.int .i64 most) := cell_of_heap A.out.row 5
  have e0 : (⟨#[]⟩ : ByteArray).toList.isEmpty = true := by decide +kernel
  -- what a kind does not use
  have d1 : (o = false ∧ ow.toList.isEmpty = false ∧ ow ≠ ⟨#[]⟩) ∨ (o = true ∨ (o = false ∧ ow = ⟨#[]⟩)) := by
    cases o
    · by_cases h : ow = ⟨#[]⟩
      · exact .inr (.inr ⟨rfl, h⟩)
      · exact .inl ⟨rfl, emp_no h, h⟩
    · exact .inr (.inl rfl)
  have d2 : (nu = false ∧ (num == 0) = false ∧ (num != 0) = true ∧ num ≠ 0) ∨ (nu = true ∨ (nu = false ∧ num = 0)) := by
    cases nu
    · by_cases h : num = 0
      · exact .inr (.inr ⟨rfl, h⟩)
      · exact .inl ⟨rfl, beq_eq_false_iff_ne.2 h, bne_iff_ne.2 h, h⟩
    · exact .inr (.inl rfl)
  have d3 : (ix = false ∧ (idx == 0) = false ∧ (idx != 0) = true ∧ idx ≠ 0) ∨ (ix = true ∨ (ix = false ∧ idx = 0)) := by
    cases ix
    · by_cases h : idx = 0
      · exact .inr (.inr ⟨rfl, h⟩)
      · exact .inl ⟨rfl, beq_eq_false_iff_ne.2 h, bne_iff_ne.2 h, h⟩
    · exact .inr (.inl rfl)
  have d4 : (tx = false ∧ txt.toList.isEmpty = false ∧ txt ≠ ⟨#[]⟩) ∨ (tx = true ∨ (tx = false ∧ txt = ⟨#[]⟩)) := by
    cases tx
    · by_cases h : txt = ⟨#[]⟩
      · exact .inr (.inr ⟨rfl, h⟩)
      · exact .inl ⟨rfl, emp_no h, h⟩
    · exact .inr (.inl rfl)
  have D2 := Lib.hid d2
  have D3 := Lib.hid d3
  have D4 := Lib.hid d4
  clear d2 d3 d4
  -- the owner, the numbers, the text
  rcases d1 with ⟨rfl, z1, z2⟩ | x0
  · have he : Hid (checkU false nu ix tx most ⟨(k : Int), ow, num, idx, txt⟩ = 1) := if_pos (.inl ⟨rfl, z2⟩)
    clear z2
    go_wp2
    go_ret
    rw [he.out]
    exact ⟨rfl, A.out.below⟩
  rcases x0 with rfl | ⟨rfl, rfl⟩
  · skip
    rcases D2.out with ⟨rfl, z1, z2, z3⟩ | x1
    · have he : Hid (checkU true false ix tx most ⟨(k : Int), ow, num, idx, txt⟩ = 1) := if_pos (.inr (.inl ⟨rfl, z3⟩))
      clear z3
      go_wp2
      go_ret
      rw [he.out]
      exact ⟨rfl, A.out.below⟩
    rcases x1 with rfl | ⟨rfl, rfl⟩
    · skip
      rcases D3.out with ⟨rfl, z1, z2, z3⟩ | x2
      · have he : Hid (checkU true true false tx most ⟨(k : Int), ow, num, idx, txt⟩ = 1) := if_pos (.inr (.inr (.inl ⟨rfl, z3⟩)))
        clear z3
        go_wp2
        go_ret
        rw [he.out]
        exact ⟨rfl, A.out.below⟩
      rcases x2 with rfl | ⟨rfl, rfl⟩
      · skip
        rcases D4.out with ⟨rfl, z1, z2⟩ | x3
        · have he : Hid (checkU true true true false most ⟨(k : Int), ow, num, idx, txt⟩ = 1) := if_pos (.inr (.inr (.inr ⟨rfl, z2⟩)))
          clear z2
          go_wp2
          go_ret
          rw [he.out]
          exact ⟨rfl, A.out.below⟩
        rcases x3 with rfl | ⟨rfl, rfl⟩
        · skip
          cases hv : validB ow with
          | false =>
            have Hv := Lib.hid hv; clear hv
            have he : Hid (checkU true true true true most ⟨(k : Int), ow, num, idx, txt⟩ = 12) := by show _ = _; simp [checkU, Hv.out]
            go_wp2_with fail
            refine (valid_is ow _ Hf.out.1 Hv.out _).mono ?_
            rintro e W1 ⟨rfl, hb1⟩
            have A1 := Lib.hid (A.out.later hb1); clear hb1 q1 q2 q3 q4 t1 t2 t3 t4 t5
            have q1 : W1.cell? ⟨w.heap.size, 1, none⟩ = some (.string ow) := cell_of_heap A1.out.name 1
            have q2 : W1.cell? ⟨w.heap.size, 2, none⟩ = some (.int .i64 num) := cell_of_heap A1.out.name 2
            have q3 : W1.cell? ⟨w.heap.size, 3, none⟩ = some (.int .i64 idx) := cell_of_heap A1.out.name 3
            have q4 : W1.cell? ⟨w.heap.size, 4, none⟩ = some (.string txt) := cell_of_heap A1.out.name 4
            have t1 : W1.cell? ⟨w.heap.size + 1, 1, none⟩ = some (.bool true) := cell_of_heap A1.out.row 1
            have t2 : W1.cell? ⟨w.heap.size + 1, 2, none⟩ = some (.bool true) := cell_of_heap A1.out.row 2
            have t3 : W1.cell? ⟨w.heap.size + 1, 3, none⟩ = some (.bool true) := cell_of_heap A1.out.row 3
            have t4 : W1.cell? ⟨w.heap.size + 1, 4, none⟩ = some (.bool true) := cell_of_heap A1.out.row 4
            have t5 : W1.cell? ⟨w.heap.size + 1, 5, none⟩ = some (.int .i64 most) := cell_of_heap A1.out.row 5
            go_wp2
            go_ret
            rw [he.out]
            exact ⟨rfl, A1.out.below⟩
          | true =>
            have Hv := Lib.hid hv; clear hv
            go_wp2_with fail
            refine (valid_is ow _ Hf.out.1 Hv.out _).mono ?_
            rintro e W1 ⟨rfl, hb1⟩
            have A1 := Lib.hid (A.out.later hb1); clear hb1 q1 q2 q3 q4 t1 t2 t3 t4 t5
            have q1 : W1.cell? ⟨w.heap.size, 1, none⟩ = some (.string ow) := cell_of_heap A1.out.name 1
            have q2 : W1.cell? ⟨w.heap.size, 2, none⟩ = some (.int .i64 num) := cell_of_heap A1.out.name 2
            have q3 : W1.cell? ⟨w.heap.size, 3, none⟩ = some (.int .i64 idx) := cell_of_heap A1.out.name 3
            have q4 : W1.cell? ⟨w.heap.size, 4, none⟩ = some (.string txt) := cell_of_heap A1.out.name 4
            have t1 : W1.cell? ⟨w.heap.size + 1, 1, none⟩ = some (.bool true) := cell_of_heap A1.out.row 1
            have t2 : W1.cell? ⟨w.heap.size + 1, 2, none⟩ = some (.bool true) := cell_of_heap A1.out.row 2
            have t3 : W1.cell? ⟨w.heap.size + 1, 3, none⟩ = some (.bool true) := cell_of_heap A1.out.row 3
            have t4 : W1.cell? ⟨w.heap.size + 1, 4, none⟩ = some (.bool true) := cell_of_heap A1.out.row 4
            have t5 : W1.cell? ⟨w.heap.size + 1, 5, none⟩ = some (.int .i64 most) := cell_of_heap A1.out.row 5
            by_cases hn : 0 ≤ num ∧ num ≤ 1073741824
            case neg =>
              have Hn : Hid ((0 ≤ num ∧ num ≤ 1073741824) ↔ False) := ⟨hn, False.elim⟩; clear hn
              have he : Hid (checkU true true true true most ⟨(k : Int), ow, num, idx, txt⟩ = 2) := by show _ = _; simp [checkU, Hv.out, Hn.out]
              go_wp2_with fail
              refine (oWithin_any num 1073741824 _).mono ?_
              rintro e W2 ⟨rfl, rfl⟩
              rw [show decide (0 ≤ num ∧ num ≤ 1073741824) = false from decide_eq_false Hn.out.1]
              go_wp2
              go_ret
              rw [he.out]
              exact ⟨rfl, A1.out.below⟩
            have Hn : Hid ((0 ≤ num ∧ num ≤ 1073741824) ↔ True) := ⟨fun _ => trivial, fun _ => hn⟩; clear hn
            go_wp2_with fail
            refine (oWithin_any num 1073741824 _).mono ?_
            rintro e W2 ⟨rfl, rfl⟩
            rw [show decide (0 ≤ num ∧ num ≤ 1073741824) = true from decide_eq_true (Hn.out.2 trivial)]
            by_cases hi : 0 ≤ idx ∧ idx ≤ most
            case neg =>
              have Hi : Hid ((0 ≤ idx ∧ idx ≤ most) ↔ False) := ⟨hi, False.elim⟩; clear hi
              have he : Hid (checkU true true true true most ⟨(k : Int), ow, num, idx, txt⟩ = 2) := by show _ = _; simp [checkU, Hv.out, Hn.out, Hi.out]
              go_wp2_with fail
              refine (oWithin_any idx most _).mono ?_
              rintro e W2 ⟨rfl, rfl⟩
              rw [show decide (0 ≤ idx ∧ idx ≤ most) = false from decide_eq_false Hi.out.1]
              go_wp2
              go_ret
              rw [he.out]
              exact ⟨rfl, A1.out.below⟩
            have Hi : Hid ((0 ≤ idx ∧ idx ≤ most) ↔ True) := ⟨fun _ => trivial, fun _ => hi⟩; clear hi
            go_wp2_with fail
            refine (oWithin_any idx most _).mono ?_
            rintro e W2 ⟨rfl, rfl⟩
            rw [show decide (0 ≤ idx ∧ idx ≤ most) = true from decide_eq_true (Hi.out.2 trivial)]
            cases hw : wordB txt with
            | false =>
              have Hw := Lib.hid hw; clear hw
              have he : Hid (checkU true true true true most ⟨(k : Int), ow, num, idx, txt⟩ = 12) := by show _ = _; simp [checkU, Hv.out, Hn.out, Hi.out, Hw.out]
              go_wp2_with fail
              refine (word_is txt _ Hw.out _ (by have := Hf.out.2; dsimp only at this; omega)).mono ?_
              rintro e W3 ⟨rfl, rfl⟩
              go_wp2
              go_ret
              rw [he.out]
              exact ⟨rfl, A1.out.below⟩
            | true =>
              have Hw := Lib.hid hw; clear hw
              have he : Hid (checkU true true true true most ⟨(k : Int), ow, num, idx, txt⟩ = 0) := by show _ = _; simp [checkU, Hv.out, Hn.out, Hi.out, Hw.out]
              go_wp2_with fail
              refine (word_is txt _ Hw.out _ (by have := Hf.out.2; dsimp only at this; omega)).mono ?_
              rintro e W3 ⟨rfl, rfl⟩
              go_wp2
              go_ret
              rw [he.out]
              exact ⟨rfl, A1.out.below⟩
        · skip
          cases hv : validB ow with
          | false =>
            have Hv := Lib.hid hv; clear hv
            have he : Hid (checkU true true true false most ⟨(k : Int), ow, num, idx, ⟨#[]⟩⟩ = 12) := by show _ = _; simp [checkU, Hv.out]
            go_wp2_with fail
            refine (valid_is ow _ Hf.out.1 Hv.out _).mono ?_
            rintro e W1 ⟨rfl, hb1⟩
            have A1 := Lib.hid (A.out.later hb1); clear hb1 q1 q2 q3 q4 t1 t2 t3 t4 t5
            have q1 : W1.cell? ⟨w.heap.size, 1, none⟩ = some (.string ow) := cell_of_heap A1.out.name 1
            have q2 : W1.cell? ⟨w.heap.size, 2, none⟩ = some (.int .i64 num) := cell_of_heap A1.out.name 2
            have q3 : W1.cell? ⟨w.heap.size, 3, none⟩ = some (.int .i64 idx) := cell_of_heap A1.out.name 3
            have q4 : W1.cell? ⟨w.heap.size, 4, none⟩ = some (.string ⟨#[]⟩) := cell_of_heap A1.out.name 4
            have t1 : W1.cell? ⟨w.heap.size + 1, 1, none⟩ = some (.bool true) := cell_of_heap A1.out.row 1
            have t2 : W1.cell? ⟨w.heap.size + 1, 2, none⟩ = some (.bool true) := cell_of_heap A1.out.row 2
            have t3 : W1.cell? ⟨w.heap.size + 1, 3, none⟩ = some (.bool true) := cell_of_heap A1.out.row 3
            have t4 : W1.cell? ⟨w.heap.size + 1, 4, none⟩ = some (.bool false) := cell_of_heap A1.out.row 4
            have t5 : W1.cell? ⟨w.heap.size + 1, 5, none⟩ = some (.int .i64 most) := cell_of_heap A1.out.row 5
            go_wp2
            go_ret
            rw [he.out]
            exact ⟨rfl, A1.out.below⟩
          | true =>
            have Hv := Lib.hid hv; clear hv
            go_wp2_with fail
            refine (valid_is ow _ Hf.out.1 Hv.out _).mono ?_
            rintro e W1 ⟨rfl, hb1⟩
            have A1 := Lib.hid (A.out.later hb1); clear hb1 q1 q2 q3 q4 t1 t2 t3 t4 t5
            have q1 : W1.cell? ⟨w.heap.size, 1, none⟩ = some (.string ow) := cell_of_heap A1.out.name 1
            have q2 : W1.cell? ⟨w.heap.size, 2, none⟩ = some (.int .i64 num) := cell_of_heap A1.out.name 2
            have q3 : W1.cell? ⟨w.heap.size, 3, none⟩ = some (.int .i64 idx) := cell_of_heap A1.out.name 3
            have q4 : W1.cell? ⟨w.heap.size, 4, none⟩ = some (.string ⟨#[]⟩) := cell_of_heap A1.out.name 4
            have t1 : W1.cell? ⟨w.heap.size + 1, 1, none⟩ = some (.bool true) := cell_of_heap A1.out.row 1
            have t2 : W1.cell? ⟨w.heap.size + 1, 2, none⟩ = some (.bool true) := cell_of_heap A1.out.row 2
            have t3 : W1.cell? ⟨w.heap.size + 1, 3, none⟩ = some (.bool true) := cell_of_heap A1.out.row 3
            have t4 : W1.cell? ⟨w.heap.size + 1, 4, none⟩ = some (.bool false) := cell_of_heap A1.out.row 4
            have t5 : W1.cell? ⟨w.heap.size + 1, 5, none⟩ = some (.int .i64 most) := cell_of_heap A1.out.row 5
            by_cases hn : 0 ≤ num ∧ num ≤ 1073741824
            case neg =>
              have Hn : Hid ((0 ≤ num ∧ num ≤ 1073741824) ↔ False) := ⟨hn, False.elim⟩; clear hn
              have he : Hid (checkU true true true false most ⟨(k : Int), ow, num, idx, ⟨#[]⟩⟩ = 2) := by show _ = _; simp [checkU, Hv.out, Hn.out]
              go_wp2_with fail
              refine (oWithin_any num 1073741824 _).mono ?_
              rintro e W2 ⟨rfl, rfl⟩
              rw [show decide (0 ≤ num ∧ num ≤ 1073741824) = false from decide_eq_false Hn.out.1]
              go_wp2
              go_ret
              rw [he.out]
              exact ⟨rfl, A1.out.below⟩
            have Hn : Hid ((0 ≤ num ∧ num ≤ 1073741824) ↔ True) := ⟨fun _ => trivial, fun _ => hn⟩; clear hn
            go_wp2_with fail
            refine (oWithin_any num 1073741824 _).mono ?_
            rintro e W2 ⟨rfl, rfl⟩
            rw [show decide (0 ≤ num ∧ num ≤ 1073741824) = true from decide_eq_true (Hn.out.2 trivial)]
            by_cases hi : 0 ≤ idx ∧ idx ≤ most
            case neg =>
              have Hi : Hid ((0 ≤ idx ∧ idx ≤ most) ↔ False) := ⟨hi, False.elim⟩; clear hi
              have he : Hid (checkU true true true false most ⟨(k : Int), ow, num, idx, ⟨#[]⟩⟩ = 2) := by show _ = _; simp [checkU, Hv.out, Hn.out, Hi.out]
              go_wp2_with fail
              refine (oWithin_any idx most _).mono ?_
              rintro e W2 ⟨rfl, rfl⟩
              rw [show decide (0 ≤ idx ∧ idx ≤ most) = false from decide_eq_false Hi.out.1]
              go_wp2
              go_ret
              rw [he.out]
              exact ⟨rfl, A1.out.below⟩
            have Hi : Hid ((0 ≤ idx ∧ idx ≤ most) ↔ True) := ⟨fun _ => trivial, fun _ => hi⟩; clear hi
            go_wp2_with fail
            refine (oWithin_any idx most _).mono ?_
            rintro e W2 ⟨rfl, rfl⟩
            rw [show decide (0 ≤ idx ∧ idx ≤ most) = true from decide_eq_true (Hi.out.2 trivial)]
            have he : Hid (checkU true true true false most ⟨(k : Int), ow, num, idx, ⟨#[]⟩⟩ = 0) := by show _ = _; simp [checkU, Hv.out, Hn.out, Hi.out]
            go_wp2
            go_ret
            rw [he.out]
            exact ⟨rfl, A1.out.below⟩
      · skip
        rcases D4.out with ⟨rfl, z1, z2⟩ | x3
        · have he : Hid (checkU true true false false most ⟨(k : Int), ow, num, 0, txt⟩ = 1) := if_pos (.inr (.inr (.inr ⟨rfl, z2⟩)))
          clear z2
          go_wp2
          go_ret
          rw [he.out]
          exact ⟨rfl, A.out.below⟩
        rcases x3 with rfl | ⟨rfl, rfl⟩
        · skip
          cases hv : validB ow with
          | false =>
            have Hv := Lib.hid hv; clear hv
            have he : Hid (checkU true true false true most ⟨(k : Int), ow, num, 0, txt⟩ = 12) := by show _ = _; simp [checkU, Hv.out]
            go_wp2_with fail
            refine (valid_is ow _ Hf.out.1 Hv.out _).mono ?_
            rintro e W1 ⟨rfl, hb1⟩
            have A1 := Lib.hid (A.out.later hb1); clear hb1 q1 q2 q3 q4 t1 t2 t3 t4 t5
            have q1 : W1.cell? ⟨w.heap.size, 1, none⟩ = some (.string ow) := cell_of_heap A1.out.name 1
            have q2 : W1.cell? ⟨w.heap.size, 2, none⟩ = some (.int .i64 num) := cell_of_heap A1.out.name 2
            have q3 : W1.cell? ⟨w.heap.size, 3, none⟩ = some (.int .i64 0) := cell_of_heap A1.out.name 3
            have q4 : W1.cell? ⟨w.heap.size, 4, none⟩ = some (.string txt) := cell_of_heap A1.out.name 4
            have t1 : W1.cell? ⟨w.heap.size + 1, 1, none⟩ = some (.bool true) := cell_of_heap A1.out.row 1
            have t2 : W1.cell? ⟨w.heap.size + 1, 2, none⟩ = some (.bool true) := cell_of_heap A1.out.row 2
            have t3 : W1.cell? ⟨w.heap.size + 1, 3, none⟩ = some (.bool false) := cell_of_heap A1.out.row 3
            have t4 : W1.cell? ⟨w.heap.size + 1, 4, none⟩ = some (.bool true) := cell_of_heap A1.out.row 4
            have t5 : W1.cell? ⟨w.heap.size + 1, 5, none⟩ = some (.int .i64 most) := cell_of_heap A1.out.row 5
            go_wp2
            go_ret
            rw [he.out]
            exact ⟨rfl, A1.out.below⟩
          | true =>
            have Hv := Lib.hid hv; clear hv
            go_wp2_with fail
            refine (valid_is ow _ Hf.out.1 Hv.out _).mono ?_
            rintro e W1 ⟨rfl, hb1⟩
            have A1 := Lib.hid (A.out.later hb1); clear hb1 q1 q2 q3 q4 t1 t2 t3 t4 t5
            have q1 : W1.cell? ⟨w.heap.size, 1, none⟩ = some (.string ow) := cell_of_heap A1.out.name 1
            have q2 : W1.cell? ⟨w.heap.size, 2, none⟩ = some (.int .i64 num) := cell_of_heap A1.out.name 2
            have q3 : W1.cell? ⟨w.heap.size, 3, none⟩ = some (.int .i64 0) := cell_of_heap A1.out.name 3
            have q4 : W1.cell? ⟨w.heap.size, 4, none⟩ = some (.string txt) := cell_of_heap A1.out.name 4
            have t1 : W1.cell? ⟨w.heap.size + 1, 1, none⟩ = some (.bool true) := cell_of_heap A1.out.row 1
            have t2 : W1.cell? ⟨w.heap.size + 1, 2, none⟩ = some (.bool true) := cell_of_heap A1.out.row 2
            have t3 : W1.cell? ⟨w.heap.size + 1, 3, none⟩ = some (.bool false) := cell_of_heap A1.out.row 3
            have t4 : W1.cell? ⟨w.heap.size + 1, 4, none⟩ = some (.bool true) := cell_of_heap A1.out.row 4
            have t5 : W1.cell? ⟨w.heap.size + 1, 5, none⟩ = some (.int .i64 most) := cell_of_heap A1.out.row 5
            by_cases hn : 0 ≤ num ∧ num ≤ 1073741824
            case neg =>
              have Hn : Hid ((0 ≤ num ∧ num ≤ 1073741824) ↔ False) := ⟨hn, False.elim⟩; clear hn
              have he : Hid (checkU true true false true most ⟨(k : Int), ow, num, 0, txt⟩ = 2) := by show _ = _; simp [checkU, Hv.out, Hn.out]
              go_wp2_with fail
              refine (oWithin_any num 1073741824 _).mono ?_
              rintro e W2 ⟨rfl, rfl⟩
              rw [show decide (0 ≤ num ∧ num ≤ 1073741824) = false from decide_eq_false Hn.out.1]
              go_wp2
              go_ret
              rw [he.out]
              exact ⟨rfl, A1.out.below⟩
            have Hn : Hid ((0 ≤ num ∧ num ≤ 1073741824) ↔ True) := ⟨fun _ => trivial, fun _ => hn⟩; clear hn
            go_wp2_with fail
            refine (oWithin_any num 1073741824 _).mono ?_
            rintro e W2 ⟨rfl, rfl⟩
            rw [show decide (0 ≤ num ∧ num ≤ 1073741824) = true from decide_eq_true (Hn.out.2 trivial)]
            cases hw : wordB txt with
            | false =>
              have Hw := Lib.hid hw; clear hw
              have he : Hid (checkU true true false true most ⟨(k : Int), ow, num, 0, txt⟩ = 12) := by show _ = _; simp [checkU, Hv.out, Hn.out, Hw.out]
              go_wp2_with fail
              refine (word_is txt _ Hw.out _ (by have := Hf.out.2; dsimp only at this; omega)).mono ?_
              rintro e W3 ⟨rfl, rfl⟩
              go_wp2
              go_ret
              rw [he.out]
              exact ⟨rfl, A1.out.below⟩
            | true =>
              have Hw := Lib.hid hw; clear hw
              have he : Hid (checkU true true false true most ⟨(k : Int), ow, num, 0, txt⟩ = 0) := by show _ = _; simp [checkU, Hv.out, Hn.out, Hw.out]
              go_wp2_with fail
              refine (word_is txt _ Hw.out _ (by have := Hf.out.2; dsimp only at this; omega)).mono ?_
              rintro e W3 ⟨rfl, rfl⟩
              go_wp2
              go_ret
              rw [he.out]
              exact ⟨rfl, A1.out.below⟩
        · skip
          cases hv : validB ow with
          | false =>
            have Hv := Lib.hid hv; clear hv
            have he : Hid (checkU true true false false most ⟨(k : Int), ow, num, 0, ⟨#[]⟩⟩ = 12) := by show _ = _; simp [checkU, Hv.out]
            go_wp2_with fail
            refine (valid_is ow _ Hf.out.1 Hv.out _).mono ?_
            rintro e W1 ⟨rfl, hb1⟩
            have A1 := Lib.hid (A.out.later hb1); clear hb1 q1 q2 q3 q4 t1 t2 t3 t4 t5
            have q1 : W1.cell? ⟨w.heap.size, 1, none⟩ = some (.string ow) := cell_of_heap A1.out.name 1
            have q2 : W1.cell? ⟨w.heap.size, 2, none⟩ = some (.int .i64 num) := cell_of_heap A1.out.name 2
            have q3 : W1.cell? ⟨w.heap.size, 3, none⟩ = some (.int .i64 0) := cell_of_heap A1.out.name 3
            have q4 : W1.cell? ⟨w.heap.size, 4, none⟩ = some (.string ⟨#[]⟩) := cell_of_heap A1.out.name 4
            have t1 : W1.cell? ⟨w.heap.size + 1, 1, none⟩ = some (.bool true) := cell_of_heap A1.out.row 1
            have t2 : W1.cell? ⟨w.heap.size + 1, 2, none⟩ = some (.bool true) := cell_of_heap A1.out.row 2
            have t3 : W1.cell? ⟨w.heap.size + 1, 3, none⟩ = some (.bool false) := cell_of_heap A1.out.row 3
            have t4 : W1.cell? ⟨w.heap.size + 1, 4, none⟩ = some (.bool false) := cell_of_heap A1.out.row 4
            have t5 : W1.cell? ⟨w.heap.size + 1, 5, none⟩ = some (.int .i64 most) := cell_of_heap A1.out.row 5
            go_wp2
            go_ret
            rw [he.out]
            exact ⟨rfl, A1.out.below⟩
          | true =>
            have Hv := Lib.hid hv; clear hv
            go_wp2_with fail
            refine (valid_is ow _ Hf.out.1 Hv.out _).mono ?_
            rintro e W1 ⟨rfl, hb1⟩
            have A1 := Lib.hid (A.out.later hb1); clear hb1 q1 q2 q3 q4 t1 t2 t3 t4 t5
            have q1 : W1.cell? ⟨w.heap.size, 1, none⟩ = some (.string ow) := cell_of_heap A1.out.name 1
            have q2 : W1.cell? ⟨w.heap.size, 2, none⟩ = some (.int .i64 num) := cell_of_heap A1.out.name 2
            have q3 : W1.cell? ⟨w.heap.size, 3, none⟩ = some (.int .i64 0) := cell_of_heap A1.out.name 3
            have q4 : W1.cell? ⟨w.heap.size, 4, none⟩ = some (.string ⟨#[]⟩) := cell_of_heap A1.out.name 4
            have t1 : W1.cell? ⟨w.heap.size + 1, 1, none⟩ = some (.bool true) := cell_of_heap A1.out.row 1
            have t2 : W1.cell? ⟨w.heap.size + 1, 2, none⟩ = some (.bool true) := cell_of_heap A1.out.row 2
            have t3 : W1.cell? ⟨w.heap.size + 1, 3, none⟩ = some (.bool false) := cell_of_heap A1.out.row 3
            have t4 : W1.cell? ⟨w.heap.size + 1, 4, none⟩ = some (.bool false) := cell_of_heap A1.out.row 4
            have t5 : W1.cell? ⟨w.heap.size + 1, 5, none⟩ = some (.int .i64 most) := cell_of_heap A1.out.row 5
            by_cases hn : 0 ≤ num ∧ num ≤ 1073741824
            case neg =>
              have Hn : Hid ((0 ≤ num ∧ num ≤ 1073741824) ↔ False) := ⟨hn, False.elim⟩; clear hn
              have he : Hid (checkU true true false false most ⟨(k : Int), ow, num, 0, ⟨#[]⟩⟩ = 2) := by show _ = _; simp [checkU, Hv.out, Hn.out]
              go_wp2_with fail
              refine (oWithin_any num 1073741824 _).mono ?_
              rintro e W2 ⟨rfl, rfl⟩
              rw [show decide (0 ≤ num ∧ num ≤ 1073741824) = false from decide_eq_false Hn.out.1]
              go_wp2
              go_ret
              rw [he.out]
              exact ⟨rfl, A1.out.below⟩
            have Hn : Hid ((0 ≤ num ∧ num ≤ 1073741824) ↔ True) := ⟨fun _ => trivial, fun _ => hn⟩; clear hn
            go_wp2_with fail
            refine (oWithin_any num 1073741824 _).mono ?_
            rintro e W2 ⟨rfl, rfl⟩
            rw [show decide (0 ≤ num ∧ num ≤ 1073741824) = true from decide_eq_true (Hn.out.2 trivial)]
            have he : Hid (checkU true true false false most ⟨(k : Int), ow, num, 0, ⟨#[]⟩⟩ = 0) := by show _ = _; simp [checkU, Hv.out, Hn.out]
            go_wp2
            go_ret
            rw [he.out]
            exact ⟨rfl, A1.out.below⟩
    · skip
      rcases D3.out with ⟨rfl, z1, z2, z3⟩ | x2
      · have he : Hid (checkU true false false tx most ⟨(k : Int), ow, 0, idx, txt⟩ = 1) := if_pos (.inr (.inr (.inl ⟨rfl, z3⟩)))
        clear z3
        go_wp2
        go_ret
        rw [he.out]
        exact ⟨rfl, A.out.below⟩
      rcases x2 with rfl | ⟨rfl, rfl⟩
      · skip
        rcases D4.out with ⟨rfl, z1, z2⟩ | x3
        · have he : Hid (checkU true false true false most ⟨(k : Int), ow, 0, idx, txt⟩ = 1) := if_pos (.inr (.inr (.inr ⟨rfl, z2⟩)))
          clear z2
          go_wp2
          go_ret
          rw [he.out]
          exact ⟨rfl, A.out.below⟩
        rcases x3 with rfl | ⟨rfl, rfl⟩
        · skip
          cases hv : validB ow with
          | false =>
            have Hv := Lib.hid hv; clear hv
            have he : Hid (checkU true false true true most ⟨(k : Int), ow, 0, idx, txt⟩ = 12) := by show _ = _; simp [checkU, Hv.out]
            go_wp2_with fail
            refine (valid_is ow _ Hf.out.1 Hv.out _).mono ?_
            rintro e W1 ⟨rfl, hb1⟩
            have A1 := Lib.hid (A.out.later hb1); clear hb1 q1 q2 q3 q4 t1 t2 t3 t4 t5
            have q1 : W1.cell? ⟨w.heap.size, 1, none⟩ = some (.string ow) := cell_of_heap A1.out.name 1
            have q2 : W1.cell? ⟨w.heap.size, 2, none⟩ = some (.int .i64 0) := cell_of_heap A1.out.name 2
            have q3 : W1.cell? ⟨w.heap.size, 3, none⟩ = some (.int .i64 idx) := cell_of_heap A1.out.name 3
            have q4 : W1.cell? ⟨w.heap.size, 4, none⟩ = some (.string txt) := cell_of_heap A1.out.name 4
            have t1 : W1.cell? ⟨w.heap.size + 1, 1, none⟩ = some (.bool true) := cell_of_heap A1.out.row 1
            have t2 : W1.cell? ⟨w.heap.size + 1, 2, none⟩ = some (.bool false) := cell_of_heap A1.out.row 2
            have t3 : W1.cell? ⟨w.heap.size + 1, 3, none⟩ = some (.bool true) := cell_of_heap A1.out.row 3
            have t4 : W1.cell? ⟨w.heap.size + 1, 4, none⟩ = some (.bool true) := cell_of_heap A1.out.row 4
            have t5 : W1.cell? ⟨w.heap.size + 1, 5, none⟩ = some (.int .i64 most) := cell_of_heap A1.out.row 5
            go_wp2
            go_ret
            rw [he.out]
            exact ⟨rfl, A1.out.below⟩
          | true =>
            have Hv := Lib.hid hv; clear hv
            go_wp2_with fail
            refine (valid_is ow _ Hf.out.1 Hv.out _).mono ?_
            rintro e W1 ⟨rfl, hb1⟩
            have A1 := Lib.hid (A.out.later hb1); clear hb1 q1 q2 q3 q4 t1 t2 t3 t4 t5
            have q1 : W1.cell? ⟨w.heap.size, 1, none⟩ = some (.string ow) := cell_of_heap A1.out.name 1
            have q2 : W1.cell? ⟨w.heap.size, 2, none⟩ = some (.int .i64 0) := cell_of_heap A1.out.name 2
            have q3 : W1.cell? ⟨w.heap.size, 3, none⟩ = some (.int .i64 idx) := cell_of_heap A1.out.name 3
            have q4 : W1.cell? ⟨w.heap.size, 4, none⟩ = some (.string txt) := cell_of_heap A1.out.name 4
            have t1 : W1.cell? ⟨w.heap.size + 1, 1, none⟩ = some (.bool true) := cell_of_heap A1.out.row 1
            have t2 : W1.cell? ⟨w.heap.size + 1, 2, none⟩ = some (.bool false) := cell_of_heap A1.out.row 2
            have t3 : W1.cell? ⟨w.heap.size + 1, 3, none⟩ = some (.bool true) := cell_of_heap A1.out.row 3
            have t4 : W1.cell? ⟨w.heap.size + 1, 4, none⟩ = some (.bool true) := cell_of_heap A1.out.row 4
            have t5 : W1.cell? ⟨w.heap.size + 1, 5, none⟩ = some (.int .i64 most) := cell_of_heap A1.out.row 5
            by_cases hi : 0 ≤ idx ∧ idx ≤ most
            case neg =>
              have Hi : Hid ((0 ≤ idx ∧ idx ≤ most) ↔ False) := ⟨hi, False.elim⟩; clear hi
              have he : Hid (checkU true false true true most ⟨(k : Int), ow, 0, idx, txt⟩ = 2) := by show _ = _; simp [checkU, Hv.out, Hi.out]
              go_wp2_with fail
              refine (oWithin_any idx most _).mono ?_
              rintro e W2 ⟨rfl, rfl⟩
              rw [show decide (0 ≤ idx ∧ idx ≤ most) = false from decide_eq_false Hi.out.1]
              go_wp2
              go_ret
              rw [he.out]
              exact ⟨rfl, A1.out.below⟩
            have Hi : Hid ((0 ≤ idx ∧ idx ≤ most) ↔ True) := ⟨fun _ => trivial, fun _ => hi⟩; clear hi
            go_wp2_with fail
            refine (oWithin_any idx most _).mono ?_
            rintro e W2 ⟨rfl, rfl⟩
            rw [show decide (0 ≤ idx ∧ idx ≤ most) = true from decide_eq_true (Hi.out.2 trivial)]
            cases hw : wordB txt with
            | false =>
              have Hw := Lib.hid hw; clear hw
              have he : Hid (checkU true false true true most ⟨(k : Int), ow, 0, idx, txt⟩ = 12) := by show _ = _; simp [checkU, Hv.out, Hi.out, Hw.out]
              go_wp2_with fail
              refine (word_is txt _ Hw.out _ (by have := Hf.out.2; dsimp only at this; omega)).mono ?_
              rintro e W3 ⟨rfl, rfl⟩
              go_wp2
              go_ret
              rw [he.out]
              exact ⟨rfl, A1.out.below⟩
            | true =>
              have Hw := Lib.hid hw; clear hw
              have he : Hid (checkU true false true true most ⟨(k : Int), ow, 0, idx, txt⟩ = 0) := by show _ = _; simp [checkU, Hv.out, Hi.out, Hw.out]
              go_wp2_with fail
              refine (word_is txt _ Hw.out _ (by have := Hf.out.2; dsimp only at this; omega)).mono ?_
              rintro e W3 ⟨rfl, rfl⟩
              go_wp2
              go_ret
              rw [he.out]
              exact ⟨rfl, A1.out.below⟩
        · skip
          cases hv : validB ow with
          | false =>
            have Hv := Lib.hid hv; clear hv
            have he : Hid (checkU true false true false most ⟨(k : Int), ow, 0, idx, ⟨#[]⟩⟩ = 12) := by show _ = _; simp [checkU, Hv.out]
            go_wp2_with fail
            refine (valid_is ow _ Hf.out.1 Hv.out _).mono ?_
            rintro e W1 ⟨rfl, hb1⟩
            have A1 := Lib.hid (A.out.later hb1); clear hb1 q1 q2 q3 q4 t1 t2 t3 t4 t5
            have q1 : W1.cell? ⟨w.heap.size, 1, none⟩ = some (.string ow) := cell_of_heap A1.out.name 1
            have q2 : W1.cell? ⟨w.heap.size, 2, none⟩ = some (.int .i64 0) := cell_of_heap A1.out.name 2
            have q3 : W1.cell? ⟨w.heap.size, 3, none⟩ = some (.int .i64 idx) := cell_of_heap A1.out.name 3
            have q4 : W1.cell? ⟨w.heap.size, 4, none⟩ = some (.string ⟨#[]⟩) := cell_of_heap A1.out.name 4
            have t1 : W1.cell? ⟨w.heap.size + 1, 1, none⟩ = some (.bool true) := cell_of_heap A1.out.row 1
            have t2 : W1.cell? ⟨w.heap.size + 1, 2, none⟩ = some (.bool false) := cell_of_heap A1.out.row 2
            have t3 : W1.cell? ⟨w.heap.size + 1, 3, none⟩ = some (.bool true) := cell_of_heap A1.out.row 3
            have t4 : W1.cell? ⟨w.heap.size + 1, 4, none⟩ = some (.bool false) := cell_of_heap A1.out.row 4
            have t5 : W1.cell? ⟨w.heap.size + 1, 5, none⟩ = some (.int .i64 most) := cell_of_heap A1.out.row 5
            go_wp2
            go_ret
            rw [he.out]
            exact ⟨rfl, A1.out.below⟩
          | true =>
            have Hv := Lib.hid hv; clear hv
            go_wp2_with fail
            refine (valid_is ow _ Hf.out.1 Hv.out _).mono ?_
            rintro e W1 ⟨rfl, hb1⟩
            have A1 := Lib.hid (A.out.later hb1); clear hb1 q1 q2 q3 q4 t1 t2 t3 t4 t5
            have q1 : W1.cell? ⟨w.heap.size, 1, none⟩ = some (.string ow) := cell_of_heap A1.out.name 1
            have q2 : W1.cell? ⟨w.heap.size, 2, none⟩ = some (.int .i64 0) := cell_of_heap A1.out.name 2
            have q3 : W1.cell? ⟨w.heap.size, 3, none⟩ = some (.int .i64 idx) := cell_of_heap A1.out.name 3
            have q4 : W1.cell? ⟨w.heap.size, 4, none⟩ = some (.string ⟨#[]⟩) := cell_of_heap A1.out.name 4
            have t1 : W1.cell? ⟨w.heap.size + 1, 1, none⟩ = some (.bool true) := cell_of_heap A1.out.row 1
            have t2 : W1.cell? ⟨w.heap.size + 1, 2, none⟩ = some (.bool false) := cell_of_heap A1.out.row 2
            have t3 : W1.cell? ⟨w.heap.size + 1, 3, none⟩ = some (.bool true) := cell_of_heap A1.out.row 3
            have t4 : W1.cell? ⟨w.heap.size + 1, 4, none⟩ = some (.bool false) := cell_of_heap A1.out.row 4
            have t5 : W1.cell? ⟨w.heap.size + 1, 5, none⟩ = some (.int .i64 most) := cell_of_heap A1.out.row 5
            by_cases hi : 0 ≤ idx ∧ idx ≤ most
            case neg =>
              have Hi : Hid ((0 ≤ idx ∧ idx ≤ most) ↔ False) := ⟨hi, False.elim⟩; clear hi
              have he : Hid (checkU true false true false most ⟨(k : Int), ow, 0, idx, ⟨#[]⟩⟩ = 2) := by show _ = _; simp [checkU, Hv.out, Hi.out]
              go_wp2_with fail
              refine (oWithin_any idx most _).mono ?_
              rintro e W2 ⟨rfl, rfl⟩
              rw [show decide (0 ≤ idx ∧ idx ≤ most) = false from decide_eq_false Hi.out.1]
              go_wp2
              go_ret
              rw [he.out]
              exact ⟨rfl, A1.out.below⟩
            have Hi : Hid ((0 ≤ idx ∧ idx ≤ most) ↔ True) := ⟨fun _ => trivial, fun _ => hi⟩; clear hi
            go_wp2_with fail
            refine (oWithin_any idx most _).mono ?_
            rintro e W2 ⟨rfl, rfl⟩
            rw [show decide (0 ≤ idx ∧ idx ≤ most) = true from decide_eq_true (Hi.out.2 trivial)]
            have he : Hid (checkU true false true false most ⟨(k : Int), ow, 0, idx, ⟨#[]⟩⟩ = 0) := by show _ = _; simp [checkU, Hv.out, Hi.out]
            go_wp2
            go_ret
            rw [he.out]
            exact ⟨rfl, A1.out.below⟩
      · skip
        rcases D4.out with ⟨rfl, z1, z2⟩ | x3
        · have he : Hid (checkU true false false false most ⟨(k : Int), ow, 0, 0, txt⟩ = 1) := if_pos (.inr (.inr (.inr ⟨rfl, z2⟩)))
          clear z2
          go_wp2
          go_ret
          rw [he.out]
          exact ⟨rfl, A.out.below⟩
        rcases x3 with rfl | ⟨rfl, rfl⟩
        · skip
          cases hv : validB ow with
          | false =>
            have Hv := Lib.hid hv; clear hv
            have he : Hid (checkU true false false true most ⟨(k : Int), ow, 0, 0, txt⟩ = 12) := by show _ = _; simp [checkU, Hv.out]
            go_wp2_with fail
            refine (valid_is ow _ Hf.out.1 Hv.out _).mono ?_
            rintro e W1 ⟨rfl, hb1⟩
            have A1 := Lib.hid (A.out.later hb1); clear hb1 q1 q2 q3 q4 t1 t2 t3 t4 t5
            have q1 : W1.cell? ⟨w.heap.size, 1, none⟩ = some (.string ow) := cell_of_heap A1.out.name 1
            have q2 : W1.cell? ⟨w.heap.size, 2, none⟩ = some (.int .i64 0) := cell_of_heap A1.out.name 2
            have q3 : W1.cell? ⟨w.heap.size, 3, none⟩ = some (.int .i64 0) := cell_of_heap A1.out.name 3
            have q4 : W1.cell? ⟨w.heap.size, 4, none⟩ = some (.string txt) := cell_of_heap A1.out.name 4
            have t1 : W1.cell? ⟨w.heap.size + 1, 1, none⟩ = some (.bool true) := cell_of_heap A1.out.row 1
            have t2 : W1.cell? ⟨w.heap.size + 1, 2, none⟩ = some (.bool false) := cell_of_heap A1.out.row 2
            have t3 : W1.cell? ⟨w.heap.size + 1, 3, none⟩ = some (.bool false) := cell_of_heap A1.out.row 3
            have t4 : W1.cell? ⟨w.heap.size + 1, 4, none⟩ = some (.bool true) := cell_of_heap A1.out.row 4
            have t5 : W1.cell? ⟨w.heap.size + 1, 5, none⟩ = some (.int .i64 most) := cell_of_heap A1.out.row 5
            go_wp2
            go_ret
            rw [he.out]
            exact ⟨rfl, A1.out.below⟩
          | true =>
            have Hv := Lib.hid hv; clear hv
            go_wp2_with fail
            refine (valid_is ow _ Hf.out.1 Hv.out _).mono ?_
            rintro e W1 ⟨rfl, hb1⟩
            have A1 := Lib.hid (A.out.later hb1); clear hb1 q1 q2 q3 q4 t1 t2 t3 t4 t5
            have q1 : W1.cell? ⟨w.heap.size, 1, none⟩ = some (.string ow) := cell_of_heap A1.out.name 1
            have q2 : W1.cell? ⟨w.heap.size, 2, none⟩ = some (.int .i64 0) := cell_of_heap A1.out.name 2
            have q3 : W1.cell? ⟨w.heap.size, 3, none⟩ = some (.int .i64 0) := cell_of_heap A1.out.name 3
            have q4 : W1.cell? ⟨w.heap.size, 4, none⟩ = some (.string txt) := cell_of_heap A1.out.name 4
            have t1 : W1.cell? ⟨w.heap.size + 1, 1, none⟩ = some (.bool true) := cell_of_heap A1.out.row 1
            have t2 : W1.cell? ⟨w.heap.size + 1, 2, none⟩ = some (.bool false) := cell_of_heap A1.out.row 2
            have t3 : W1.cell? ⟨w.heap.size + 1, 3, none⟩ = some (.bool false) := cell_of_heap A1.out.row 3
            have t4 : W1.cell? ⟨w.heap.size + 1, 4, none⟩ = some (.bool true) := cell_of_heap A1.out.row 4
            have t5 : W1.cell? ⟨w.heap.size + 1, 5, none⟩ = some (.int .i64 most) := cell_of_heap A1.out.row 5
            cases hw : wordB txt with
            | false =>
              have Hw := Lib.hid hw; clear hw
              have he : Hid (checkU true false false true most ⟨(k : Int), ow, 0, 0, txt⟩ = 12) := by show _ = _; simp [checkU, Hv.out, Hw.out]
              go_wp2_with fail
              refine (word_is txt _ Hw.out _ (by have := Hf.out.2; dsimp only at this; omega)).mono ?_
              rintro e W3 ⟨rfl, rfl⟩
              go_wp2
              go_ret
              rw [he.out]
              exact ⟨rfl, A1.out.below⟩
            | true =>
              have Hw := Lib.hid hw; clear hw
              have he : Hid (checkU true false false true most ⟨(k : Int), ow, 0, 0, txt⟩ = 0) := by show _ = _; simp [checkU, Hv.out, Hw.out]
              go_wp2_with fail
              refine (word_is txt _ Hw.out _ (by have := Hf.out.2; dsimp only at this; omega)).mono ?_
              rintro e W3 ⟨rfl, rfl⟩
              go_wp2
              go_ret
              rw [he.out]
              exact ⟨rfl, A1.out.below⟩
        · skip
          cases hv : validB ow with
          | false =>
            have Hv := Lib.hid hv; clear hv
            have he : Hid (checkU true false false false most ⟨(k : Int), ow, 0, 0, ⟨#[]⟩⟩ = 12) := by show _ = _; simp [checkU, Hv.out]
            go_wp2_with fail
            refine (valid_is ow _ Hf.out.1 Hv.out _).mono ?_
            rintro e W1 ⟨rfl, hb1⟩
            have A1 := Lib.hid (A.out.later hb1); clear hb1 q1 q2 q3 q4 t1 t2 t3 t4 t5
            have q1 : W1.cell? ⟨w.heap.size, 1, none⟩ = some (.string ow) := cell_of_heap A1.out.name 1
            have q2 : W1.cell? ⟨w.heap.size, 2, none⟩ = some (.int .i64 0) := cell_of_heap A1.out.name 2
            have q3 : W1.cell? ⟨w.heap.size, 3, none⟩ = some (.int .i64 0) := cell_of_heap A1.out.name 3
            have q4 : W1.cell? ⟨w.heap.size, 4, none⟩ = some (.string ⟨#[]⟩) := cell_of_heap A1.out.name 4
            have t1 : W1.cell? ⟨w.heap.size + 1, 1, none⟩ = some (.bool true) := cell_of_heap A1.out.row 1
            have t2 : W1.cell? ⟨w.heap.size + 1, 2, none⟩ = some (.bool false) := cell_of_heap A1.out.row 2
            have t3 : W1.cell? ⟨w.heap.size + 1, 3, none⟩ = some (.bool false) := cell_of_heap A1.out.row 3
            have t4 : W1.cell? ⟨w.heap.size + 1, 4, none⟩ = some (.bool false) := cell_of_heap A1.out.row 4
            have t5 : W1.cell? ⟨w.heap.size + 1, 5, none⟩ = some (.int .i64 most) := cell_of_heap A1.out.row 5
            go_wp2
            go_ret
            rw [he.out]
            exact ⟨rfl, A1.out.below⟩
          | true =>
            have Hv := Lib.hid hv; clear hv
            go_wp2_with fail
            refine (valid_is ow _ Hf.out.1 Hv.out _).mono ?_
            rintro e W1 ⟨rfl, hb1⟩
            have A1 := Lib.hid (A.out.later hb1); clear hb1 q1 q2 q3 q4 t1 t2 t3 t4 t5
            have q1 : W1.cell? ⟨w.heap.size, 1, none⟩ = some (.string ow) := cell_of_heap A1.out.name 1
            have q2 : W1.cell? ⟨w.heap.size, 2, none⟩ = some (.int .i64 0) := cell_of_heap A1.out.name 2
            have q3 : W1.cell? ⟨w.heap.size, 3, none⟩ = some (.int .i64 0) := cell_of_heap A1.out.name 3
            have q4 : W1.cell? ⟨w.heap.size, 4, none⟩ = some (.string ⟨#[]⟩) := cell_of_heap A1.out.name 4
            have t1 : W1.cell? ⟨w.heap.size + 1, 1, none⟩ = some (.bool true) := cell_of_heap A1.out.row 1
            have t2 : W1.cell? ⟨w.heap.size + 1, 2, none⟩ = some (.bool false) := cell_of_heap A1.out.row 2
            have t3 : W1.cell? ⟨w.heap.size + 1, 3, none⟩ = some (.bool false) := cell_of_heap A1.out.row 3
            have t4 : W1.cell? ⟨w.heap.size + 1, 4, none⟩ = some (.bool false) := cell_of_heap A1.out.row 4
            have t5 : W1.cell? ⟨w.heap.size + 1, 5, none⟩ = some (.int .i64 most) := cell_of_heap A1.out.row 5
            have he : Hid (checkU true false false false most ⟨(k : Int), ow, 0, 0, ⟨#[]⟩⟩ = 0) := by show _ = _; simp [checkU, Hv.out]
            go_wp2
            go_ret
            rw [he.out]
            exact ⟨rfl, A1.out.below⟩
  · skip
    rcases D2.out with ⟨rfl, z1, z2, z3⟩ | x1
    · have he : Hid (checkU false false ix tx most ⟨(k : Int), ⟨#[]⟩, num, idx, txt⟩ = 1) := if_pos (.inr (.inl ⟨rfl, z3⟩))
      clear z3
      go_wp2
      go_ret
      rw [he.out]
      exact ⟨rfl, A.out.below⟩
    rcases x1 with rfl | ⟨rfl, rfl⟩
    · skip
      rcases D3.out with ⟨rfl, z1, z2, z3⟩ | x2
      · have he : Hid (checkU false true false tx most ⟨(k : Int), ⟨#[]⟩, num, idx, txt⟩ = 1) := if_pos (.inr (.inr (.inl ⟨rfl, z3⟩)))
        clear z3
        go_wp2
        go_ret
        rw [he.out]
        exact ⟨rfl, A.out.below⟩
      rcases x2 with rfl | ⟨rfl, rfl⟩
      · skip
        rcases D4.out with ⟨rfl, z1, z2⟩ | x3
        · have he : Hid (checkU false true true false most ⟨(k : Int), ⟨#[]⟩, num, idx, txt⟩ = 1) := if_pos (.inr (.inr (.inr ⟨rfl, z2⟩)))
          clear z2
          go_wp2
          go_ret
          rw [he.out]
          exact ⟨rfl, A.out.below⟩
        rcases x3 with rfl | ⟨rfl, rfl⟩
        · skip
          by_cases hn : 0 ≤ num ∧ num ≤ 1073741824
          case neg =>
            have Hn : Hid ((0 ≤ num ∧ num ≤ 1073741824) ↔ False) := ⟨hn, False.elim⟩; clear hn
            have he : Hid (checkU false true true true most ⟨(k : Int), ⟨#[]⟩, num, idx, txt⟩ = 2) := by show _ = _; simp [checkU, Hn.out]
            go_wp2_with fail
            refine (oWithin_any num 1073741824 _).mono ?_
            rintro e W2 ⟨rfl, rfl⟩
            rw [show decide (0 ≤ num ∧ num ≤ 1073741824) = false from decide_eq_false Hn.out.1]
            go_wp2
            go_ret
            rw [he.out]
            exact ⟨rfl, A.out.below⟩
          have Hn : Hid ((0 ≤ num ∧ num ≤ 1073741824) ↔ True) := ⟨fun _ => trivial, fun _ => hn⟩; clear hn
          go_wp2_with fail
          refine (oWithin_any num 1073741824 _).mono ?_
          rintro e W2 ⟨rfl, rfl⟩
          rw [show decide (0 ≤ num ∧ num ≤ 1073741824) = true from decide_eq_true (Hn.out.2 trivial)]
          by_cases hi : 0 ≤ idx ∧ idx ≤ most
          case neg =>
            have Hi : Hid ((0 ≤ idx ∧ idx ≤ most) ↔ False) := ⟨hi, False.elim⟩; clear hi
            have he : Hid (checkU false true true true most ⟨(k : Int), ⟨#[]⟩, num, idx, txt⟩ = 2) := by show _ = _; simp [checkU, Hn.out, Hi.out]
            go_wp2_with fail
            refine (oWithin_any idx most _).mono ?_
            rintro e W2 ⟨rfl, rfl⟩
            rw [show decide (0 ≤ idx ∧ idx ≤ most) = false from decide_eq_false Hi.out.1]
            go_wp2
            go_ret
            rw [he.out]
            exact ⟨rfl, A.out.below⟩
          have Hi : Hid ((0 ≤ idx ∧ idx ≤ most) ↔ True) := ⟨fun _ => trivial, fun _ => hi⟩; clear hi
          go_wp2_with fail
          refine (oWithin_any idx most _).mono ?_
          rintro e W2 ⟨rfl, rfl⟩
          rw [show decide (0 ≤ idx ∧ idx ≤ most) = true from decide_eq_true (Hi.out.2 trivial)]
          cases hw : wordB txt with
          | false =>
            have Hw := Lib.hid hw; clear hw
            have he : Hid (checkU false true true true most ⟨(k : Int), ⟨#[]⟩, num, idx, txt⟩ = 12) := by show _ = _; simp [checkU, Hn.out, Hi.out, Hw.out]
            go_wp2_with fail
            refine (word_is txt _ Hw.out _ (by have := Hf.out.2; dsimp only at this; omega)).mono ?_
            rintro e W3 ⟨rfl, rfl⟩
            go_wp2
            go_ret
            rw [he.out]
            exact ⟨rfl, A.out.below⟩
          | true =>
            have Hw := Lib.hid hw; clear hw
            have he : Hid (checkU false true true true most ⟨(k : Int), ⟨#[]⟩, num, idx, txt⟩ = 0) := by show _ = _; simp [checkU, Hn.out, Hi.out, Hw.out]
            go_wp2_with fail
            refine (word_is txt _ Hw.out _ (by have := Hf.out.2; dsimp only at this; omega)).mono ?_
            rintro e W3 ⟨rfl, rfl⟩
            go_wp2
            go_ret
            rw [he.out]
            exact ⟨rfl, A.out.below⟩
        · skip
          by_cases hn : 0 ≤ num ∧ num ≤ 1073741824
          case neg =>
            have Hn : Hid ((0 ≤ num ∧ num ≤ 1073741824) ↔ False) := ⟨hn, False.elim⟩; clear hn
            have he : Hid (checkU false true true false most ⟨(k : Int), ⟨#[]⟩, num, idx, ⟨#[]⟩⟩ = 2) := by show _ = _; simp [checkU, Hn.out]
            go_wp2_with fail
            refine (oWithin_any num 1073741824 _).mono ?_
            rintro e W2 ⟨rfl, rfl⟩
            rw [show decide (0 ≤ num ∧ num ≤ 1073741824) = false from decide_eq_false Hn.out.1]
            go_wp2
            go_ret
            rw [he.out]
            exact ⟨rfl, A.out.below⟩
          have Hn : Hid ((0 ≤ num ∧ num ≤ 1073741824) ↔ True) := ⟨fun _ => trivial, fun _ => hn⟩; clear hn
          go_wp2_with fail
          refine (oWithin_any num 1073741824 _).mono ?_
          rintro e W2 ⟨rfl, rfl⟩
          rw [show decide (0 ≤ num ∧ num ≤ 1073741824) = true from decide_eq_true (Hn.out.2 trivial)]
          by_cases hi : 0 ≤ idx ∧ idx ≤ most
          case neg =>
            have Hi : Hid ((0 ≤ idx ∧ idx ≤ most) ↔ False) := ⟨hi, False.elim⟩; clear hi
            have he : Hid (checkU false true true false most ⟨(k : Int), ⟨#[]⟩, num, idx, ⟨#[]⟩⟩ = 2) := by show _ = _; simp [checkU, Hn.out, Hi.out]
            go_wp2_with fail
            refine (oWithin_any idx most _).mono ?_
            rintro e W2 ⟨rfl, rfl⟩
            rw [show decide (0 ≤ idx ∧ idx ≤ most) = false from decide_eq_false Hi.out.1]
            go_wp2
            go_ret
            rw [he.out]
            exact ⟨rfl, A.out.below⟩
          have Hi : Hid ((0 ≤ idx ∧ idx ≤ most) ↔ True) := ⟨fun _ => trivial, fun _ => hi⟩; clear hi
          go_wp2_with fail
          refine (oWithin_any idx most _).mono ?_
          rintro e W2 ⟨rfl, rfl⟩
          rw [show decide (0 ≤ idx ∧ idx ≤ most) = true from decide_eq_true (Hi.out.2 trivial)]
          have he : Hid (checkU false true true false most ⟨(k : Int), ⟨#[]⟩, num, idx, ⟨#[]⟩⟩ = 0) := by show _ = _; simp [checkU, Hn.out, Hi.out]
          go_wp2
          go_ret
          rw [he.out]
          exact ⟨rfl, A.out.below⟩
      · skip
        rcases D4.out with ⟨rfl, z1, z2⟩ | x3
        · have he : Hid (checkU false true false false most ⟨(k : Int), ⟨#[]⟩, num, 0, txt⟩ = 1) := if_pos (.inr (.inr (.inr ⟨rfl, z2⟩)))
          clear z2
          go_wp2
          go_ret
          rw [he.out]
          exact ⟨rfl, A.out.below⟩
        rcases x3 with rfl | ⟨rfl, rfl⟩
        · skip
          by_cases hn : 0 ≤ num ∧ num ≤ 1073741824
          case neg =>
            have Hn : Hid ((0 ≤ num ∧ num ≤ 1073741824) ↔ False) := ⟨hn, False.elim⟩; clear hn
            have he : Hid (checkU false true false true most ⟨(k : Int), ⟨#[]⟩, num, 0, txt⟩ = 2) := by show _ = _; simp [checkU, Hn.out]
            go_wp2_with fail
            refine (oWithin_any num 1073741824 _).mono ?_
            rintro e W2 ⟨rfl, rfl⟩
            rw [show decide (0 ≤ num ∧ num ≤ 1073741824) = false from decide_eq_false Hn.out.1]
            go_wp2
            go_ret
            rw [he.out]
            exact ⟨rfl, A.out.below⟩
          have Hn : Hid ((0 ≤ num ∧ num ≤ 1073741824) ↔ True) := ⟨fun _ => trivial, fun _ => hn⟩; clear hn
          go_wp2_with fail
          refine (oWithin_any num 1073741824 _).mono ?_
          rintro e W2 ⟨rfl, rfl⟩
          rw [show decide (0 ≤ num ∧ num ≤ 1073741824) = true from decide_eq_true (Hn.out.2 trivial)]
          cases hw : wordB txt with
          | false =>
            have Hw := Lib.hid hw; clear hw
            have he : Hid (checkU false true false true most ⟨(k : Int), ⟨#[]⟩, num, 0, txt⟩ = 12) := by show _ = _; simp [checkU, Hn.out, Hw.out]
            go_wp2_with fail
            refine (word_is txt _ Hw.out _ (by have := Hf.out.2; dsimp only at this; omega)).mono ?_
            rintro e W3 ⟨rfl, rfl⟩
            go_wp2
            go_ret
            rw [he.out]
            exact ⟨rfl, A.out.below⟩
          | true =>
            have Hw := Lib.hid hw; clear hw
            have he : Hid (checkU false true false true most ⟨(k : Int), ⟨#[]⟩, num, 0, txt⟩ = 0) := by show _ = _; simp [checkU, Hn.out, Hw.out]
            go_wp2_with fail
            refine (word_is txt _ Hw.out _ (by have := Hf.out.2; dsimp only at this; omega)).mono ?_
            rintro e W3 ⟨rfl, rfl⟩
            go_wp2
            go_ret
            rw [he.out]
            exact ⟨rfl, A.out.below⟩
        · skip
          by_cases hn : 0 ≤ num ∧ num ≤ 1073741824
          case neg =>
            have Hn : Hid ((0 ≤ num ∧ num ≤ 1073741824) ↔ False) := ⟨hn, False.elim⟩; clear hn
            have he : Hid (checkU false true false false most ⟨(k : Int), ⟨#[]⟩, num, 0, ⟨#[]⟩⟩ = 2) := by show _ = _; simp [checkU, Hn.out]
            go_wp2_with fail
            refine (oWithin_any num 1073741824 _).mono ?_
            rintro e W2 ⟨rfl, rfl⟩
            rw [show decide (0 ≤ num ∧ num ≤ 1073741824) = false from decide_eq_false Hn.out.1]
            go_wp2
            go_ret
            rw [he.out]
            exact ⟨rfl, A.out.below⟩
          have Hn : Hid ((0 ≤ num ∧ num ≤ 1073741824) ↔ True) := ⟨fun _ => trivial, fun _ => hn⟩; clear hn
          go_wp2_with fail
          refine (oWithin_any num 1073741824 _).mono ?_
          rintro e W2 ⟨rfl, rfl⟩
          rw [show decide (0 ≤ num ∧ num ≤ 1073741824) = true from decide_eq_true (Hn.out.2 trivial)]
          have he : Hid (checkU false true false false most ⟨(k : Int), ⟨#[]⟩, num, 0, ⟨#[]⟩⟩ = 0) := by show _ = _; simp [checkU, Hn.out]
          go_wp2
          go_ret
          rw [he.out]
          exact ⟨rfl, A.out.below⟩
    · skip
      rcases D3.out with ⟨rfl, z1, z2, z3⟩ | x2
      · have he : Hid (checkU false false false tx most ⟨(k : Int), ⟨#[]⟩, 0, idx, txt⟩ = 1) := if_pos (.inr (.inr (.inl ⟨rfl, z3⟩)))
        clear z3
        go_wp2
        go_ret
        rw [he.out]
        exact ⟨rfl, A.out.below⟩
      rcases x2 with rfl | ⟨rfl, rfl⟩
      · skip
        rcases D4.out with ⟨rfl, z1, z2⟩ | x3
        · have he : Hid (checkU false false true false most ⟨(k : Int), ⟨#[]⟩, 0, idx, txt⟩ = 1) := if_pos (.inr (.inr (.inr ⟨rfl, z2⟩)))
          clear z2
          go_wp2
          go_ret
          rw [he.out]
          exact ⟨rfl, A.out.below⟩
        rcases x3 with rfl | ⟨rfl, rfl⟩
        · skip
          by_cases hi : 0 ≤ idx ∧ idx ≤ most
          case neg =>
            have Hi : Hid ((0 ≤ idx ∧ idx ≤ most) ↔ False) := ⟨hi, False.elim⟩; clear hi
            have he : Hid (checkU false false true true most ⟨(k : Int), ⟨#[]⟩, 0, idx, txt⟩ = 2) := by show _ = _; simp [checkU, Hi.out]
            go_wp2_with fail
            refine (oWithin_any idx most _).mono ?_
            rintro e W2 ⟨rfl, rfl⟩
            rw [show decide (0 ≤ idx ∧ idx ≤ most) = false from decide_eq_false Hi.out.1]
            go_wp2
            go_ret
            rw [he.out]
            exact ⟨rfl, A.out.below⟩
          have Hi : Hid ((0 ≤ idx ∧ idx ≤ most) ↔ True) := ⟨fun _ => trivial, fun _ => hi⟩; clear hi
          go_wp2_with fail
          refine (oWithin_any idx most _).mono ?_
          rintro e W2 ⟨rfl, rfl⟩
          rw [show decide (0 ≤ idx ∧ idx ≤ most) = true from decide_eq_true (Hi.out.2 trivial)]
          cases hw : wordB txt with
          | false =>
            have Hw := Lib.hid hw; clear hw
            have he : Hid (checkU false false true true most ⟨(k : Int), ⟨#[]⟩, 0, idx, txt⟩ = 12) := by show _ = _; simp [checkU, Hi.out, Hw.out]
            go_wp2_with fail
            refine (word_is txt _ Hw.out _ (by have := Hf.out.2; dsimp only at this; omega)).mono ?_
            rintro e W3 ⟨rfl, rfl⟩
            go_wp2
            go_ret
            rw [he.out]
            exact ⟨rfl, A.out.below⟩
          | true =>
            have Hw := Lib.hid hw; clear hw
            have he : Hid (checkU false false true true most ⟨(k : Int), ⟨#[]⟩, 0, idx, txt⟩ = 0) := by show _ = _; simp [checkU, Hi.out, Hw.out]
            go_wp2_with fail
            refine (word_is txt _ Hw.out _ (by have := Hf.out.2; dsimp only at this; omega)).mono ?_
            rintro e W3 ⟨rfl, rfl⟩
            go_wp2
            go_ret
            rw [he.out]
            exact ⟨rfl, A.out.below⟩
        · skip
          by_cases hi : 0 ≤ idx ∧ idx ≤ most
          case neg =>
            have Hi : Hid ((0 ≤ idx ∧ idx ≤ most) ↔ False) := ⟨hi, False.elim⟩; clear hi
            have he : Hid (checkU false false true false most ⟨(k : Int), ⟨#[]⟩, 0, idx, ⟨#[]⟩⟩ = 2) := by show _ = _; simp [checkU, Hi.out]
            go_wp2_with fail
            refine (oWithin_any idx most _).mono ?_
            rintro e W2 ⟨rfl, rfl⟩
            rw [show decide (0 ≤ idx ∧ idx ≤ most) = false from decide_eq_false Hi.out.1]
            go_wp2
            go_ret
            rw [he.out]
            exact ⟨rfl, A.out.below⟩
          have Hi : Hid ((0 ≤ idx ∧ idx ≤ most) ↔ True) := ⟨fun _ => trivial, fun _ => hi⟩; clear hi
          go_wp2_with fail
          refine (oWithin_any idx most _).mono ?_
          rintro e W2 ⟨rfl, rfl⟩
          rw [show decide (0 ≤ idx ∧ idx ≤ most) = true from decide_eq_true (Hi.out.2 trivial)]
          have he : Hid (checkU false false true false most ⟨(k : Int), ⟨#[]⟩, 0, idx, ⟨#[]⟩⟩ = 0) := by show _ = _; simp [checkU, Hi.out]
          go_wp2
          go_ret
          rw [he.out]
          exact ⟨rfl, A.out.below⟩
      · skip
        rcases D4.out with ⟨rfl, z1, z2⟩ | x3
        · have he : Hid (checkU false false false false most ⟨(k : Int), ⟨#[]⟩, 0, 0, txt⟩ = 1) := if_pos (.inr (.inr (.inr ⟨rfl, z2⟩)))
          clear z2
          go_wp2
          go_ret
          rw [he.out]
          exact ⟨rfl, A.out.below⟩
        rcases x3 with rfl | ⟨rfl, rfl⟩
        · skip
          cases hw : wordB txt with
          | false =>
            have Hw := Lib.hid hw; clear hw
            have he : Hid (checkU false false false true most ⟨(k : Int), ⟨#[]⟩, 0, 0, txt⟩ = 12) := by show _ = _; simp [checkU, Hw.out]
            go_wp2_with fail
            refine (word_is txt _ Hw.out _ (by have := Hf.out.2; dsimp only at this; omega)).mono ?_
            rintro e W3 ⟨rfl, rfl⟩
            go_wp2
            go_ret
            rw [he.out]
            exact ⟨rfl, A.out.below⟩
          | true =>
            have Hw := Lib.hid hw; clear hw
            have he : Hid (checkU false false false true most ⟨(k : Int), ⟨#[]⟩, 0, 0, txt⟩ = 0) := by show _ = _; simp [checkU, Hw.out]
            go_wp2_with fail
            refine (word_is txt _ Hw.out _ (by have := Hf.out.2; dsimp only at this; omega)).mono ?_
            rintro e W3 ⟨rfl, rfl⟩
            go_wp2
            go_ret
            rw [he.out]
            exact ⟨rfl, A.out.below⟩
        · skip
          have he : Hid (checkU false false false false most ⟨(k : Int), ⟨#[]⟩, 0, 0, ⟨#[]⟩⟩ = 0) := by show _ = _; simp [checkU]
          go_wp2
          go_ret
          rw [he.out]
          exact ⟨rfl, A.out.below⟩
end Go.Proofs.YtfobmfenjdiimaaGreatDoor
