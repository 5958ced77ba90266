/- lineage: Within. -/
import Derived.Test.YtfobmfenjdiimaaGreatDoorLinV
namespace Go.Proofs.YtfobmfenjdiimaaGreatDoor
open Go.RowKit

theorem extract_take (s : ByteArray) (n : Nat) : (s.extract 0 n).toList = s.data.toList.take n := by
  rw [ByteArray.toList_eq, ByteArray.data_extract]
  simp
theorem isPrefixOf_take (l m : List UInt8) (h : m.length ≤ l.length) : (l.take m.length == m) = m.isPrefixOf l := by
  induction m generalizing l with
  | nil => simp
  | cons b r ih =>
    cases l with
    | nil => simp at h
    | cons c q =>
      have := ih q (by simpa using h)
      simp only [List.length_cons, List.take_succ_cons, List.isPrefixOf]
      rw [← this]
      show (c == b && (q.take r.length == r)) = _
      rw [Bool.beq_comm (a := c)]
theorem isPrefixOf_short (l m : List UInt8) (h : l.length < m.length) : m.isPrefixOf l = false := by
  induction m generalizing l with
  | nil => simp at h
  | cons b r ih =>
    cases l with
    | nil => rfl
    | cons c q => simp [List.isPrefixOf, ih q (by simpa using h)]

def hasPrefix (s t : ByteArray) : Bool := t.data.toList.isPrefixOf s.data.toList

set_option maxRecDepth 100000 in
set_option maxHeartbeats 1000000 in
theorem hasPrefixLite_any (s t : ByteArray) (w : World) (_hs : s.size ≤ 70368744177664) (_ht : t.size ≤ 70368744177664) :
    Calls Tryz.prog 135 #[.string s, .string t] w fun r w' => r = .returned (.bool (hasPrefix s t)) ∧ w = w' := by
  by_cases h : t.size ≤ s.size
  · go_enter Tryz.func135, Tryz.ntmps135
    go_wp2
    go_ret
    have e : ((s.extract 0 t.size).toList == t.toList) = hasPrefix s t := by
      rw [extract_take, ByteArray.toList_eq, ← size_toList]
      exact isPrefixOf_take _ _ (by rw [size_toList, size_toList]; exact h)
    rw [← e]
    exact ⟨rfl, rfl⟩
  · go_enter Tryz.func135, Tryz.ntmps135
    go_wp2
    go_ret
    have e : hasPrefix s t = false := isPrefixOf_short _ _ (by rw [size_toList, size_toList]; omega)
    rw [e]
    exact ⟨rfl, rfl⟩

set_option maxRecDepth 100000 in
set_option maxHeartbeats 1000000 in
theorem hasPrefix_any (s t : ByteArray) (w : World) (hs : s.size ≤ 70368744177664) (ht : t.size ≤ 70368744177664) :
    Calls Tryz.prog 121 #[.string s, .string t] w fun r w' => r = .returned (.bool (hasPrefix s t)) ∧ w = w' := by
  go_enter Tryz.func121, Tryz.ntmps121
  go_wp2_with fail
  refine (hasPrefixLite_any s t _ hs ht).mono ?_
  rintro e w1 ⟨rfl, rfl⟩
  go_wp2
  go_ret
  exact ⟨rfl, rfl⟩

/-- lineage.Within. -/
def withinB (n a : ByteArray) : Bool := validB n && validB a && (n.data.toList == a.data.toList || a.data.toList.isEmpty || (a.data.toList ++ [46]).isPrefixOf n.data.toList)

set_option maxRecDepth 100000 in
set_option maxHeartbeats 1000000 in
theorem within_any (n a : ByteArray) (w : World) (hn : n.size ≤ 35184372088832) (ha : a.size ≤ 35184372088832) :
    Calls Tryz.prog 92 #[.string n, .string a] w fun r w' => r = .returned (.bool (withinB n a)) ∧ Below w.heap.size w w' := by
  by_cases hv : validB n = true
  · go_enter Tryz.func92, Tryz.ntmps92
    go_wp2_with fail
    refine (valid_is n true (by omega) hv _).mono ?_
    rintro e w1 ⟨rfl, hb1⟩
    have Hb1 := Lib.hid hb1; clear hb1
    have Hv := Lib.hid hv; clear hv
    by_cases hva : validB a = true
    · go_wp2_with fail
      refine (valid_is a true (by omega) hva _).mono ?_
      rintro e w2 ⟨rfl, hb2⟩
      have Hb2 := Lib.hid hb2; clear hb2
      have Hva := Lib.hid hva; clear hva
      have hwv : Hid (withinB n a = (n.data.toList == a.data.toList || a.data.toList.isEmpty || (a.data.toList ++ [46]).isPrefixOf n.data.toList)) := by
        show _ = _; simp [withinB, Hv.out, Hva.out]
      by_cases h1 : n.toList = a.toList
      · have e : Hid (withinB n a = true) := by
          show _ = _; rw [hwv.out, ← ByteArray.toList_eq, ← ByteArray.toList_eq, h1]; simp
        go_wp2
        go_ret
        rw [e.out]
        exact ⟨rfl, Hb1.out.trans (Hb2.out.mono Hb1.out.size)⟩
      · by_cases h2 : a.toList = []
        · have e : Hid (withinB n a = true) := by
            show _ = _; rw [hwv.out, ← ByteArray.toList_eq, ← ByteArray.toList_eq, h2]; simp
          go_wp2
          all_goals
            go_ret
            rw [e.out]
            exact ⟨rfl, Hb1.out.trans (Hb2.out.mono Hb1.out.size)⟩
        · have e : Hid (withinB n a = (a.data.toList ++ [46]).isPrefixOf n.data.toList) := by
            show _ = _; rw [hwv.out]
            rw [ByteArray.toList_eq, ByteArray.toList_eq] at h1
            rw [ByteArray.toList_eq] at h2
            have e1 : (n.data.toList == a.data.toList) = false := beq_eq_false_iff_ne.2 h1
            have e2 : a.data.toList.isEmpty = false := by cases h : a.data.toList <;> simp_all
            rw [e1, e2]
            rfl
          have e3 : Hid (hasPrefix n (a ++ ⟨#[46]⟩) = withinB n a) := by
            show _ = _; rw [e.out]; unfold hasPrefix; rw [ByteArray.data_append]; simp
          have e4 : (a ++ (⟨#[46]⟩ : ByteArray)).size ≤ 70368744177664 := by
            rw [ByteArray.size_append]; show a.size + 1 ≤ _; omega
          have E4 := Lib.hid e4; clear e4
          have hb1 : (n.toList == a.toList) = false := beq_eq_false_iff_ne.2 h1
          have hb2 : a.toList.isEmpty = false := by cases h : a.toList <;> simp_all
          go_wp2_with fail
          refine (hasPrefix_any _ _ _ ?_ ?_).mono ?_
          · omega
          · exact E4.out
          rintro e w3 ⟨rfl, rfl⟩
          rw [e3.out]
          generalize hz : withinB n a = z at *
          have Hz := Lib.hid hz; clear hz
          clear hwv e e3
          go_wp2
          go_ret
          rw [Hz.out]
          exact ⟨rfl, Hb1.out.trans (Hb2.out.mono Hb1.out.size)⟩
    · go_wp2_with fail
      refine (valid_is a false (by omega) (by simpa using hva) _).mono ?_
      rintro e w2 ⟨rfl, hb2⟩
      have Hb2 := Lib.hid hb2; clear hb2
      have Hva := Lib.hid hva; clear hva
      go_wp2
      go_ret
      have e : withinB n a = false := by simp [withinB, Hva.out]
      rw [e]
      exact ⟨rfl, Hb1.out.trans (Hb2.out.mono Hb1.out.size)⟩
  · have e : withinB n a = false := by simp [withinB, hv]
    rw [e]
    go_enter Tryz.func92, Tryz.ntmps92
    go_wp2_with fail
    refine (valid_is n false (by omega) (by simpa using hv) _).mono ?_
    rintro e w1 ⟨rfl, hb1⟩
    have Hb1 := Lib.hid hb1; clear hb1
    have Hv := Lib.hid hv; clear hv
    go_wp2
    go_ret
    exact ⟨rfl, Hb1.out⟩

end Go.Proofs.YtfobmfenjdiimaaGreatDoor
