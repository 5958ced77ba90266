/- Law 24: short; law 4: To. -/
import Derived.Test.YthghfhnicdoebaaGreatDoorViewH
namespace Go.Proofs.YthghfhnicdoebaaGreatDoor
open Go.RowKit

/-- The first k bytes of a text. -/
def cutB (s : ByteArray) (k : Nat) : ByteArray := if (k : Int) < (s.size : Int) then s.extract 0 k else s
theorem cutB_size (s : ByteArray) (k : Nat) : (cutB s k).size ≤ k := by
  unfold cutB
  split
  · simp [ByteArray.size_extract]; omega
  · omega
def shortC (c : ChangeT) : ChangeT := ⟨⟨c.name.kind, cutB c.name.owner 100, c.name.number, c.name.index, cutB c.name.text 100⟩, cutB c.value 70, c.absent⟩
set_option maxRecDepth 100000 in
set_option maxHeartbeats 4000000 in
theorem short_any (k : Int) (o : ByteArray) (nu ix : Int) (t v : ByteArray) (ab : Bool) (w : World) (ho : o.size ≤ 9223372036854775807) (ht : t.size ≤ 9223372036854775807) (hv : v.size ≤ 9223372036854775807) :
    Calls Tryz.prog 35 #[.agg #[.int .i64 k, .string o, .int .i64 nu, .int .i64 ix, .string t, .string v, .bool ab]] w fun r w' => r = .returned (.agg #[.int .i64 k, .string (cutB o 100), .int .i64 nu, .int .i64 ix, .string (cutB t 100), .string (cutB v 70), .bool ab]) ∧ Below w.heap.size w w' := by
  have w1 : (¬ (100 : Int) < (o.size : Int) ∧ cutB o 100 = o) ∨ ((100 : Int) < (o.size : Int) ∧ cutB o 100 = o.extract 0 100) := by
    by_cases h : (100 : Int) < (o.size : Int)
    · exact .inr ⟨h, if_pos h⟩
    · exact .inl ⟨h, if_neg h⟩
  have w2 : (¬ (100 : Int) < (t.size : Int) ∧ cutB t 100 = t) ∨ ((100 : Int) < (t.size : Int) ∧ cutB t 100 = t.extract 0 100) := by
    by_cases h : (100 : Int) < (t.size : Int)
    · exact .inr ⟨h, if_pos h⟩
    · exact .inl ⟨h, if_neg h⟩
  have w3 : (¬ (70 : Int) < (v.size : Int) ∧ cutB v 70 = v) ∨ ((70 : Int) < (v.size : Int) ∧ cutB v 70 = v.extract 0 70) := by
    by_cases h : (70 : Int) < (v.size : Int)
    · exact .inr ⟨h, if_pos h⟩
    · exact .inl ⟨h, if_neg h⟩
  rcases w1 with ⟨h1, e1⟩ | ⟨h1, e1⟩ <;> rcases w2 with ⟨h2, e2⟩ | ⟨h2, e2⟩ <;> rcases w3 with ⟨h3, e3⟩ | ⟨h3, e3⟩
  all_goals
    have E1 := Lib.hid e1
    have E2 := Lib.hid e2
    have E3 := Lib.hid e3
    clear e1 e2 e3
    go_enter Tryz.func35, Tryz.ntmps35
    go_wp2
    refine bodyPost_ret (v := .agg #[.int .i64 k, .string (cutB o 100), .int .i64 nu, .int .i64 ix, .string (cutB t 100), .string (cutB v 70), .bool ab]) (by simp [results, Tryz.results35, go_sem, E1.out, E2.out, E3.out]) rfl ⟨rfl, ?_⟩
    exact ((Below.refl _ _).alloc (Nat.le_refl _) _).alloc (by simp) _
set_option maxRecDepth 100000 in
set_option maxHeartbeats 1000000 in
theorem to04_any (k : Int) (o : ByteArray) (nu ix : Int) (t : ByteArray) (w : World) :
    Calls Tryz.prog 36 #[.agg #[.int .i64 k, .string o, .int .i64 nu, .int .i64 ix, .string t]] w fun r w' => r = .returned (.agg #[.int .i64 k, .string o, .int .i64 nu, .int .i64 ix, .string t]) ∧ Below w.heap.size w w' := by
  go_enter Tryz.func36, Tryz.ntmps36
  go_wp2
  refine bodyPost_ret (v := .agg #[.int .i64 k, .string o, .int .i64 nu, .int .i64 ix, .string t]) (by simp [results, Tryz.results36, go_sem]) rfl ⟨rfl, ?_⟩
  exact ((Below.refl _ _).alloc (Nat.le_refl _) _).alloc (by simp) _
end Go.Proofs.YthghfhnicdoebaaGreatDoor
