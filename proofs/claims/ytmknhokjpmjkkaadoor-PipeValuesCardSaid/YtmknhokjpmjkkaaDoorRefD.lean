/- The reference of layer 32: take. -/
import Derived.Test.YtmknhokjpmjkkaaDoorRefC
import Derived.Test.YtmknhokjpmjkkaaDoorPipB
import Derived.BigQuiet
namespace Go.Proofs.YtmknhokjpmjkkaaDoor
open Go.RowKit

/-- The number at the beginning of a string, and the rest. -/
def rTake (s : ByteArray) : Int × ByteArray :=
  if (parseNat 9 s.data.toList).2.2 = 0 then ((parseNat 9 s.data.toList).1, s.extract (parseNat 9 s.data.toList).2.1 s.size) else (-1, ⟨#[]⟩)

theorem rfTake_fst (s : ByteArray) (h : (parseNat 9 s.data.toList).2.2 = 0) : rTake s = (((parseNat 9 s.data.toList).1 : Int), s.extract (parseNat 9 s.data.toList).2.1 s.size) := by unfold rTake; rw [if_pos h]
theorem rfTake_bad (s : ByteArray) (h : ¬ (parseNat 9 s.data.toList).2.2 = 0) : rTake s = (-1, ⟨#[]⟩) := by unfold rTake; rw [if_neg h]
theorem bytes_BSl (w : World) (s : ByteArray) : BSl (Lib.bytesWorld w 5 s) w.heap.size 0 s.size s.data.toList :=
  ⟨(size_toList s).symm, fun j hj => by rw [Nat.zero_add]; exact Lib.bytesWorld_cell w 5 s j hj⟩

set_option maxRecDepth 100000 in
set_option maxHeartbeats 1000000 in
theorem rfTake_any (s : ByteArray) (w : World) (hs : s.size ≤ 35184372088832) :
    Calls Tryd.prog 99 #[.string s] w fun r w' => r = .returned (.tuple #[.int .i64 (rTake s).1, .string (rTake s).2]) ∧ Below w.heap.size w w' := by
  have hconv := Lib.run_convert_string_bytes (P := Tryd.prog) w 9 136 5 s Tryd.underlying9 Tryd.underlying136 Tryd.underlying5
  have Hsl := Lib.hid (bytes_BSl w s)
  have Hb := Lib.hid (pBytes_below w 5 s)
  have Hlen : Hid (s.data.toList.length ≤ 70368744177664) := by show _ ≤ _; rw [size_toList]; omega
  go_enter Tryd.func99, Tryd.ntmps99
  go_wp2_with fail
  refine (rfParse_any _ _ _ _ _ _ Hlen.out Hsl.out).mono ?_
  rintro e w1 ⟨rfl, rfl⟩
  clear hconv Hsl
  obtain ⟨h1, h2, h3, h4⟩ := parse9_small s.data.toList
  rw [size_toList] at h2
  have T1 := Lib.hid (rfTake_fst s)
  have T2 := Lib.hid (rfTake_bad s)
  generalize hq : parseNat 9 s.data.toList = q at *
  obtain ⟨q1, q2, q3⟩ := q
  dsimp only at *
  clear hq
  by_cases h0 : q3 = 0
  · have he := Lib.hid (T1.out h0)
    subst h0
    clear T1 T2
    go_wp2_with fail
    go_quiet (fail)
    go_wp2
    go_ret2
    rw [he.out]
    exact ⟨rfl, Hb.out.trans ((below_drewN (Below.refl _ _) _).mono Hb.out.size)⟩
  · have he := Lib.hid (T2.out h0)
    have h0' : ((q3 : Int) == 0) = false := beq_eq_false_iff_ne.2 (by omega)
    clear T1 T2 h0
    go_wp2
    go_ret2
    rw [he.out]
    exact ⟨rfl, Hb.out⟩

end Go.Proofs.YtmknhokjpmjkkaaDoor

