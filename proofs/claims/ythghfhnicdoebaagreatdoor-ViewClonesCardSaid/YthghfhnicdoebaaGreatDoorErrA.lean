/- Names that Check refuses: state.Without, Apply; the view's Get, Has, Set, Delete. -/
import Derived.Test.YthghfhnicdoebaaGreatDoorChkA
import Derived.Test.YthghfhnicdoebaaGreatDoorStaI
import Derived.Deep.LoopGhost
namespace Go.Proofs.YthghfhnicdoebaaGreatDoor
open Go.RowKit

theorem nameOk_of {n : NameT} (hf : FitN n) (h : checkE n = 0) : NameOk n := ⟨hf, fun W hu => by
  have := checkName_any n W hu hf
  rwa [h] at this⟩

set_option maxRecDepth 100000 in
set_option maxHeartbeats 800000 in
theorem stateWithout_name (sp : Nat) (n : NameT) (c : Int) (w : World) (hc0 : c ≠ 0) (hc : ∀ W, Below w.heap.size w W → Calls Tryz.prog 66 #[nameV n] W fun r w' => r = .returned (.int .i64 c) ∧ Below W.heap.size W w') :
    Calls Tryz.prog 43 #[.pointer (some ⟨sp, 0, none⟩), nameV n] w fun r w' => r = .returned (.tuple #[.pointer none, .int .i64 12]) ∧ Below w.heap.size w w' := by
  have Hc := Lib.hid hc; clear hc
  have h1 : (c == 0) = false := beq_eq_false_iff_ne.2 hc0
  have h2 : (c != 0) = true := bne_iff_ne.2 hc0
  clear hc0
  obtain ⟨n1, n2, n3, n4, n5⟩ := n
  dsimp only [nameV] at *
  go_enter Tryz.func43, Tryz.ntmps43
  go_wp2_with fail
  refine (Hc.out _ ((Below.refl _ _).alloc (Nat.le_refl _) _)).mono ?_
  rintro e w1 ⟨rfl, hb1⟩
  have Hb1 := Lib.hid hb1; clear hb1
  go_wp2_with fail
  go_ret2
  exact ⟨rfl, ((Below.refl _ _).alloc (Nat.le_refl _) _).trans (Hb1.out.mono (by simp))⟩

set_option maxRecDepth 100000 in
set_option maxHeartbeats 1600000 in
/-- Apply of one change whose name Check refuses. -/
theorem apply_bad {sp : Nat} {v : Value} {c : ChangeT} {w : World} (hu : Usages w) (hr : RowC w v [c]) (hf : FitN c.name) (he : checkE c.name ≠ 0) :
    Calls Tryz.prog 14 #[.pointer (some ⟨sp, 0, none⟩), v] w fun r w' => r = .returned (.tuple #[.pointer none, .int .i64 12]) ∧ Below w.heap.size w w' := by
  obtain ⟨a, cap, rfl, hrow⟩ := hr
  obtain ⟨g, rfl, hg⟩ := hrow 0 c rfl
  have e0 : w.cell? ⟨g, 0, none⟩ = some (.int .i64 c.name.kind) := by simpa using hg 0 _ rfl
  have e1 : w.cell? ⟨g, 1, none⟩ = some (.string c.name.owner) := by simpa using hg 1 _ rfl
  have e2 : w.cell? ⟨g, 2, none⟩ = some (.int .i64 c.name.number) := by simpa using hg 2 _ rfl
  have e3 : w.cell? ⟨g, 3, none⟩ = some (.int .i64 c.name.index) := by simpa using hg 3 _ rfl
  have e4 : w.cell? ⟨g, 4, none⟩ = some (.string c.name.text) := by simpa using hg 4 _ rfl
  have e5 : w.cell? ⟨g, 5, none⟩ = some (.string c.value) := by simpa using hg 5 _ rfl
  have e6 : w.cell? ⟨g, 6, none⟩ = some (.bool c.absent) := by simpa using hg 6 _ rfl
  clear hrow hg
  have HBo : Hid (∀ o, Below w.heap.size w (w.alloc o)) := fun o => (Below.refl _ _).alloc (Nat.le_refl _) _
  have HC : Hid (∀ o W, Below (w.alloc o).heap.size (w.alloc o) W → Calls Tryz.prog 66 #[nameV c.name] W fun r w' => r = .returned (.int .i64 (checkE c.name)) ∧ Below W.heap.size W w') := fun o W hW =>
    checkName_any c.name W ((hu.below (HBo.out o) hu.pos).below hW (by simp)) hf
  have He := Lib.hid he
  clear he hf hu
  go_enter Tryz.func14, Tryz.ntmps14
  go_wp2_with fail
  go_loopg [0, 13] 0 (fun gk sv i wr => gk = 0 ∧ sv = .pointer (some ⟨sp, 0, none⟩) ∧ i = .int .i64 0 ∧ wr = w)
  case atStart => exact ⟨rfl, rfl, rfl, rfl⟩
  case round =>
    obtain ⟨rfl, rfl, rfl, rfl⟩ := hrel
    cases hab : c.absent with
    | false =>
      rw [hab] at e6
      clear hab
      go_wp2_with fail
      refine (stateWith_name sp c.name c.value _ _ He.out (fun W hW => HC.out _ W hW)).mono ?_
      rintro e w2 ⟨rfl, hb2⟩
      have HB2 : Hid (Below wr.heap.size wr w2) := (HBo.out _).trans (hb2.mono (HBo.out _).size)
      clear hb2
      go_wp2_with fail
      go_ret2
      exact ⟨rfl, HB2.out⟩
    | true =>
      rw [hab] at e6
      clear hab
      go_wp2_with fail
      refine (stateWithout_name sp c.name _ _ He.out (fun W hW => HC.out _ W hW)).mono ?_
      rintro e w2 ⟨rfl, hb2⟩
      have HB2 : Hid (Below wr.heap.size wr w2) := (HBo.out _).trans (hb2.mono (HBo.out _).size)
      clear hb2
      go_wp2_with fail
      go_ret2
      exact ⟨rfl, HB2.out⟩
/-- Apply of one change, whatever its name. -/
theorem apply_one {N B : Nat} {sp : Nat} {f : NameT → Option ByteArray} {v : Value} {c : ChangeT} {w : World} (hu : Usages w) (hb : BaseN N B w sp f) (hB : B ≤ w.heap.size) (hN : N < 59999) (hr : RowC w v [c]) (hf : FitN c.name) (hv : c.value.size ≤ 65536) :
    Calls Tryz.prog 14 #[.pointer (some ⟨sp, 0, none⟩), v] w fun r w' => ∃ q sp' : Option Nat, ∃ e : Nat, r = .returned (.tuple #[.pointer (sp'.map fun p => ⟨p, 0, none⟩), .int .i64 e]) ∧ Below w.heap.size w w' ∧ q = none ∧ ((e = 12 ∧ sp' = none) ∨ (e = 0 ∧ ∃ p, sp' = some p ∧ BaseN (N + 1) w'.heap.size w' p (applyC f c))) := by
  by_cases he : checkE c.name = 0
  · refine (baseApply hu hb hB (by simp; omega) hr (fun d hd => ?_)).mono ?_
    · simp at hd; subst hd; exact ⟨nameOk_of hf he, hv⟩
    · rintro r w' ⟨p, rfl, h1, h2⟩
      exact ⟨none, some p, 0, rfl, h1, rfl, .inr ⟨rfl, p, rfl, h2⟩⟩
  · refine (apply_bad hu hr hf he).mono ?_
    rintro r w' ⟨rfl, h1⟩
    exact ⟨none, none, 12, rfl, h1, rfl, .inl ⟨rfl, rfl⟩⟩

section
variable (b : Nat) (n : NameT) (w : World) (hu : Usages w) (hf : FitN n) (he : checkE n ≠ 0)
include hu hf he
set_option maxRecDepth 100000 in
set_option maxHeartbeats 1000000 in
theorem vGet_bad : Calls Tryz.prog 30 #[.pointer (some ⟨b, 0, none⟩), nameV n] w fun r w' => r = .returned (.tuple #[.string ⟨#[]⟩, .bool false]) ∧ Below w.heap.size w w' := by
  have HBo : Hid (∀ o, Below w.heap.size w (w.alloc o)) := fun o => (Below.refl _ _).alloc (Nat.le_refl _) _
  have HC : Hid (∀ o, Calls Tryz.prog 66 #[nameV n] (w.alloc o) fun r w' => r = .returned (.int .i64 (checkE n)) ∧ Below (w.alloc o).heap.size (w.alloc o) w') := fun o => checkName_any n _ (hu.below (HBo.out o) hu.pos) hf
  have h2 : (checkE n != 0) = true := bne_iff_ne.2 he
  have h3 : (checkE n == 0) = false := beq_eq_false_iff_ne.2 he
  clear hu hf he
  generalize checkE n = c at *
  obtain ⟨n1, n2, n3, n4, n5⟩ := n
  dsimp only [nameV] at *
  go_enter Tryz.func30, Tryz.ntmps30
  go_wp2_with fail
  refine (HC.out _).mono ?_
  rintro e w1 ⟨rfl, hb1⟩
  have HB1 : Hid (Below w.heap.size w w1) := (HBo.out _).trans (hb1.mono (HBo.out _).size)
  clear hb1
  go_wp2
  go_ret2
  exact ⟨rfl, HB1.out⟩
set_option maxRecDepth 100000 in
set_option maxHeartbeats 1000000 in
theorem vSet_bad (x : ByteArray) : Calls Tryz.prog 31 #[.pointer (some ⟨b, 0, none⟩), nameV n, .string x] w fun r w' => r = .returned (.int .i64 12) ∧ Below w.heap.size w w' := by
  have HBo : Hid (∀ o, Below w.heap.size w (w.alloc o)) := fun o => (Below.refl _ _).alloc (Nat.le_refl _) _
  have HC : Hid (∀ o, Calls Tryz.prog 66 #[nameV n] (w.alloc o) fun r w' => r = .returned (.int .i64 (checkE n)) ∧ Below (w.alloc o).heap.size (w.alloc o) w') := fun o => checkName_any n _ (hu.below (HBo.out o) hu.pos) hf
  have h2 : (checkE n != 0) = true := bne_iff_ne.2 he
  have h3 : (checkE n == 0) = false := beq_eq_false_iff_ne.2 he
  clear hu hf he
  generalize checkE n = c at *
  obtain ⟨n1, n2, n3, n4, n5⟩ := n
  dsimp only [nameV] at *
  go_enter Tryz.func31, Tryz.ntmps31
  go_wp2_with fail
  refine (HC.out _).mono ?_
  rintro e w1 ⟨rfl, hb1⟩
  have HB1 : Hid (Below w.heap.size w w1) := (HBo.out _).trans (hb1.mono (HBo.out _).size)
  clear hb1
  go_wp2
  go_ret
  exact ⟨rfl, HB1.out⟩
set_option maxRecDepth 100000 in
set_option maxHeartbeats 1000000 in
theorem vDel_bad : Calls Tryz.prog 41 #[.pointer (some ⟨b, 0, none⟩), nameV n] w fun r w' => r = .returned (.int .i64 12) ∧ Below w.heap.size w w' := by
  have HBo : Hid (∀ o, Below w.heap.size w (w.alloc o)) := fun o => (Below.refl _ _).alloc (Nat.le_refl _) _
  have HC : Hid (∀ o, Calls Tryz.prog 66 #[nameV n] (w.alloc o) fun r w' => r = .returned (.int .i64 (checkE n)) ∧ Below (w.alloc o).heap.size (w.alloc o) w') := fun o => checkName_any n _ (hu.below (HBo.out o) hu.pos) hf
  have h2 : (checkE n != 0) = true := bne_iff_ne.2 he
  have h3 : (checkE n == 0) = false := beq_eq_false_iff_ne.2 he
  clear hu hf he
  generalize checkE n = c at *
  obtain ⟨n1, n2, n3, n4, n5⟩ := n
  dsimp only [nameV] at *
  go_enter Tryz.func41, Tryz.ntmps41
  go_wp2_with fail
  refine (HC.out _).mono ?_
  rintro e w1 ⟨rfl, hb1⟩
  have HB1 : Hid (Below w.heap.size w w1) := (HBo.out _).trans (hb1.mono (HBo.out _).size)
  clear hb1
  go_wp2
  go_ret
  exact ⟨rfl, HB1.out⟩
set_option maxRecDepth 100000 in
set_option maxHeartbeats 1000000 in
theorem vHas_bad : Calls Tryz.prog 33 #[.pointer (some ⟨b, 0, none⟩), nameV n] w fun r w' => r = .returned (.bool false) ∧ Below w.heap.size w w' := by
  have HG : Hid (∀ W, Below w.heap.size w W → Calls Tryz.prog 30 #[.pointer (some ⟨b, 0, none⟩), nameV n] W fun r w' => r = .returned (.tuple #[.string ⟨#[]⟩, .bool false]) ∧ Below W.heap.size W w') := fun W hW => vGet_bad b n W (hu.below hW hu.pos) hf he
  have HBo : Hid (∀ o, Below w.heap.size w (w.alloc o)) := fun o => (Below.refl _ _).alloc (Nat.le_refl _) _
  clear hu hf he
  obtain ⟨n1, n2, n3, n4, n5⟩ := n
  dsimp only [nameV] at *
  go_enter Tryz.func33, Tryz.ntmps33
  go_wp2_with fail
  refine (HG.out _ (by first | exact Below.refl _ _ | exact HBo.out _)).mono ?_
  rintro e w1 ⟨rfl, hb1⟩
  have HB1 : Hid (Below w.heap.size w w1) := by first | exact hb1 | exact (HBo.out _).trans (hb1.mono (HBo.out _).size)
  clear hb1
  go_wp2
  go_ret
  exact ⟨rfl, HB1.out⟩
end
end Go.Proofs.YthghfhnicdoebaaGreatDoor
