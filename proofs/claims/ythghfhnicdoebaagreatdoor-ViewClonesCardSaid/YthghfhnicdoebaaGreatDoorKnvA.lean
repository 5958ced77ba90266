/- object: the names of the clock and of the epoch. Law 24: known. -/
import Derived.Test.YthghfhnicdoebaaGreatDoorViewH
import Derived.Test.YthghfhnicdoebaaGreatDoorRolA
import Derived.Test.YthghfhnicdoebaaGreatDoorRdsE
import Derived.Test.YthghfhnicdoebaaGreatDoorNeqC
import Derived.Deep.RegionHeld3
namespace Go.Proofs.YthghfhnicdoebaaGreatDoor
open Go.RowKit

def clockN : NameT := ⟨15, ⟨#[]⟩, 0, 0, ⟨#[]⟩⟩
def epochN : NameT := ⟨20, ⟨#[]⟩, 0, 0, ⟨#[]⟩⟩

set_option maxRecDepth 100000 in
set_option maxHeartbeats 1000000 in
theorem ofClock_any (w : World) : Calls Tryz.prog 29 #[] w fun r w' => r = .returned (.agg #[.int .i64 15, .string ⟨#[]⟩, .int .i64 0, .int .i64 0, .string ⟨#[]⟩]) ∧ Below w.heap.size w w' := by
  go_enter Tryz.func29, Tryz.ntmps29
  go_wp2
  refine bodyPost_ret (v := .agg #[.int .i64 15, .string ⟨#[]⟩, .int .i64 0, .int .i64 0, .string ⟨#[]⟩]) (by simp [results, Tryz.results29, go_sem]) rfl ⟨rfl, ?_⟩
  exact (Below.refl _ _).alloc (Nat.le_refl _) _
set_option maxRecDepth 100000 in
set_option maxHeartbeats 1000000 in
theorem ofEpoch_any (w : World) : Calls Tryz.prog 32 #[] w fun r w' => r = .returned (.agg #[.int .i64 20, .string ⟨#[]⟩, .int .i64 0, .int .i64 0, .string ⟨#[]⟩]) ∧ Below w.heap.size w w' := by
  go_enter Tryz.func32, Tryz.ntmps32
  go_wp2
  refine bodyPost_ret (v := .agg #[.int .i64 20, .string ⟨#[]⟩, .int .i64 0, .int .i64 0, .string ⟨#[]⟩]) (by simp [results, Tryz.results32, go_sem]) rfl ⟨rfl, ?_⟩
  exact (Below.refl _ _).alloc (Nat.le_refl _) _

set_option maxRecDepth 100000 in
set_option maxHeartbeats 2000000 in
theorem checkClock_any (w : World) (hu : Usages w) :
    Calls Tryz.prog 66 #[.agg #[.int .i64 15, .string ⟨#[]⟩, .int .i64 0, .int .i64 0, .string ⟨#[]⟩]] w fun r w' => r = .returned (.int .i64 0) ∧ Below w.heap.size w w' := by
  have hp := hu.pos
  obtain ⟨u0, u1, u2, u3, u4, u5⟩ := hu 15 (by decide)
  have v0 : w.cell? ⟨0, 90, none⟩ = some (.string ⟨#[99, 108, 111, 99, 107]⟩) := u0
  have v1 : w.cell? ⟨0, 91, none⟩ = some (.bool false) := u1
  have v2 : w.cell? ⟨0, 92, none⟩ = some (.bool false) := u2
  have v3 : w.cell? ⟨0, 93, none⟩ = some (.bool false) := u3
  have v4 : w.cell? ⟨0, 94, none⟩ = some (.bool false) := u4
  have v5 : w.cell? ⟨0, 95, none⟩ = some (.int .i64 0) := u5
  clear u0 u1 u2 u3 u4 u5
  have Hu := Lib.hid hu; clear hu
  go_enter Tryz.func66, Tryz.ntmps66
  go_wp2_with fail
  refine (isKind_any 15 _ (by decide) (by decide)).mono ?_
  rintro e w1 ⟨rfl, rfl⟩
  go_wp2
  go_ret
  refine ⟨rfl, ?_⟩
  exact ((Below.refl _ _).alloc (Nat.le_refl _) _).alloc (by simp) _
theorem nameOk_clock : NameOk clockN := ⟨⟨emp_le, emp_le⟩, fun W hu => checkClock_any W hu⟩
set_option maxRecDepth 100000 in
set_option maxHeartbeats 2000000 in
theorem checkEpoch_any (w : World) (hu : Usages w) :
    Calls Tryz.prog 66 #[.agg #[.int .i64 20, .string ⟨#[]⟩, .int .i64 0, .int .i64 0, .string ⟨#[]⟩]] w fun r w' => r = .returned (.int .i64 0) ∧ Below w.heap.size w w' := by
  have hp := hu.pos
  obtain ⟨u0, u1, u2, u3, u4, u5⟩ := hu 20 (by decide)
  have v0 : w.cell? ⟨0, 120, none⟩ = some (.string ⟨#[101, 112, 111, 99, 104]⟩) := u0
  have v1 : w.cell? ⟨0, 121, none⟩ = some (.bool false) := u1
  have v2 : w.cell? ⟨0, 122, none⟩ = some (.bool false) := u2
  have v3 : w.cell? ⟨0, 123, none⟩ = some (.bool false) := u3
  have v4 : w.cell? ⟨0, 124, none⟩ = some (.bool false) := u4
  have v5 : w.cell? ⟨0, 125, none⟩ = some (.int .i64 0) := u5
  clear u0 u1 u2 u3 u4 u5
  have Hu := Lib.hid hu; clear hu
  go_enter Tryz.func66, Tryz.ntmps66
  go_wp2_with fail
  refine (isKind_any 20 _ (by decide) (by decide)).mono ?_
  rintro e w1 ⟨rfl, rfl⟩
  go_wp2
  go_ret
  refine ⟨rfl, ?_⟩
  exact ((Below.refl _ _).alloc (Nat.le_refl _) _).alloc (by simp) _
theorem nameOk_epoch : NameOk epochN := ⟨⟨emp_le, emp_le⟩, fun W hu => checkEpoch_any W hu⟩
end Go.Proofs.YthghfhnicdoebaaGreatDoor

namespace Go.Proofs.YthghfhnicdoebaaGreatDoor
open Go.RowKit
attribute [local go_sem ↓] Go.wp_at_zero Go.wp_at_succ
def eqCB (a b : ChangeT) : Bool := decide (a = b)
theorem run_eql_change (w : World) (a1 : Int) (a2 : ByteArray) (a3 a4 : Int) (a5 a6 : ByteArray) (a7 : Bool) (b1 : Int) (b2 : ByteArray) (b3 b4 : Int) (b5 b6 : ByteArray) (b7 : Bool) : (binOp .eql 64 (.agg #[.int .i64 a1, .string a2, .int .i64 a3, .int .i64 a4, .string a5, .string a6, .bool a7]) (.agg #[.int .i64 b1, .string b2, .int .i64 b3, .int .i64 b4, .string b5, .string b6, .bool b7])).run Tryz.prog w = .ok (.bool (eqCB ⟨⟨a1, a2, a3, a4, a5⟩, a6, a7⟩ ⟨⟨b1, b2, b3, b4, b5⟩, b6, b7⟩)) w := by
  have h := run_equal_change w ⟨⟨a1, a2, a3, a4, a5⟩, a6, a7⟩ ⟨⟨b1, b2, b3, b4, b5⟩, b6, b7⟩
  simp only [changeV] at h
  simp only [binOp]
  simp [h, eqCB]
theorem eqCB_self (a : ChangeT) : eqCB a a = true := by simp [eqCB]
attribute [local go_sem ↓] run_neq_change run_eql_change

def k5 : ChangeT := ⟨clockN, ⟨#[53]⟩, false⟩
def k6 : ChangeT := ⟨clockN, ⟨#[54]⟩, false⟩
def k1e : ChangeT := ⟨epochN, ⟨#[49]⟩, false⟩
def k0e : ChangeT := ⟨epochN, ⟨#[]⟩, true⟩
def kf : NameT → Option ByteArray := setF (fun _ => none) clockN ⟨#[53]⟩
def kV0 : AV := ⟨kf, [], []⟩
def kV1 : AV := ⟨kf, [(clockN, k5)], []⟩
def kV2 : AV := ⟨kf, [(clockN, k5)], [k6]⟩
def kV3 : AV := ⟨kf, [(clockN, k5)], [k6, k1e]⟩
def kV4 : AV := ⟨kf, [(clockN, k5)], []⟩
def kV5 : AV := ⟨kf, [(clockN, k5), (epochN, k0e)], []⟩
theorem ce_ne : clockN ≠ epochN := by decide
theorem kf_clock : kf clockN = some ⟨#[53]⟩ := by simp [kf, setF]
theorem kf_epoch : kf epochN = none := by simp [kf, setF, ce_ne.symm]
theorem kg0 : avGet kV0 clockN = (⟨#[53]⟩, true) := by simp [avGet, kV0, lastCall, kf_clock]
theorem ks0 : avSeen kV0 clockN = kV1 := by simp [avSeen, kV0, kV1, lastCall, kf_clock, aSet, k5]
theorem kg2 : avGet kV2 clockN = (⟨#[54]⟩, true) := by simp [avGet, kV2, lastCall, k6]
theorem ks2 : avSeen kV2 clockN = kV2 := by simp [avSeen, kV2, lastCall, k6]
theorem kg3 : avGet kV3 epochN = (⟨#[49]⟩, true) := by simp [avGet, kV3, lastCall, k1e]
theorem ks3 : avSeen kV3 epochN = kV3 := by simp [avSeen, kV3, lastCall, k1e]
theorem kg4 : avGet kV4 epochN = (⟨#[]⟩, false) := by simp [avGet, kV4, lastCall, kf_epoch]
theorem ks4 : avSeen kV4 epochN = kV5 := by simp [avSeen, kV4, kV5, lastCall, kf_epoch, aSet, ce_ne.symm, k0e]
theorem kw3 : writesU kV3.calls = [k6, k1e] := by decide +kernel
theorem two_sorted {x y : ChangeT} {cs : List ChangeT} (h : cs.Perm [x, y]) (hs : SortedC cs) (hlt : ¬ cmpN y.name x.name ≤ 0) : cs = [x, y] := by
  have hl := h.length_eq
  match cs, hl, h, hs with
  | [a, b], _, h, hs =>
    have ha : a = x ∨ a = y := by simpa using h.mem_iff.1 (List.mem_cons_self)
    rcases ha with rfl | rfl
    · have := (List.perm_cons a).1 h
      rw [List.perm_singleton.1 this]
    · exfalso
      have h2 : [a, b].Perm [a, x] := h.trans (List.Perm.swap a x [])
      have h3 := List.perm_singleton.1 ((List.perm_cons a).1 h2)
      have hb : b = x := by simpa using h3
      subst hb
      have := (List.pairwise_cons.1 hs).1 b (by simp)
      exact hlt this
theorem cmp_ec : ¬ cmpN epochN clockN ≤ 0 := by decide +kernel
/-- The fields of a change in a row of changes. -/
theorem RowC.at7k {w : World} {a : Option Addr} {n cap : Nat} {cs : List ChangeT} (h : RowC w (.slice a n cap) cs) {i : Nat} {c : ChangeT} (hi : cs[i]? = some c) : ∃ g, a = some ⟨g, 0, none⟩ ∧ n = cs.length ∧
    w.cell? ⟨g, i * 7 + 0, none⟩ = some (.int .i64 c.name.kind) ∧ w.cell? ⟨g, i * 7 + 1, none⟩ = some (.string c.name.owner) ∧ w.cell? ⟨g, i * 7 + 2, none⟩ = some (.int .i64 c.name.number) ∧ w.cell? ⟨g, i * 7 + 3, none⟩ = some (.int .i64 c.name.index) ∧ w.cell? ⟨g, i * 7 + 4, none⟩ = some (.string c.name.text) ∧ w.cell? ⟨g, i * 7 + 5, none⟩ = some (.string c.value) ∧ w.cell? ⟨g, i * 7 + 6, none⟩ = some (.bool c.absent) := by
  obtain ⟨a', cap', hv, hc⟩ := h
  cases hv
  obtain ⟨g, rfl, hg⟩ := hc i c hi
  exact ⟨g, rfl, rfl, hg 0 _ rfl, hg 1 _ rfl, hg 2 _ rfl, hg 3 _ rfl, hg 4 _ rfl, hg 5 _ rfl, hg 6 _ rfl⟩
abbrev KS (g1 g2 : Nat) (w' : World) : Prop := w'.cell? ⟨g1, 0, none⟩ = some (.int .i64 15) ∧ w'.cell? ⟨g1, 1, none⟩ = some (.string ⟨#[]⟩) ∧ w'.cell? ⟨g1, 2, none⟩ = some (.int .i64 0) ∧ w'.cell? ⟨g1, 3, none⟩ = some (.int .i64 0) ∧ w'.cell? ⟨g1, 4, none⟩ = some (.string ⟨#[]⟩) ∧ w'.cell? ⟨g1, 5, none⟩ = some (.string ⟨#[53]⟩) ∧ w'.cell? ⟨g1, 6, none⟩ = some (.bool false) ∧ w'.cell? ⟨g2, 5, none⟩ = some (.string ⟨#[54]⟩)
theorem KS.later {g1 g2 : Nat} {w w' : World} (h : KS g1 g2 w) (hb : Below w.heap.size w w') : KS g1 g2 w' := by
  obtain ⟨h0, h1, h2, h3, h4, h5, h6, h7⟩ := h
  have hg := World.block_lt_of_cell? w _ h0
  have hx := World.block_lt_of_cell? w _ h7
  exact ⟨((bcell hb).1 _ _ hg).trans h0, ((bcell hb).1 _ _ hg).trans h1, ((bcell hb).1 _ _ hg).trans h2, ((bcell hb).1 _ _ hg).trans h3, ((bcell hb).1 _ _ hg).trans h4, ((bcell hb).1 _ _ hg).trans h5, ((bcell hb).1 _ _ hg).trans h6, ((bcell hb).1 _ _ hx).trans h7⟩
abbrev KT (g3 : Nat) (w' : World) : Prop := w'.cell? ⟨g3, 7, none⟩ = some (.int .i64 20) ∧ w'.cell? ⟨g3, 8, none⟩ = some (.string ⟨#[]⟩) ∧ w'.cell? ⟨g3, 9, none⟩ = some (.int .i64 0) ∧ w'.cell? ⟨g3, 10, none⟩ = some (.int .i64 0) ∧ w'.cell? ⟨g3, 11, none⟩ = some (.string ⟨#[]⟩) ∧ w'.cell? ⟨g3, 12, none⟩ = some (.string ⟨#[]⟩) ∧ w'.cell? ⟨g3, 13, none⟩ = some (.bool true)
theorem KT.later {g3 : Nat} {w w' : World} (h : KT g3 w) (hb : Below w.heap.size w w') : KT g3 w' := by
  obtain ⟨h0, h1, h2, h3, h4, h5, h6⟩ := h
  have hg := World.block_lt_of_cell? w _ h0
  exact ⟨((bcell hb).1 _ _ hg).trans h0, ((bcell hb).1 _ _ hg).trans h1, ((bcell hb).1 _ _ hg).trans h2, ((bcell hb).1 _ _ hg).trans h3, ((bcell hb).1 _ _ hg).trans h4, ((bcell hb).1 _ _ hg).trans h5, ((bcell hb).1 _ _ hg).trans h6⟩
set_option maxRecDepth 100000 in
set_option maxHeartbeats 3200000 in
theorem known24_any (w : World) (hu : Usages w) : Calls Tryz.prog 7 #[] w fun r w' => r = .returned (.bool true) ∧ Below w.heap.size w w' := by
  have Hu := Lib.hid hu; clear hu
  go_enter Tryz.func7, Tryz.ntmps7
  go_wp2_with fail
  refine (stateNew_any w).mono ?_
  rintro e w1 ⟨rfl, rfl⟩
  have Hbn := Lib.hid (baseN_empty w)
  have HB1 : Hid (Below w.heap.size w (w.alloc (.cells #[.pointer none] 109))) := (Below.refl _ _).alloc (Nat.le_refl _) _
  obtain ⟨w1, hw1⟩ : ∃ w1, w1 = w.alloc (.cells #[.pointer none] 109) := ⟨_, rfl⟩
  rw [← hw1] at Hbn HB1 ⊢
  clear hw1
  go_wp2_with fail
  refine (ofClock_any w1).mono ?_
  rintro e w2 ⟨rfl, hb2⟩
  have HB2 : Hid (Below w.heap.size w w2) := HB1.out.trans (hb2.mono HB1.out.size)
  have Hbn2 := Lib.hid (Hbn.out.later hb2)
  clear hb2 Hbn HB1
  go_wp2_with fail
  refine (baseWith (n := clockN) (v := ⟨#[53]⟩) (Hu.out.below HB2.out Hu.out.pos) Hbn2.out (by decide) nameOk_clock (by decide)).mono ?_
  rintro e w3 ⟨sp3, rfl, hb3, hbn3⟩
  have HB3 : Hid (Below w.heap.size w w3) := HB2.out.trans (hb3.mono HB2.out.size)
  have Hbn3 : Hid (BaseN 1 w3.heap.size w3 sp3 kf) := hbn3
  clear hb3 hbn3 Hbn2 HB2
  go_wp2_with fail
  refine (qmNew (w0 := w3) (Hu.out.below HB3.out Hu.out.pos) (Below.refl _ _) Hbn3.out).mono ?_
  rintro e w4 ⟨rfl, s4, -⟩
  have S4 : Hid (QM w3 w4 (w3.heap.size + 2) 1 kV0 (fun _ => False)) := s4
  clear s4 Hbn3
  generalize w3.heap.size + 2 = b at *
  go_wp2_with fail
  refine (ofClock_any w4).mono ?_
  rintro e w5 ⟨rfl, hb⟩
  have S5 := Lib.hid (S4.out.later hb)
  clear hb S4
  go_wp2_with fail
  refine (qmVGet S5.out clockN nameOk_clock).mono ?_
  rintro e w6 ⟨rfl, s, -⟩
  rw [kg0]
  have S6 : Hid (QM w3 w6 b 1 kV1 (fun _ => False)) := by rw [ks0] at s; exact s
  clear s S5
  go_wp2_with fail
  refine (ofClock_any w6).mono ?_
  rintro e w7 ⟨rfl, hb⟩
  have S7 := Lib.hid (S6.out.later hb)
  clear hb S6
  go_wp2_with fail
  refine (qmVSet S7.out clockN nameOk_clock ⟨#[54]⟩ (by decide) (by decide)).mono ?_
  rintro e w8 ⟨rfl, s, -⟩
  have S8 : Hid (QM w3 w8 b 1 kV2 (fun _ => False)) := s
  clear s S7
  go_wp2_with fail
  refine (ofClock_any w8).mono ?_
  rintro e w9 ⟨rfl, hb⟩
  have S9 := Lib.hid (S8.out.later hb)
  clear hb S8
  go_wp2_with fail
  refine (qmVGet S9.out clockN nameOk_clock).mono ?_
  rintro e w10 ⟨rfl, s, -⟩
  rw [kg2]
  have S10 : Hid (QM w3 w10 b 1 kV2 (fun _ => False)) := by rw [ks2] at s; exact s
  clear s S9
  go_wp2_with fail
  refine (ofEpoch_any w10).mono ?_
  rintro e w11 ⟨rfl, hb⟩
  have S11 := Lib.hid (S10.out.later hb)
  clear hb S10
  go_wp2_with fail
  refine (qmVSet S11.out epochN nameOk_epoch ⟨#[49]⟩ (by decide) (by decide)).mono ?_
  rintro e w12 ⟨rfl, s, -⟩
  have S12 : Hid (QM w3 w12 b 1 kV3 (fun _ => False)) := s
  clear s S11
  go_wp2_with fail
  refine (ofEpoch_any w12).mono ?_
  rintro e w13 ⟨rfl, hb⟩
  have S13 := Lib.hid (S12.out.later hb)
  clear hb S12
  go_wp2_with fail
  refine (qmVHas S13.out epochN nameOk_epoch).mono ?_
  rintro e w14 ⟨rfl, s, -⟩
  rw [kg3]
  have S14 : Hid (QM w3 w14 b 1 kV3 (fun _ => False)) := by rw [ks3] at s; exact s
  clear s S13
  go_wp2_with fail
  refine (qmReads S14.out (by decide)).mono ?_
  rintro e wA ⟨v1, c1, rfl, hr1, hp1, -, -, s⟩
  obtain rfl : c1 = [k5] := List.perm_singleton.1 hp1
  have Hr1 := Lib.hid hr1
  have SA := Lib.hid s
  clear hr1 hp1 s S14
  obtain ⟨a1, cap1, rfl, -⟩ := id Hr1.out
  go_wp2_with fail
  refine (qmWrites SA.out).mono ?_
  rintro e wB ⟨v2, c2, rfl, hr2, hp2, hs2, hb, s⟩
  rw [kw3] at hp2
  obtain rfl : c2 = [k6, k1e] := two_sorted hp2 hs2 cmp_ec
  have Hr2 := Lib.hid hr2
  have Hr1b := Lib.hid (Hr1.out.later hb)
  have SB := Lib.hid s
  clear hr2 hp2 hs2 hb s SA Hr1
  obtain ⟨a2, cap2, rfl, -⟩ := id Hr2.out
  obtain ⟨g1, rfl, -, l0, l1, l2, l3, l4, l5, l6⟩ := Hr1b.out.at7k (i := 0) (c := k5) rfl
  obtain ⟨g2, rfl, -, -, -, -, -, -, m5, -⟩ := Hr2.out.at7k (i := 0) (c := k6) rfl
  have DA : Hid (KS g1 g2 wB) := ⟨l0, l1, l2, l3, l4, l5, l6, m5⟩
  have Dd : Hid (KS g1 g2 wB.drew) := ⟨l0, l1, l2, l3, l4, l5, l6, m5⟩
  have SBd := Lib.hid (SB.out.later ((Below.refl _ _).drew))
  have hq := neqCB_self ⟨⟨15, ⟨#[]⟩, 0, 0, ⟨#[]⟩⟩, ⟨#[53]⟩, false⟩
  clear l0 l1 l2 l3 l4 l5 l6 m5
  dsimp only [List.length_cons, List.length_nil] at *
  go_wp2_with fail
  go_region_held3 (fun w' => w'.cell? ⟨g1, 0, none⟩ = some (.int .i64 15) ∧ w'.cell? ⟨g1, 1, none⟩ = some (.string ⟨#[]⟩) ∧ w'.cell? ⟨g1, 2, none⟩ = some (.int .i64 0) ∧ w'.cell? ⟨g1, 3, none⟩ = some (.int .i64 0) ∧ w'.cell? ⟨g1, 4, none⟩ = some (.string ⟨#[]⟩) ∧ w'.cell? ⟨g1, 5, none⟩ = some (.string ⟨#[53]⟩) ∧ w'.cell? ⟨g1, 6, none⟩ = some (.bool false) ∧ w'.cell? ⟨g2, 5, none⟩ = some (.string ⟨#[54]⟩)) (first | with_reducible exact DA.out | with_reducible exact Dd.out | with_reducible exact D1.out | with_reducible exact D2.out | go_keep)
    (first
      | (go_at_call 29; refine (ofClock_any _).mono ?_; rintro r wC ⟨rfl, hbC⟩; have D1 := Lib.hid (KS.later Dd.out hbC); have SC := Lib.hid (SBd.out.later hbC); clear hbC)
      | (go_at_call 12; refine (qmMark SC.out).mono ?_; rintro r wD ⟨rfl, rfl⟩)
      | fail)
  all_goals clear hq
  go_wp2_with fail
  have HRk : Hid (Calls Tryz.prog 34 #[.pointer (some ⟨b, 0, none⟩), .int .i64 0] wC (QMP w3 b 1 kV4 (fun _ => False) wC (.int .i64 0))) := by
    have := qmRollback SC.out (m := 0) (Nat.zero_le _)
    exact this
  refine HRk.out.mono ?_
  rintro e wE ⟨rfl, s, -⟩
  have SE := Lib.hid s
  clear s SC SB SBd D1 Dd DA HRk
  go_wp2_with fail
  refine (ofEpoch_any wE).mono ?_
  rintro e wF ⟨rfl, hb⟩
  have SF := Lib.hid (SE.out.later hb)
  clear hb SE
  go_wp2_with fail
  refine (qmVHas SF.out epochN nameOk_epoch).mono ?_
  rintro e wG ⟨rfl, s, -⟩
  rw [kg4]
  have SG : Hid (QM w3 wG b 1 kV5 (fun _ => False)) := by rw [ks4] at s; exact s
  clear s SF
  go_wp2_with fail
  refine (qmReads SG.out (by decide)).mono ?_
  rintro e wH ⟨v3, c3, rfl, hr3, hp3, hs3, -, s⟩
  obtain rfl : c3 = [k5, k0e] := two_sorted hp3 hs3 cmp_ec
  have Hr3 := Lib.hid hr3
  have SH := Lib.hid s
  clear hr3 hp3 hs3 s SG
  obtain ⟨a3, cap3, rfl, -⟩ := id Hr3.out
  go_wp2_with fail
  refine (qmWrites SH.out).mono ?_
  rintro e wI ⟨v4, c4, rfl, hr4, hp4, -, hb, s⟩
  obtain rfl : c4 = [] := List.Perm.eq_nil hp4
  obtain ⟨a4, cap4, rfl, -⟩ := hr4
  have Hr3b := Lib.hid (Hr3.out.later hb)
  have HBI : Hid (Below w.heap.size w wI) := HB3.out.trans (s.below.mono HB3.out.size)
  clear hp4 hb s SH Hr3
  obtain ⟨g3, rfl, -, l0, l1, l2, l3, l4, l5, l6⟩ := Hr3b.out.at7k (i := 1) (c := k0e) rfl
  have DB : Hid (KT g3 wI) := ⟨l0, l1, l2, l3, l4, l5, l6⟩
  have De : Hid (KT g3 wI.drew) := ⟨l0, l1, l2, l3, l4, l5, l6⟩
  have HBd : Hid (Below w.heap.size w wI.drew) := HBI.out.drew
  have hq := eqCB_self ⟨⟨20, ⟨#[]⟩, 0, 0, ⟨#[]⟩⟩, ⟨#[]⟩, true⟩
  clear l0 l1 l2 l3 l4 l5 l6 HBI
  dsimp only [List.length_cons, List.length_nil] at *
  go_wp2_with fail
  go_region_held3 (fun w' => w'.cell? ⟨g3, 7, none⟩ = some (.int .i64 20) ∧ w'.cell? ⟨g3, 8, none⟩ = some (.string ⟨#[]⟩) ∧ w'.cell? ⟨g3, 9, none⟩ = some (.int .i64 0) ∧ w'.cell? ⟨g3, 10, none⟩ = some (.int .i64 0) ∧ w'.cell? ⟨g3, 11, none⟩ = some (.string ⟨#[]⟩) ∧ w'.cell? ⟨g3, 12, none⟩ = some (.string ⟨#[]⟩) ∧ w'.cell? ⟨g3, 13, none⟩ = some (.bool true)) (first | with_reducible exact DB.out | with_reducible exact De.out | with_reducible exact D3.out | go_keep)
    (first
      | (go_at_call 32; refine (ofEpoch_any _).mono ?_; rintro r wJ ⟨rfl, hbJ⟩; have D3 := Lib.hid (KT.later De.out hbJ); have HBJ : Hid (Below w.heap.size w wJ) := HBd.out.trans (hbJ.mono HBd.out.size); clear hbJ)
      | fail)
  all_goals
    go_wp2
    go_ret
    exact ⟨rfl, HBJ.out⟩
end Go.Proofs.YthghfhnicdoebaaGreatDoor
