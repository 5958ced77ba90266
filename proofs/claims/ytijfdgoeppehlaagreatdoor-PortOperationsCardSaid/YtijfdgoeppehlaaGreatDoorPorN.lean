/- Law 37: known. Law 37: small, who; the calls without a view. Law 37: number, checkPacket, check, encode. Law 37: encode. -/
import Derived.Test.YtijfdgoeppehlaaGreatDoorPorM
import Derived.Test.YtijfdgoeppehlaaGreatDoorMem
import Derived.Deep.RegionHeld3
import Derived.BigQuiet
import Derived.BigRegion
import Derived.Deep.DeepCutAuto
namespace Go.Proofs.YtijfdgoeppehlaaGreatDoor
open Go.RowKit
attribute [local go_sem ↓] Go.wp_at_zero Go.wp_at_succ

set_option maxRecDepth 100000 in
theorem run_equal_pack (w : World) (a b : PackT) : (Op.equal 33 (.agg #[.string a.src, .string a.bytes]) (.agg #[.string b.src, .string b.bytes])).run Tryz.prog w = .ok (decide (a = b)) w := by
  have hu : Tryz.prog.underlying 33 = some (.struct (Tryz.prog.fieldsOf 33)) := by kernel_rfl
  have hst : Tryz.prog.stoodInHeld 33 = false := by kernel_rfl
  simp only [Op.equal, Op.maxDepth]
  rw [run_equalIn_struct w 9999 _ _ _ hu hst]
  simp [go_sem, Tryz.underlying33, Tryz.underlying9]
  have hb : ∀ x y : ByteArray, x.toList = y.toList ↔ x = y := fun x y => by have := str_beq x y; rw [Bool.eq_iff_iff] at this; simpa using this
  obtain ⟨a1, a2⟩ := a
  obtain ⟨b1, b2⟩ := b
  simp only [hb, PackT.mk.injEq]
  by_cases h1 : a1 = b1 <;> by_cases h2 : a2 = b2 <;> simp [h1, h2]
def samePk (a b : PackT) : Bool := decide (a = b)
theorem run_eql_pack (w : World) (a1 a2 b1 b2 : ByteArray) : (binOp .eql 33 (.agg #[.string a1, .string a2]) (.agg #[.string b1, .string b2])).run Tryz.prog w = .ok (.bool (samePk ⟨a1, a2⟩ ⟨b1, b2⟩)) w := by
  have h := run_equal_pack w ⟨a1, a2⟩ ⟨b1, b2⟩
  dsimp only at h
  simp only [binOp]
  simp [h, samePk]
attribute [local go_sem ↓] run_eql_pack

def kq0 : PackT := ⟨⟨#[120]⟩, ⟨#[97, 98]⟩⟩
def kq1 : PortT := ⟨⟨#[49]⟩, 0, 0, []⟩
def kq2 : PortT := ⟨⟨#[49]⟩, 0, 0, [kq0]⟩
theorem kq_open : openStep ⟨#[49]⟩ 0 80 0 none = (some kq1, 0, 1) := by decide +kernel
theorem kq_arrive : arriveStep ⟨⟨#[120]⟩, ⟨#[97, 98]⟩⟩ 80 0 (some kq1) = (some kq2, 0, 1) := by decide +kernel
theorem kq_denied : receiveStep ⟨#[50]⟩ 80 0 (some kq2) = (some kq2, zeroPk, 14, 0) := by decide +kernel
theorem kq_take : receiveStep ⟨#[49]⟩ 80 0 (some kq2) = (some kq1, kq0, 0, 1) := by decide +kernel
theorem kq_busy : receiveStep ⟨#[49]⟩ 80 0 (some kq1) = (some kq1, zeroPk, 19, 0) := by decide +kernel
theorem kq_other : receiveStep ⟨#[49]⟩ 80 1 (some kq1) = (some kq1, zeroPk, 8, 0) := by decide +kernel
theorem kq_same : samePk ⟨⟨#[120]⟩, ⟨#[97, 98]⟩⟩ ⟨⟨#[120]⟩, ⟨#[97, 98]⟩⟩ = true := decide_eq_true rfl
theorem kq_sz (a : UInt8) : (⟨#[a]⟩ : ByteArray).size ≤ 64 := by show 1 ≤ 64; decide

set_option maxRecDepth 100000 in
set_option maxHeartbeats 1600000 in
theorem qKnown_any (w : World) (hu : Usages w) : Calls Tryz.prog 6 #[] w fun r w' => r = .returned (.bool true) ∧ Below w.heap.size w w' := by
  have Hu := Lib.hid hu; clear hu
  go_enter Tryz.func6, Tryz.ntmps6
  go_wp2_with fail
  refine (sqNew w Hu.out 80).mono ?_
  rintro e w1 ⟨rfl, hnew⟩
  have Hnew := Lib.hid hnew; clear hnew
  go_wp2_with fail
  refine Hnew.out.mono ?_
  rintro e w2 ⟨rfl, s0⟩
  clear Hnew
  have S0 : Hid (∀ o', SQ w (w2.alloc o') (w.heap.size + 3) 0 80 none (fun k => k = w2.heap.size)) := fun o' => s0.fresh ((Below.refl _ _).alloc (Nat.le_refl _) _) (fun k hk => .inr (by subst hk; simp))
  have HP0 : Hid (∀ o', (w2.alloc o').heap[w2.heap.size]? = some o') := fun o' => heap_alloc_new w2 o'
  clear s0
  go_wp2_with fail
  refine (sqOpen w _ _ 0 80 none _ (S0.out _) (by decide) ⟨#[49]⟩ 0 0 (kq_sz _) (some kq1) 0 1 kq_open).mono ?_
  rintro e w3 ⟨rfl, s, hk⟩
  have HP3 := Lib.hid ((hk _ rfl).trans (HP0.out _))
  have S3 := Lib.hid s
  clear s hk S0 HP0
  have p0 : w3.cell? ⟨w2.heap.size, 0, none⟩ = some (.string ⟨#[120]⟩) := cell_of_heap HP3.out 0
  have p1 : w3.cell? ⟨w2.heap.size, 1, none⟩ = some (.string ⟨#[97, 98]⟩) := cell_of_heap HP3.out 1
  go_wp2_with fail
  refine (sqArrive w w3 _ _ 80 _ _ S3.out (by decide) ⟨#[120]⟩ ⟨#[97, 98]⟩ 0 (by show 1 ≤ _; decide) (by show 2 ≤ _; decide) (some kq2) 0 1 kq_arrive).mono ?_
  rintro e w4 ⟨rfl, s, hk⟩
  have HP4 := Lib.hid ((hk _ rfl).trans HP3.out)
  have S4 := Lib.hid s
  clear s hk S3 HP3 p0 p1
  go_wp2_with fail
  refine (sqReceive w w4 _ _ 80 _ _ S4.out (by decide) ⟨#[50]⟩ 0 (kq_sz _) (some kq2) zeroPk 14 0 kq_denied).mono ?_
  rintro e w5 ⟨rfl, s, hk⟩
  have HP5 : Hid (∀ o', (w5.alloc o').heap[w2.heap.size]? = some (.cells #[.string ⟨#[120]⟩, .string ⟨#[97, 98]⟩] 33 (0, 0))) := fun o' => (Below.heap_alloc w5 o' _ (s.glt _ rfl)).trans ((hk _ rfl).trans HP4.out)
  have S5 : Hid (∀ o', SQ w (w5.alloc o') (w.heap.size + 3) _ 80 _ (fun k => k = w2.heap.size)) := fun o' => s.later ((Below.refl _ _).alloc (Nat.le_refl _) _)
  clear s hk S4 HP4
  dsimp only [zeroPk]
  go_wp2_with fail
  refine (sqReceive w _ _ _ 80 _ _ (S5.out _) (by decide) ⟨#[49]⟩ 0 (kq_sz _) (some kq1) kq0 0 1 kq_take).mono ?_
  rintro e w6 ⟨rfl, s, hk⟩
  have HP6 : Hid (∀ o', (w6.alloc o').heap[w2.heap.size]? = some (.cells #[.string ⟨#[120]⟩, .string ⟨#[97, 98]⟩] 33 (0, 0))) := fun o' => (Below.heap_alloc w6 o' _ (s.glt _ rfl)).trans ((hk _ rfl).trans (HP5.out _))
  have HX6 : Hid (∀ o', (w6.alloc o').heap[w6.heap.size]? = some o') := fun o' => heap_alloc_new w6 o'
  have S6 : Hid (∀ o', SQ w (w6.alloc o') (w.heap.size + 3) _ 80 _ (fun k => k = w2.heap.size ∨ k = w6.heap.size)) := fun o' => s.fresh ((Below.refl _ _).alloc (Nat.le_refl _) _) (fun k hk => hk.imp id (fun h => by subst h; simp))
  clear s hk S5 HP5
  dsimp only [kq0]
  go_wp2_with fail
  refine (sqReceive w _ _ _ 80 _ _ (S6.out _) (by decide) ⟨#[49]⟩ 0 (kq_sz _) (some kq1) zeroPk 19 0 kq_busy).mono ?_
  rintro e w7 ⟨rfl, s, hk⟩
  have HP7 : Hid (∀ o', (w7.alloc o').heap[w2.heap.size]? = some (.cells #[.string ⟨#[120]⟩, .string ⟨#[97, 98]⟩] 33 (0, 0))) := fun o' => (Below.heap_alloc w7 o' _ (s.glt _ (.inl rfl))).trans ((hk _ (.inl rfl)).trans (HP6.out _))
  have HX7 : Hid (∀ o', (w7.alloc o').heap[w6.heap.size]? = some (.cells #[.string ⟨#[120]⟩, .string ⟨#[97, 98]⟩] 33 (0, 0))) := fun o' => (Below.heap_alloc w7 o' _ (s.glt _ (.inr rfl))).trans ((hk _ (.inr rfl)).trans (HX6.out _))
  have S7 : Hid (∀ o', SQ w (w7.alloc o') (w.heap.size + 3) _ 80 _ (fun k => k = w2.heap.size ∨ k = w6.heap.size)) := fun o' => s.later ((Below.refl _ _).alloc (Nat.le_refl _) _)
  clear s hk S6 HP6 HX6
  dsimp only [zeroPk]
  go_wp2_with fail
  refine (sqReceive w _ _ _ 80 _ _ (S7.out _) (by decide) ⟨#[49]⟩ 1 (kq_sz _) (some kq1) zeroPk 8 0 kq_other).mono ?_
  rintro e w8 ⟨rfl, s, hk⟩
  have hP8 := (hk _ (.inl rfl)).trans (HP7.out _)
  have hX8 := (hk _ (.inr rfl)).trans (HX7.out _)
  have p0 : w8.cell? ⟨w2.heap.size, 0, none⟩ = some (.string ⟨#[120]⟩) := cell_of_heap hP8 0
  have p1 : w8.cell? ⟨w2.heap.size, 1, none⟩ = some (.string ⟨#[97, 98]⟩) := cell_of_heap hP8 1
  have x0 : w8.cell? ⟨w6.heap.size, 0, none⟩ = some (.string ⟨#[120]⟩) := cell_of_heap hX8 0
  have x1 : w8.cell? ⟨w6.heap.size, 1, none⟩ = some (.string ⟨#[97, 98]⟩) := cell_of_heap hX8 1
  have hl1 := lt_of_heap hP8
  have hl2 := lt_of_heap hX8
  have hn1 := World.new_ne w8 ⟨w2.heap.size, 0, none⟩ p0
  have hn2 := World.new_ne w8 ⟨w6.heap.size, 0, none⟩ x0
  have HB : Hid (∀ o', Below w.heap.size w (w8.alloc o')) := fun o' => s.below.alloc s.below.size _
  clear s hk S7 HP7 HX7 hP8 hX8
  have hsame := kq_same
  dsimp only [zeroPk]
  go_wp2
  go_ret
  exact ⟨rfl, HB.out _⟩

end Go.Proofs.YtijfdgoeppehlaaGreatDoor

namespace Go.Proofs.YtijfdgoeppehlaaGreatDoor
open Go.RowKit
attribute [local go_sem ↓] Go.wp_at_zero Go.wp_at_succ

def cut (s : ByteArray) (n : Nat) : ByteArray := s.extract 0 (min s.size n)
theorem cut_size (s : ByteArray) (n : Nat) : (cut s n).size ≤ n ∧ (cut s n).size ≤ s.size := by
  unfold cut
  rw [ByteArray.size_extract]
  omega

theorem cut60 (s : ByteArray) : cut s 60 = s.extract 0 (if (60 : Int) < (s.size : Int) then (60 : Int) else (s.size : Int)).toNat := by
  unfold cut
  congr 1
  split <;> omega
theorem cut600 (s : ByteArray) : cut s 600 = s.extract 0 (if (600 : Int) < (s.size : Int) then (600 : Int) else (s.size : Int)).toNat := by
  unfold cut
  congr 1
  split <;> omega

set_option maxRecDepth 100000 in
set_option maxHeartbeats 1600000 in
theorem small_any (a b : ByteArray) (w : World) (ha : a.size ≤ 9223372036854775807) (hb : b.size ≤ 9223372036854775807) : Calls Tryz.prog 28 #[.agg #[.string a, .string b]] w fun r w' => r = .returned (.agg #[.string (cut a 60), .string (cut b 600)]) ∧ Below w.heap.size w w' := by
  have HB : Hid (∀ o1 o2, Below w.heap.size w ((w.alloc o1).alloc o2)) := fun o1 o2 => ((Below.refl _ _).alloc (Nat.le_refl _) _).alloc (by simp) _
  have hca : ((60 : Int) < (a.size : Int) ∧ cut a 60 = a.extract 0 60) ∨ (¬ (60 : Int) < (a.size : Int) ∧ cut a 60 = a.extract 0 a.size) := by
    by_cases h : (60 : Int) < (a.size : Int)
    · exact .inl ⟨h, by unfold cut; rw [show min a.size 60 = 60 by omega]⟩
    · exact .inr ⟨h, by unfold cut; rw [show min a.size 60 = a.size by omega]⟩
  have hcb : ((600 : Int) < (b.size : Int) ∧ cut b 600 = b.extract 0 600) ∨ (¬ (600 : Int) < (b.size : Int) ∧ cut b 600 = b.extract 0 b.size) := by
    by_cases h : (600 : Int) < (b.size : Int)
    · exact .inl ⟨h, by unfold cut; rw [show min b.size 600 = 600 by omega]⟩
    · exact .inr ⟨h, by unfold cut; rw [show min b.size 600 = b.size by omega]⟩
  rcases hca with ⟨h1, e1⟩ | ⟨h1, e1⟩
  all_goals
    rw [e1]
    clear e1
    rcases hcb with ⟨h2, e2⟩ | ⟨h2, e2⟩
  all_goals
    rw [e2]
    clear e2
    go_enter Tryz.func28, Tryz.ntmps28
    go_wp2
    go_region
    go_wp2
    refine bodyPost_ret (v := _) (by simp [results, Tryz.results28, go_sem]; rfl) rfl ?_
    exact ⟨by simp, (HB.out _ _).drew⟩

def whoN (k : Nat) : ByteArray := if k % 3 = 0 then ⟨#[49]⟩ else if k % 3 = 1 then ⟨#[49, 46, 49]⟩ else ⟨#[50]⟩
theorem who_size (k : Nat) : (whoN k).size ≤ 64 := by
  unfold whoN
  split
  · decide
  · split <;> decide
set_option maxRecDepth 100000 in
set_option maxHeartbeats 1600000 in
theorem who_any (k : Nat) (w : World) (hk : k ≤ 255) : Calls Tryz.prog 26 #[.int .u8 k] w fun r w' => r = .returned (.string (whoN k)) ∧ Below w.heap.size w w' := by
  have HB : Hid (∀ o1, Below w.heap.size w (w.alloc o1)) := fun o1 => (Below.refl _ _).alloc (Nat.le_refl _) _
  have h3 : k % 3 = 0 ∨ k % 3 = 1 ∨ k % 3 = 2 := by omega
  rcases h3 with h | h | h
  · have he : Hid (whoN k = ⟨#[49]⟩) := by show _ = _; simp [whoN, h]
    have h' : (k : Int) % 3 = 0 := by omega
    clear h
    go_enter Tryz.func26, Tryz.ntmps26
    go_wp2
    go_ret
    rw [he.out]
    exact ⟨rfl, HB.out _⟩
  · have he : Hid (whoN k = ⟨#[49, 46, 49]⟩) := by show _ = _; simp [whoN, h]
    have h' : (k : Int) % 3 = 1 := by omega
    clear h
    go_enter Tryz.func26, Tryz.ntmps26
    go_wp2
    go_ret
    rw [he.out]
    exact ⟨rfl, HB.out _⟩
  · have he : Hid (whoN k = ⟨#[50]⟩) := by show _ = _; simp [whoN, h]
    have h' : (k : Int) % 3 = 2 := by omega
    clear h
    go_enter Tryz.func26, Tryz.ntmps26
    go_wp2
    go_ret
    rw [he.out]
    exact ⟨rfl, HB.out _⟩

/-! ### Without a view -/
set_option maxRecDepth 100000 in
set_option maxHeartbeats 800000 in
theorem checkNil_any (who : ByteArray) (m e : Int) (w : World) : Calls Tryz.prog 36 #[.pointer none, .string who, .int .i64 m, .int .i64 e] w fun r w' => r = .returned (.int .i64 1) ∧ w = w' := by
  go_enter Tryz.func36, Tryz.ntmps36
  go_wp2
  go_ret
  exact ⟨rfl, rfl⟩
set_option maxRecDepth 100000 in
set_option maxHeartbeats 800000 in
theorem openNil_any (who : ByteArray) (us m e : Int) (w : World) : Calls Tryz.prog 18 #[.pointer none, .string who, .agg #[.int .i64 us, .slice none 0 0], .int .i64 m, .int .i64 e] w fun r w' => r = .returned (.int .i64 1) ∧ Below w.heap.size w w' := by
  have HB : Hid (∀ o1, Below w.heap.size w (w.alloc o1)) := fun o1 => (Below.refl _ _).alloc (Nat.le_refl _) _
  go_enter Tryz.func18, Tryz.ntmps18
  go_wp2_with fail
  refine (checkNil_any who m e _).mono ?_
  rintro r w1 ⟨rfl, rfl⟩
  go_wp2
  go_ret
  exact ⟨rfl, HB.out _⟩
set_option maxRecDepth 100000 in
set_option maxHeartbeats 800000 in
theorem closeNil_any (who : ByteArray) (m e : Int) (w : World) : Calls Tryz.prog 27 #[.pointer none, .string who, .int .i64 m, .int .i64 e] w fun r w' => r = .returned (.int .i64 1) ∧ Below w.heap.size w w' := by
  go_enter Tryz.func27, Tryz.ntmps27
  go_wp2_with fail
  refine (checkNil_any who m e _).mono ?_
  rintro r w1 ⟨rfl, rfl⟩
  go_wp2
  go_ret
  exact ⟨rfl, Below.refl _ _⟩
set_option maxRecDepth 100000 in
set_option maxHeartbeats 800000 in
theorem arriveNil_any (a b : ByteArray) (m e : Int) (w : World) : Calls Tryz.prog 19 #[.pointer none, .int .i64 m, .int .i64 e, .agg #[.string a, .string b]] w fun r w' => r = .returned (.int .i64 1) ∧ Below w.heap.size w w' := by
  have HB : Hid (∀ o1, Below w.heap.size w (w.alloc o1)) := fun o1 => (Below.refl _ _).alloc (Nat.le_refl _) _
  go_enter Tryz.func19, Tryz.ntmps19
  go_wp2_with fail
  refine (checkNil_any ⟨#[]⟩ m e _).mono ?_
  rintro r w1 ⟨rfl, rfl⟩
  go_wp2
  go_ret
  exact ⟨rfl, HB.out _⟩
set_option maxRecDepth 100000 in
set_option maxHeartbeats 800000 in
theorem receiveNil_any (who : ByteArray) (m e : Int) (w : World) : Calls Tryz.prog 20 #[.pointer none, .string who, .int .i64 m, .int .i64 e] w fun r w' => r = .returned (.tuple #[.agg #[.string ⟨#[]⟩, .string ⟨#[]⟩], .int .i64 1]) ∧ Below w.heap.size w w' := by
  have HB : Hid (∀ o1 o2, Below w.heap.size w ((w.alloc o1).alloc o2)) := fun o1 o2 => ((Below.refl _ _).alloc (Nat.le_refl _) _).alloc (by simp) _
  go_enter Tryz.func20, Tryz.ntmps20
  go_wp2_with fail
  refine (checkNil_any who m e _).mono ?_
  rintro r w1 ⟨rfl, rfl⟩
  go_wp2
  refine bodyPost_ret (v := .tuple #[.agg #[.string ⟨#[]⟩, .string ⟨#[]⟩], .int .i64 1]) (by simp [results, Tryz.results20, go_sem]) rfl ?_
  exact ⟨rfl, HB.out _ _⟩
set_option maxRecDepth 100000 in
set_option maxHeartbeats 800000 in
theorem getNil_any (m e : Int) (w : World) : Calls Tryz.prog 29 #[.pointer none, .int .i64 m, .int .i64 e] w fun r w' => r = .returned (.tuple #[.agg #[.string ⟨#[]⟩, .int .i64 0, .int .i64 0, .slice none 0 0], .int .i64 1]) ∧ Below w.heap.size w w' := by
  have HB : Hid (∀ o1, Below w.heap.size w (w.alloc o1)) := fun o1 => (Below.refl _ _).alloc (Nat.le_refl _) _
  go_enter Tryz.func29, Tryz.ntmps29
  go_wp2_with fail
  refine (checkNil_any ⟨#[]⟩ m e _).mono ?_
  rintro r w1 ⟨rfl, rfl⟩
  go_wp2
  refine bodyPost_ret (v := .tuple #[.agg #[.string ⟨#[]⟩, .int .i64 0, .int .i64 0, .slice none 0 0], .int .i64 1]) (by simp [results, Tryz.results29, go_sem]) rfl ?_
  exact ⟨rfl, HB.out _⟩

end Go.Proofs.YtijfdgoeppehlaaGreatDoor

namespace Go.Proofs.YtijfdgoeppehlaaGreatDoor
open Go.RowKit
attribute [local go_sem ↓] Go.wp_at_zero Go.wp_at_succ

set_option maxHeartbeats 400000 in
theorem lNumber_any (n : Int) (w : World) : Calls Tryz.prog 42 #[.int .i64 n] w fun r w' => r = .returned (.bool (numB n)) ∧ w = w' := by
  by_cases h1 : 0 ≤ n
  · by_cases h2 : n ≤ 1073741824
    · go_enter Tryz.func42, Tryz.ntmps42
      go_wp2
      go_ret
      exact ⟨by simp [numB, h1, h2], rfl⟩
    · go_enter Tryz.func42, Tryz.ntmps42
      go_wp2
      go_ret
      exact ⟨by simp [numB, h2], rfl⟩
  · go_enter Tryz.func42, Tryz.ntmps42
    go_wp2
    go_ret
    exact ⟨by simp [numB]; omega, rfl⟩
theorem lNumber_is (n : Int) (v : Bool) (h : numB n = v) (w : World) : Calls Tryz.prog 42 #[.int .i64 n] w fun r w' => r = .returned (.bool v) ∧ w = w' := by
  subst h; exact lNumber_any n w

set_option maxRecDepth 100000 in
set_option maxHeartbeats 1000000 in
theorem lPack_any (src by_ : ByteArray) (w : World) (hs : src.size ≤ 9223372036854775807) (hb : by_.size ≤ 9223372036854775807) :
    Calls Tryz.prog 44 #[.agg #[.string src, .string by_]] w fun r w' => r = .returned (.int .i64 (packE ⟨src, by_⟩)) ∧ Below w.heap.size w w' := by
  have Hbx : Hid (∀ v t, Below w.heap.size w (w.alloc (.cells v t))) := fun v t => (Below.refl _ _).alloc (Nat.le_refl _) _
  cases h1 : wordB src with
  | false =>
    have he : Hid (packE ⟨src, by_⟩ = 12) := by show _ = _; simp [packE, h1]
    go_enter Tryz.func44, Tryz.ntmps44
    go_wp2_with fail
    refine (word_is src _ h1 _ hs).mono ?_
    rintro e w1 ⟨rfl, rfl⟩
    go_wp2
    go_ret
    rw [he.out]
    exact ⟨rfl, Hbx.out _ _⟩
  | true =>
    by_cases h2 : 512 < by_.size
    · have he : Hid (packE ⟨src, by_⟩ = 5) := by show _ = _; simp [packE, h1, h2]
      go_enter Tryz.func44, Tryz.ntmps44
      go_wp2_with fail
      refine (word_is src _ h1 _ hs).mono ?_
      rintro e w1 ⟨rfl, rfl⟩
      go_wp2
      go_ret
      rw [he.out]
      exact ⟨rfl, Hbx.out _ _⟩
    · have he : Hid (packE ⟨src, by_⟩ = 0) := by show _ = _; simp [packE, h1, h2]
      go_enter Tryz.func44, Tryz.ntmps44
      go_wp2_with fail
      refine (word_is src _ h1 _ hs).mono ?_
      rintro e w1 ⟨rfl, rfl⟩
      go_wp2
      go_ret
      rw [he.out]
      exact ⟨rfl, Hbx.out _ _⟩
theorem lPack_is (src by_ : ByteArray) (q : Nat) (h : packE ⟨src, by_⟩ = q) (w : World) (hs : src.size ≤ 9223372036854775807) (hb : by_.size ≤ 9223372036854775807) :
    Calls Tryz.prog 44 #[.agg #[.string src, .string by_]] w fun r w' => r = .returned (.int .i64 q) ∧ Below w.heap.size w w' := by
  subst h; exact lPack_any src by_ w hs hb

end Go.Proofs.YtijfdgoeppehlaaGreatDoor

namespace Go.Proofs.YtijfdgoeppehlaaGreatDoor
open Go.RowKit
attribute [local go_sem ↓] Go.wp_at_zero Go.wp_at_succ

set_option maxRecDepth 100000 in
set_option maxHeartbeats 4000000 in
theorem lEncode_any (ow : ByteArray) (ep lo : Int) (a : Option Addr) (n c : Nat) (ls : List PackT) (w : World) (hs : PSl w a n ls) (how : ow.size ≤ 64) (hck : checkQ ⟨ow, ep, lo, ls⟩ = 0) :
    Calls Tryz.prog 25 #[.agg #[.string ow, .int .i64 ep, .int .i64 lo, .slice a n c]] w fun r w' => r = .returned (.string (strOf (encQB ⟨ow, ep, lo, ls⟩))) ∧ Below w.heap.size w w' := by
  have Hs := Lib.hid hs; clear hs
  have Hbx : Hid (∀ v t, Below w.heap.size w (w.alloc (.cells v t))) := fun v t => (Below.refl _ _).alloc (Nat.le_refl _) _
  obtain ⟨_, hep, hlo, hn16, hl0⟩ := checkQ_ok hck
  dsimp only at hep hlo hn16 hl0
  have hsize : ∀ s ∈ ls, s.src.size ≤ 32 ∧ s.bytes.size ≤ 512 := fun s h => packE_size (packsE_size hl0 s h)
  have Hsize := Lib.hid hsize; clear hsize hl0
  clear hck
  have hln := Hs.out.1
  have Hln := Lib.hid hln; clear hln
  have hn16' : n ≤ 16 := by rw [Hln.out] at hn16; exact hn16
  clear hn16
  have w1d : w = w := rfl
  go_enter Tryz.func25, Tryz.ntmps25
  go_wp2_with fail
  have hqc : ∀ j, (w.alloc (.cells #[.string ow, .int .i64 ep, .int .i64 lo, .slice a n c] 80)).cell? ⟨w.heap.size, j, none⟩ = (#[.string ow, .int .i64 ep, .int .i64 lo, .slice a n c] : Array Value)[j]? := fun j => cell_of_heap (World.alloc_heap_new w _) j
  have Hb1 := Lib.hid (Hbx.out #[.string ow, .int .i64 ep, .int .i64 lo, .slice a n c] 80)
  have hsz1 : w.heap.size < (w.alloc (.cells #[.string ow, .int .i64 ep, .int .i64 lo, .slice a n c] 80)).heap.size := by simp
  generalize w.alloc (.cells #[.string ow, .int .i64 ep, .int .i64 lo, .slice a n c] 80) = w1 at *
  clear w1d
  refine (newWriter_any _).mono ?_
  rintro e w2 ⟨rfl, rfl⟩
  have Hwr := Lib.hid (wr_box (w := w1))
  have hB0 : Below w1.heap.size w1 (w1.alloc (.cells #[.slice none 0 0, .int .i64 0] 140)) := (Below.refl _ _).alloc (Nat.le_refl _) _
  generalize w1.alloc (.cells #[.slice none 0 0, .int .i64 0] 140) = w2 at *
  have hc0 : w2.cell? ⟨w.heap.size, 0, none⟩ = some (.string ow) := ((bcell hB0).1 _ _ hsz1).trans (hqc 0)
  have HB2 := Lib.hid hB0; clear hB0
  have Hqc := Lib.hid hqc; clear hqc
  go_wp2_with fail
  refine (text_any w1.heap.size w1.heap.size [] ow _ (by omega) (by simp) HB2.out.size Hwr.out).mono ?_
  rintro e w3 ⟨rfl, hwr, hb⟩
  have HB3 : Hid (Below w1.heap.size w1 w3) := HB2.out.trans hb
  clear HB2 Hwr hc0 hb
  have Hwr := Lib.hid hwr; clear hwr
  have hc1 : w3.cell? ⟨w.heap.size, 1, none⟩ = some (.int .i64 ep) := ((bcell HB3.out).1 _ _ hsz1).trans (Hqc.out 1)
  have hl3 : Hid (([] ++ natBytes ow.size ++ ow.data.toList).length ≤ 65546) := by
    show _ ≤ _
    have h2 := natBytes_length ow.size
    simp only [List.nil_append, List.length_append, size_toList]
    omega
  go_wp2_with fail
  refine (number_any w1.heap.size w1.heap.size _ ep _ hep.1 (by omega) (by have := hl3.out; omega) HB3.out.size Hwr.out).mono ?_
  rintro e w4 ⟨rfl, hwr, hb⟩
  have HB4 : Hid (Below w1.heap.size w1 w4) := HB3.out.trans hb
  clear HB3 Hwr hc1 hb
  have Hwr := Lib.hid hwr; clear hwr
  have hc2 : w4.cell? ⟨w.heap.size, 2, none⟩ = some (.int .i64 lo) := ((bcell HB4.out).1 _ _ hsz1).trans (Hqc.out 2)
  have hl4 : Hid (([] ++ natBytes ow.size ++ ow.data.toList ++ natBytes ep.toNat).length ≤ 65556) := by
    show _ ≤ _
    have h1 := hl3.out
    have h2 := natBytes_length ep.toNat
    rw [List.length_append]
    omega
  go_wp2_with fail
  refine (number_any w1.heap.size w1.heap.size _ lo _ hlo.1 (by omega) (by have := hl4.out; omega) HB4.out.size Hwr.out).mono ?_
  rintro e w5 ⟨rfl, hwr, hb⟩
  have HB5 : Hid (Below w1.heap.size w1 w5) := HB4.out.trans hb
  clear HB4 Hwr hc2 hb
  have Hwr := Lib.hid hwr; clear hwr
  have hc3 : w5.cell? ⟨w.heap.size, 3, none⟩ = some (.slice a n c) := ((bcell HB5.out).1 _ _ hsz1).trans (Hqc.out 3)
  have hl5 : Hid (([] ++ natBytes ow.size ++ ow.data.toList ++ natBytes ep.toNat ++ natBytes lo.toNat).length ≤ 65566) := by
    show _ ≤ _
    have h1 := hl4.out
    have h2 := natBytes_length lo.toNat
    rw [List.length_append]
    omega
  go_wp2_with fail
  refine (number_any w1.heap.size w1.heap.size _ (n : Int) _ (by omega) (by omega) (by have := hl5.out; omega) HB5.out.size Hwr.out).mono ?_
  rintro e w6 ⟨rfl, hwr, hb⟩
  have HB6 : Hid (Below w1.heap.size w1 w6) := HB5.out.trans hb
  clear HB5 hc3 hb
  have hhead : Hid ([] ++ natBytes ow.size ++ ow.data.toList ++ natBytes ep.toNat ++ natBytes lo.toNat ++ natBytes (n : Int).toNat = headQ ⟨ow, ep, lo, ls⟩) := by
    show _ = _
    simp [headQ, textB, Hln.out]
  have hlenH : Hid ((headQ ⟨ow, ep, lo, ls⟩).length ≤ 65576) := by
    show _ ≤ _
    rw [← hhead.out]
    have h1 := hl5.out
    have h2 := natBytes_length (n : Int).toNat
    rw [List.length_append]
    omega
  rw [hhead.out] at hwr
  clear Hwr hl3 hl4 hl5
  have Hwr := Lib.hid hwr; clear hwr
  have hc3 : w6.cell? ⟨w.heap.size, 3, none⟩ = some (.slice a n c) := ((bcell HB6.out).1 _ _ hsz1).trans (Hqc.out 3)
  go_wp2
  go_loopw [4] (fun i wr => ∃ k : Nat, k ≤ n ∧ i = .int .i64 k ∧ Hid (Wr w1.heap.size w1.heap.size wr (headQ ⟨ow, ep, lo, ls⟩ ++ packsB (ls.take k))) ∧ Hid (Below w1.heap.size w1 wr)) (fun i _ => n - (intOf i).toNat)
  case atStart => exact ⟨0, by omega, rfl, by show Wr _ _ _ _; simpa [packsB] using Hwr.out, HB6.out⟩
  case round =>
    obtain ⟨k, hk, rfl, HW, HB⟩ := hrel
    clear HB6 Hwr
    have z3 : wr.cell? ⟨w.heap.size, 3, none⟩ = some (.slice a n c) := ((bcell HB.out).1 _ _ hsz1).trans (Hqc.out 3)
    by_cases h4 : k < n
    · obtain ⟨g, off, rfl, hcell⟩ := (Hs.out.later Hb1.out).2 (by omega)
      have hlt := World.block_lt_of_cell? w1 ⟨g, _, none⟩ (hcell k h4).1
      have hck1 : wr.cell? ⟨g, off + k * 2, none⟩ = some (.string (ls.getD k zeroPk).src) := ((bcell HB.out).1 _ _ hlt).trans (hcell k h4).1
      have hck2 : wr.cell? ⟨g, off + k * 2 + 1, none⟩ = some (.string (ls.getD k zeroPk).bytes) := ((bcell HB.out).1 _ _ hlt).trans (hcell k h4).2
      have Hk2 := Lib.hid (hcell k h4).2
      have hkl : k < ls.length := by rw [Hln.out]; exact h4
      have hmem : ls.getD k zeroPk ∈ ls := by
        rw [List.getD_eq_getElem?_getD, List.getElem?_eq_getElem hkl]
        exact List.getElem_mem _
      have hszk := Hsize.out _ hmem
      have Hsnoc := Lib.hid (packsB_snoc ls k hkl)
      have hll : Hid ((headQ ⟨ow, ep, lo, ls⟩ ++ packsB (ls.take k)).length ≤ 1099510000000) := by
        show _ ≤ _
        have h1 := hlenH.out
        have h2 := packsB_length (ls := ls.take k) (fun s h => Hsize.out s (List.mem_of_mem_take h))
        have h3 : (ls.take k).length ≤ k := by simp; omega
        rw [List.length_append]
        omega
      clear hcell hmem
      have Hkl := Lib.hid hkl; clear hkl
      generalize ls.getD k zeroPk = lk at *
      obtain ⟨src, by_⟩ := lk
      dsimp only at *
      go_wp2_with fail
      refine (text_any w1.heap.size w1.heap.size _ src _ (by omega) (Nat.le_trans hll.out (by decide)) HB.out.size HW.out).mono ?_
      rintro e w7 ⟨rfl, hwr, hb⟩
      have HWn := Lib.hid hwr; clear hwr
      have HB7 : Hid (Below w1.heap.size w1 w7) := HB.out.trans hb
      clear hb
      have z3' : w7.cell? ⟨w.heap.size, 3, none⟩ = some (.slice (some ⟨g, off, none⟩) n c) := ((bcell HB7.out).1 _ _ hsz1).trans (Hqc.out 3)
      have hck2' : w7.cell? ⟨g, off + k * 2 + 1, none⟩ = some (.string by_) := ((bcell HB7.out).1 _ _ hlt).trans Hk2.out
      have hl7 : Hid ((headQ ⟨ow, ep, lo, ls⟩ ++ packsB (ls.take k) ++ natBytes src.size ++ src.data.toList).length ≤ 1099511627776) := by
        show _ ≤ _
        have h1 := hll.out
        have h2 := natBytes_length src.size
        rw [List.length_append, List.length_append, size_toList]
        omega
      go_wp2_with fail
      refine (text_any w1.heap.size w1.heap.size _ by_ _ (by omega) hl7.out HB7.out.size HWn.out).mono ?_
      rintro e w8 ⟨rfl, hwr, hb⟩
      have HW8 := Lib.hid hwr; clear hwr
      have HB8 : Hid (Below w1.heap.size w1 w8) := HB7.out.trans hb
      clear hb
      go_wp2
      go_roundw
      case rel =>
        refine ⟨k + 1, by omega, by go_num, ?_, HB8.out⟩
        show Wr _ _ _ _
        rw [Hsnoc.out]
        simpa using HW8.out
      case measure => simp [intOf]; omega
    · obtain rfl : k = n := by omega
      have hfull : Hid (headQ ⟨ow, ep, lo, ls⟩ ++ packsB (ls.take k) = encQB ⟨ow, ep, lo, ls⟩) := by
        show _ = _
        rw [List.take_of_length_le (by rw [Hln.out]; omega)]
        rfl
      have hll : Hid ((encQB ⟨ow, ep, lo, ls⟩).length ≤ 35184372088832) := by
        show _ ≤ _
        rw [← hfull.out]
        have h1 := hlenH.out
        have h2 := packsB_length (ls := ls.take k) (fun s h => Hsize.out s (List.mem_of_mem_take h))
        have h3 : (ls.take k).length ≤ k := by simp; omega
        rw [List.length_append]
        omega
      have hwr := HW.out
      rw [hfull.out] at hwr
      have HWn := Lib.hid hwr; clear hwr HW
      go_wp2_with fail
      refine (bytes_any w1.heap.size w1.heap.size _ _ hll.out HWn.out).mono ?_
      rintro e w7 ⟨v, rfl, hrow, hb, hform⟩
      rcases hform with rfl | ⟨g2, n2, c2, rfl, hg2⟩
      · exfalso
        rcases hrow.2 with ⟨_, h⟩ | ⟨g', cap', cur, h0, _⟩
        · have := natBytes_ne ow.size
          simp [encQB, headQ, textB] at h
          exact this h.1
        · cases h0
      · have hconv := run_bytes_str w7 g2 0 n2 c2 _ hrow.sl.1
        have Hfin : Hid (Below w.heap.size w w7) := (Hb1.out.trans (HB.out.mono (by omega))).trans (hb.mono (by have := HB.out.size; omega))
        clear hrow hb HB HWn
        go_wp2
        go_ret
        exact ⟨rfl, Hfin.out⟩

end Go.Proofs.YtijfdgoeppehlaaGreatDoor
