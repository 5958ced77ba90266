/- Law 37: known. -/
import Derived.Test.YtemmeopaihmlcaaDoorPorM
import Derived.Test.YtemmeopaihmlcaaDoorTrue
namespace Go.Proofs.YtemmeopaihmlcaaDoor
open Go.RowKit
attribute [local go_sem ↓] Go.wp_at_zero Go.wp_at_succ

set_option maxRecDepth 100000 in
theorem run_equal_pack (w : World) (a b : PackT) : (Op.equal 103 (.agg #[.string a.src, .string a.bytes]) (.agg #[.string b.src, .string b.bytes])).run Tryd.prog w = .ok (decide (a = b)) w := by
  have hu : Tryd.prog.underlying 103 = some (.struct (Tryd.prog.fieldsOf 103)) := by kernel_rfl
  have hst : Tryd.prog.stoodInHeld 103 = false := by kernel_rfl
  simp only [Op.equal, Op.maxDepth]
  rw [run_equalIn_struct w 9999 _ _ _ hu hst]
  simp [go_sem, Tryd.underlying103, Tryd.underlying9]
  have hb : ∀ x y : ByteArray, x.toList = y.toList ↔ x = y := fun x y => by have := str_beq x y; rw [Bool.eq_iff_iff] at this; simpa using this
  obtain ⟨a1, a2⟩ := a
  obtain ⟨b1, b2⟩ := b
  simp only [hb, PackT.mk.injEq]
  by_cases h1 : a1 = b1 <;> by_cases h2 : a2 = b2 <;> simp [h1, h2]
def samePk (a b : PackT) : Bool := decide (a = b)
theorem run_eql_pack (w : World) (a1 a2 b1 b2 : ByteArray) : (binOp .eql 103 (.agg #[.string a1, .string a2]) (.agg #[.string b1, .string b2])).run Tryd.prog w = .ok (.bool (samePk ⟨a1, a2⟩ ⟨b1, b2⟩)) w := by
  have h := run_equal_pack w ⟨a1, a2⟩ ⟨b1, b2⟩
  dsimp only at h
  simp only [binOp]
  simp [h, samePk]
attribute [local go_sem ↓] run_eql_pack

def kq0 : PackT := ⟨⟨#[120]⟩, ⟨#[97, 98]⟩⟩
def kq1 : PortT := ⟨⟨#[49]⟩, 0, 0, []⟩
def kq2 : PortT := ⟨⟨#[49]⟩, 0, 0, [kq0]⟩
theorem kq_open : openStep ⟨#[49]⟩ 0 80 0 none = (some kq1, 0, 1) := by decide +kernel
theorem kq_arrive : arriveStep ⟨⟨#[120]⟩, ⟨#[97, 98]⟩⟩ 80 0 (some kq1) = (some kq2, 0, 1) := by decide +kernel
theorem kq_denied : receiveStep ⟨#[50]⟩ 80 0 (some kq2) = (some kq2, zeroPk, 14, 0) := by decide +kernel
theorem kq_take : receiveStep ⟨#[49]⟩ 80 0 (some kq2) = (some kq1, kq0, 0, 1) := by decide +kernel
theorem kq_busy : receiveStep ⟨#[49]⟩ 80 0 (some kq1) = (some kq1, zeroPk, 19, 0) := by decide +kernel
theorem kq_other : receiveStep ⟨#[49]⟩ 80 1 (some kq1) = (some kq1, zeroPk, 8, 0) := by decide +kernel
theorem kq_same : samePk ⟨⟨#[120]⟩, ⟨#[97, 98]⟩⟩ ⟨⟨#[120]⟩, ⟨#[97, 98]⟩⟩ = true := decide_eq_true rfl
theorem kq_sz (a : UInt8) : (⟨#[a]⟩ : ByteArray).size ≤ 64 := by show 1 ≤ 64; decide

set_option maxRecDepth 100000 in
set_option maxHeartbeats 1600000 in
theorem qKnown_any (w : World) (hu : Usages w) : Calls Tryd.prog 19 #[] w fun r w' => r = .returned (.bool true) ∧ Below w.heap.size w w' := by
  have Hu := Lib.hid hu; clear hu
  go_enter Tryd.func19, Tryd.ntmps19
  go_wp2_with fail
  refine (sqNew w Hu.out 80).mono ?_
  rintro e w1 ⟨rfl, hnew⟩
  have Hnew := Lib.hid hnew; clear hnew
  go_wp2_with fail
  refine Hnew.out.mono ?_
  rintro e w2 ⟨rfl, s0⟩
  clear Hnew
  have S0 : Hid (∀ o', SQ w (w2.alloc o') (w.heap.size + 3) 0 80 none (fun k => k = w2.heap.size)) := fun o' => s0.fresh ((Below.refl _ _).alloc (Nat.le_refl _) _) (fun k hk => .inr (by subst hk; simp))
  have HP0 : Hid (∀ o', (w2.alloc o').heap[w2.heap.size]? = some o') := fun o' => heap_alloc_new w2 o'
  clear s0
  go_wp2_with fail
  refine (sqOpen w _ _ 0 80 none _ (S0.out _) (by decide) ⟨#[49]⟩ 0 0 (kq_sz _) (some kq1) 0 1 kq_open).mono ?_
  rintro e w3 ⟨rfl, s, hk⟩
  have HP3 := Lib.hid ((hk _ rfl).trans (HP0.out _))
  have S3 := Lib.hid s
  clear s hk S0 HP0
  have p0 : w3.cell? ⟨w2.heap.size, 0, none⟩ = some (.string ⟨#[120]⟩) := cell_of_heap HP3.out 0
  have p1 : w3.cell? ⟨w2.heap.size, 1, none⟩ = some (.string ⟨#[97, 98]⟩) := cell_of_heap HP3.out 1
  go_wp2_with fail
  refine (sqArrive w w3 _ _ 80 _ _ S3.out (by decide) ⟨#[120]⟩ ⟨#[97, 98]⟩ 0 (by show 1 ≤ _; decide) (by show 2 ≤ _; decide) (some kq2) 0 1 kq_arrive).mono ?_
  rintro e w4 ⟨rfl, s, hk⟩
  have HP4 := Lib.hid ((hk _ rfl).trans HP3.out)
  have S4 := Lib.hid s
  clear s hk S3 HP3 p0 p1
  go_wp2_with fail
  refine (sqReceive w w4 _ _ 80 _ _ S4.out (by decide) ⟨#[50]⟩ 0 (kq_sz _) (some kq2) zeroPk 14 0 kq_denied).mono ?_
  rintro e w5 ⟨rfl, s, hk⟩
  have HP5 : Hid (∀ o', (w5.alloc o').heap[w2.heap.size]? = some (.cells #[.string ⟨#[120]⟩, .string ⟨#[97, 98]⟩] 103 (0, 0))) := fun o' => (Below.heap_alloc w5 o' _ (s.glt _ rfl)).trans ((hk _ rfl).trans HP4.out)
  have S5 : Hid (∀ o', SQ w (w5.alloc o') (w.heap.size + 3) _ 80 _ (fun k => k = w2.heap.size)) := fun o' => s.later ((Below.refl _ _).alloc (Nat.le_refl _) _)
  clear s hk S4 HP4
  dsimp only [zeroPk]
  go_wp2_with fail
  refine (sqReceive w _ _ _ 80 _ _ (S5.out _) (by decide) ⟨#[49]⟩ 0 (kq_sz _) (some kq1) kq0 0 1 kq_take).mono ?_
  rintro e w6 ⟨rfl, s, hk⟩
  have HP6 : Hid (∀ o', (w6.alloc o').heap[w2.heap.size]? = some (.cells #[.string ⟨#[120]⟩, .string ⟨#[97, 98]⟩] 103 (0, 0))) := fun o' => (Below.heap_alloc w6 o' _ (s.glt _ rfl)).trans ((hk _ rfl).trans (HP5.out _))
  have HX6 : Hid (∀ o', (w6.alloc o').heap[w6.heap.size]? = some o') := fun o' => heap_alloc_new w6 o'
  have S6 : Hid (∀ o', SQ w (w6.alloc o') (w.heap.size + 3) _ 80 _ (fun k => k = w2.heap.size ∨ k = w6.heap.size)) := fun o' => s.fresh ((Below.refl _ _).alloc (Nat.le_refl _) _) (fun k hk => hk.imp id (fun h => by subst h; simp))
  clear s hk S5 HP5
  dsimp only [kq0]
  go_wp2_with fail
  refine (sqReceive w _ _ _ 80 _ _ (S6.out _) (by decide) ⟨#[49]⟩ 0 (kq_sz _) (some kq1) zeroPk 19 0 kq_busy).mono ?_
  rintro e w7 ⟨rfl, s, hk⟩
  have HP7 : Hid (∀ o', (w7.alloc o').heap[w2.heap.size]? = some (.cells #[.string ⟨#[120]⟩, .string ⟨#[97, 98]⟩] 103 (0, 0))) := fun o' => (Below.heap_alloc w7 o' _ (s.glt _ (.inl rfl))).trans ((hk _ (.inl rfl)).trans (HP6.out _))
  have HX7 : Hid (∀ o', (w7.alloc o').heap[w6.heap.size]? = some (.cells #[.string ⟨#[120]⟩, .string ⟨#[97, 98]⟩] 103 (0, 0))) := fun o' => (Below.heap_alloc w7 o' _ (s.glt _ (.inr rfl))).trans ((hk _ (.inr rfl)).trans (HX6.out _))
  have S7 : Hid (∀ o', SQ w (w7.alloc o') (w.heap.size + 3) _ 80 _ (fun k => k = w2.heap.size ∨ k = w6.heap.size)) := fun o' => s.later ((Below.refl _ _).alloc (Nat.le_refl _) _)
  clear s hk S6 HP6 HX6
  dsimp only [zeroPk]
  go_wp2_with fail
  refine (sqReceive w _ _ _ 80 _ _ (S7.out _) (by decide) ⟨#[49]⟩ 1 (kq_sz _) (some kq1) zeroPk 8 0 kq_other).mono ?_
  rintro e w8 ⟨rfl, s, hk⟩
  have hP8 := (hk _ (.inl rfl)).trans (HP7.out _)
  have hX8 := (hk _ (.inr rfl)).trans (HX7.out _)
  have p0 : w8.cell? ⟨w2.heap.size, 0, none⟩ = some (.string ⟨#[120]⟩) := cell_of_heap hP8 0
  have p1 : w8.cell? ⟨w2.heap.size, 1, none⟩ = some (.string ⟨#[97, 98]⟩) := cell_of_heap hP8 1
  have x0 : w8.cell? ⟨w6.heap.size, 0, none⟩ = some (.string ⟨#[120]⟩) := cell_of_heap hX8 0
  have x1 : w8.cell? ⟨w6.heap.size, 1, none⟩ = some (.string ⟨#[97, 98]⟩) := cell_of_heap hX8 1
  have hl1 := lt_of_heap hP8
  have hl2 := lt_of_heap hX8
  have hn1 := World.new_ne w8 ⟨w2.heap.size, 0, none⟩ p0
  have hn2 := World.new_ne w8 ⟨w6.heap.size, 0, none⟩ x0
  have HB : Hid (∀ o', Below w.heap.size w (w8.alloc o')) := fun o' => s.below.alloc s.below.size _
  clear s hk S7 HP7 HX7 hP8 hX8
  have hsame := kq_same
  dsimp only [zeroPk]
  go_wp2
  go_ret
  exact ⟨rfl, HB.out _⟩

end Go.Proofs.YtemmeopaihmlcaaDoor
