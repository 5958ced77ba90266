/- Law 31: known. (printed by wip/gen_dscs.py) descriptor, upon a view whose value is known: Duplicate. (printed by wip/gen_dscw.py) -/
import Derived.Test.YtfchfjipkggnkaaGreatDoorDscS
import Derived.Deep.RegionHeld3
import Derived.Deep.DeepCutAuto
namespace Go.Proofs.YtfchfjipkggnkaaGreatDoor
open Go.RowKit
attribute [local go_sem ↓] run_eql_opn run_neq_opn

def kT1 : List OpnT := zeroTab.set 0 (fileO 1)
def kT2 : List OpnT := kT1.set 1 (fileO 2)
def kT3 : List OpnT := kT2.set 0 zeroO
def kT4 : List OpnT := kT3.set 0 (fileO 3)
theorem k_a1 : addF (fileO 1) zeroTab = (⟨zeroTab, zeroO, 0, 0⟩, some (some kT1)) := by rfl
theorem k_a2 : addF (fileO 2) kT1 = (⟨zeroTab, zeroO, 1, 0⟩, some (some kT2)) := by rfl
theorem k_c1 : closeF 0 kT2 = (⟨zeroTab, fileO 1, 0, 0⟩, some (some kT3)) := by rfl
theorem k_a3 : addF (fileO 3) kT3 = (⟨zeroTab, zeroO, 0, 0⟩, some (some kT4)) := by rfl
theorem stepD_of {f : List OpnT → ResD × ChD} {t : List OpnT} {r : ResD} {c : Option (List OpnT)} (h : f t = (r, some c)) : stepD f t = c := by unfold stepD; rw [h]
theorem same_file : sameO ⟨1, ⟨#[49]⟩, 1, 0, 0, true, false, false⟩ ⟨1, ⟨#[49]⟩, 1, 0, 0, true, false, false⟩ = true := sameO_self _
attribute [local go_sem ↓] same_file
set_option maxRecDepth 100000 in
set_option maxHeartbeats 1600000 in
theorem known31_any (w : World) (hu : Usages w) : Calls Tryz.prog 8 #[] w fun r w' => r = .returned (.bool true) ∧ Below w.heap.size w w' := by
  have Hu := Lib.hid hu; clear hu
  go_enter Tryz.func8, Tryz.ntmps8
  go_wp2_with fail
  refine (kEmpty w Hu.out).mono ?_
  rintro r w1 ⟨rfl, hnew⟩
  have Hnew := Lib.hid hnew; clear hnew
  go_wp2_with fail
  refine Hnew.out.mono ?_
  rintro r w2 ⟨rfl, k0⟩
  have K0 := Lib.hid k0; clear k0 Hnew
  go_wp2_with fail
  refine (kMake K0.out (by decide)).mono ?_
  rintro r w3 ⟨rfl, k1, -⟩
  have K1 := Lib.hid k1; clear k1 K0
  go_wp2_with fail
  refine (file_any 1 _).mono ?_
  rintro r w4 ⟨rfl, hb⟩
  have K2 := Lib.hid (K1.out.later hb); clear hb K1
  go_wp2_with fail
  refine (kAdd K2.out (by decide) 1 (by decide) (by decide)).mono ?_
  rintro r w5 hp
  obtain ⟨rfl, k1, -⟩ := hp.is (v' := .tuple #[.int .i64 0, .int .i64 0]) (by rw [k_a1]; rfl) (stepD_of k_a1)
  have K3 := Lib.hid k1; clear k1 hp K2
  go_wp2_with fail
  refine (file_any 2 _).mono ?_
  rintro r w6 ⟨rfl, hb⟩
  have K4 := Lib.hid (K3.out.later hb); clear hb K3
  go_wp2_with fail
  refine (kAdd K4.out (by decide) 2 (by decide) (by decide)).mono ?_
  rintro r w7 hp
  obtain ⟨rfl, k1, -⟩ := hp.is (v' := .tuple #[.int .i64 1, .int .i64 0]) (by rw [k_a2]; rfl) (stepD_of k_a2)
  have K5 := Lib.hid k1; clear k1 hp K4
  go_wp2_with fail
  refine (kClose K5.out (by decide) 0).mono ?_
  rintro r w8 hp
  obtain ⟨rfl, k1, -⟩ := hp.is (v' := .tuple #[.agg #[.int .i64 1, .string ⟨#[49]⟩, .int .i64 1, .int .i64 0, .int .i64 0, .bool true, .bool false, .bool false], .int .i64 0]) (by rw [k_c1]; rfl) (stepD_of k_c1)
  have K6 := Lib.hid k1; clear k1 hp K5
  have K7 : Hid (KV w (w8.alloc (.cells #[.int .i64 1, .string ⟨#[49]⟩, .int .i64 1, .int .i64 0, .int .i64 0, .bool true, .bool false, .bool false] 34)) (w.heap.size + 3) 0 (fun k => k = w8.heap.size) 4 (some kT3)) := K6.out.fresh ((Below.refl _ _).alloc (Nat.le_refl _) _) (fun k hk => .inr (by subst hk; simp))
  have X7 : Hid (OpnAt (w8.alloc (.cells #[.int .i64 1, .string ⟨#[49]⟩, .int .i64 1, .int .i64 0, .int .i64 0, .bool true, .bool false, .bool false] 34)) w8.heap.size ⟨1, ⟨#[49]⟩, 1, 0, 0, true, false, false⟩) := World.alloc_heap_new w8 _
  clear K6
  go_wp2_with fail
  refine (file_any 3 _).mono ?_
  rintro r w9 ⟨rfl, hb⟩
  have K8 := Lib.hid (K7.out.later hb)
  have X8 := Lib.hid (X7.out.later hb)
  clear hb K7 X7
  go_wp2_with fail
  refine (kAdd K8.out (by decide) 3 (by decide) (by decide)).mono ?_
  rintro r w10 hp
  obtain ⟨rfl, k1, hk⟩ := hp.is (v' := .tuple #[.int .i64 0, .int .i64 0]) (by rw [k_a3]; rfl) (stepD_of k_a3)
  have K9 := Lib.hid k1
  have X9 := Lib.hid (X8.out.kept (hk _ rfl))
  clear k1 hk hp K8 X8
  go_upto_region 7 with fail
  refine wp_region_held_drew (S := (fun W => W.cell? ⟨w8.heap.size, 0, none⟩ = some (.int .i64 1) ∧ W.cell? ⟨w8.heap.size, 1, none⟩ = some (.string ⟨#[49]⟩) ∧ W.cell? ⟨w8.heap.size, 2, none⟩ = some (.int .i64 1) ∧ W.cell? ⟨w8.heap.size, 3, none⟩ = some (.int .i64 0) ∧ W.cell? ⟨w8.heap.size, 4, none⟩ = some (.int .i64 0) ∧ W.cell? ⟨w8.heap.size, 5, none⟩ = some (.bool true) ∧ W.cell? ⟨w8.heap.size, 6, none⟩ = some (.bool false) ∧ W.cell? ⟨w8.heap.size, 7, none⟩ = some (.bool false))) (by kernel_rfl) ((X9.out.later (Below.refl _ _).drew).cells) (fun hHeld0 => ?_)
  refine wpAnyH_take (i := 0) (v := ?_) rfl (by kernel_rfl) (by kernel_rfl) (by kernel_rfl) (fun _ _ _ h => h) (Or.inl ⟨by rfl, ?_⟩) (by assumption) ?_
  rotate_left
  · (intro wx hSw; (try dsimp only at hSw); go_simp <;> with_reducible rfl)
  try simp only [Act.put, List.setIfInBounds_toArray, List.set_cons_zero, List.set_cons_succ, List.getElem_toArray, List.getElem_cons_zero]
  refine wpAnyH_take (i := 1) (v := ?_) rfl (by kernel_rfl) (by kernel_rfl) (by kernel_rfl) (fun _ _ _ h => h) (Or.inl ⟨by rfl, ?_⟩) (by assumption) ?_
  rotate_left
  · (intro wx hSw; (try dsimp only at hSw); go_simp <;> with_reducible rfl)
  try simp only [Act.put, List.setIfInBounds_toArray, List.set_cons_zero, List.set_cons_succ, List.getElem_toArray, List.getElem_cons_zero, List.getElem_cons_succ]
  refine wpAnyH_take (i := 2) (v := ?_) rfl (by kernel_rfl) (by kernel_rfl) (by kernel_rfl) (fun _ _ _ h => h) (Or.inl ⟨by rfl, ?_⟩) (by assumption) ?_
  rotate_left
  · (intro wx hSw; (try dsimp only at hSw); go_simp <;> with_reducible rfl)
  try simp only [Act.put, List.setIfInBounds_toArray, List.set_cons_zero, List.set_cons_succ, List.getElem_toArray, List.getElem_cons_zero, List.getElem_cons_succ]
  refine wpAnyH_take (i := 3) (v := ?_) rfl (by kernel_rfl) (by kernel_rfl) (by kernel_rfl) (fun _ _ _ h => h) (Or.inl ⟨by rfl, ?_⟩) (by assumption) ?_
  rotate_left
  · (intro wx hSw; (try dsimp only at hSw); go_simp <;> with_reducible rfl)
  try simp only [Act.put, List.setIfInBounds_toArray, List.set_cons_zero, List.set_cons_succ, List.getElem_toArray, List.getElem_cons_zero, List.getElem_cons_succ]
  refine wpAnyH_take (i := 4) (v := ?_) rfl (by kernel_rfl) (by kernel_rfl) (by kernel_rfl) (fun _ _ _ h => h) (Or.inl ⟨by rfl, ?_⟩) (by assumption) ?_
  rotate_left
  · (intro wx hSw; (try dsimp only at hSw); go_simp <;> with_reducible rfl)
  try simp only [Act.put, List.setIfInBounds_toArray, List.set_cons_zero, List.set_cons_succ, List.getElem_toArray, List.getElem_cons_zero, List.getElem_cons_succ]
  refine wpAnyH_take (i := 5) (v := ?_) rfl (by kernel_rfl) (by kernel_rfl) (by kernel_rfl) (fun _ _ _ h => h) (Or.inl ⟨by rfl, ?_⟩) (by assumption) ?_
  rotate_left
  · (intro wx hSw; (try dsimp only at hSw); go_simp <;> with_reducible rfl)
  try simp only [Act.put, List.setIfInBounds_toArray, List.set_cons_zero, List.set_cons_succ, List.getElem_toArray, List.getElem_cons_zero, List.getElem_cons_succ]
  refine wpAnyH_take (i := 6) (v := ?_) rfl (by kernel_rfl) (by kernel_rfl) (by kernel_rfl) (fun _ _ _ h => h) (Or.inl ⟨by rfl, ?_⟩) (by assumption) ?_
  rotate_left
  · (intro wx hSw; (try dsimp only at hSw); go_simp <;> with_reducible rfl)
  try simp only [Act.put, List.setIfInBounds_toArray, List.set_cons_zero, List.set_cons_succ, List.getElem_toArray, List.getElem_cons_zero, List.getElem_cons_succ]
  refine wpAnyH_take (i := 7) (v := ?_) rfl (by kernel_rfl) (by kernel_rfl) (by kernel_rfl) (fun _ _ _ h => h) (Or.inl ⟨by rfl, ?_⟩) (by assumption) ?_
  rotate_left
  · (intro wx hSw; (try dsimp only at hSw); go_simp <;> with_reducible rfl)
  try simp only [Act.put, List.setIfInBounds_toArray, List.set_cons_zero, List.set_cons_succ, List.getElem_toArray, List.getElem_cons_zero, List.getElem_cons_succ]
  refine wpAnyH_take (i := 8) (v := ?_) rfl (by kernel_rfl) (by kernel_rfl) (by kernel_rfl) (fun _ _ _ h => h) (Or.inl ⟨by rfl, ?_⟩) (by assumption) ?_
  rotate_left
  · (intro wx hSw; (try dsimp only at hSw); go_simp <;> with_reducible rfl)
  try simp only [Act.put, List.setIfInBounds_toArray, List.set_cons_zero, List.set_cons_succ, List.getElem_toArray, List.getElem_cons_zero, List.getElem_cons_succ]
  refine wpAnyH_take (i := 9) (v := ?_) rfl (by kernel_rfl) (by kernel_rfl) (by kernel_rfl) (fun _ _ _ h => h) (Or.inl ⟨by rfl, ?_⟩) (by assumption) ?_
  rotate_left
  · (intro wx hSw; (try dsimp only at hSw); go_simp <;> with_reducible rfl)
  try simp only [Act.put, List.setIfInBounds_toArray, List.set_cons_zero, List.set_cons_succ, List.getElem_toArray, List.getElem_cons_zero, List.getElem_cons_succ]
  refine wpAnyH_take (i := 10) (v := ?_) rfl (by kernel_rfl) (by kernel_rfl) (by kernel_rfl) (fun _ _ _ h => h) (Or.inl ⟨by rfl, ?_⟩) (by assumption) ?_
  rotate_left
  · (intro wx hSw; (try dsimp only at hSw); go_simp <;> with_reducible rfl)
  try simp only [Act.put, List.setIfInBounds_toArray, List.set_cons_zero, List.set_cons_succ, List.getElem_toArray, List.getElem_cons_zero, List.getElem_cons_succ]
  refine wpAnyH_take (i := 11) (v := ?_) rfl (by kernel_rfl) (by kernel_rfl) (by kernel_rfl) (fun _ _ _ h => h) (Or.inl ⟨by rfl, ?_⟩) (by assumption) ?_
  rotate_left
  · (intro wx hSw; (try dsimp only at hSw); go_simp <;> with_reducible rfl)
  try simp only [Act.put, List.setIfInBounds_toArray, List.set_cons_zero, List.set_cons_succ, List.getElem_toArray, List.getElem_cons_zero, List.getElem_cons_succ]
  refine wpAnyH_take (i := 12) (v := ?_) rfl (by kernel_rfl) (by kernel_rfl) (by kernel_rfl) (fun _ _ _ h => h) (Or.inl ⟨by rfl, ?_⟩) (by assumption) ?_
  rotate_left
  · (intro wx hSw; (try dsimp only at hSw); go_simp <;> with_reducible rfl)
  try simp only [Act.put, List.setIfInBounds_toArray, List.set_cons_zero, List.set_cons_succ, List.getElem_toArray, List.getElem_cons_zero, List.getElem_cons_succ]
  refine wpAnyH_take (i := 13) (v := ?_) rfl (by kernel_rfl) (by kernel_rfl) (by kernel_rfl) (fun _ _ _ h => h) (Or.inl ⟨by rfl, ?_⟩) (by assumption) ?_
  rotate_left
  · (intro wx hSw; (try dsimp only at hSw); go_simp <;> with_reducible rfl)
  try simp only [Act.put, List.setIfInBounds_toArray, List.set_cons_zero, List.set_cons_succ, List.getElem_toArray, List.getElem_cons_zero, List.getElem_cons_succ]
  refine wpAnyH_take (i := 14) (v := ?_) rfl (by kernel_rfl) (by kernel_rfl) (by kernel_rfl) (fun _ _ _ h => h) (Or.inl ⟨by rfl, ?_⟩) (by assumption) ?_
  rotate_left
  · (intro wx hSw; (try dsimp only at hSw); go_simp <;> with_reducible rfl)
  try simp only [Act.put, List.setIfInBounds_toArray, List.set_cons_zero, List.set_cons_succ, List.getElem_toArray, List.getElem_cons_zero, List.getElem_cons_succ]
  refine wpAnyH_take (i := 15) (v := ?_) rfl (by kernel_rfl) (by kernel_rfl) (by kernel_rfl) (fun _ _ _ h => h) (Or.inl ⟨by rfl, ?_⟩) (by assumption) ?_
  rotate_left
  · (intro wx hSw; (try dsimp only at hSw); go_simp <;> with_reducible rfl)
  try simp only [Act.put, List.setIfInBounds_toArray, List.set_cons_zero, List.set_cons_succ, List.getElem_toArray, List.getElem_cons_zero, List.getElem_cons_succ]
  refine wpAnyH_take (i := 16) (v := ?_) rfl (by kernel_rfl) (by kernel_rfl) (by kernel_rfl) (fun _ _ _ h => h) (Or.inl ⟨by rfl, ?_⟩) (by assumption) ?_
  rotate_left
  · (intro wx hSw; (try dsimp only at hSw); go_simp <;> with_reducible rfl)
  try simp only [Act.put, List.setIfInBounds_toArray, List.set_cons_zero, List.set_cons_succ, List.getElem_toArray, List.getElem_cons_zero, List.getElem_cons_succ]
  refine wpAnyH_take (i := 17) (v := ?_) rfl (by kernel_rfl) (by kernel_rfl) (by kernel_rfl) (fun _ _ _ h => h) (Or.inl ⟨by rfl, ?_⟩) (by assumption) ?_
  rotate_left
  · (intro wx hSw; (try dsimp only at hSw); go_simp <;> with_reducible rfl)
  try simp only [Act.put, List.setIfInBounds_toArray, List.set_cons_zero, List.set_cons_succ, List.getElem_toArray, List.getElem_cons_zero, List.getElem_cons_succ]
  refine wpAnyH_take (i := 18) (v := ?_) rfl (by kernel_rfl) (by kernel_rfl) (by kernel_rfl) (fun _ _ _ h => h) (Or.inl ⟨by rfl, ?_⟩) (by assumption) ?_
  rotate_left
  · (intro wx hSw; (try dsimp only at hSw); go_simp <;> with_reducible rfl)
  try simp only [Act.put, List.setIfInBounds_toArray, List.set_cons_zero, List.set_cons_succ, List.getElem_toArray, List.getElem_cons_zero, List.getElem_cons_succ]
  refine wpAnyH_take (i := 19) (v := ?_) rfl (by kernel_rfl) (by kernel_rfl) (by kernel_rfl) (fun _ _ _ h => h) (Or.inl ⟨by rfl, ?_⟩) (by assumption) ?_
  rotate_left
  · (intro wx hSw; (try dsimp only at hSw); go_simp <;> with_reducible rfl)
  try simp only [Act.put, List.setIfInBounds_toArray, List.set_cons_zero, List.set_cons_succ, List.getElem_toArray, List.getElem_cons_zero, List.getElem_cons_succ]
  refine wpAnyH_ready (rs := [20]) (by kernel_rfl) (by simp) ?_
  refine AllReadyH.cons rfl (fun K hK => ?_) AllReadyH.nil
  go_simp
  go_at_call 25
  refine (file_any 1 _).mono ?_
  rintro r wf ⟨rfl, hb⟩
  have XE := Lib.hid ((X9.out.later (Below.refl _ _).drew).later hb)
  have KE := Lib.hid ((K9.out.later (Below.refl _ _).drew).later hb)
  clear hb
  go_wp2_with fail
  refine hK.out _ _ (XE.out.cells) (fun hHeld1 => ?_)
  clear hK K hHeld0
  try simp only [Act.put, List.setIfInBounds_toArray, List.set_cons_zero, List.set_cons_succ, List.getElem_toArray, List.getElem_cons_zero, List.getElem_cons_succ]
  refine wpAnyH_take (i := 21) (v := ?_) rfl (by kernel_rfl) (by kernel_rfl) (by kernel_rfl) (fun _ _ _ h => h) (Or.inl ⟨by rfl, ?_⟩) (by assumption) ?_
  rotate_left
  · (intro wx hSw; (try dsimp only at hSw); go_simp <;> with_reducible rfl)
  try simp only [Act.put, List.setIfInBounds_toArray, List.set_cons_zero, List.set_cons_succ, List.getElem_toArray, List.getElem_cons_zero, List.getElem_cons_succ]
  refine wpAnyH_take (i := 22) (v := ?_) rfl (by kernel_rfl) (by kernel_rfl) (by kernel_rfl) (fun _ _ _ h => h) (Or.inl ⟨by rfl, ?_⟩) (by assumption) ?_
  rotate_left
  · (intro wx hSw; (try dsimp only at hSw); go_simp <;> with_reducible rfl)
  try simp only [Act.put, List.setIfInBounds_toArray, List.set_cons_zero, List.set_cons_succ, List.getElem_toArray, List.getElem_cons_zero, List.getElem_cons_succ]
  refine wpAnyH_take (i := 23) (v := ?_) rfl (by kernel_rfl) (by kernel_rfl) (by kernel_rfl) (fun _ _ _ h => h) (Or.inl ⟨by rfl, ?_⟩) (by assumption) ?_
  rotate_left
  · (intro wx hSw; (try dsimp only at hSw); go_simp <;> with_reducible rfl)
  try simp only [Act.put, List.setIfInBounds_toArray, List.set_cons_zero, List.set_cons_succ, List.getElem_toArray, List.getElem_cons_zero, List.getElem_cons_succ]
  refine wpAnyH_take (i := 24) (v := ?_) rfl (by kernel_rfl) (by kernel_rfl) (by kernel_rfl) (fun _ _ _ h => h) (Or.inl ⟨by rfl, ?_⟩) (by assumption) ?_
  rotate_left
  · (intro wx hSw; (try dsimp only at hSw); go_simp <;> with_reducible rfl)
  try simp only [Act.put, List.setIfInBounds_toArray, List.set_cons_zero, List.set_cons_succ, List.getElem_toArray, List.getElem_cons_zero, List.getElem_cons_succ]
  refine wpAnyH_take (i := 25) (v := ?_) rfl (by kernel_rfl) (by kernel_rfl) (by kernel_rfl) (fun _ _ _ h => h) (Or.inl ⟨by rfl, ?_⟩) (by assumption) ?_
  rotate_left
  · (intro wx hSw; (try dsimp only at hSw); go_simp <;> with_reducible rfl)
  try simp only [Act.put, List.setIfInBounds_toArray, List.set_cons_zero, List.set_cons_succ, List.getElem_toArray, List.getElem_cons_zero, List.getElem_cons_succ]
  refine wpAnyH_take (i := 26) (v := ?_) rfl (by kernel_rfl) (by kernel_rfl) (by kernel_rfl) (fun _ _ _ h => h) (Or.inl ⟨by rfl, ?_⟩) (by assumption) ?_
  rotate_left
  · (intro wx hSw; (try dsimp only at hSw); go_simp <;> with_reducible rfl)
  try simp only [Act.put, List.setIfInBounds_toArray, List.set_cons_zero, List.set_cons_succ, List.getElem_toArray, List.getElem_cons_zero, List.getElem_cons_succ]
  refine wpAnyH_take (i := 27) (v := ?_) rfl (by kernel_rfl) (by kernel_rfl) (by kernel_rfl) (fun _ _ _ h => h) (Or.inl ⟨by rfl, ?_⟩) (by assumption) ?_
  rotate_left
  · (intro wx hSw; (try dsimp only at hSw); go_simp <;> with_reducible rfl)
  try simp only [Act.put, List.setIfInBounds_toArray, List.set_cons_zero, List.set_cons_succ, List.getElem_toArray, List.getElem_cons_zero, List.getElem_cons_succ]
  refine wpAnyH_take (i := 28) (v := ?_) rfl (by kernel_rfl) (by kernel_rfl) (by kernel_rfl) (fun _ _ _ h => h) (Or.inl ⟨by rfl, ?_⟩) (by assumption) ?_
  rotate_left
  · (intro wx hSw; (try dsimp only at hSw); go_simp <;> with_reducible rfl)
  try simp only [Act.put, List.setIfInBounds_toArray, List.set_cons_zero, List.set_cons_succ, List.getElem_toArray, List.getElem_cons_zero, List.getElem_cons_succ]
  refine wpAnyH_take (i := 29) (v := ?_) rfl (by kernel_rfl) (by kernel_rfl) (by kernel_rfl) (fun _ _ _ h => h) (Or.inl ⟨by rfl, ?_⟩) (by assumption) ?_
  rotate_left
  · (intro wx hSw; (try dsimp only at hSw); go_simp <;> with_reducible rfl)
  try simp only [Act.put, List.setIfInBounds_toArray, List.set_cons_zero, List.set_cons_succ, List.getElem_toArray, List.getElem_cons_zero, List.getElem_cons_succ]
  refine wpAnyH_take (i := 30) (v := ?_) rfl (by kernel_rfl) (by kernel_rfl) (by kernel_rfl) (fun _ _ _ h => h) (Or.inl ⟨by rfl, ?_⟩) (by assumption) ?_
  rotate_left
  · (intro wx hSw; (try dsimp only at hSw); go_simp <;> with_reducible rfl)
  try simp only [Act.put, List.setIfInBounds_toArray, List.set_cons_zero, List.set_cons_succ, List.getElem_toArray, List.getElem_cons_zero, List.getElem_cons_succ]
  refine wpAnyH_take (i := 31) (v := ?_) rfl (by kernel_rfl) (by kernel_rfl) (by kernel_rfl) (fun _ _ _ h => h) (Or.inl ⟨by rfl, ?_⟩) (by assumption) ?_
  rotate_left
  · (intro wx hSw; (try dsimp only at hSw); go_simp <;> with_reducible rfl)
  try simp only [Act.put, List.setIfInBounds_toArray, List.set_cons_zero, List.set_cons_succ, List.getElem_toArray, List.getElem_cons_zero, List.getElem_cons_succ]
  refine wpAnyH_take (i := 32) (v := ?_) rfl (by kernel_rfl) (by kernel_rfl) (by kernel_rfl) (fun _ _ _ h => h) (Or.inl ⟨by rfl, ?_⟩) (by assumption) ?_
  rotate_left
  · (intro wx hSw; (try dsimp only at hSw); go_simp <;> with_reducible rfl)
  try simp only [Act.put, List.setIfInBounds_toArray, List.set_cons_zero, List.set_cons_succ, List.getElem_toArray, List.getElem_cons_zero, List.getElem_cons_succ]
  refine wpAnyH_take (i := 33) (v := ?_) rfl (by kernel_rfl) (by kernel_rfl) (by kernel_rfl) (fun _ _ _ h => h) (Or.inl ⟨by rfl, ?_⟩) (by assumption) ?_
  rotate_left
  · (intro wx hSw; (try dsimp only at hSw); go_simp <;> with_reducible rfl)
  try simp only [Act.put, List.setIfInBounds_toArray, List.set_cons_zero, List.set_cons_succ, List.getElem_toArray, List.getElem_cons_zero, List.getElem_cons_succ]
  refine wpAnyH_take (i := 34) (v := ?_) rfl (by kernel_rfl) (by kernel_rfl) (by kernel_rfl) (fun _ _ _ h => h) (Or.inl ⟨by rfl, ?_⟩) (by assumption) ?_
  rotate_left
  · (intro wx hSw; (try dsimp only at hSw); go_simp <;> with_reducible rfl)
  try simp only [Act.put, List.setIfInBounds_toArray, List.set_cons_zero, List.set_cons_succ, List.getElem_toArray, List.getElem_cons_zero, List.getElem_cons_succ]
  refine wpAnyH_take (i := 35) (v := ?_) rfl (by kernel_rfl) (by kernel_rfl) (by kernel_rfl) (fun _ _ _ h => h) (Or.inl ⟨by rfl, ?_⟩) (by assumption) ?_
  rotate_left
  · (intro wx hSw; (try dsimp only at hSw); go_simp <;> with_reducible rfl)
  try simp only [Act.put, List.setIfInBounds_toArray, List.set_cons_zero, List.getElem_toArray, List.getElem_cons_zero, List.getElem_cons_succ]
  refine wpAnyH_done (by kernel_rfl) ?_ _
  have HF := Lib.hid KE.out.below
  go_wp2
  go_ret
  exact ⟨rfl, HF.out⟩
end Go.Proofs.YtfchfjipkggnkaaGreatDoor

namespace Go.Proofs.YtfchfjipkggnkaaGreatDoor
open Go.RowKit

theorem exec_load_tab {ρ : Operand → Value} {o : Oper} {x : Operand} {w : World} {X : Nat} {t : List OpnT} (ho : o.op = .load 36 x) (hx : ρ x = .pointer (some ⟨X, 0, none⟩)) (h : TabAt w X t) : (execOp ρ o).run Tryz.prog w = .ok (.value (.agg (tabA t))) w := by
  have hv : (loadVar 36 ⟨X, 0, none⟩).run Tryz.prog w = .ok (.agg (tabA t)) w := run_loadVar_row w X _ _ _ (0, 0) _ h.1 Tryz.underlying36 rfl (by rw [tabA_128 h.2]; exact infoTab)
  unfold execOp
  simp only [ho, hx, Instr.loadAt, Instr.sureAddr, Sem.run_bind, Sem.run_pure, Result.andThen_ok, hv]
section
variable {w0 w : World} {b M : Nat} {V : AV} {G : Nat → Prop} (s : QM w0 w b M V G)
include s
set_option maxRecDepth 100000 in
set_option maxHeartbeats 3200000 in
theorem qdDup (who : ByteArray) (hw : who.size ≤ 70368744177664) (fd : Int) (hlen : V.calls.length < 1000000) : Calls Tryz.prog 37 #[.pointer (some ⟨b, 0, none⟩), .string who, .int .i64 fd] w (QMP w0 b M ((dOne who (dupF fd)).run V).1 G w (.tuple #[.int .i64 ((dOne who (dupF fd)).run V).2.N, .int .i64 ((dOne who (dupF fd)).run V).2.E])) := by
  have Q0 := Lib.hid (s.qi0 (Below.refl w.heap.size w))
  have HRn := Lib.hid (opn_run V who fd (dupF fd) (fun t h => if_pos h))
  have HO := Lib.hid (opn_ok (V := V) (who := who) (fd := fd))
  have hl := opn_len V who fd
  have HL := Lib.hid (allV_len (who := who) hlen)
  clear s hlen
  go_enter Tryz.func37, Tryz.ntmps37
  go_wp2_with fail
  refine (qdOpen Q0.out.s who hw fd).mono ?_
  rintro r w2 ⟨rfl, s2, hk⟩
  have Q1 := Lib.hid (Q0.out.step s2 hk)
  clear s2 hk Q0
  obtain ⟨⟨t, e⟩, ht⟩ : ∃ p, opnR V who fd = p := ⟨_, rfl⟩
  rw [ht] at HRn HO hl ⊢
  clear ht
  dsimp only at HRn HO hl ⊢
  have hns := new_store w2 hl
  have hsz := tabA_128 hl
  have hb3 : Below w2.heap.size w2 (w2.alloc (.cells (tabA t) 36)) := (Below.refl _ _).alloc (Nat.le_refl _) _
  have Q2 := Lib.hid (Q1.out.more (W' := (w2.alloc (.cells (tabA t) 36))) (E' := fun k => k = w2.heap.size) hb3 (fun k hk => by subst hk; exact .inr (by simp)))
  have T2 := Lib.hid (new_tab w2 hl)
  have Hl := Lib.hid hl
  clear hb3 Q1
  by_cases h0 : e = 0
  · subst h0
    have HB := Lib.hid (HO.out rfl)
    obtain ⟨f0, f1, hz⟩ := badD_no HB.out.1
    clear hz
    have HR := Lib.hid (HRn.out.trans (if_neg (by simp)))
    clear HRn HO
    obtain ⟨n, rfl⟩ := Int.eq_ofNat_of_zero_le (show 0 ≤ fd by omega)
    have hn : n < 16 := by omega
    obtain ⟨x, hx⟩ := ent_some hl hn
    have h1 := entD_at hx
    have hc := ent_check HB.out.2.1 hl (fd := (n : Int)) (by rw [HB.out.1]; decide)
    rw [h1] at hc
    obtain ⟨kd, mak, bn, num, off, rd, wr, ap⟩ := x
    have Hc := Lib.hid hc
    have HR2 : Hid ((dOne who (dupF (n : Int))).run V = putR (allV V who) who (addF ⟨kd, mak, bn, num, off, rd, wr, ap⟩ t)) := by
      refine HR.out.trans ?_
      have e1 : dupF (n : Int) t = addF ⟨kd, mak, bn, num, off, rd, wr, ap⟩ t := by
        unfold dupF
        rw [if_neg (by rw [HB.out.1]; decide), h1]
      rw [e1]
    have i0 : (0 : Int) ≤ (n : Int) := by omega
    have i1 : ((n : Nat) : Int) < 16 := by omega
    have Hx := Lib.hid hx
    clear hx hn h1 hc HR f0 f1
    go_upto_region 4 with fail
    obtain ⟨wy, hwy⟩ : ∃ wy, (w2.alloc (.cells (tabA t) 36)) = wy := ⟨_, rfl⟩
    rw [hwy] at Q2 T2 ⊢
    clear hwy hns hsz
    have T3 := Lib.hid (T2.out.later (Below.refl _ _).drew)
    have Q3 := Lib.hid Q2.out.drew
    clear Q2 T2
    have HS : Hid (∀ W, TabAt W w2.heap.size t → TabAt W w2.heap.size t ∧ W.cell? ⟨w2.heap.size, n * 8, none⟩ = some (.int .i64 kd) ∧ W.cell? ⟨w2.heap.size, n * 8 + 1, none⟩ = some (.string mak) ∧ W.cell? ⟨w2.heap.size, n * 8 + 2, none⟩ = some (.int .i64 bn) ∧ W.cell? ⟨w2.heap.size, n * 8 + 3, none⟩ = some (.int .i64 num) ∧ W.cell? ⟨w2.heap.size, n * 8 + 4, none⟩ = some (.int .i64 off) ∧ W.cell? ⟨w2.heap.size, n * 8 + 5, none⟩ = some (.bool rd) ∧ W.cell? ⟨w2.heap.size, n * 8 + 6, none⟩ = some (.bool wr) ∧ W.cell? ⟨w2.heap.size, n * 8 + 7, none⟩ = some (.bool ap)) := fun W h => ⟨h, h.cell Hx.out (j := 0) rfl, h.cell Hx.out (j := 1) rfl, h.cell Hx.out (j := 2) rfl, h.cell Hx.out (j := 3) rfl, h.cell Hx.out (j := 4) rfl, h.cell Hx.out (j := 5) rfl, h.cell Hx.out (j := 6) rfl, h.cell Hx.out (j := 7) rfl⟩
    refine wp_region_held_drew (S := (fun W => TabAt W w2.heap.size t ∧ W.cell? ⟨w2.heap.size, n * 8, none⟩ = some (.int .i64 kd) ∧ W.cell? ⟨w2.heap.size, n * 8 + 1, none⟩ = some (.string mak) ∧ W.cell? ⟨w2.heap.size, n * 8 + 2, none⟩ = some (.int .i64 bn) ∧ W.cell? ⟨w2.heap.size, n * 8 + 3, none⟩ = some (.int .i64 num) ∧ W.cell? ⟨w2.heap.size, n * 8 + 4, none⟩ = some (.int .i64 off) ∧ W.cell? ⟨w2.heap.size, n * 8 + 5, none⟩ = some (.bool rd) ∧ W.cell? ⟨w2.heap.size, n * 8 + 6, none⟩ = some (.bool wr) ∧ W.cell? ⟨w2.heap.size, n * 8 + 7, none⟩ = some (.bool ap))) (by kernel_rfl) (HS.out _ T3.out) (fun hHeld0 => ?_)
    refine wpAnyH_take (i := 0) (v := ?_) rfl (by kernel_rfl) (by kernel_rfl) (by kernel_rfl) (fun _ _ _ h => h) (Or.inl ⟨by rfl, ?_⟩) (by assumption) ?_
    rotate_left
    · (intro wx hSw; (try dsimp only at hSw); go_simp <;> with_reducible rfl)
    try simp only [Act.put, List.setIfInBounds_toArray, List.set_cons_zero, List.set_cons_succ, List.getElem_toArray, List.getElem_cons_zero]
    refine wpAnyH_take (i := 1) (v := ?_) rfl (by kernel_rfl) (by kernel_rfl) (by kernel_rfl) (fun _ _ _ h => h) (Or.inl ⟨by rfl, ?_⟩) (by assumption) ?_
    rotate_left
    · (intro wx hSw; (try dsimp only at hSw); go_simp <;> with_reducible rfl)
    try simp only [Act.put, List.setIfInBounds_toArray, List.set_cons_zero, List.set_cons_succ, List.getElem_toArray, List.getElem_cons_zero, List.getElem_cons_succ]
    refine wpAnyH_take (i := 2) (v := ?_) rfl (by kernel_rfl) (by kernel_rfl) (by kernel_rfl) (fun _ _ _ h => h) (Or.inl ⟨by rfl, ?_⟩) (by assumption) ?_
    rotate_left
    · (intro wx hSw; refine exec_load_tab (x := .tmp 8) ?_ ?_ hSw.1 <;> rfl)
    try simp only [Act.put, List.setIfInBounds_toArray, List.set_cons_zero, List.set_cons_succ, List.getElem_toArray, List.getElem_cons_zero, List.getElem_cons_succ]
    refine wpAnyH_take (i := 3) (v := ?_) rfl (by kernel_rfl) (by kernel_rfl) (by kernel_rfl) (fun _ _ _ h => h) (Or.inl ⟨by rfl, ?_⟩) (by assumption) ?_
    rotate_left
    · (intro wx hSw; (try dsimp only at hSw); go_simp <;> with_reducible rfl)
    try simp only [Act.put, List.setIfInBounds_toArray, List.set_cons_zero, List.set_cons_succ, List.getElem_toArray, List.getElem_cons_zero, List.getElem_cons_succ]
    refine wpAnyH_take (i := 4) (v := ?_) rfl (by kernel_rfl) (by kernel_rfl) (by kernel_rfl) (fun _ _ _ h => h) (Or.inl ⟨by rfl, ?_⟩) (by assumption) ?_
    rotate_left
    · (intro wx hSw; (try dsimp only at hSw); go_simp <;> with_reducible rfl)
    try simp only [Act.put, List.setIfInBounds_toArray, List.set_cons_zero, List.set_cons_succ, List.getElem_toArray, List.getElem_cons_zero, List.getElem_cons_succ]
    refine wpAnyH_take (i := 5) (v := ?_) rfl (by kernel_rfl) (by kernel_rfl) (by kernel_rfl) (fun _ _ _ h => h) (Or.inl ⟨by rfl, ?_⟩) (by assumption) ?_
    rotate_left
    · (intro wx hSw; (try dsimp only at hSw); go_simp <;> with_reducible rfl)
    try simp only [Act.put, List.setIfInBounds_toArray, List.set_cons_zero, List.set_cons_succ, List.getElem_toArray, List.getElem_cons_zero, List.getElem_cons_succ]
    refine wpAnyH_ready (rs := [6]) (by kernel_rfl) (by simp) ?_
    refine AllReadyH.cons rfl (fun K hK => ?_) AllReadyH.nil
    go_simp
    go_at_call 49
    refine (qdAddT Q3.out.s who hw HB.out.2.2 t Hl.out HB.out.2.1 kd mak bn num off rd wr ap Hc.out HL.out).mono ?_
    rintro r w9 ⟨rfl, s9, hk⟩
    have Q9 := Lib.hid (Q3.out.step s9 hk)
    have T9 := Lib.hid (T3.out.kept (hk w2.heap.size (.inr rfl)))
    clear s9 hk
    generalize putR (allV V who) who (addF ⟨kd, mak, bn, num, off, rd, wr, ap⟩ t) = pr at *
    obtain ⟨V9, ⟨rT, rO, rN, rE⟩⟩ := pr
    dsimp only at Q9 ⊢
    go_wp2_with fail
    refine hK.out _ _ (HS.out _ T9.out) (fun hHeld1 => ?_)
    clear hK K hHeld0
    try simp only [Act.put, List.setIfInBounds_toArray, List.set_cons_zero, List.set_cons_succ, List.getElem_toArray, List.getElem_cons_zero, List.getElem_cons_succ]
    refine wpAnyH_take (i := 7) (v := ?_) rfl (by kernel_rfl) (by kernel_rfl) (by kernel_rfl) (fun _ _ _ h => h) (Or.inl ⟨by rfl, ?_⟩) (by assumption) ?_
    rotate_left
    · (intro wx hSw; (try dsimp only at hSw); go_simp <;> with_reducible rfl)
    try simp only [Act.put, List.setIfInBounds_toArray, List.set_cons_zero, List.set_cons_succ, List.getElem_toArray, List.getElem_cons_zero, List.getElem_cons_succ]
    refine wpAnyH_take (i := 8) (v := ?_) rfl (by kernel_rfl) (by kernel_rfl) (by kernel_rfl) (fun _ _ _ h => h) (Or.inl ⟨by rfl, ?_⟩) (by assumption) ?_
    rotate_left
    · (intro wx hSw; (try dsimp only at hSw); go_simp <;> with_reducible rfl)
    try simp only [Act.put, List.setIfInBounds_toArray, List.set_cons_zero, List.set_cons_succ, List.getElem_toArray, List.getElem_cons_zero, List.getElem_cons_succ]
    refine wpAnyH_take (i := 9) (v := ?_) rfl (by kernel_rfl) (by kernel_rfl) (by kernel_rfl) (fun _ _ _ h => h) (Or.inl ⟨by rfl, ?_⟩) (by assumption) ?_
    rotate_left
    · (intro wx hSw; (try dsimp only at hSw); go_simp <;> with_reducible rfl)
    try simp only [Act.put, List.setIfInBounds_toArray, List.set_cons_zero, List.set_cons_succ, List.getElem_toArray, List.getElem_cons_zero, List.getElem_cons_succ]
    refine wpAnyH_take (i := 10) (v := ?_) rfl (by kernel_rfl) (by kernel_rfl) (by kernel_rfl) (fun _ _ _ h => h) (Or.inl ⟨by rfl, ?_⟩) (by assumption) ?_
    rotate_left
    · (intro wx hSw; (try dsimp only at hSw); go_simp <;> with_reducible rfl)
    try simp only [Act.put, List.setIfInBounds_toArray, List.set_cons_zero, List.set_cons_succ, List.getElem_toArray, List.getElem_cons_zero, List.getElem_cons_succ]
    refine wpAnyH_done (by kernel_rfl) ?_ _
    go_wp2
    go_ret2
    rw [HR2.out]
    exact Q9.out.post _
  · have HR := Lib.hid (HRn.out.trans (if_pos h0))
    have hq' : ((e : Int) != 0) = true := bne_iff_ne.2 (by omega)
    clear h0 HRn HO
    go_wp2
    go_ret2
    rw [HR.out]
    exact Q2.out.post _
end
section
variable {w0 w w' : World} {b M k : Nat} {G G' : Nat → Prop} {t : List OpnT} {u : Option (List OpnT)}
end
end Go.Proofs.YtfchfjipkggnkaaGreatDoor
