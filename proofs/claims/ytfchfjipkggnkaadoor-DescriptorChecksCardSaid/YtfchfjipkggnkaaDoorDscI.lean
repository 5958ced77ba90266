/- descriptor: the first free descriptor, add. (printed by wip/gen_dsci.py) -/
import Derived.Test.YtfchfjipkggnkaaDoorDscH
namespace Go.Proofs.YtfchfjipkggnkaaDoor
open Go.RowKit
attribute [local go_sem ↓] run_eql_opn run_neq_opn

set_option maxRecDepth 100000 in
theorem isFree_any (kd : Int) (mak : ByteArray) (bn num off : Int) (rd wr ap : Bool) (w : World) : Calls Tryd.prog 70 #[.agg #[.int .i64 kd, .string mak, .int .i64 bn, .int .i64 num, .int .i64 off, .bool rd, .bool wr, .bool ap]] w fun r w' => r = .returned (.bool (isZ ⟨kd, mak, bn, num, off, rd, wr, ap⟩)) ∧ Below w.heap.size w w' := by
  have HB : Hid (∀ v t, Below w.heap.size w (w.alloc (.cells v t))) := fun v t => (Below.refl _ _).alloc (Nat.le_refl _) _
  have HZ : Hid (sameO ⟨kd, mak, bn, num, off, rd, wr, ap⟩ ⟨0, ⟨#[]⟩, 0, 0, 0, false, false, false⟩ = isZ ⟨kd, mak, bn, num, off, rd, wr, ap⟩) := rfl
  go_enter Tryd.func70, Tryd.ntmps70
  go_wp2
  go_ret
  rw [HZ.out]
  exact ⟨rfl, HB.out _ _⟩
def freeI (t : List OpnT) : Int := match freeO t 0 with
  | none => -1
  | some i => i
theorem free_step {t : List OpnT} {k : Nat} {x : OpnT} (h : t[k]? = some x) : freeO (t.drop k) k = if isZ x = true then some k else freeO (t.drop (k + 1)) (k + 1) := by
  obtain ⟨hk, rfl⟩ := List.getElem?_eq_some_iff.1 h
  rw [List.drop_eq_getElem_cons hk]
  rfl
theorem free_end {t : List OpnT} (h : t.length = 16) : freeO (t.drop 16) 16 = none := by
  rw [List.drop_of_length_le (by omega)]
  rfl
theorem freeI_some {t : List OpnT} {i : Nat} (h : freeO t 0 = some i) : freeI t = i := by unfold freeI; rw [h]
theorem freeI_none {t : List OpnT} (h : freeO t 0 = none) : freeI t = -1 := by unfold freeI; rw [h]
set_option maxRecDepth 100000 in
set_option maxHeartbeats 3200000 in
theorem indexFree_any (T : Nat) (t : List OpnT) (w : World) (h : TabAt w T t) : Calls Tryd.prog 69 #[.slice (some ⟨T, 0, none⟩) 16 16, .func (.func 70) #[] #[]] w fun r w' => r = .returned (.int .i64 (freeI t)) ∧ Below w.heap.size w w' := by
  have H := Lib.hid h; clear h
  go_enter Tryd.func69, Tryd.ntmps69
  go_wp2
  go_loopw [8] (fun i wr => ∃ k : Nat, k ≤ 16 ∧ i = .int .i64 k ∧ Hid (freeO t 0 = freeO (t.drop k) k) ∧ Hid (Below w.heap.size w wr)) (fun i _ => 16 - (intOf i).toNat)
  case atStart => exact ⟨0, by omega, rfl, rfl, Below.refl _ _⟩
  case round =>
    obtain ⟨k, hk, rfl, HF, HB⟩ := hrel
    by_cases h5 : k < 16
    · obtain ⟨x, hx⟩ := ent_some H.out.2 h5
      have Hst := Lib.hid (free_step hx)
      have HT := H.out.later HB.out
      obtain ⟨kd, mak, bn, num, off, rd, wr_, ap⟩ := x
      have z0 : wr.cell? ⟨T, k * 8, none⟩ = some (.int .i64 kd) := HT.cell hx (j := 0) rfl
      have z1 : wr.cell? ⟨T, k * 8 + 1, none⟩ = some (.string mak) := HT.cell hx (j := 1) rfl
      have z2 : wr.cell? ⟨T, k * 8 + 2, none⟩ = some (.int .i64 bn) := HT.cell hx (j := 2) rfl
      have z3 : wr.cell? ⟨T, k * 8 + 3, none⟩ = some (.int .i64 num) := HT.cell hx (j := 3) rfl
      have z4 : wr.cell? ⟨T, k * 8 + 4, none⟩ = some (.int .i64 off) := HT.cell hx (j := 4) rfl
      have z5 : wr.cell? ⟨T, k * 8 + 5, none⟩ = some (.bool rd) := HT.cell hx (j := 5) rfl
      have z6 : wr.cell? ⟨T, k * 8 + 6, none⟩ = some (.bool wr_) := HT.cell hx (j := 6) rfl
      have z7 : wr.cell? ⟨T, k * 8 + 7, none⟩ = some (.bool ap) := HT.cell hx (j := 7) rfl
      clear hx HT
      go_wp2_with fail
      refine (isFree_any kd mak bn num off rd wr_ ap _).mono ?_
      rintro r w2 ⟨rfl, hb⟩
      have HB2 : Hid (Below w.heap.size w w2) := HB.out.trans (hb.mono HB.out.size)
      clear hb
      cases hz : isZ ⟨kd, mak, bn, num, off, rd, wr_, ap⟩ with
      | true =>
        have he : Hid (freeI t = k) := freeI_some (HF.out.trans (Hst.out.trans (if_pos hz)))
        clear hz Hst
        go_wp2
        go_ret
        rw [he.out]
        exact ⟨rfl, HB2.out⟩
      | false =>
        have he : Hid (freeO t 0 = freeO (t.drop (k + 1)) (k + 1)) := HF.out.trans (Hst.out.trans (if_neg (by rw [hz]; decide)))
        clear hz Hst
        go_wp2
        go_roundw
        case rel => exact ⟨k + 1, by omega, by go_num, he.out, HB2.out⟩
        case measure => simp [intOf]; omega
    · obtain rfl : k = 16 := by omega
      have he : Hid (freeI t = -1) := freeI_none (HF.out.trans (free_end H.out.2))
      go_wp2
      go_ret
      rw [he.out]
      exact ⟨rfl, HB.out⟩
theorem freeI_cases (t : List OpnT) (ht : t.length = 16) : (freeO t 0 = none ∧ freeI t = -1) ∨ ∃ i, freeO t 0 = some i ∧ freeI t = (i : Int) ∧ i < 16 := by
  cases h : freeO t 0 with
  | none => exact .inl ⟨rfl, freeI_none h⟩
  | some i => exact .inr ⟨i, rfl, freeI_some h, by have := freeO_lt h; omega⟩
theorem maks_ok {t : List OpnT} (h : tabE t = 0) : ∀ o ∈ t, o.mak.size ≤ 70368744177664 := fun o ho => by
  cases hz : isZ o with
  | true => rw [isZ_iff.1 hz]; exact Nat.zero_le _
  | false => exact Nat.le_trans (checkO_ok (tabE_mem h o ho hz)).mak (by decide)
end Go.Proofs.YtfchfjipkggnkaaDoor
