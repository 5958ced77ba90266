/- PortBroken: a view of a state with whatever value. -/
import Derived.Test.YtemmeopaihmlcaaDoorPorJ
import Derived.Test.YtemmeopaihmlcaaDoorStaG
namespace Go.Proofs.YtemmeopaihmlcaaDoor
open Go.RowKit
attribute [local go_sem ↓] Go.wp_at_zero Go.wp_at_succ

theorem baseOk_up {B B' : Nat} {w : World} {sp : Nat} {f : NameT → Option ByteArray} (h : BaseOk B w sp f) (hB : B ≤ B') : BaseOk B' w sp f := by
  obtain ⟨t, h1, h2⟩ := h
  exact ⟨t, h1.up hB, h2⟩
/-- The open port that a value is, if it is one. -/
def pbO (s : ByteArray) : Option PortT := if (decQ s).2 = 0 then some (decQ s).1 else none
theorem pbO_ok {s : ByteArray} (h : (decQ s).2 = 0) : pbO s = some (decQ s).1 := if_pos h
theorem pbO_bad {s : ByteArray} (h : (decQ s).2 ≠ 0) : pbO s = none := if_neg h
theorem pb_get (s : ByteArray) : avGet ⟨setF (fun _ => none) (ofPortN 200) s, [], []⟩ (ofPortN 200) = (s, true) := by
  have h : setF (fun _ => none) (ofPortN 200) s (ofPortN 200) = some s := if_pos rfl
  show ((setF (fun _ => none) (ofPortN 200) s (ofPortN 200)).getD ⟨#[]⟩, (setF (fun _ => none) (ofPortN 200) s (ofPortN 200)).isSome) = (s, true)
  rw [h]
  rfl
theorem pb_holds (s : ByteArray) (hs : s.size ≤ 65536) : HoldsQ ⟨setF (fun _ => none) (ofPortN 200) s, [], []⟩ 0 200 (pbO s) where
  len := rfl
  no e := by
    rw [pb_get s]
    refine .inr ⟨fun h => ?_, hs⟩
    rw [pbO_ok h] at e
    exact Option.some_ne_none _ e
  yes p e := by
    rw [pb_get s]
    by_cases h : (decQ s).2 = 0
    · rw [pbO_ok h] at e
      obtain ⟨h1, h2, h3⟩ := decQ_canon s h
      have e' := Option.some.inj e
      rw [← e', h1]
      exact ⟨rfl, h2, h3⟩
    · rw [pbO_bad h] at e
      exact absurd e.symm (Option.some_ne_none _)
theorem pb_new (wx : World) (hu : Usages wx) (sp : Nat) (s : ByteArray) (hs : s.size ≤ 65536) (h : BaseOk wx.heap.size wx sp (setF (fun _ => none) (ofPortN 200) s)) :
    Calls Tryd.prog 11 #[.pointer (some ⟨sp, 0, none⟩)] wx fun r w' => r = .returned (.pointer (some ⟨wx.heap.size + 2, 0, none⟩)) ∧ SQ wx w' (wx.heap.size + 2) 0 200 (pbO s) (fun _ => False) :=
  (viewNew_any sp _ wx hu h).mono fun _ _ ⟨h1, h2, h3⟩ => ⟨h1, ⟨⟨_, _, h3, rfl, Nat.le_refl _, pb_holds s hs, fun _ hk => hk.elim⟩, h2⟩⟩
/-- What Get and Open say. -/
theorem pb_ways (s : ByteArray) (e : Int) (he : 0 ≤ e ∧ e ≤ 3) :
    ((decQ s).2 = 0 ∧ (decQ s).1.epoch = e ∧ ∃ p, qHas e (pbO s) = (p, 0) ∧ ∃ o', openStep ⟨#[49]⟩ 3 200 e (pbO s) = (o', 19, 0)) ∨
    ((decQ s).2 = 0 ∧ (decQ s).1.epoch ≠ e ∧ ∃ p, qHas e (pbO s) = (p, 8) ∧ ∃ o', openStep ⟨#[49]⟩ 3 200 e (pbO s) = (o', 0, 1)) ∨
    ((decQ s).2 ≠ 0 ∧ ∃ p, qHas e (pbO s) = (p, 8) ∧ ∃ o', openStep ⟨#[49]⟩ 3 200 e (pbO s) = (o', 0, 1)) := by
  have ha : qArgs ⟨#[49]⟩ 200 e = 0 := by
    unfold qArgs
    rw [if_neg (by rw [show validB ⟨#[49]⟩ = true by decide +kernel]; simp), if_neg (by simp [numB]; omega)]
  have hopen : ∀ q p, qHas e (pbO s) = (p, q) → openStep ⟨#[49]⟩ 3 200 e (pbO s) = if q = 0 then (pbO s, 19, 0) else (some ⟨⟨#[49]⟩, e, 0, []⟩, 0, 1) := by
    intro q p h
    unfold openStep
    rw [ha, if_neg (by simp), if_neg (by omega), h]
  by_cases h0 : (decQ s).2 = 0
  · have ho := pbO_ok h0
    by_cases h1 : (decQ s).1.epoch = e
    · have hq : qHas e (pbO s) = ((decQ s).1, 0) := by rw [ho]; simp [qHas, h1]
      exact .inl ⟨h0, h1, _, hq, _, (hopen _ _ hq).trans (if_pos rfl)⟩
    · have hq : qHas e (pbO s) = (zeroQ, 8) := by rw [ho]; simp [qHas, h1]
      exact .inr (.inl ⟨h0, h1, _, hq, _, (hopen _ _ hq).trans (if_neg (by decide))⟩)
  · have ho := pbO_bad h0
    have hq : qHas e (pbO s) = (zeroQ, 8) := by rw [ho]; rfl
    exact .inr (.inr ⟨h0, _, hq, _, (hopen _ _ hq).trans (if_neg (by decide))⟩)
end Go.Proofs.YtemmeopaihmlcaaDoor
