/- object.Word. -/
import Derived.Test.YtfobmfenjdiimaaGreatDoorObjA
namespace Go.Proofs.YtfobmfenjdiimaaGreatDoor
open Go.RowKit
def okByte (b : UInt8) : Bool := decide (33 ≤ b.toNat) && decide (b.toNat ≤ 126) && decide (b.toNat ≠ 47)
def wordB (s : ByteArray) : Bool := decide (0 < s.size) && decide (s.size ≤ 32) && s.data.toList.all okByte
theorem all_getD {l : List UInt8} {p : UInt8 → Bool} : l.all p = true ↔ ∀ j, j < l.length → p (l.getD j 0) = true := by
  rw [List.all_eq_true]
  constructor
  · intro h j hj
    have := h l[j] (List.getElem_mem hj)
    simpa [hj] using this
  · intro h x hx
    obtain ⟨j, hj, rfl⟩ := List.getElem_of_mem hx
    simpa [hj] using h j hj
theorem all_bad {l : List UInt8} {p : UInt8 → Bool} {k : Nat} (hk : k < l.length) (h : p (l.getD k 0) = false) : l.all p = false := by
  cases h' : l.all p with
  | false => rfl
  | true => rw [all_getD.1 h' k hk] at h; cases h

set_option maxRecDepth 100000 in
set_option maxHeartbeats 1000000 in
theorem word_any (s : ByteArray) (w : World) (hs : s.size ≤ 9223372036854775807) : Calls Tryz.prog 59 #[.string s] w fun r w' => r = .returned (.bool (wordB s)) ∧ w = w' := by
  have hte := toList_empty s
  by_cases h0 : s.size = 0
  · have he : Hid (wordB s = false) := by show _ = _; simp [wordB, h0]
    have hte' : s.toList.isEmpty = true := by simpa [h0] using hte
    clear hte
    go_enter Tryz.func59, Tryz.ntmps59
    go_wp2
    go_ret
    rw [he.out]
    exact ⟨rfl, rfl⟩
  have hte' : s.toList.isEmpty = false := by simpa [h0] using hte
  clear hte
  by_cases hl : 32 < s.size
  · have he : Hid (wordB s = false) := by show _ = _; simp [wordB]; omega
    go_enter Tryz.func59, Tryz.ntmps59
    go_wp2
    go_ret
    rw [he.out]
    exact ⟨rfl, rfl⟩
  · have Hte := Lib.hid hte'
    go_enter Tryz.func59, Tryz.ntmps59
    go_wp2
    go_loop [13] (fun i => ∃ k : Nat, k ≤ s.size ∧ i = .int .i64 k ∧ Hid (∀ j, j < k → okByte (s.data.toList.getD j 0) = true)) (fun i => s.size - (intOf i).toNat)
    case atStart => exact ⟨0, by omega, rfl, fun j hj => by omega⟩
    case round =>
      obtain ⟨k, hk, rfl, Hd⟩ := hrel
      by_cases h1 : k < s.size
      · have hgb := at_byte s k h1
        have hlt : k < s.data.toList.length := by rw [size_toList]; exact h1
        have Hlt := Lib.hid hlt; clear hlt
        cases hb : okByte (s.data.toList.getD k 0) with
        | false =>
          have he : Hid (wordB s = false) := by show _ = _; unfold wordB; rw [all_bad Hlt.out hb, Bool.and_false]
          have hways : (s[k]'h1).toNat < 33 ∨ (33 ≤ (s[k]'h1).toNat ∧ 126 < (s[k]'h1).toNat) ∨ (33 ≤ (s[k]'h1).toNat ∧ (s[k]'h1).toNat ≤ 126 ∧ (((s[k]'h1).toNat : Int) == 47) = true) := by
            rw [hgb]
            simp only [okByte, Bool.and_eq_false_iff, decide_eq_false_iff_not] at hb
            by_cases a1 : (s.data.toList.getD k 0).toNat < 33
            · exact .inl a1
            · by_cases a2 : 126 < (s.data.toList.getD k 0).toNat
              · exact .inr (.inl ⟨by omega, a2⟩)
              · exact .inr (.inr ⟨by omega, by omega, beq_iff_eq.2 (by omega)⟩)
          clear hgb hb
          rcases hways with h2 | ⟨h2, h3⟩ | ⟨h2, h3, h4⟩
          all_goals
            go_wp2
            go_ret
            rw [he.out]
            exact ⟨rfl, rfl⟩
        | true =>
          have hok := hb
          simp only [okByte, Bool.and_eq_true, decide_eq_true_eq] at hok
          obtain ⟨⟨h2, h3⟩, h4⟩ := hok
          have Hb := Lib.hid hb; clear hb
          rw [← hgb] at h2 h3 h4
          have h4' : (((s[k]'h1).toNat : Int) == 47) = false := beq_eq_false_iff_ne.2 (by omega)
          clear hgb h4
          go_wp2
          go_round
          case rel =>
            refine ⟨k + 1, by omega, by go_num, fun j hj => ?_⟩
            by_cases hjk : j = k
            · subst hjk; exact Hb.out
            · exact Hd.out j (by omega)
          case measure => simp [intOf]; omega
      · have he : Hid (wordB s = true) := by
          show _ = _
          have : s.data.toList.all okByte = true := all_getD.2 (fun j hj => Hd.out j (by rw [size_toList] at hj; omega))
          simp [wordB, this]
          omega
        go_wp2
        go_ret
        rw [he.out]
        exact ⟨rfl, rfl⟩
theorem word_is (s : ByteArray) (v : Bool) (h : wordB s = v) (w : World) (hs : s.size ≤ 9223372036854775807) : Calls Tryz.prog 59 #[.string s] w fun r w' => r = .returned (.bool v) ∧ w = w' := by
  subst h; exact word_any s w hs
end Go.Proofs.YtfobmfenjdiimaaGreatDoor
