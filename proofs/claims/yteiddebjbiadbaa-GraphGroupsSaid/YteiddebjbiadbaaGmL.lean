/- graph: After, Before; the methods at nil. (printed by wip/gen_gml.py) -/
import Derived.Test.YteiddebjbiadbaaGmP
import Derived.Test.YteiddebjbiadbaaGmN
namespace Go.Proofs.Yteiddebjbiadbaa
open Go.RowKit Gr
attribute [local go_sem ↓] Go.wp_at_zero Go.wp_at_succ

def NbPost (w : World) (n : Nat) (A : Nat → List Nat) (x : Int) (r : Ending) (w' : World) : Prop :=
  Below w.heap.size w w' ∧ (nodeB n x = false ∧ r = .returned (.slice none 0 0) ∨ ∃ a : Nat, x = a ∧ a < n ∧ ∃ v, r = .returned v ∧ OwnK kNat w.heap.size w' v (A a))
theorem gAfter_any {w : World} {p n : Nat} {A B : Nat → List Nat} (h : GOk w p n A B) (x : Int) : Calls Try.prog 30 #[.pointer (some ⟨p, 0, none⟩), .int .i64 x] w (NbPost w n A x) := by
  have H := Lib.hid h
  obtain ⟨hn, ga, gb, c0, c1, hra, hrb⟩ := h.at_
  have Hra := Lib.hid hra
  clear h hra hrb
  by_cases hf : nodeB n x = false
  · have Hf := Lib.hid hf
    go_enter Try.func30, Try.ntmps30
    go_wp2_with fail
    refine (has_any H.out.at_ x).mono ?_
    rintro r y ⟨rfl, rfl⟩
    rw [hf]
    go_wp2
    go_ret
    exact ⟨Below.refl _ _, .inl ⟨Hf.out, rfl⟩⟩
  have hf1 : nodeB n x = true := by simpa using hf
  have hf2 := nodeB_iff.1 hf1
  obtain ⟨a, rfl⟩ := Int.eq_ofNat_of_zero_le hf2.1
  have Han : Hid (a < n) := by have := hf2.2; show _ < _; omega
  obtain ⟨v, hv1, hv2⟩ := Hra.out a Han.out
  obtain ⟨ra, rc, rfl, -⟩ := hv2.form
  have HC := Lib.hid (cloneI_any hv2 (by have := H.out.la a; omega))
  have hai : (a : Int) < (n : Int) := hf2.2
  clear hf hf2 hv2
  go_enter Try.func30, Try.ntmps30
  go_wp2_with fail
  refine (has_any H.out.at_ (a : Int)).mono ?_
  rintro r y ⟨rfl, rfl⟩
  rw [hf1]
  go_wp2_with fail
  refine HC.out.mono ?_
  rintro r w2 ⟨v2, rfl, ho2, hb2⟩
  have HO2 := Lib.hid ho2
  have HB2 := Lib.hid hb2
  clear ho2 hb2 HC
  go_wp2
  go_ret
  exact ⟨HB2.out, .inr ⟨a, rfl, Han.out, _, rfl, HO2.out⟩⟩
theorem gAfter_nil (w : World) (x : Int) : Calls Try.prog 30 #[.pointer none, .int .i64 x] w fun r w' => r = .returned (.slice none 0 0) ∧ w' = w := by
  go_enter Try.func30, Try.ntmps30
  go_wp2_with fail
  refine (has_nil w x).mono ?_
  rintro r y ⟨rfl, rfl⟩
  go_wp2
  go_ret
  exact ⟨rfl, rfl⟩
theorem gBefore_any {w : World} {p n : Nat} {A B : Nat → List Nat} (h : GOk w p n A B) (x : Int) : Calls Try.prog 32 #[.pointer (some ⟨p, 0, none⟩), .int .i64 x] w (NbPost w n B x) := by
  have H := Lib.hid h
  obtain ⟨hn, ga, gb, c0, c1, hra, hrb⟩ := h.at_
  have Hra := Lib.hid hrb
  clear h hra hrb
  by_cases hf : nodeB n x = false
  · have Hf := Lib.hid hf
    go_enter Try.func32, Try.ntmps32
    go_wp2_with fail
    refine (has_any H.out.at_ x).mono ?_
    rintro r y ⟨rfl, rfl⟩
    rw [hf]
    go_wp2
    go_ret
    exact ⟨Below.refl _ _, .inl ⟨Hf.out, rfl⟩⟩
  have hf1 : nodeB n x = true := by simpa using hf
  have hf2 := nodeB_iff.1 hf1
  obtain ⟨a, rfl⟩ := Int.eq_ofNat_of_zero_le hf2.1
  have Han : Hid (a < n) := by have := hf2.2; show _ < _; omega
  obtain ⟨v, hv1, hv2⟩ := Hra.out a Han.out
  obtain ⟨ra, rc, rfl, -⟩ := hv2.form
  have HC := Lib.hid (cloneI_any hv2 (by have := H.out.lb a; omega))
  have hai : (a : Int) < (n : Int) := hf2.2
  clear hf hf2 hv2
  go_enter Try.func32, Try.ntmps32
  go_wp2_with fail
  refine (has_any H.out.at_ (a : Int)).mono ?_
  rintro r y ⟨rfl, rfl⟩
  rw [hf1]
  go_wp2_with fail
  refine HC.out.mono ?_
  rintro r w2 ⟨v2, rfl, ho2, hb2⟩
  have HO2 := Lib.hid ho2
  have HB2 := Lib.hid hb2
  clear ho2 hb2 HC
  go_wp2
  go_ret
  exact ⟨HB2.out, .inr ⟨a, rfl, Han.out, _, rfl, HO2.out⟩⟩
theorem gBefore_nil (w : World) (x : Int) : Calls Try.prog 32 #[.pointer none, .int .i64 x] w fun r w' => r = .returned (.slice none 0 0) ∧ w' = w := by
  go_enter Try.func32, Try.ntmps32
  go_wp2_with fail
  refine (has_nil w x).mono ?_
  rintro r y ⟨rfl, rfl⟩
  go_wp2
  go_ret
  exact ⟨rfl, rfl⟩
theorem path_nil (w : World) (f t : Int) : Calls Try.prog 13 #[.pointer none, .int .i64 f, .int .i64 t] w fun r w' => r = .returned nilT ∧ w' = w := by
  go_enter Try.func13, Try.ntmps13
  go_wp2_with fail
  refine (has_nil w f).mono ?_
  rintro r y ⟨rfl, rfl⟩
  go_wp2
  refine bodyPost_ret (v := nilT) (by simp [results, nilT, Try.results13, go_sem]) rfl ?_
  exact ⟨rfl, rfl⟩
theorem order_nil (w : World) : Calls Try.prog 29 #[.pointer none] w fun r w' => r = .returned nilT ∧ w' = w := by
  go_enter Try.func29, Try.ntmps29
  go_wp2
  refine bodyPost_ret (v := nilT) (by simp [results, nilT, Try.results29, go_sem]) rfl ?_
  exact ⟨rfl, rfl⟩
theorem nodes_nil (w : World) : Calls Try.prog 23 #[.pointer none] w fun r w' => r = .returned (.int .i64 0) ∧ w' = w := by
  go_enter Try.func23, Try.ntmps23
  go_wp2
  go_ret
  exact ⟨rfl, rfl⟩
theorem edges_nil (w : World) : Calls Try.prog 25 #[.pointer none] w fun r w' => r = .returned (.slice none 0 0) ∧ w' = w := by
  go_enter Try.func25, Try.ntmps25
  go_wp2
  go_ret
  exact ⟨rfl, rfl⟩
theorem reach_nil (w : World) (v : Value) : Calls Try.prog 16 #[.pointer none, v] w fun r w' => r = .returned (.slice none 0 0) ∧ Below w.heap.size w w' := by
  go_enter Try.func16, Try.ntmps16
  go_wp2
  go_ret
  exact ⟨rfl, Below.refl _ _⟩
theorem between_nil (w : World) (v u : Value) : Calls Try.prog 18 #[.pointer none, v, u] w fun r w' => r = .returned (.slice none 0 0) ∧ Below w.heap.size w w' := by
  go_enter Try.func18, Try.ntmps18
  go_wp2
  go_ret
  exact ⟨rfl, Below.refl _ _⟩
theorem reverse_nil (w : World) : Calls Try.prog 34 #[.pointer none] w fun r w' => r = .returned (.pointer none) ∧ Below w.heap.size w w' := by
  go_enter Try.func34, Try.ntmps34
  go_wp2
  go_ret
  exact ⟨rfl, Below.refl _ _⟩
theorem components_nil (w : World) : Calls Try.prog 26 #[.pointer none] w fun r w' => r = .returned (.slice none 0 0) ∧ Below w.heap.size w w' := by
  have hb : Below w.heap.size w (w.alloc (.cells #[.pointer none] 25)) := (Below.refl _ _).alloc (Nat.le_refl _) _
  go_enter Try.func26, Try.ntmps26
  go_wp2
  go_ret
  exact ⟨rfl, hb⟩
theorem hasEdge_nil (w : World) (x y : Int) : Calls Try.prog 28 #[.pointer none, .int .i64 x, .int .i64 y] w fun r w' => r = .returned (.bool false) ∧ w' = w := by
  go_enter Try.func28, Try.ntmps28
  go_wp2_with fail
  refine (has_nil w x).mono ?_
  rintro r y ⟨rfl, rfl⟩
  go_wp2
  go_ret
  exact ⟨rfl, rfl⟩
end Go.Proofs.Yteiddebjbiadbaa
