/- view.Holds. -/
import Derived.Test.YthghfhnicdoebaaGreatDoorStaI
import Derived.Deep.LoopGhost
namespace Go.Proofs.YthghfhnicdoebaaGreatDoor
open Go.RowKit
attribute [local go_sem ↓] Go.wp_at_zero Go.wp_at_succ

/-- A change says what a state has. -/
def okC (f : NameT → Option ByteArray) (c : ChangeT) : Bool := match f c.name with
  | none => c.absent
  | some x => !c.absent && decide (x = c.value)
def holdsB (f : NameT → Option ByteArray) (cs : List ChangeT) : Bool := cs.all (okC f)
theorem holds_take {f : NameT → Option ByteArray} {cs : List ChangeT} {k : Nat} {c : ChangeT} (h : cs[k]? = some c) : holdsB f (cs.take (k + 1)) = (holdsB f (cs.take k) && okC f c) := by
  unfold holdsB
  rw [List.take_add_one, h]
  simp
theorem holds_bad {f : NameT → Option ByteArray} {cs : List ChangeT} {k : Nat} {c : ChangeT} (h : cs[k]? = some c) (hc : okC f c = false) : holdsB f cs = false := by
  unfold holdsB
  rw [List.all_eq_false]
  exact ⟨c, List.mem_of_getElem? h, by rw [hc]; decide⟩

set_option maxRecDepth 100000 in
set_option maxHeartbeats 3200000 in
theorem holds_any {N B sp : Nat} {f : NameT → Option ByteArray} {v : Value} {cs : List ChangeT} {w : World} (hb : BaseN N B w sp f) (hB : B ≤ w.heap.size) (hr : RowC w v cs) (hf : ∀ c ∈ cs, FitN c.name) (hlen : cs.length ≤ 100000) :
    Calls Tryz.prog 16 #[.pointer (some ⟨sp, 0, none⟩), v] w fun r w' => r = .returned (.bool (holdsB f cs)) ∧ Below w.heap.size w w' := by
  obtain ⟨t, ht, -, hft⟩ := hb
  have HT := Lib.hid ht
  have HFt := Lib.hid hft
  have HRow := Lib.hid hr
  have HF := Lib.hid hf
  obtain ⟨a, cap, rfl, -⟩ := hr
  have HTk : Hid (holdsB f cs = holdsB f (cs.take cs.length)) := by show _ = _; rw [List.take_length]
  generalize hnn : cs.length = n at *
  have Hn := Lib.hid hnn
  clear hnn ht hft hf
  go_enter Tryz.func16, Tryz.ntmps16
  go_wp2_with fail
  go_loopg [13] n (fun gk iv wr => ∃ k : Nat, k + gk = n ∧ iv = .int .i64 k ∧ Hid (holdsB f (cs.take k) = true) ∧ Hid (Below w.heap.size w wr))
  case atStart => exact ⟨0, by omega, rfl, rfl, Below.refl _ _⟩
  case round =>
    obtain ⟨k, hk, rfl, HOk, HBw⟩ := hrel
    have Hk := Lib.hid hk
    have hkn : k ≤ n := by omega
    clear hk
    by_cases hlt : k < n
    · have hkl : k < cs.length := by rw [Hn.out]; exact hlt
      have hx : cs[k]? = some cs[k] := List.getElem?_eq_getElem hkl
      have HFx := Lib.hid (HF.out _ (List.getElem_mem hkl))
      generalize cs[k] = x at *
      have HSt := Lib.hid (holds_take (f := f) hx)
      have HBad := Lib.hid (holds_bad (f := f) hx)
      obtain ⟨q, cap', e1, hr1⟩ := HRow.out.later HBw.out
      obtain ⟨g, ea, hc1⟩ := hr1 k x hx
      obtain ⟨e2, -, -⟩ := Value.slice.inj e1
      subst e2
      subst ea
      obtain ⟨⟨c1, c2, c3, c4, c5⟩, c6, c7⟩ := x
      have a0 : wr.cell? ⟨g, k * 7, none⟩ = some (.int .i64 c1) := hc1 0 _ rfl
      have a1 : wr.cell? ⟨g, k * 7 + 1, none⟩ = some (.string c2) := hc1 1 _ rfl
      have a2 : wr.cell? ⟨g, k * 7 + 2, none⟩ = some (.int .i64 c3) := hc1 2 _ rfl
      have a3 : wr.cell? ⟨g, k * 7 + 3, none⟩ = some (.int .i64 c4) := hc1 3 _ rfl
      have a4 : wr.cell? ⟨g, k * 7 + 4, none⟩ = some (.string c5) := hc1 4 _ rfl
      have a5 : wr.cell? ⟨g, k * 7 + 5, none⟩ = some (.string c6) := hc1 5 _ rfl
      have a6 : wr.cell? ⟨g, k * 7 + 6, none⟩ = some (.bool c7) := hc1 6 _ rfl
      have HG : Hid (∀ o, Calls Tryz.prog 47 #[.pointer (some ⟨sp, 0, none⟩), .agg #[.int .i64 c1, .string c2, .int .i64 c3, .int .i64 c4, .string c5]] (wr.alloc o) (GetPost (wr.alloc o) (getL cmpN t.ents ⟨c1, c2, c3, c4, c5⟩))) := fun o => stateGet_any B sp t ⟨c1, c2, c3, c4, c5⟩ _ (HT.out.later ((HBw.out.alloc HBw.out.size _).mono hB)) HFx.out
      have HOc : Hid (okC f ⟨⟨c1, c2, c3, c4, c5⟩, c6, c7⟩ = match getL cmpN t.ents ⟨c1, c2, c3, c4, c5⟩ with | none => c7 | some y => !c7 && decide (y = c6)) := by show _ = _; unfold okC; rw [HFt.out]
      clear hx hc1 hr1 e1
      have HB1 : Hid (∀ o, Below w.heap.size w (wr.alloc o)) := fun o => HBw.out.alloc HBw.out.size _
      generalize getL cmpN t.ents ⟨c1, c2, c3, c4, c5⟩ = gg at *
      go_wp2_with fail
      refine (HG.out _).mono ?_
      have HX := Lib.hid (heap_alloc_new wr (.cells #[.int .i64 c1, .string c2, .int .i64 c3, .int .i64 c4, .string c5, .string c6, .bool c7] 64))
      have HBU := Lib.hid (HB1.out (.cells #[.int .i64 c1, .string c2, .int .i64 c3, .int .i64 c4, .string c5, .string c6, .bool c7] 64))
      generalize wr.alloc (.cells #[.int .i64 c1, .string c2, .int .i64 c3, .int .i64 c4, .string c5, .string c6, .bool c7] 64) = U at *
      rintro r w9 ⟨rfl, hb9⟩
      have HX9 := Lib.hid ((hb9.block _ (lt_of_heap HX.out)).trans HX.out)
      have HB9 : Hid (Below w.heap.size w w9) := HBU.out.trans (hb9.mono HBU.out.size)
      clear hb9 a0 a1 a2 a3 a4 a5 a6 HX HBU HG HB1
      have y5 := cell_of_heap HX9.out 5
      have y6 := cell_of_heap HX9.out 6
      cases gg with
      | none =>
        cases c7 with
        | true =>
          have HN : Hid (holdsB f (cs.take (k + 1)) = true) := by show _ = _; rw [HSt.out, HOk.out, HOc.out]; rfl
          go_wp2
          go_roundg (n - (k + 1))
          case measure => have := Hk.out; omega
          case rel => exact ⟨k + 1, by have := Hk.out; omega, by go_num, HN.out, HB9.out⟩
        | false =>
          have HN : Hid (holdsB f cs = false) := HBad.out (by rw [HOc.out])
          go_wp2
          go_ret
          exact ⟨by rw [HN.out]; rfl, HB9.out⟩
      | some y =>
        cases c7 with
        | true =>
          have HN : Hid (holdsB f cs = false) := HBad.out (by rw [HOc.out]; rfl)
          go_wp2
          go_ret
          exact ⟨by rw [HN.out]; rfl, HB9.out⟩
        | false =>
          by_cases hy : y = c6
          · have HN : Hid (holdsB f (cs.take (k + 1)) = true) := by show _ = _; rw [HSt.out, HOk.out, HOc.out]; simp [hy]
            have hyy : (y.toList == c6.toList) = true := by rw [hy]; simp
            clear hy
            go_wp2
            go_roundg (n - (k + 1))
            case measure => have := Hk.out; omega
            case rel => exact ⟨k + 1, by have := Hk.out; omega, by go_num, HN.out, HB9.out⟩
          · have HN : Hid (holdsB f cs = false) := HBad.out (by rw [HOc.out]; simp [hy])
            have hyy : (y.toList == c6.toList) = false := by rw [str_beq]; exact decide_eq_false hy
            clear hy
            go_wp2
            go_ret
            exact ⟨by rw [HN.out]; rfl, HB9.out⟩
    · have hkn' : k = n := by omega
      have HF2 : Hid (holdsB f cs = true) := by show _ = _; rw [HTk.out, ← hkn']; exact HOk.out
      clear hkn'
      go_wp2
      go_ret
      exact ⟨by rw [HF2.out]; rfl, HBw.out⟩
end Go.Proofs.YthghfhnicdoebaaGreatDoor
