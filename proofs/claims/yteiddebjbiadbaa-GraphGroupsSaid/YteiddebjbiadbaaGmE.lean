/- law 08: sameEdges. -/
import Derived.Test.YteiddebjbiadbaaGmT
namespace Go.Proofs.Yteiddebjbiadbaa
open Go.RowKit Gr
attribute [local go_sem ↓] Go.wp_at_zero Go.wp_at_succ

theorem RowK.pairE {w : World} {v : Value} {l : List (Int × Int)} (h : RowK kEdge w v l) {i : Nat} {x y : Int} (hx : l[i]? = some (x, y)) : ∃ g off c, v = .slice (some ⟨g, off, none⟩) l.length c ∧ w.cell? ⟨g, off + i * 2, none⟩ = some (.int .i64 x) ∧ w.cell? ⟨g, off + i * 2 + 1, none⟩ = some (.int .i64 y) := by
  rcases h with ⟨-, rfl⟩ | ⟨g, off, c, rfl, hc, h⟩
  · simp at hx
  · have h1 := h i _ hx 0 _ rfl
    have h2 := h i _ hx 1 _ rfl
    simp only [kEdge] at h1 h2
    exact ⟨g, off, c, rfl, h1, h2⟩
set_option maxHeartbeats 1600000 in
theorem sameEdges_any {w : World} {va vb : Value} {la lb : List (Int × Int)} (ha : RowK kEdge w va la) (hb : RowK kE w vb lb) (hs : la.length ≤ 1000000) :
    Calls Try.prog 24 #[va, vb] w fun r w' => r = .returned (.bool (decide (la = lb))) ∧ Below w.heap.size w w' := by
  obtain ⟨aa, ca, rfl, -⟩ := ha.form
  obtain ⟨ab, cb, rfl, -⟩ := hb.form
  have Ha := Lib.hid ha
  have Hb := Lib.hid hb
  clear ha hb
  go_enter Try.func24, Try.ntmps24
  by_cases hl : la.length = lb.length
  · have Hl := Lib.hid hl
    have hli : ((la.length : Int) = (lb.length : Int)) := by omega
    clear hl
    go_wp2
    go_loopg [5] la.length (fun gk iv wr => ∃ k : Nat, k + gk = la.length ∧ iv = .int .i64 k ∧ Below w.heap.size w wr ∧ Hid (∀ j, j < k → la[j]? = lb[j]?))
    case atStart => exact ⟨0, by omega, rfl, Below.refl _ _, fun j hj => absurd hj (by omega)⟩
    case round =>
      obtain ⟨k, hk, rfl, hw, hj⟩ := hrel
      by_cases hlt : k < la.length
      · obtain ⟨⟨x1, x2⟩, hx⟩ : ∃ x, la[k]? = some x := ⟨_, List.getElem?_eq_getElem hlt⟩
        obtain ⟨⟨y1, y2⟩, hy⟩ : ∃ y, lb[k]? = some y := ⟨_, List.getElem?_eq_getElem (by have := Hl.out; omega)⟩
        obtain ⟨ga, oa, c, hv, c1, c2⟩ := ((Ha.out.later hw).pairE hx)
        obtain ⟨rfl, rfl⟩ : aa = some ⟨ga, oa, none⟩ ∧ ca = c := by simpa using hv
        obtain ⟨gb, ob, c, hv2, c3, c4⟩ := ((Hb.out.later hw).pair hy)
        obtain ⟨rfl, rfl⟩ : ab = some ⟨gb, ob, none⟩ ∧ cb = c := by simpa using hv2
        have hlb : (k : Int) < (lb.length : Int) := by have := Hl.out; omega
        have hla : (k : Int) < (la.length : Int) := by omega
        have Hlt := Lib.hid hlt
        have Hk := Lib.hid hk
        have Hx := Lib.hid hx
        have Hy := Lib.hid hy
        clear hv hv2 hx hy
        go_upto_region 6 with fail
        by_cases h1 : x1 = y1
        · subst h1
          by_cases h2 : x2 = y2
          · subst h2
            go_quiet (fail)
            go_wp2
            go_roundg (la.length - (k + 1))
            case measure => have := Hlt.out; have := Hk.out; omega
            case rel => exact ⟨k + 1, by have := Hlt.out; have := Hk.out; have := Hl.out; omega, by go_num, Below.dn hw _, fun j hj2 => by
              rcases (by omega : j < k ∨ j = k) with q | q
              · exact hj.out j q
              · rw [q, Hx.out, Hy.out]⟩
          · have hne : decide (la = lb) = false := decide_eq_false (fun e => h2 (by have := Hx.out; rw [e, Hy.out] at this; exact (Prod.mk.inj (Option.some.inj this)).2.symm))
            have hd : decide (x2 = y2) = false := decide_eq_false h2
            go_quiet (fail)
            go_wp2
            go_ret
            rw [hne]
            exact ⟨rfl, Below.dn hw _⟩
        · have hne : decide (la = lb) = false := decide_eq_false (fun e => h1 (by have := Hx.out; rw [e, Hy.out] at this; exact (Prod.mk.inj (Option.some.inj this)).1.symm))
          have hd : decide (x1 = y1) = false := decide_eq_false h1
          go_quiet (fail)
          go_wp2
          go_ret
          rw [hne]
          exact ⟨rfl, Below.dn hw _⟩
      · have he : la = lb := List.ext_getElem? (fun j => by
          by_cases q : j < la.length
          · exact hj.out j (by omega)
          · rw [List.getElem?_eq_none (by omega), List.getElem?_eq_none (by have := Hl.out; omega)])
        have heq : decide (la = lb) = true := decide_eq_true he
        go_wp2
        go_ret
        rw [heq]
        exact ⟨rfl, hw⟩
  · have hli : ¬ ((la.length : Int) = (lb.length : Int)) := by omega
    have hne : decide (la = lb) = false := decide_eq_false (fun e => hl (by rw [e]))
    rw [hne]
    go_wp2
    go_ret
    exact ⟨rfl, Below.refl _ _⟩
end Go.Proofs.Yteiddebjbiadbaa
