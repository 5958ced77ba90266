/- Law 24: ViewAlone. (printed by wip/gen_val.py) -/
import Derived.Test.YthghfhnicdoebaaDoorPvA
import Derived.Test.YthghfhnicdoebaaDoorKnvA
import Derived.Test.YthghfhnicdoebaaDoorRdsE
import Derived.Deep.RegionLaw
import Derived.Deep.DeepCutAuto
namespace Go.Proofs.YthghfhnicdoebaaDoor
open Go.RowKit

/-- Sorted lists of the same changes, one for each name, are equal. -/
theorem sorted_eqA {a b l : List ChangeT} (ha : a.Perm l) (hb : b.Perm l) (sa : SortedC a) (sb : SortedC b) (hl : (l.map (·.name)).Nodup) : a = b := by
  have hinj : ∀ x ∈ l, ∀ y ∈ l, x.name = y.name → x = y := by
    clear ha hb sa sb
    induction l with
    | nil => intro x hx; cases hx
    | cons c l ih =>
      simp only [List.map_cons, List.nodup_cons] at hl
      intro x hx y hy h
      rcases List.mem_cons.1 hx with hx1 | hx
      · rcases List.mem_cons.1 hy with hy1 | hy
        · rw [hx1, hy1]
        · exact absurd (List.mem_map.2 ⟨y, hy, by rw [← h, hx1]⟩) hl.1
      · rcases List.mem_cons.1 hy with hy1 | hy
        · exact absurd (List.mem_map.2 ⟨x, hx, by rw [h, hy1]⟩) hl.1
        · exact ih hl.2 x hx y hy h
  refine List.Perm.eq_of_pairwise (le := fun x y : ChangeT => cmpN x.name y.name ≤ 0) (fun x y hx hy h1 h2 => ?_) sa sb (ha.trans hb.symm)
  have h3 := cmpN_ok.anti x.name y.name
  exact hinj x (ha.mem_iff.1 hx) y (hb.mem_iff.1 hy) (cmpN_ok.eq _ _ (by omega))
theorem reads_namesA {rs : List (NameT × ChangeT)} (h : ReadsOk rs) : ((rs.map Prod.snd).map (·.name)).Nodup := by
  have : (rs.map Prod.snd).map (·.name) = rs.map Prod.fst := by
    rw [List.map_map]
    exact List.map_congr_left (fun p hp => (h.2 p hp).1)
  rw [this]
  exact h.1
theorem QM.rdk {w0 w : World} {b M : Nat} {V : AV} {G : Nat → Prop} (s : QM w0 w b M V G) : ReadsOk V.reads := by
  obtain ⟨⟨h, hv, -⟩, -⟩ := s
  exact hv.rdk
theorem OwnC.kept {base : Nat} {w w' : World} {v : Value} {cs : List ChangeT} (h : OwnC base w v cs) (hk : ∀ k, v.ownBlock = some k → w'.heap[k]? = w.heap[k]?) : OwnC base w' v cs := by
  obtain ⟨h1, h2⟩ := h
  refine ⟨h1, ?_⟩
  rcases h2 with h2 | ⟨g, cap, cur, hv, hg, hh, r⟩
  · exact .inl h2
  · exact .inr ⟨g, cap, cur, hv, hg, (hk g (by rw [hv]; rfl)).trans hh, r⟩
theorem OwnC.own {base : Nat} {w : World} {v : Value} {cs : List ChangeT} (h : OwnC base w v cs) : ∀ k, v.ownBlock = some k → base ≤ k ∧ k < w.heap.size := fun k hk => World.ownsRow.lt h k hk
/-- What an object that is set, deleted and rolled back leaves. -/
theorem alone_good {V : AV} {n : NameT} (h : checkE n = 0) (x : ByteArray) :
    (putA V ⟨n, x, false⟩) = (⟨V.base, V.reads, V.calls ++ [⟨n, x, false⟩]⟩, 0) ∧
    seenA ⟨V.base, V.reads, V.calls ++ [⟨n, x, false⟩]⟩ n = ⟨V.base, V.reads, V.calls ++ [⟨n, x, false⟩]⟩ ∧ gotA ⟨V.base, V.reads, V.calls ++ [⟨n, x, false⟩]⟩ n = (x, true) ∧
    (putA ⟨V.base, V.reads, V.calls ++ [⟨n, x, false⟩]⟩ ⟨n, ⟨#[]⟩, true⟩) = (⟨V.base, V.reads, V.calls ++ [⟨n, x, false⟩] ++ [⟨n, ⟨#[]⟩, true⟩]⟩, 0) ∧
    seenA ⟨V.base, V.reads, V.calls ++ [⟨n, x, false⟩] ++ [⟨n, ⟨#[]⟩, true⟩]⟩ n = ⟨V.base, V.reads, V.calls ++ [⟨n, x, false⟩] ++ [⟨n, ⟨#[]⟩, true⟩]⟩ ∧ (gotA ⟨V.base, V.reads, V.calls ++ [⟨n, x, false⟩] ++ [⟨n, ⟨#[]⟩, true⟩]⟩ n).2 = false ∧
    rolA ⟨V.base, V.reads, V.calls ++ [⟨n, x, false⟩] ++ [⟨n, ⟨#[]⟩, true⟩]⟩ (V.calls.length : Int) = (V, 0) := by
  have e : ¬ checkE n ≠ 0 := not_not_intro h
  have l1 : lastCall (V.calls ++ [⟨n, x, false⟩]) n = some ⟨n, x, false⟩ := by rw [lastCall_snoc, if_pos rfl]
  have l2 : lastCall (V.calls ++ [⟨n, x, false⟩] ++ [⟨n, ⟨#[]⟩, true⟩]) n = some ⟨n, ⟨#[]⟩, true⟩ := by rw [lastCall_snoc, if_pos rfl]
  refine ⟨if_neg e, (if_neg e).trans ?_, (if_neg e).trans ?_, if_neg e, (if_neg e).trans ?_, ?_, ?_⟩
  · unfold avSeen; dsimp only; rw [l1]
  · unfold avGet; dsimp only; rw [l1]; rfl
  · unfold avSeen; dsimp only; rw [l2]
  · unfold gotA; rw [if_neg e]; unfold avGet; dsimp only; rw [l2]; rfl
  · unfold rolA
    have h1 : ¬ ((V.calls.length : Int) < 0 ∨ ((V.calls ++ [(⟨n, x, false⟩ : ChangeT)] ++ [(⟨n, ⟨#[]⟩, true⟩ : ChangeT)]).length : Int) < (V.calls.length : Int)) := by
      rw [List.length_append, List.length_append]
      simp only [List.length_cons, List.length_nil]
      omega
    exact (if_neg h1).trans (by rw [Int.toNat_natCast, List.append_assoc, List.take_left])
theorem run_field_C (w : World) (k : Int) (o : ByteArray) (nu ix : Int) (t v : ByteArray) (b : Bool) : (Instr.field 39 (.agg #[.int .i64 k, .string o, .int .i64 nu, .int .i64 ix, .string t, .string v, .bool b]) 0).run Tryd.prog w = .ok (.agg #[.int .i64 k, .string o, .int .i64 nu, .int .i64 ix, .string t]) w := by
  simp [Instr.field, asAgg, go_sem]
theorem alone_bad {V : AV} {n : NameT} (h : checkE n ≠ 0) (x : ByteArray) : putA V ⟨n, x, false⟩ = (V, 12) ∧ seenA V n = V ∧ gotA V n = (⟨#[]⟩, false) := ⟨if_pos h, if_pos h, if_pos h⟩
end Go.Proofs.YthghfhnicdoebaaDoor

namespace Go.Proofs.YthghfhnicdoebaaDoor
open Go.RowKit
attribute [local go_sem ↓] Go.wp_at_zero Go.wp_at_succ
attribute [local go_sem ↓] run_neq_change
attribute [local go_sem ↓] run_field_C

set_option maxRecDepth 100000 in
set_option maxHeartbeats 6400000 in
theorem viewAlone_any (a5 : Option Addr) (n5 c5 : Nat) (f5 : Nat → ChangeT) (a : Option Addr) (n c : Nat) (fo : Nat → OpV) (k : Int) (oo : ByteArray) (nu ix : Int) (tt : ByteArray) (w : World) (hu : Usages w) (hn5 : n5 ≤ 9223372036854775807) (hl5 : C24Sl w a5 n5 f5) (hn : n ≤ 9223372036854775807) (hl : OpSlV w a n fo) (ho : oo.size ≤ 9223372036854775807) (ht : tt.size ≤ 9223372036854775807) :
    Calls Tryd.prog 3 #[.slice a5 n5 c5, .slice a n c, .agg #[.int .i64 k, .string oo, .int .i64 nu, .int .i64 ix, .string tt]] w fun r w' => r = .returned (.bool true) ∧ Below w.heap.size w w' := by
  have HPl : Hid (∀ W, Below w.heap.size w W → Calls Tryd.prog 6 #[.slice a5 n5 c5, .slice a n c] W (Play24Post (baseL f5 (min n5 12)) (runR (baseL f5 (min n5 12)) fo (min n 30)) W)) := fun W hW => play24_any a5 n5 c5 f5 a n c fo W (hu.below hW hu.pos) hn5 (hl5.later hW) hn (hl.later hW)
  have HKn : Hid (∀ W, Below w.heap.size w W → Calls Tryd.prog 5 #[] W fun r w' => r = .returned (.bool true) ∧ Below W.heap.size W w') := fun W hW => known24_any W (hu.below hW hu.pos)
  have HRi : Hid (PInv (runR (baseL f5 (min n5 12)) fo (min n 30)).1 (runR (baseL f5 (min n5 12)) fo (min n 30)).2 (min n 30)) := runR_inv _ _ _
  have HM30 : Hid (min n 30 ≤ 30) := Nat.min_le_right _ _
  have HSh : Hid (∀ W, Calls Tryd.prog 8 #[.agg #[.int .i64 k, .string oo, .int .i64 nu, .int .i64 ix, .string tt, .string ⟨#[]⟩, .bool false]] W fun r w' => r = .returned (.agg #[.int .i64 k, .string (cutB oo 100), .int .i64 nu, .int .i64 ix, .string (cutB tt 100), .string (cutB ⟨#[]⟩ 70), .bool false]) ∧ Below W.heap.size W w') := fun W => short_any k oo nu ix tt ⟨#[]⟩ false W ho ht (by decide)
  have HF : Hid (FitN ⟨k, cutB oo 100, nu, ix, cutB tt 100⟩) := by
    have h1 := cutB_size oo 100
    have h2 := cutB_size tt 100
    show FitN _
    unfold FitN
    dsimp only
    omega
  clear hu hl hl5 ho ht
  generalize cutB oo 100 = o at *
  generalize cutB tt 100 = t at *
  generalize cutB ⟨#[]⟩ 70 = vv at *
  generalize min n 30 = mm at *
  generalize runR (baseL f5 (min n5 12)) fo mm = q at *
  generalize baseL f5 (min n5 12) = l at *
  have HTo : Hid (∀ W, Calls Tryd.prog 7 #[.agg #[.int .i64 k, .string o, .int .i64 nu, .int .i64 ix, .string t]] W fun r w' => r = .returned (.agg #[.int .i64 k, .string o, .int .i64 nu, .int .i64 ix, .string t]) ∧ Below W.heap.size W w') := fun W => to04_any k o nu ix t W
  have HBw : Hid (∀ oj, Below w.heap.size w (w.alloc oj)) := fun oj => (Below.refl _ _).alloc (Nat.le_refl _) _
  have HXw : Hid (∀ oj, (w.alloc oj).heap[w.heap.size]? = some oj) := fun oj => heap_alloc_new w oj
  go_enter Tryd.func3, Tryd.ntmps3
  go_wp2_with fail
  have HB1 := Lib.hid (HBw.out (.cells #[.int .i64 k, .string oo, .int .i64 nu, .int .i64 ix, .string tt] 25))
  have HX1 := Lib.hid (HXw.out (.cells #[.int .i64 k, .string oo, .int .i64 nu, .int .i64 ix, .string tt] 25))
  clear HBw HXw
  generalize w.alloc (.cells #[.int .i64 k, .string oo, .int .i64 nu, .int .i64 ix, .string tt] 25) = w1 at *
  refine (HKn.out _ HB1.out).mono ?_
  rintro r w2 ⟨rfl, hb2⟩
  have HB2 : Hid (Below w.heap.size w w2) := HB1.out.trans (hb2.mono HB1.out.size)
  have HX2 := Lib.hid ((hb2.block _ (lt_of_heap HX1.out)).trans HX1.out)
  clear hb2 HB1 HX1 HKn
  go_wp2_with fail
  refine (HPl.out _ HB2.out).mono ?_
  rintro r w3 ⟨wv, b, ab, nb, kb, ar, nr, kr, ac, nc, kc, rfl, hbv, hpv⟩
  have hb3 : Below w2.heap.size w2 w3 := hbv.trans (hpv.s.below.mono hbv.size)
  have HB3 : Hid (Below w.heap.size w w3) := HB2.out.trans (hb3.mono HB2.out.size)
  have HBv : Hid (Below w.heap.size w wv) := HB2.out.trans (hbv.mono HB2.out.size)
  have HX3 := Lib.hid ((hb3.block _ (lt_of_heap HX2.out)).trans HX2.out)
  have HS3 : Hid (QM wv w3 b 12 (VOf l q.1 q.2) (fun _ => False)) := hpv.s.fresh (Below.refl _ _) (fun _ h => h.elim)
  have hlen : q.2.length ≤ 30 := by have := HRi.out.cl; have := HM30.out; omega
  have hrlen : (rd l q.1).length ≤ 1000000 := by
    have h1 : (rd l q.1).length ≤ q.1.length := by
      have aux : ∀ (rs : List NameT) (m : List (NameT × ChangeT)), (rs.foldl (fun m n => aSet m n (rdc l n)) m).length ≤ m.length + rs.length := by
        intro rs
        induction rs with
        | nil => intro m; exact Nat.le_refl _
        | cons x rs ih =>
          intro m
          have h2 : (aSet m x (rdc l x)).length ≤ m.length + 1 := by
            generalize rdc l x = y
            induction m with
            | nil => exact Nat.le_refl _
            | cons e m ih =>
              unfold aSet
              split
              · exact Nat.le_succ _
              · exact Nat.succ_le_succ ih
          have := ih (aSet m x (rdc l x))
          rw [List.foldl_cons, List.length_cons]
          omega
      have h9 := aux q.1 []
      rw [List.length_nil, Nat.zero_add] at h9
      exact h9
    have := HRi.out.rl
    have := HM30.out
    omega
  have Hlen := Lib.hid hlen
  have Hrlen : Hid ((VOf l q.1 q.2).reads.length ≤ 1000000) := hrlen
  have Hcl : Hid ((VOf l q.1 q.2).calls.length ≤ 30) := hlen
  clear hbv hpv hb3 HB2 HX2 HPl hlen hrlen Hlen HRi
  generalize VOf l q.1 q.2 = V at *
  have y0 : w3.cell? ⟨w.heap.size, 0, none⟩ = some (.int .i64 k) := cell_of_heap HX3.out 0
  have y1 : w3.cell? ⟨w.heap.size, 1, none⟩ = some (.string oo) := cell_of_heap HX3.out 1
  have y2 : w3.cell? ⟨w.heap.size, 2, none⟩ = some (.int .i64 nu) := cell_of_heap HX3.out 2
  have y3 : w3.cell? ⟨w.heap.size, 3, none⟩ = some (.int .i64 ix) := cell_of_heap HX3.out 3
  have y4 : w3.cell? ⟨w.heap.size, 4, none⟩ = some (.string tt) := cell_of_heap HX3.out 4
  have hl3 := lt_of_heap HX3.out
  have HB3a : Hid (∀ oj, Below w3.heap.size w3 (w3.alloc oj)) := fun oj => (Below.refl _ _).alloc (Nat.le_refl _) _
  go_wp2_with fail
  refine (HSh.out _).mono ?_
  rintro r w4 ⟨rfl, hb4⟩
  have HB34 : Hid (Below w3.heap.size w3 w4) := (HB3a.out _).trans (hb4.mono (HB3a.out _).size)
  clear hb4 y0 y1 y2 y3 y4 hl3 HX3 HSh HB3a
  go_wp2_with fail
  refine (HTo.out _).mono ?_
  rintro r w5 ⟨rfl, hb5⟩
  have HB35 : Hid (Below w3.heap.size w3 w5) := HB34.out.trans (hb5.mono HB34.out.size)
  clear hb5 HB34 HTo
  go_upto_region 7 with fail
  have HX6 := Lib.hid (heap_alloc_new w5 (.cells #[.int .i64 k, .string o, .int .i64 nu, .int .i64 ix, .string t] 36))
  have HB36 : Hid (Below w3.heap.size w3 (w5.alloc (.cells #[.int .i64 k, .string o, .int .i64 nu, .int .i64 ix, .string t] 36))) := HB35.out.alloc HB35.out.size _
  have HS6 : Hid (QM wv (w5.alloc (.cells #[.int .i64 k, .string o, .int .i64 nu, .int .i64 ix, .string t] 36)) b 12 V (fun k => k = w5.heap.size)) := HS3.out.fresh HB36.out (fun k hk => .inr ⟨by rw [hk]; exact HB35.out.size, by rw [hk, World.size_alloc]; omega⟩)
  clear HS3 HB35
  generalize w5.alloc (.cells #[.int .i64 k, .string o, .int .i64 nu, .int .i64 ix, .string t] 36) = w6 at *
  generalize w5.heap.size = P at *
  have HB6 : Hid (Below w.heap.size w w6) := HB3.out.trans (HB36.out.mono HB3.out.size)
  clear HB3 HB36
  go_wp2_with fail
  refine (qmReadsO HS6.out Hrlen.out).mono ?_
  rintro r w7 ⟨vr, cs, rfl, hown7, hp7, hs7, hb7, -⟩
  have HOwn7 := Lib.hid hown7
  have HP7 := Lib.hid hp7
  have HSo7 := Lib.hid hs7
  have HB67 := Lib.hid hb7
  have HX7 := Lib.hid ((hb7.block _ (lt_of_heap HX6.out)).trans HX6.out)
  have HS7 : Hid (QM wv w7 b 12 V (fun k => k = P ∨ vr.ownBlock = some k)) := HS6.out.fresh hb7 (fun k hk => hk.imp id (fun h => hown7.own k h))
  have HB7 : Hid (Below w.heap.size w w7) := HB6.out.trans (hb7.mono HB6.out.size)
  obtain ⟨avr, kvr, rfl, -⟩ := hown7.row
  generalize hncs : cs.length = ncs at *
  have HNcs := Lib.hid hncs
  have hncb : ncs ≤ 1000000 := by have h1 := hp7.length_eq; rw [List.length_map, hncs] at h1; have := Hrlen.out; omega
  clear hown7 hp7 hs7 hb7 HS6 HX6 HB6 HB67 hncs
  go_wp2_with fail
  refine (qmMark HS7.out).mono ?_
  rintro r w8 ⟨rfl, rfl⟩
  have x0 : w7.cell? ⟨P, 0, none⟩ = some (.int .i64 k) := cell_of_heap HX7.out 0
  have x1 : w7.cell? ⟨P, 1, none⟩ = some (.string o) := cell_of_heap HX7.out 1
  have x2 : w7.cell? ⟨P, 2, none⟩ = some (.int .i64 nu) := cell_of_heap HX7.out 2
  have x3 : w7.cell? ⟨P, 3, none⟩ = some (.int .i64 ix) := cell_of_heap HX7.out 3
  have x4 : w7.cell? ⟨P, 4, none⟩ = some (.string t) := cell_of_heap HX7.out 4
  by_cases hq : checkE ⟨k, o, nu, ix, t⟩ = 0
  · obtain ⟨g1, g2, g3, g4, g5, g6, g7⟩ := alone_good (V := V) hq ⟨#[118, 97, 108, 117, 101]⟩
    have C1 : Hid (∀ W, QM wv W b 12 V (fun k => k = P ∨ (Value.slice avr ncs kvr).ownBlock = some k) → Calls Tryd.prog 11 #[.pointer (some ⟨b, 0, none⟩), .agg #[.int .i64 k, .string o, .int .i64 nu, .int .i64 ix, .string t], .string ⟨#[118, 97, 108, 117, 101]⟩] W (QMP wv b 12 ⟨V.base, V.reads, V.calls ++ [⟨⟨k, o, nu, ix, t⟩, ⟨#[118, 97, 108, 117, 101]⟩, false⟩]⟩ (fun k => k = P ∨ (Value.slice avr ncs kvr).ownBlock = some k) W (.int .i64 0))) := fun W s => by
      have h := vSetA s ⟨k, o, nu, ix, t⟩ HF.out ⟨#[118, 97, 108, 117, 101]⟩ (by decide) (by have := Hcl.out; omega)
      rw [g1] at h
      exact h
    have C2 : Hid (∀ W, QM wv W b 12 ⟨V.base, V.reads, V.calls ++ [⟨⟨k, o, nu, ix, t⟩, ⟨#[118, 97, 108, 117, 101]⟩, false⟩]⟩ (fun k => k = P ∨ (Value.slice avr ncs kvr).ownBlock = some k) → Calls Tryd.prog 12 #[.pointer (some ⟨b, 0, none⟩), .agg #[.int .i64 k, .string o, .int .i64 nu, .int .i64 ix, .string t]] W (QMP wv b 12 ⟨V.base, V.reads, V.calls ++ [⟨⟨k, o, nu, ix, t⟩, ⟨#[118, 97, 108, 117, 101]⟩, false⟩]⟩ (fun k => k = P ∨ (Value.slice avr ncs kvr).ownBlock = some k) W (.tuple #[.string ⟨#[118, 97, 108, 117, 101]⟩, .bool true]))) := fun W s => by
      have h := vGetA s ⟨k, o, nu, ix, t⟩ HF.out
      rw [g2, g3] at h
      exact h
    have C3 : Hid (∀ W, QM wv W b 12 ⟨V.base, V.reads, V.calls ++ [⟨⟨k, o, nu, ix, t⟩, ⟨#[118, 97, 108, 117, 101]⟩, false⟩]⟩ (fun k => k = P ∨ (Value.slice avr ncs kvr).ownBlock = some k) → Calls Tryd.prog 13 #[.pointer (some ⟨b, 0, none⟩), .agg #[.int .i64 k, .string o, .int .i64 nu, .int .i64 ix, .string t]] W (QMP wv b 12 ⟨V.base, V.reads, V.calls ++ [⟨⟨k, o, nu, ix, t⟩, ⟨#[118, 97, 108, 117, 101]⟩, false⟩] ++ [⟨⟨k, o, nu, ix, t⟩, ⟨#[]⟩, true⟩]⟩ (fun k => k = P ∨ (Value.slice avr ncs kvr).ownBlock = some k) W (.int .i64 0))) := fun W s => by
      have h := vDelA s ⟨k, o, nu, ix, t⟩ HF.out (by show (V.calls ++ _).length < _; rw [List.length_append]; have := Hcl.out; simp; omega)
      rw [g4] at h
      exact h
    have C4 : Hid (∀ W, QM wv W b 12 ⟨V.base, V.reads, V.calls ++ [⟨⟨k, o, nu, ix, t⟩, ⟨#[118, 97, 108, 117, 101]⟩, false⟩] ++ [⟨⟨k, o, nu, ix, t⟩, ⟨#[]⟩, true⟩]⟩ (fun k => k = P ∨ (Value.slice avr ncs kvr).ownBlock = some k) → Calls Tryd.prog 14 #[.pointer (some ⟨b, 0, none⟩), .agg #[.int .i64 k, .string o, .int .i64 nu, .int .i64 ix, .string t]] W (QMP wv b 12 ⟨V.base, V.reads, V.calls ++ [⟨⟨k, o, nu, ix, t⟩, ⟨#[118, 97, 108, 117, 101]⟩, false⟩] ++ [⟨⟨k, o, nu, ix, t⟩, ⟨#[]⟩, true⟩]⟩ (fun k => k = P ∨ (Value.slice avr ncs kvr).ownBlock = some k) W (.bool false))) := fun W s => by
      have h := vHasA s ⟨k, o, nu, ix, t⟩ HF.out
      rw [g5, g6] at h
      exact h
    have C5 : Hid (∀ W, QM wv W b 12 ⟨V.base, V.reads, V.calls ++ [⟨⟨k, o, nu, ix, t⟩, ⟨#[118, 97, 108, 117, 101]⟩, false⟩] ++ [⟨⟨k, o, nu, ix, t⟩, ⟨#[]⟩, true⟩]⟩ (fun k => k = P ∨ (Value.slice avr ncs kvr).ownBlock = some k) → Calls Tryd.prog 15 #[.pointer (some ⟨b, 0, none⟩), .int .i64 V.calls.length] W (QMP wv b 12 V (fun k => k = P ∨ (Value.slice avr ncs kvr).ownBlock = some k) W (.int .i64 0))) := fun W s => by
      have h := vRolA s (V.calls.length : Int)
      rw [g7] at h
      exact h
    have HMk : Hid (∀ W, QM wv W b 12 V (fun k => k = P ∨ (Value.slice avr ncs kvr).ownBlock = some k) → Calls Tryd.prog 10 #[.pointer (some ⟨b, 0, none⟩)] W fun r w' => r = .returned (.int .i64 V.calls.length) ∧ W = w') := fun W s => qmMark s
    clear g1 g2 g3 g4 g5 g6 g7 hq HF Hcl
    generalize (V.calls.length : Int) = mk at *
    generalize (⟨V.base, V.reads, V.calls ++ [⟨⟨k, o, nu, ix, t⟩, ⟨#[118, 97, 108, 117, 101]⟩, false⟩] ++ [⟨⟨k, o, nu, ix, t⟩, ⟨#[]⟩, true⟩]⟩ : AV) = V2 at *
    generalize (⟨V.base, V.reads, V.calls ++ [⟨⟨k, o, nu, ix, t⟩, ⟨#[118, 97, 108, 117, 101]⟩, false⟩]⟩ : AV) = V1 at *
    go_wp2_with fail
    refine (C1.out _ HS7.out).mono ?_
    rintro r w9 ⟨rfl, s9, hk9⟩
    have HX9 := Lib.hid ((hk9 P (.inl rfl)).trans HX7.out)
    have HOwn9 := Lib.hid (HOwn7.out.kept (fun k hk => hk9 k (.inr hk)))
    have HB9 : Hid (Below w.heap.size w w9) := HBv.out.trans (s9.below.mono HBv.out.size)
    have HS9 := Lib.hid s9
    clear s9 hk9 x0 x1 x2 x3 x4
    have x0 : w9.cell? ⟨P, 0, none⟩ = some (.int .i64 k) := cell_of_heap HX9.out 0
    have x1 : w9.cell? ⟨P, 1, none⟩ = some (.string o) := cell_of_heap HX9.out 1
    have x2 : w9.cell? ⟨P, 2, none⟩ = some (.int .i64 nu) := cell_of_heap HX9.out 2
    have x3 : w9.cell? ⟨P, 3, none⟩ = some (.int .i64 ix) := cell_of_heap HX9.out 3
    have x4 : w9.cell? ⟨P, 4, none⟩ = some (.string t) := cell_of_heap HX9.out 4
    go_wp2_with fail
    refine (C2.out _ HS9.out).mono ?_
    rintro r w10 ⟨rfl, s10, hk10⟩
    have HX10 := Lib.hid ((hk10 P (.inl rfl)).trans HX9.out)
    have HOwn10 := Lib.hid (HOwn9.out.kept (fun k hk => hk10 k (.inr hk)))
    have HB10 : Hid (Below w.heap.size w w10) := HBv.out.trans (s10.below.mono HBv.out.size)
    have HS10 := Lib.hid s10
    clear s10 hk10 x0 x1 x2 x3 x4
    have x0 : w10.cell? ⟨P, 0, none⟩ = some (.int .i64 k) := cell_of_heap HX10.out 0
    have x1 : w10.cell? ⟨P, 1, none⟩ = some (.string o) := cell_of_heap HX10.out 1
    have x2 : w10.cell? ⟨P, 2, none⟩ = some (.int .i64 nu) := cell_of_heap HX10.out 2
    have x3 : w10.cell? ⟨P, 3, none⟩ = some (.int .i64 ix) := cell_of_heap HX10.out 3
    have x4 : w10.cell? ⟨P, 4, none⟩ = some (.string t) := cell_of_heap HX10.out 4
    go_wp2_with fail
    refine (C3.out _ HS10.out).mono ?_
    rintro r w11 ⟨rfl, s11, hk11⟩
    have HX11 := Lib.hid ((hk11 P (.inl rfl)).trans HX10.out)
    have HOwn11 := Lib.hid (HOwn10.out.kept (fun k hk => hk11 k (.inr hk)))
    have HB11 : Hid (Below w.heap.size w w11) := HBv.out.trans (s11.below.mono HBv.out.size)
    have HS11 := Lib.hid s11
    clear s11 hk11 x0 x1 x2 x3 x4
    have x0 : w11.cell? ⟨P, 0, none⟩ = some (.int .i64 k) := cell_of_heap HX11.out 0
    have x1 : w11.cell? ⟨P, 1, none⟩ = some (.string o) := cell_of_heap HX11.out 1
    have x2 : w11.cell? ⟨P, 2, none⟩ = some (.int .i64 nu) := cell_of_heap HX11.out 2
    have x3 : w11.cell? ⟨P, 3, none⟩ = some (.int .i64 ix) := cell_of_heap HX11.out 3
    have x4 : w11.cell? ⟨P, 4, none⟩ = some (.string t) := cell_of_heap HX11.out 4
    go_wp2_with fail
    refine (C4.out _ HS11.out).mono ?_
    rintro r w12 ⟨rfl, s12, hk12⟩
    have HX12 := Lib.hid ((hk12 P (.inl rfl)).trans HX11.out)
    have HOwn12 := Lib.hid (HOwn11.out.kept (fun k hk => hk12 k (.inr hk)))
    have HB12 : Hid (Below w.heap.size w w12) := HBv.out.trans (s12.below.mono HBv.out.size)
    have HS12 := Lib.hid s12
    clear s12 hk12 x0 x1 x2 x3 x4
    have x0 : w12.cell? ⟨P, 0, none⟩ = some (.int .i64 k) := cell_of_heap HX12.out 0
    have x1 : w12.cell? ⟨P, 1, none⟩ = some (.string o) := cell_of_heap HX12.out 1
    have x2 : w12.cell? ⟨P, 2, none⟩ = some (.int .i64 nu) := cell_of_heap HX12.out 2
    have x3 : w12.cell? ⟨P, 3, none⟩ = some (.int .i64 ix) := cell_of_heap HX12.out 3
    have x4 : w12.cell? ⟨P, 4, none⟩ = some (.string t) := cell_of_heap HX12.out 4
    go_wp2_with fail
    refine (C5.out _ HS12.out).mono ?_
    rintro r w13 ⟨rfl, s13, hk13⟩
    have HX13 := Lib.hid ((hk13 P (.inl rfl)).trans HX12.out)
    have HOwn13 := Lib.hid (HOwn12.out.kept (fun k hk => hk13 k (.inr hk)))
    have HB13 : Hid (Below w.heap.size w w13) := HBv.out.trans (s13.below.mono HBv.out.size)
    have HS13 := Lib.hid s13
    clear s13 hk13 x0 x1 x2 x3 x4
    have x0 : w13.cell? ⟨P, 0, none⟩ = some (.int .i64 k) := cell_of_heap HX13.out 0
    have x1 : w13.cell? ⟨P, 1, none⟩ = some (.string o) := cell_of_heap HX13.out 1
    have x2 : w13.cell? ⟨P, 2, none⟩ = some (.int .i64 nu) := cell_of_heap HX13.out 2
    have x3 : w13.cell? ⟨P, 3, none⟩ = some (.int .i64 ix) := cell_of_heap HX13.out 3
    have x4 : w13.cell? ⟨P, 4, none⟩ = some (.string t) := cell_of_heap HX13.out 4
    clear x0 x1 x2 x3 x4
    go_wp2_with fail
    refine (qmReadsO HS13.out Hrlen.out).mono ?_
    rintro r w14 ⟨vr2, cs2, rfl, hown14, hp14, hs14, hb14, s14⟩
    have hcs : cs2 = cs := sorted_eqA hp14 HP7.out hs14 HSo7.out (reads_namesA HS13.out.rdk)
    subst hcs
    have HRa := Lib.hid hown14.row
    have HRb := Lib.hid ((HOwn13.out.row).later hb14)
    have HS14 := Lib.hid s14
    have HB14 : Hid (Below w.heap.size w w14) := HB13.out.trans (hb14.mono HB13.out.size)
    obtain ⟨av2, kv2, rfl, -⟩ := hown14.row
    rw [HNcs.out]
    rw [HNcs.out] at HRa
    clear hown14 hp14 hs14 hb14 s14 HP7 HSo7 HS13 HB13 HX13 HOwn13 C1 C2 C3 C4 C5
    go_wp2_with fail
    go_loopg [20] ncs (fun gk iv wr => ∃ j : Nat, j + gk = ncs ∧ iv = .int .i64 j ∧ Hid (Below w14.heap.size w14 wr))
    case atStart => exact ⟨0, by omega, rfl, Below.refl _ _⟩
    case round =>
      obtain ⟨j, hj, rfl, HBr⟩ := hrel
      have Hj := Lib.hid hj
      have hjn : j ≤ ncs := by omega
      clear hj
      by_cases hlt : j < ncs
      · have hjl : j < cs2.length := by rw [HNcs.out]; exact hlt
        have hx : cs2[j]? = some cs2[j] := List.getElem?_eq_getElem hjl
        generalize cs2[j] = x at *
        obtain ⟨qa, ca, e1, hr1⟩ := HRa.out.later HBr.out
        obtain ⟨ga, ea, hca⟩ := hr1 j x hx
        obtain ⟨qb, cb, e2, hr2⟩ := HRb.out.later HBr.out
        obtain ⟨gb, eb, hcb⟩ := hr2 j x hx
        obtain ⟨e3, -, -⟩ := Value.slice.inj e1
        obtain ⟨e4, -, -⟩ := Value.slice.inj e2
        subst e3
        subst e4
        subst ea
        subst eb
        obtain ⟨⟨c1, c2, c3, c4, c5⟩, c6, c7⟩ := x
        have a0 : wr.cell? ⟨ga, j * 7, none⟩ = some (.int .i64 c1) := hca 0 _ rfl
        have a1 : wr.cell? ⟨ga, j * 7 + 1, none⟩ = some (.string c2) := hca 1 _ rfl
        have a2 : wr.cell? ⟨ga, j * 7 + 2, none⟩ = some (.int .i64 c3) := hca 2 _ rfl
        have a3 : wr.cell? ⟨ga, j * 7 + 3, none⟩ = some (.int .i64 c4) := hca 3 _ rfl
        have a4 : wr.cell? ⟨ga, j * 7 + 4, none⟩ = some (.string c5) := hca 4 _ rfl
        have a5 : wr.cell? ⟨ga, j * 7 + 5, none⟩ = some (.string c6) := hca 5 _ rfl
        have a6 : wr.cell? ⟨ga, j * 7 + 6, none⟩ = some (.bool c7) := hca 6 _ rfl
        have b0 : wr.cell? ⟨gb, j * 7, none⟩ = some (.int .i64 c1) := hcb 0 _ rfl
        have b1 : wr.cell? ⟨gb, j * 7 + 1, none⟩ = some (.string c2) := hcb 1 _ rfl
        have b2 : wr.cell? ⟨gb, j * 7 + 2, none⟩ = some (.int .i64 c3) := hcb 2 _ rfl
        have b3 : wr.cell? ⟨gb, j * 7 + 3, none⟩ = some (.int .i64 c4) := hcb 3 _ rfl
        have b4 : wr.cell? ⟨gb, j * 7 + 4, none⟩ = some (.string c5) := hcb 4 _ rfl
        have b5 : wr.cell? ⟨gb, j * 7 + 5, none⟩ = some (.string c6) := hcb 5 _ rfl
        have b6 : wr.cell? ⟨gb, j * 7 + 6, none⟩ = some (.bool c7) := hcb 6 _ rfl
        have hqq : neqCB ⟨⟨c1, c2, c3, c4, c5⟩, c6, c7⟩ ⟨⟨c1, c2, c3, c4, c5⟩, c6, c7⟩ = false := neqCB_self _
        clear hx hca hcb hr1 hr2 e1 e2
        go_upto_region 22 with fail
        go_quiet (fail)
        go_wp2
        go_roundg (ncs - (j + 1))
        case measure => have := Hj.out; omega
        case rel => exact ⟨j + 1, by have := Hj.out; omega, by go_num, below_toDrewN3 HBr.out _⟩
      · have HBf : Hid (Below w.heap.size w wr) := HB14.out.trans (HBr.out.mono HB14.out.size)
        go_wp2_with fail
        refine (HMk.out _ (HS14.out.later HBr.out)).mono ?_
        rintro r w15 ⟨rfl, rfl⟩
        go_wp2
        go_ret
        exact ⟨rfl, HBf.out⟩
  · obtain ⟨g1, g2, g3⟩ := alone_bad (V := V) hq ⟨#[118, 97, 108, 117, 101]⟩
    have C1 : Hid (∀ W, QM wv W b 12 V (fun k => k = P ∨ (Value.slice avr ncs kvr).ownBlock = some k) → Calls Tryd.prog 11 #[.pointer (some ⟨b, 0, none⟩), .agg #[.int .i64 k, .string o, .int .i64 nu, .int .i64 ix, .string t], .string ⟨#[118, 97, 108, 117, 101]⟩] W (QMP wv b 12 V (fun k => k = P ∨ (Value.slice avr ncs kvr).ownBlock = some k) W (.int .i64 12))) := fun W s => by
      have h := vSetA s ⟨k, o, nu, ix, t⟩ HF.out ⟨#[118, 97, 108, 117, 101]⟩ (by decide) (by have := Hcl.out; omega)
      rw [g1] at h
      exact h
    have C2 : Hid (∀ W, QM wv W b 12 V (fun k => k = P ∨ (Value.slice avr ncs kvr).ownBlock = some k) → Calls Tryd.prog 12 #[.pointer (some ⟨b, 0, none⟩), .agg #[.int .i64 k, .string o, .int .i64 nu, .int .i64 ix, .string t]] W (QMP wv b 12 V (fun k => k = P ∨ (Value.slice avr ncs kvr).ownBlock = some k) W (.tuple #[.string ⟨#[]⟩, .bool false]))) := fun W s => by
      have h := vGetA s ⟨k, o, nu, ix, t⟩ HF.out
      rw [g2, g3] at h
      exact h
    clear g1 g2 g3 hq HF Hcl
    generalize (V.calls.length : Int) = mk at *
    go_wp2_with fail
    refine (C1.out _ HS7.out).mono ?_
    rintro r w9 ⟨rfl, s9, hk9⟩
    have HX9 := Lib.hid ((hk9 P (.inl rfl)).trans HX7.out)
    have HOwn9 := Lib.hid (HOwn7.out.kept (fun k hk => hk9 k (.inr hk)))
    have HB9 : Hid (Below w.heap.size w w9) := HBv.out.trans (s9.below.mono HBv.out.size)
    have HS9 := Lib.hid s9
    clear s9 hk9 x0 x1 x2 x3 x4
    have x0 : w9.cell? ⟨P, 0, none⟩ = some (.int .i64 k) := cell_of_heap HX9.out 0
    have x1 : w9.cell? ⟨P, 1, none⟩ = some (.string o) := cell_of_heap HX9.out 1
    have x2 : w9.cell? ⟨P, 2, none⟩ = some (.int .i64 nu) := cell_of_heap HX9.out 2
    have x3 : w9.cell? ⟨P, 3, none⟩ = some (.int .i64 ix) := cell_of_heap HX9.out 3
    have x4 : w9.cell? ⟨P, 4, none⟩ = some (.string t) := cell_of_heap HX9.out 4
    go_wp2_with fail
    refine (C2.out _ HS9.out).mono ?_
    rintro r w10 ⟨rfl, s10, hk10⟩
    have HX10 := Lib.hid ((hk10 P (.inl rfl)).trans HX9.out)
    have HOwn10 := Lib.hid (HOwn9.out.kept (fun k hk => hk10 k (.inr hk)))
    have HB10 : Hid (Below w.heap.size w w10) := HBv.out.trans (s10.below.mono HBv.out.size)
    have HS10 := Lib.hid s10
    clear s10 hk10 x0 x1 x2 x3 x4
    have x0 : w10.cell? ⟨P, 0, none⟩ = some (.int .i64 k) := cell_of_heap HX10.out 0
    have x1 : w10.cell? ⟨P, 1, none⟩ = some (.string o) := cell_of_heap HX10.out 1
    have x2 : w10.cell? ⟨P, 2, none⟩ = some (.int .i64 nu) := cell_of_heap HX10.out 2
    have x3 : w10.cell? ⟨P, 3, none⟩ = some (.int .i64 ix) := cell_of_heap HX10.out 3
    have x4 : w10.cell? ⟨P, 4, none⟩ = some (.string t) := cell_of_heap HX10.out 4
    clear x0 x1 x2 x3 x4
    go_wp2_with fail
    refine (qmReadsO HS10.out Hrlen.out).mono ?_
    rintro r w14 ⟨vr2, cs2, rfl, hown14, hp14, hs14, hb14, s14⟩
    have hcs : cs2 = cs := sorted_eqA hp14 HP7.out hs14 HSo7.out (reads_namesA HS10.out.rdk)
    subst hcs
    have HB14 : Hid (Below w.heap.size w w14) := HB10.out.trans (hb14.mono HB10.out.size)
    obtain ⟨av2, kv2, rfl, -⟩ := hown14.row
    rw [HNcs.out]
    clear hown14 hp14 hs14 hb14 s14
    go_wp2
    go_ret
    exact ⟨rfl, HB14.out⟩
end Go.Proofs.YthghfhnicdoebaaDoor
