/- Reference 24: Holds; law 24: ViewHolds. (printed by wip/gen_vho.py) -/
import Derived.Test.YthghfhnicdoebaaDoorPvA
import Derived.Test.YthghfhnicdoebaaDoorKnvA
import Derived.Test.YthghfhnicdoebaaDoorRdsE
import Derived.Test.YthghfhnicdoebaaDoorHolA
import Derived.Deep.RegionHeld3
import Derived.Deep.DeepCutAuto
namespace Go.Proofs.YthghfhnicdoebaaDoor
open Go.RowKit
attribute [local go_sem ↓] Go.wp_at_zero Go.wp_at_succ

set_option maxRecDepth 100000 in
set_option maxHeartbeats 3200000 in
theorem rHolds_any {l : List (NameT × ByteArray)} {cs : List ChangeT} {w : World} {v1 v2 : Value} (h1 : RowK kE w v1 l) (h2 : RowK kC w v2 cs) (hfe : ∀ e ∈ l, FitN e.1) (hs : SortL cmpN l) (hl1 : l.length ≤ 1000000) (hf : ∀ c ∈ cs, FitN c.name) (hlen : cs.length ≤ 100000) :
    Calls Tryd.prog 18 #[v1, v2] w fun r w' => r = .returned (.bool (holdsB (getL cmpN l) cs)) ∧ Below w.heap.size w w' := by
  have HGet : Hid (∀ n, FitN n → ∀ W, Below w.heap.size w W → Calls Tryd.prog 34 #[v1, nameV n] W fun r w' => r = .returned (.tuple #[.string ((getL cmpN l n).getD ⟨#[]⟩), .bool (getL cmpN l n).isSome]) ∧ Below W.heap.size W w') := fun n hn W hW => rGet_any W _ l (h1.later hW) n hn hfe hl1 hs
  have HRow := Lib.hid h2
  have HF := Lib.hid hf
  obtain ⟨a, cap, rfl, hcap, -⟩ := h2.form
  obtain ⟨a1, cap1, rfl, -, -⟩ := h1.form
  have HTk : Hid (holdsB (getL cmpN l) cs = holdsB (getL cmpN l) (cs.take cs.length)) := by show _ = _; rw [List.take_length]
  clear h1 h2 hfe hs hl1 hf
  have HOc0 : Hid (∀ c : ChangeT, okC (getL cmpN l) c = match getL cmpN l c.name with | none => c.absent | some y => !c.absent && decide (y = c.value)) := fun _ => rfl
  generalize hnn : cs.length = n at *
  have Hn := Lib.hid hnn
  clear hnn
  go_enter Tryd.func18, Tryd.ntmps18
  go_wp2_with fail
  go_loopg [5] n (fun gk iv wr => ∃ k : Nat, k + gk = n ∧ iv = .int .i64 k ∧ Hid (holdsB (getL cmpN l) (cs.take k) = true) ∧ Hid (Below w.heap.size w wr))
  case atStart => exact ⟨0, by omega, rfl, rfl, Below.refl _ _⟩
  case round =>
    obtain ⟨k, hk, rfl, HOk, HBw⟩ := hrel
    have Hk := Lib.hid hk
    have hkn : k ≤ n := by omega
    clear hk
    by_cases hlt : k < n
    · have hkl : k < cs.length := by rw [Hn.out]; exact hlt
      have hx : cs[k]? = some cs[k] := List.getElem?_eq_getElem hkl
      have HFx := Lib.hid (HF.out _ (List.getElem_mem hkl))
      generalize cs[k] = x at *
      have Hx := Lib.hid hx
      have HSt := Lib.hid (holds_take (f := getL cmpN l) hx)
      have HBad := Lib.hid (holds_bad (f := getL cmpN l) hx)
      obtain ⟨g, off, ea, hc1⟩ := (HRow.out.later HBw.out).at_ hx
      subst ea
      have HOc := Lib.hid (HOc0.out x)
      have HG := Lib.hid (HGet.out _ HFx.out _ HBw.out)
      obtain ⟨⟨c1, c2, c3, c4, c5⟩, c6, c7⟩ := x
      have a0 : wr.cell? ⟨g, off + k * 7, none⟩ = some (.int .i64 c1) := hc1 0 _ rfl
      have aa1 : wr.cell? ⟨g, off + k * 7 + 1, none⟩ = some (.string c2) := hc1 1 _ rfl
      have a2 : wr.cell? ⟨g, off + k * 7 + 2, none⟩ = some (.int .i64 c3) := hc1 2 _ rfl
      have a3 : wr.cell? ⟨g, off + k * 7 + 3, none⟩ = some (.int .i64 c4) := hc1 3 _ rfl
      have a4 : wr.cell? ⟨g, off + k * 7 + 4, none⟩ = some (.string c5) := hc1 4 _ rfl
      have a5 : wr.cell? ⟨g, off + k * 7 + 5, none⟩ = some (.string c6) := hc1 5 _ rfl
      have a6 : wr.cell? ⟨g, off + k * 7 + 6, none⟩ = some (.bool c7) := hc1 6 _ rfl
      clear hx hc1
      dsimp only at *
      generalize getL cmpN l ⟨c1, c2, c3, c4, c5⟩ = gg at *
      have HG0 : Hid (Calls Tryd.prog 34 #[.slice a1 l.length cap1, .agg #[.int .i64 c1, .string c2, .int .i64 c3, .int .i64 c4, .string c5]] wr fun r w' => r = .returned (.tuple #[.string (gg.getD ⟨#[]⟩), .bool gg.isSome]) ∧ Below wr.heap.size wr w') := HG.out
      clear HG
      go_wp2_with fail
      refine HG0.out.mono ?_
      rintro r w9 ⟨rfl, hb9⟩
      have HB9 : Hid (Below w.heap.size w w9) := HBw.out.trans (hb9.mono HBw.out.size)
      clear a0 aa1 a2 a3 a4 a5 a6 HG0
      obtain ⟨g', off', eg, hc1⟩ := (HRow.out.later HB9.out).at_ Hx.out
      cases eg
      have y5 : w9.cell? ⟨g, off + k * 7 + 5, none⟩ = some (.string c6) := hc1 5 _ rfl
      have y6 : w9.cell? ⟨g, off + k * 7 + 6, none⟩ = some (.bool c7) := hc1 6 _ rfl
      clear hb9 hc1
      cases gg with
      | none =>
        cases c7 with
        | true =>
          have HN : Hid (holdsB (getL cmpN l) (cs.take (k + 1)) = true) := by show _ = _; rw [HSt.out, HOk.out, HOc.out]; rfl
          go_wp2
          go_roundg (n - (k + 1))
          case measure => have := Hk.out; omega
          case rel => exact ⟨k + 1, by have := Hk.out; omega, by go_num, HN.out, HB9.out⟩
        | false =>
          have HN : Hid (holdsB (getL cmpN l) cs = false) := HBad.out (by rw [HOc.out])
          go_wp2
          go_ret
          exact ⟨by rw [HN.out]; rfl, HB9.out⟩
      | some y =>
        cases c7 with
        | true =>
          have HN : Hid (holdsB (getL cmpN l) cs = false) := HBad.out (by rw [HOc.out]; rfl)
          go_wp2
          go_ret
          exact ⟨by rw [HN.out]; rfl, HB9.out⟩
        | false =>
          by_cases hy : y = c6
          · have HN : Hid (holdsB (getL cmpN l) (cs.take (k + 1)) = true) := by show _ = _; rw [HSt.out, HOk.out, HOc.out]; simp [hy]
            have hyy : (y.toList == c6.toList) = true := by rw [hy]; simp
            clear hy
            go_wp2
            go_roundg (n - (k + 1))
            case measure => have := Hk.out; omega
            case rel => exact ⟨k + 1, by have := Hk.out; omega, by go_num, HN.out, HB9.out⟩
          · have HN : Hid (holdsB (getL cmpN l) cs = false) := HBad.out (by rw [HOc.out]; simp [hy])
            have hyy : (y.toList == c6.toList) = false := by rw [str_beq]; exact decide_eq_false hy
            clear hy
            go_wp2
            go_ret
            exact ⟨by rw [HN.out]; rfl, HB9.out⟩
    · have hkn' : k = n := by omega
      have HF2 : Hid (holdsB (getL cmpN l) cs = true) := by show _ = _; rw [HTk.out, ← hkn']; exact HOk.out
      clear hkn'
      go_wp2
      go_ret
      exact ⟨by rw [HF2.out]; rfl, HBw.out⟩
set_option maxRecDepth 100000 in
theorem holds_nil (v : Value) (w : World) : Calls Tryd.prog 17 #[.pointer none, v] w fun r w' => r = .returned (.bool false) ∧ w = w' := by
  go_enter Tryd.func17, Tryd.ntmps17
  go_wp2
  go_ret
  exact ⟨rfl, rfl⟩
def kS : KindK ChangeT where
  cells := changeCells
  S := 7
  T := 52
  sl := 41
  z := .agg #[.int .i64 0, .string ⟨#[]⟩, .int .i64 0, .int .i64 0, .string ⟨#[]⟩, .string ⟨#[]⟩, .bool false]
  B := 80
  len _ := rfl
  pos := by decide
  one x u hu := by simp [changeCells] at hu; rcases hu with rfl | rfl | rfl | rfl | rfl | rfl | rfl <;> rfl
  und := Tryd.underlying41
  info := by kernel_rfl
  zs := rfl
  hB := by decide
theorem OwnK.rowC {base : Nat} {w : World} {v : Value} {cs : List ChangeT} (h : OwnK kS base w v cs) : RowC w v cs := OwnC.row (base := base) h
/-- A row of the call's own is apart from another type's. -/
theorem ownK_apart {α β : Type} {K1 : KindK α} {K2 : KindK β} {b1 b2 : Nat} {w w' : World} {v1 v2 : Value} {x1 : List α} {x2 : List β} (h : OwnK K1 b1 w v1 x1) (h2 : OwnK K2 b2 w v2 x2) (hne : K1.T ≠ K2.T) (hg : w.grownBy w' v2.ownBlock) : OwnK K1 b1 w' v1 x1 := by
  obtain ⟨a1, a2⟩ := h
  refine ⟨a1, ?_⟩
  rcases a2 with a2 | ⟨g, cap, cur, hv, hb, hh, r⟩
  · exact .inl a2
  · refine .inr ⟨g, cap, cur, hv, hb, (hg.block g (lt_of_heap hh) (fun e => ?_)).trans hh, r⟩
    rcases h2.2 with ⟨hv2, _⟩ | ⟨g2, cap2, cur2, hv2, _, hh2, _⟩
    · rw [hv2] at e; cases e
    · rw [hv2] at e
      have : g = g2 := by simpa [Value.ownBlock] using e
      subst this
      rw [hh] at hh2
      exact hne (Obj.cells.inj (Option.some.inj hh2)).2.1
def shL (fo : Nat → ChangeT) (k : Nat) : List ChangeT := (List.range k).map fun j => shortC (fo j)
theorem shL_succ (fo : Nat → ChangeT) (k : Nat) : shL fo (k + 1) = shL fo k ++ [shortC (fo k)] := by
  unfold shL
  rw [List.range_succ, List.map_append]
  rfl
theorem shL_len (fo : Nat → ChangeT) (k : Nat) : (shL fo k).length = k := by unfold shL; simp
theorem shL_fit (fo : Nat → ChangeT) (k : Nat) : ∀ c ∈ shL fo k, FitN c.name := fun c hc => by
  obtain ⟨j, -, rfl⟩ := List.mem_map.1 hc
  exact fit_short _
/-- What Reads lists holds in the base. -/
theorem rd_holds (l : List (NameT × ByteArray)) (rs : List NameT) {cs : List ChangeT} (hp : cs.Perm ((rd l rs).map Prod.snd)) : holdsB (getL cmpN l) cs = true := by
  have aux : ∀ (rs : List NameT) (m : List (NameT × ChangeT)), (∀ p ∈ m, p.2 = rdc l p.1) → ∀ p ∈ rs.foldl (fun m n => aSet m n (rdc l n)) m, p.2 = rdc l p.1 := by
    intro rs
    induction rs with
    | nil => exact fun m h => h
    | cons x rs ih =>
      intro m h
      refine ih (aSet m x (rdc l x)) (fun p hp => ?_)
      rcases aSet_mem _ _ _ hp with rfl | hp
      · rfl
      · exact h p hp
  unfold holdsB
  rw [List.all_eq_true]
  intro c hc
  obtain ⟨p, hpm, rfl⟩ := List.mem_map.1 (hp.mem_iff.1 hc)
  rw [aux rs [] (fun _ h => nomatch h) p hpm]
  show (match getL cmpN l p.1 with | none => (rdc l p.1).absent | some x => !(rdc l p.1).absent && decide (x = (rdc l p.1).value)) = true
  unfold rdc
  cases getL cmpN l p.1 <;> simp
theorem QM.rdkH {w0 w : World} {b M : Nat} {V : AV} {G : Nat → Prop} (s : QM w0 w b M V G) : ReadsOk V.reads := by
  obtain ⟨⟨h, hv, -⟩, -⟩ := s
  exact hv.rdk
theorem rd_lenH (l : List (NameT × ByteArray)) (rs : List NameT) : (rd l rs).length ≤ rs.length := by
  have aux : ∀ (rs : List NameT) (m : List (NameT × ChangeT)), (rs.foldl (fun m n => aSet m n (rdc l n)) m).length ≤ m.length + rs.length := by
    intro rs
    induction rs with
    | nil => intro m; exact Nat.le_refl _
    | cons x rs ih =>
      intro m
      have h2 : (aSet m x (rdc l x)).length ≤ m.length + 1 := by
        generalize rdc l x = y
        induction m with
        | nil => exact Nat.le_refl _
        | cons e m ih =>
          unfold aSet
          split
          · exact Nat.le_succ _
          · exact Nat.succ_le_succ ih
      have := ih (aSet m x (rdc l x))
      rw [List.foldl_cons, List.length_cons]
      omega
  have h9 := aux rs []
  rw [List.length_nil, Nat.zero_add] at h9
  exact h9
end Go.Proofs.YthghfhnicdoebaaDoor

namespace Go.Proofs.YthghfhnicdoebaaDoor
open Go.RowKit
attribute [local go_sem ↓] Go.wp_at_zero Go.wp_at_succ

set_option maxRecDepth 100000 in
set_option maxHeartbeats 6400000 in
theorem viewHolds_any (a5 : Option Addr) (n5 c5 : Nat) (f5 : Nat → ChangeT) (a : Option Addr) (n c : Nat) (fo : Nat → OpV) (a7 : Option Addr) (n7 c7 : Nat) (f7 : Nat → ChangeT) (w : World) (hu : Usages w) (hn5 : n5 ≤ 9223372036854775807) (hl5 : C24Sl w a5 n5 f5) (hn : n ≤ 9223372036854775807) (hl : OpSlV w a n fo) (hn7 : n7 ≤ 9223372036854775807) (hl7 : C24Sl w a7 n7 f7) :
    Calls Tryd.prog 4 #[.slice a5 n5 c5, .slice a n c, .slice a7 n7 c7] w fun r w' => r = .returned (.bool true) ∧ Below w.heap.size w w' := by
  have HPl : Hid (∀ W, Below w.heap.size w W → Calls Tryd.prog 6 #[.slice a5 n5 c5, .slice a n c] W (Play24Post (baseL f5 (min n5 12)) (runR (baseL f5 (min n5 12)) fo (min n 30)) W)) := fun W hW => play24_any a5 n5 c5 f5 a n c fo W (hu.below hW hu.pos) hn5 (hl5.later hW) hn (hl.later hW)
  have HBs : Hid (∀ W, Below w.heap.size w W → Calls Tryd.prog 16 #[.slice a5 n5 c5] W (BaseRow (baseL f5 (min n5 12)) W)) := fun W hW => (base24_any a5 n5 c5 f5 W (hu.below hW hu.pos) hn5 (hl5.later hW)).mono (fun _ _ h => base_row h)
  have HKn : Hid (∀ W, Below w.heap.size w W → Calls Tryd.prog 5 #[] W fun r w' => r = .returned (.bool true) ∧ Below W.heap.size W w') := fun W hW => known24_any W (hu.below hW hu.pos)
  have HLk : Hid (LOk (baseL f5 (min n5 12)) 12) := (baseL_ok f5 _).more (by omega)
  have HRi : Hid (PInv (runR (baseL f5 (min n5 12)) fo (min n 30)).1 (runR (baseL f5 (min n5 12)) fo (min n 30)).2 (min n 30)) := runR_inv _ _ _
  have HM30 : Hid (min n 30 ≤ 30) := Nat.min_le_right _ _
  have Hl7 := Lib.hid hl7
  clear hu hl hl5 hl7
  generalize min n 30 = mm at *
  generalize runR (baseL f5 (min n5 12)) fo mm = q at *
  generalize baseL f5 (min n5 12) = l at *
  by_cases h20 : 20 < n7
  · have h20' : (20 : Int) < (n7 : Int) := by omega
    clear HPl HBs HRi HLk
    go_enter Tryd.func4, Tryd.ntmps4
    go_wp2_with fail
    refine (HKn.out _ (Below.refl _ _)).mono ?_
    rintro r w1 ⟨rfl, hb1⟩
    have HB1 := Lib.hid hb1
    clear hb1
    go_wp2_with fail
    refine (HKn.out _ HB1.out).mono ?_
    rintro r w2 ⟨rfl, hb2⟩
    have HB2 : Hid (Below w.heap.size w w2) := HB1.out.trans (hb2.mono HB1.out.size)
    clear hb2 HB1
    go_wp2
    go_ret
    exact ⟨rfl, HB2.out⟩
  have h20' : ¬ (20 : Int) < (n7 : Int) := by omega
  go_enter Tryd.func4, Tryd.ntmps4
  go_wp2_with fail
  refine (HKn.out _ (Below.refl _ _)).mono ?_
  rintro r w1 ⟨rfl, hb1⟩
  have HB1 := Lib.hid hb1
  clear hb1 HKn
  go_wp2_with fail
  refine (HBs.out _ HB1.out).mono ?_
  rintro r w2 ⟨sp, asl, ns, ks, rfl, hb2, hbn, hrow, -⟩
  have HB2 : Hid (Below w.heap.size w w2) := HB1.out.trans (hb2.mono HB1.out.size)
  have HBn2 := Lib.hid hbn
  have HRow2 := Lib.hid hrow
  clear hb2 hbn hrow HB1 HBs
  go_wp2_with fail
  refine (HPl.out _ HB2.out).mono ?_
  rintro r w3 ⟨wv, b, ab, nb, kb, ar, nr, kr, ac, nc, kc, rfl, hbv, hpv⟩
  have hb3 : Below w2.heap.size w2 w3 := hbv.trans (hpv.s.below.mono hbv.size)
  have HB23 := Lib.hid hb3
  have HB3 : Hid (Below w.heap.size w w3) := HB2.out.trans (hb3.mono HB2.out.size)
  have HS3 := Lib.hid hpv.s
  have HB34 : Hid (∀ oj, Below w3.heap.size w3 (w3.alloc oj)) := fun oj => (Below.refl _ _).alloc (Nat.le_refl _) _
  clear hbv hpv hb3 HB2 HPl
  go_upto_region 10 with fail
  have HBx := Lib.hid (HB34.out (.cells #[.slice ab nb kb, .slice ar nr kr, .slice ac nc kc] 31))
  clear HB34
  generalize w3.alloc (.cells #[.slice ab nb kb, .slice ar nr kr, .slice ac nc kc] 31) = w4 at *
  have HB4 : Hid (Below w.heap.size w w4) := HB3.out.trans (HBx.out.mono HB3.out.size)
  have HB24 : Hid (Below w2.heap.size w2 w4) := HB23.out.trans (HBx.out.mono HB23.out.size)
  have HS4 := Lib.hid (HS3.out.later HBx.out)
  clear HB3 HB23 HBx HS3
  go_loopg [12, 13, 14] n7 (fun gk ov lv iv wr => ∃ k : Nat, k + gk = n7 ∧ iv = .int .i64 k ∧ Hid (OwnK kC w4.heap.size wr ov (shL f7 k)) ∧ Hid (OwnK kS w4.heap.size wr lv (shL f7 k)) ∧ Hid (Below w4.heap.size w4 wr))
  case atStart => exact ⟨0, by omega, rfl, OwnK.nil _ _, OwnK.nil _ _, Below.refl _ _⟩
  case round =>
    obtain ⟨k, hk, rfl, HO, HL, HBr⟩ := hrel
    have Hk := Lib.hid hk
    have hkn : k ≤ n7 := by omega
    clear hk
    have HBw : Hid (Below w.heap.size w wr) := HB4.out.trans (HBr.out.mono HB4.out.size)
    by_cases hlt : k < n7
    · obtain ⟨g, off, rfl, hc⟩ := Hl7.out.later HBw.out (by omega)
      obtain ⟨e0, e1, e2, e3, e4, e5, e6, z1, z2, z3⟩ := hc k hlt
      clear hc
      have HSh : Hid (∀ W, Calls Tryd.prog 8 #[.agg #[.int .i64 (f7 k).name.kind, .string (f7 k).name.owner, .int .i64 (f7 k).name.number, .int .i64 (f7 k).name.index, .string (f7 k).name.text, .string (f7 k).value, .bool (f7 k).absent]] W fun r w' => r = .returned (.agg #[.int .i64 (shortC (f7 k)).name.kind, .string (shortC (f7 k)).name.owner, .int .i64 (shortC (f7 k)).name.number, .int .i64 (shortC (f7 k)).name.index, .string (shortC (f7 k)).name.text, .string (shortC (f7 k)).value, .bool (shortC (f7 k)).absent]) ∧ Below W.heap.size W w') := fun W => short_any _ _ _ _ _ _ _ W z1 z2 z3
      have HSu : Hid (shL f7 (k + 1) = shL f7 k ++ [shortC (f7 k)]) := shL_succ f7 k
      have HSn : Hid ((shL f7 k).length = k) := shL_len f7 k
      generalize shortC (f7 k) = sc at *
      obtain ⟨⟨s1, s2, s3, s4, s5⟩, s6, s7⟩ := sc
      dsimp only at *
      clear z1 z2 z3
      go_wp2_with fail
      refine (HSh.out _).mono ?_
      rintro r w5 ⟨rfl, hb5⟩
      have HB45 : Hid (Below w4.heap.size w4 w5) := HBr.out.trans (hb5.mono HBr.out.size)
      have HO5 := Lib.hid (HO.out.later hb5)
      have HL5 := Lib.hid (HL.out.later hb5)
      clear hb5 HO HL HSh e0 e1 e2 e3 e4 e5 e6
      go_upto_region 13 with fail
      have HX6 := Lib.hid (heap_alloc_new w5 (.cells #[.int .i64 s1, .string s2, .int .i64 s3, .int .i64 s4, .string s5, .string s6, .bool s7] 39))
      have HB56 : Hid (Below w5.heap.size w5 (w5.alloc (.cells #[.int .i64 s1, .string s2, .int .i64 s3, .int .i64 s4, .string s5, .string s6, .bool s7] 39))) := (Below.refl _ _).alloc (Nat.le_refl _) _
      generalize w5.alloc (.cells #[.int .i64 s1, .string s2, .int .i64 s3, .int .i64 s4, .string s5, .string s6, .bool s7] 39) = w6 at *
      have HB46 : Hid (Below w4.heap.size w4 w6) := HB45.out.trans (HB56.out.mono HB45.out.size)
      have HO6 := Lib.hid (HO5.out.later HB56.out)
      have HL6 := Lib.hid (HL5.out.later HB56.out)
      have HXlt : Hid (∀ k', u12.ownBlock = some k' → k' < w5.heap.size) := fun k' h => (World.ownsRow.lt HO5.out k' h).2
      have HXl : Hid (∀ k', u13.ownBlock = some k' → k' ≠ w5.heap.size) := fun k' h => Nat.ne_of_lt (World.ownsRow.lt HL5.out k' h).2
      clear HO5 HL5 HB56
      generalize w5.heap.size = X at *
      have x0 : w6.cell? ⟨X, 0, none⟩ = some (.int .i64 s1) := cell_of_heap HX6.out 0
      have x1 : w6.cell? ⟨X, 1, none⟩ = some (.string s2) := cell_of_heap HX6.out 1
      have x2 : w6.cell? ⟨X, 2, none⟩ = some (.int .i64 s3) := cell_of_heap HX6.out 2
      have x3 : w6.cell? ⟨X, 3, none⟩ = some (.int .i64 s4) := cell_of_heap HX6.out 3
      have x4 : w6.cell? ⟨X, 4, none⟩ = some (.string s5) := cell_of_heap HX6.out 4
      have x5 : w6.cell? ⟨X, 5, none⟩ = some (.string s6) := cell_of_heap HX6.out 5
      have x6 : w6.cell? ⟨X, 6, none⟩ = some (.bool s7) := cell_of_heap HX6.out 6
      have HO6a : Hid (∀ oj, OwnK kC w4.heap.size (w6.alloc oj) u12 (shL f7 k)) := fun oj => HO6.out.later ((Below.refl _ _).alloc (Nat.le_refl _) _)
      have HB46a : Hid (∀ oj, Below w4.heap.size w4 (w6.alloc oj)) := fun oj => HB46.out.alloc HB46.out.size _
      have HL6a : Hid (∀ oj, OwnK kS w4.heap.size (w6.alloc oj) u13 (shL f7 k)) := fun oj => HL6.out.later ((Below.refl _ _).alloc (Nat.le_refl _) _)
      have HX6a : Hid (∀ oj, (w6.alloc oj).heap[X]? = some (.cells #[.int .i64 s1, .string s2, .int .i64 s3, .int .i64 s4, .string s5, .string s6, .bool s7] 39 (0, 0))) := fun oj => (Below.heap_alloc _ _ _ (lt_of_heap HX6.out)).trans HX6.out
      have HXo : Hid (∀ k', u12.ownBlock = some k' → k' ≠ X) := fun k' hk' => Nat.ne_of_lt (Nat.lt_of_lt_of_le (HXlt.out k' hk') (Nat.le_refl _))
      go_upto_region 14 with (first
        | (at_builtin; refine wpList_append_K (K := kC) rfl _ _ rfl w4.heap.size u12 (shL f7 k) rfl (HO6a.out _) (.slice (some ⟨w6.heap.size, 0, none⟩) 1 1) [⟨⟨s1, s2, s3, s4, s5⟩, s6, s7⟩] rfl (RowK.one (heap_alloc_new w6 _) rfl) (by have h1 := HSn.out; simp only [List.length_cons, List.length_nil]; omega) (HB46a.out _).size ?_; intro v7 w7 hrow7 hg7 hat7; have HO7 : Hid (OwnK kC w4.heap.size w7 v7 (shL f7 k ++ [⟨⟨s1, s2, s3, s4, s5⟩, s6, s7⟩])) := hrow7; have HL7 : Hid (OwnK kS w4.heap.size w7 u13 (shL f7 k)) := ownK_apart (HL6a.out _) (HO6a.out _) (by decide) hg7; have HB7 : Hid (Below w4.heap.size w4 w7) := OwnK.below (HO6a.out _) hg7 (HB46a.out _) (Nat.le_refl _); have HX7 : Hid (w7.heap[X]? = some (.cells #[.int .i64 s1, .string s2, .int .i64 s3, .int .i64 s4, .string s5, .string s6, .bool s7] 39 (0, 0))) := (hg7.block X (lt_of_heap (HX6a.out _)) (fun e => HXo.out X e.symm rfl)).trans (HX6a.out _); clear hrow7 hg7 hat7)
        | go_in)
      clear x0 x1 x2 x3 x4 x5 x6 HO6 HL6 HO6a HL6a HB46a HX6a HXo
      have DK : Hid (∀ W, Below w7.heap.size w7 W → W.cell? ⟨X, 0, none⟩ = some (.int .i64 s1) ∧ W.cell? ⟨X, 1, none⟩ = some (.string s2) ∧ W.cell? ⟨X, 2, none⟩ = some (.int .i64 s3) ∧ W.cell? ⟨X, 3, none⟩ = some (.int .i64 s4) ∧ W.cell? ⟨X, 4, none⟩ = some (.string s5) ∧ W.cell? ⟨X, 5, none⟩ = some (.string s6) ∧ W.cell? ⟨X, 6, none⟩ = some (.bool s7)) := fun W hW => by
        have h := (hW.block _ (lt_of_heap HX7.out)).trans HX7.out
        exact ⟨cell_of_heap h 0, cell_of_heap h 1, cell_of_heap h 2, cell_of_heap h 3, cell_of_heap h 4, cell_of_heap h 5, cell_of_heap h 6⟩
      have HD7 : Hid (Below w7.heap.size w7 w7.drew) := (Below.refl _ _).drew
      have HTo : Hid (∀ W, Calls Tryd.prog 7 #[.agg #[.int .i64 s1, .string s2, .int .i64 s3, .int .i64 s4, .string s5]] W fun r w' => r = .returned (.agg #[.int .i64 s1, .string s2, .int .i64 s3, .int .i64 s4, .string s5]) ∧ Below W.heap.size W w') := fun W => to04_any s1 s2 s3 s4 s5 W
      go_region_held3 (fun W => W.cell? ⟨X, 0, none⟩ = some (.int .i64 s1) ∧ W.cell? ⟨X, 1, none⟩ = some (.string s2) ∧ W.cell? ⟨X, 2, none⟩ = some (.int .i64 s3) ∧ W.cell? ⟨X, 3, none⟩ = some (.int .i64 s4) ∧ W.cell? ⟨X, 4, none⟩ = some (.string s5) ∧ W.cell? ⟨X, 5, none⟩ = some (.string s6) ∧ W.cell? ⟨X, 6, none⟩ = some (.bool s7)) (first | with_reducible exact DK.out _ HD7.out | with_reducible exact DK.out _ HB78.out | with_reducible exact DK.out _ (HB78a.out _) | with_reducible exact S9.out | go_keep)
        (first
          | (go_at_call 7; (with_reducible refine (HTo.out _).mono ?_); rintro r w8 ⟨rfl, hb8⟩; have HB78 : Hid (Below w7.heap.size w7 w8) := HD7.out.trans (hb8.mono HD7.out.size); have HB78a : Hid (∀ oj, Below w7.heap.size w7 (w8.alloc oj)) := (fun oj => HB78.out.alloc HB78.out.size _); clear hb8)
          | (refine step_append_K (K := kS) (by rfl) _ _ (by rfl) w4.heap.size u13 (shL f7 k) (by rfl) (HL7.out.later (HB78a.out _)) (.slice (some ⟨w8.heap.size, 0, none⟩) 1 1) [⟨⟨s1, s2, s3, s4, s5⟩, s6, s7⟩] (by rfl) (RowK.one (heap_alloc_new w8 _) rfl) (by have h1 := HSn.out; simp only [List.length_cons, List.length_nil]; omega) (Nat.le_trans HB7.out.size (HB78a.out _).size) ?_; intro v9 w9 hrow9 hg9 hat9; have HL9 : Hid (OwnK kS w4.heap.size w9 v9 (shL f7 k ++ [⟨⟨s1, s2, s3, s4, s5⟩, s6, s7⟩])) := hrow9; have HO9 : Hid (OwnK kC w4.heap.size w9 v7 (shL f7 k ++ [⟨⟨s1, s2, s3, s4, s5⟩, s6, s7⟩])) := ownK_apart (HO7.out.later (HB78a.out _)) (HL7.out.later (HB78a.out _)) (by decide) hg9; have HB9 : Hid (Below w4.heap.size w4 w9) := OwnK.below (HL7.out.later (HB78a.out _)) hg9 (HB7.out.trans ((HB78a.out _).mono HB7.out.size)) (Nat.le_refl _); have S9 : Hid (w9.cell? ⟨X, 0, none⟩ = some (.int .i64 s1) ∧ w9.cell? ⟨X, 1, none⟩ = some (.string s2) ∧ w9.cell? ⟨X, 2, none⟩ = some (.int .i64 s3) ∧ w9.cell? ⟨X, 3, none⟩ = some (.int .i64 s4) ∧ w9.cell? ⟨X, 4, none⟩ = some (.string s5) ∧ w9.cell? ⟨X, 5, none⟩ = some (.string s6) ∧ w9.cell? ⟨X, 6, none⟩ = some (.bool s7)) := (by have h := (hg9.block X (Nat.lt_of_lt_of_le (lt_of_heap HX7.out) (HB78a.out _).size) (fun e => HXl.out X e.symm rfl)).trans (((HB78a.out _).block X (lt_of_heap HX7.out)).trans HX7.out); exact ⟨cell_of_heap h 0, cell_of_heap h 1, cell_of_heap h 2, cell_of_heap h 3, cell_of_heap h 4, cell_of_heap h 5, cell_of_heap h 6⟩); clear hrow9 hg9 hat9)
          | fail)
      all_goals
        clear DK HD7 HTo
        go_wp2
        go_roundg (n7 - (k + 1))
        case measure => have := Hk.out; omega
        case rel => exact ⟨k + 1, by have := Hk.out; omega, by go_num, by show OwnK _ _ _ _ _; rw [HSu.out]; exact HO9.out, by show OwnK _ _ _ _ _; rw [HSu.out]; exact HL9.out, HB9.out⟩
    · have hkn' : k = n7 := by omega
      subst hkn'
      have hkl : k ≤ 20 := by omega
      have HRl := Lib.hid HL.out.rowC
      have HRo := Lib.hid HO.out.row
      have HSn : Hid ((shL f7 k).length = k) := shL_len f7 k
      have HSf : Hid (∀ c ∈ shL f7 k, FitN c.name) := shL_fit f7 k
      obtain ⟨al, kl, rfl, -⟩ := HL.out.rowC
      obtain ⟨ao, ko, rfl, -, -⟩ := HO.out.row.form
      have HB2r : Hid (Below w2.heap.size w2 wr) := HB24.out.trans (HBr.out.mono HB24.out.size)
      have HS5 := Lib.hid (HS4.out.later HBr.out)
      have HH1 : Hid (∀ W v, Below wr.heap.size wr W → RowC W v (shL f7 k) → Calls Tryd.prog 17 #[.pointer (some ⟨sp, 0, none⟩), v] W fun r w' => r = .returned (.bool (holdsB (getL cmpN l) (shL f7 k))) ∧ Below W.heap.size W w') := fun W v hW hr => holds_any (HBn2.out.later (HB2r.out.trans (hW.mono HB2r.out.size))) (HB2r.out.trans (hW.mono HB2r.out.size)).size hr HSf.out (by have := HSn.out; omega)
      have HH2 : Hid (∀ W v, Below wr.heap.size wr W → RowK kC W v (shL f7 k) → Calls Tryd.prog 18 #[.slice asl ns ks, v] W fun r w' => r = .returned (.bool (holdsB (getL cmpN l) (shL f7 k))) ∧ Below W.heap.size W w') := fun W v hW hr => rHolds_any (HRow2.out.later (HB2r.out.trans (hW.mono HB2r.out.size))) hr HLk.out.fit HLk.out.s (by have := HLk.out.n; omega) HSf.out (by have := HSn.out; omega)
      have HRe : Hid (∀ W, Below wr.heap.size wr W → Calls Tryd.prog 9 #[.pointer (some ⟨b, 0, none⟩)] W fun r w' => ∃ v cs, r = .returned v ∧ RowC w' v cs ∧ holdsB (getL cmpN l) cs = true ∧ (∀ c ∈ cs, FitN c.name) ∧ cs.length ≤ 30 ∧ Below W.heap.size W w') := fun W hW => by
        have s := HS5.out.later hW
        have hl1 := rd_lenH l q.1
        have hl2 := HRi.out.rl
        have hl3 := HM30.out
        have hrk := s.rdkH
        refine (qmReads s (by show (rd l q.1).length ≤ _; omega)).mono ?_
        rintro r w' ⟨v, cs, rfl, hr, hp, -, hb, -⟩
        refine ⟨v, cs, rfl, hr, rd_holds l q.1 hp, fun c hc => ?_, ?_, hb⟩
        · obtain ⟨p, hpm, rfl⟩ := List.mem_map.1 (hp.mem_iff.1 hc)
          have h4 := hrk.2 p hpm
          rw [h4.1]
          exact h4.2
        · rw [hp.length_eq, List.length_map]
          show (rd l q.1).length ≤ _
          omega
      have HH3 : Hid (∀ W v cs, Below wr.heap.size wr W → RowC W v cs → holdsB (getL cmpN l) cs = true → (∀ c ∈ cs, FitN c.name) → cs.length ≤ 30 → Calls Tryd.prog 17 #[.pointer (some ⟨sp, 0, none⟩), v] W fun r w' => r = .returned (.bool true) ∧ Below W.heap.size W w') := fun W v cs hW hr h1 h2 h3 => by
        have h := holds_any (HBn2.out.later (HB2r.out.trans (hW.mono HB2r.out.size))) (HB2r.out.trans (hW.mono HB2r.out.size)).size hr h2 (by omega)
        rw [h1] at h
        exact h
      rw [HSn.out] at HRl
      rw [HSn.out] at HRo
      rw [HSn.out]
      generalize holdsB (getL cmpN l) (shL f7 k) = hb at *
      clear HO HL HBn2 HRow2 HS4 HS5 HB24 hkl
      go_wp2_with fail
      refine (HH1.out _ _ (Below.refl _ _) HRl.out).mono ?_
      rintro r w5 ⟨rfl, hb5⟩
      have HB5 := Lib.hid hb5
      clear hb5
      go_wp2_with fail
      refine (HH2.out _ _ HB5.out (HRo.out.later HB5.out)).mono ?_
      rintro r w6 ⟨rfl, hb6⟩
      have HB6 : Hid (Below wr.heap.size wr w6) := HB5.out.trans (hb6.mono HB5.out.size)
      clear hb6 HB5 HH1 HH2
      have hbb : (hb == hb) = true := by simp
      go_wp2_with fail
      refine (HRe.out _ HB6.out).mono ?_
      rintro r w7 ⟨vr, cr, rfl, hr7, hh7, hf7, hl7, hb7⟩
      have HR7 := Lib.hid hr7
      have HQ7 : Hid (holdsB (getL cmpN l) cr = true ∧ (∀ c ∈ cr, FitN c.name) ∧ cr.length ≤ 30) := ⟨hh7, hf7, hl7⟩
      have HB7 : Hid (Below wr.heap.size wr w7) := HB6.out.trans (hb7.mono HB6.out.size)
      clear hr7 hh7 hf7 hl7 hb7 HB6 HRe
      go_wp2_with fail
      refine (HH3.out _ _ _ HB7.out HR7.out HQ7.out.1 HQ7.out.2.1 HQ7.out.2.2).mono ?_
      rintro r w8 ⟨rfl, hb8⟩
      have HB8 : Hid (Below wr.heap.size wr w8) := HB7.out.trans (hb8.mono HB7.out.size)
      clear hb8 HB7 HH3 HR7 HQ7
      go_wp2_with fail
      refine (holds_nil _ _).mono ?_
      rintro r w9 ⟨rfl, rfl⟩
      go_wp2_with fail
      refine (holds_nil _ _).mono ?_
      rintro r w9 ⟨rfl, rfl⟩
      go_wp2
      go_ret
      exact ⟨rfl, HBw.out.trans (HB8.out.mono HBw.out.size)⟩
end Go.Proofs.YthghfhnicdoebaaDoor
