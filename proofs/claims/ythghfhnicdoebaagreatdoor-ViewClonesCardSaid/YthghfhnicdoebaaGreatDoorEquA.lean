/- Law 24, plain: what Diff lists was written. Law 24: ViewAfter. state.Equal of like states; slices.Equal; reference 24: Same. (printed by wip/gen_equ.py) -/
import Derived.Test.YthghfhnicdoebaaGreatDoorDifB
import Derived.Test.YthghfhnicdoebaaGreatDoorKnvA
namespace Go.Proofs.YthghfhnicdoebaaGreatDoor
open Go.RowKit

theorem getC {x : NameT × ByteArray} {l : List (NameT × ByteArray)} {n : NameT} (h : n ≠ x.1) : getL cmpN (x :: l) n = getL cmpN l n := by
  rw [getL, if_neg (fun e => h (cmpN_ok.eq _ _ e))]
theorem getH (x : NameT × ByteArray) (l : List (NameT × ByteArray)) : getL cmpN (x :: l) x.1 = some x.2 := by
  rw [getL, if_pos (cmpN_ok.refl _)]
theorem getX {x : NameT × ByteArray} {l : List (NameT × ByteArray)} {n : NameT} (h : getL cmpN l n ≠ none) : getL cmpN (x :: l) n ≠ none := by
  by_cases e : n = x.1
  · rw [e, getH]; exact fun h => nomatch h
  · rw [getC e]; exact h
def sndL (a : List NdT) : List (NameT × ByteArray) := a.map (·.2)
def Changed (a b : List (NameT × ByteArray)) (c : ChangeT) : Prop :=
  (c.absent = true ∧ c.value = ⟨#[]⟩ ∧ getL cmpN b c.name = none ∧ getL cmpN a c.name ≠ none) ∨ (c.absent = false ∧ getL cmpN b c.name = some c.value ∧ getL cmpN a c.name ≠ some c.value)
theorem sort_lo {x : NameT × ByteArray} {l : List (NameT × ByteArray)} (h : SortL cmpN (x :: l)) {n : NameT} (hn : n = x.1 ∨ cmpN n x.1 < 0) : getL cmpN l n = none := by
  refine getL_lo (c := cmpN) fun e he => ?_
  have h1 : cmpN x.1 e.1 < 0 := (List.pairwise_cons.1 h).1 e he
  rcases hn with rfl | hn
  · exact h1
  · exact cmpN_ok.trans _ _ _ hn h1
theorem sort_lo2 {x : NameT × ByteArray} {l : List (NameT × ByteArray)} (h : SortL cmpN (x :: l)) {n : NameT} (hn : cmpN n x.1 < 0) : getL cmpN (x :: l) n = none := by
  rw [getC (cmpN_ok.ne hn)]
  exact sort_lo h (.inr hn)
theorem diffN_spec (a b : List NdT) (ha : SortL cmpN (sndL a)) (hb : SortL cmpN (sndL b)) : ∀ c ∈ diffN a b, Changed (sndL a) (sndL b) c := by
  fun_induction diffN a b with
  | case1 => intro c hc; cases hc
  | case2 x a ih =>
    intro c hc
    rcases List.mem_cons.1 hc with rfl | hc
    · exact .inl ⟨rfl, rfl, rfl, by rw [show sndL (x :: a) = x.2 :: sndL a from rfl]; dsimp only; rw [getH]; exact fun h => nomatch h⟩
    · rcases ih (List.pairwise_cons.1 ha).2 hb c hc with ⟨h1, h2, h3, h4⟩ | ⟨h1, h2, h3⟩
      · exact .inl ⟨h1, h2, h3, getX h4⟩
      · cases h2
  | case3 y b ih =>
    intro c hc
    rcases List.mem_cons.1 hc with rfl | hc
    · exact .inr ⟨rfl, getH y.2 _, fun h => nomatch h⟩
    · rcases ih ha (List.pairwise_cons.1 hb).2 c hc with ⟨h1, h2, h3, h4⟩ | ⟨h1, h2, h3⟩
      · exact absurd rfl h4
      · refine .inr ⟨h1, ?_, h3⟩
        have hne : c.name ≠ y.2.1 := fun e => by have hz : getL cmpN (sndL b) c.name = none := sort_lo hb (.inl e); rw [hz] at h2; cases h2
        exact (getC hne).trans h2
  | case4 x a y b h ih =>
    intro c hc
    have hn : getL cmpN (sndL (y :: b)) x.2.1 = none := sort_lo2 hb h
    rcases List.mem_cons.1 hc with rfl | hc
    · exact .inl ⟨rfl, rfl, hn, by rw [show sndL (x :: a) = x.2 :: sndL a from rfl]; dsimp only; rw [getH]; exact fun h => nomatch h⟩
    · rcases ih (List.pairwise_cons.1 ha).2 hb c hc with ⟨h1, h2, h3, h4⟩ | ⟨h1, h2, h3⟩
      · exact .inl ⟨h1, h2, h3, getX h4⟩
      · refine .inr ⟨h1, h2, ?_⟩
        have hne : c.name ≠ x.2.1 := fun e => by rw [e, hn] at h2; cases h2
        rw [show sndL (x :: a) = x.2 :: sndL a from rfl, getC hne]
        exact h3
  | case5 x a y b _ h ih =>
    intro c hc
    have hn : getL cmpN (sndL (x :: a)) y.2.1 = none := sort_lo2 ha (cmpN_ok.lt.1 h)
    rcases List.mem_cons.1 hc with rfl | hc
    · exact .inr ⟨rfl, getH y.2 _, by dsimp only; rw [hn]; exact fun h => nomatch h⟩
    · rcases ih ha (List.pairwise_cons.1 hb).2 c hc with ⟨h1, h2, h3, h4⟩ | ⟨h1, h2, h3⟩
      · refine .inl ⟨h1, h2, ?_, h4⟩
        have hne : c.name ≠ y.2.1 := fun e => h4 (by rw [e]; exact hn)
        exact (getC hne).trans h3
      · refine .inr ⟨h1, ?_, h3⟩
        have hne : c.name ≠ y.2.1 := fun e => by have hz : getL cmpN (sndL b) c.name = none := sort_lo hb (.inl e); rw [hz] at h2; cases h2
        exact (getC hne).trans h2
  | case6 x a y b hl hg hv ih =>
    intro c hc
    have he : x.2.1 = y.2.1 := cmpN_ok.eq _ _ (by omega)
    rcases List.mem_cons.1 hc with rfl | hc
    · refine .inr ⟨rfl, getH y.2 _, ?_⟩
      dsimp only
      rw [← he, show sndL (x :: a) = x.2 :: sndL a from rfl, getH]
      exact fun h => hv (Option.some.inj h)
    · rcases ih (List.pairwise_cons.1 ha).2 (List.pairwise_cons.1 hb).2 c hc with ⟨h1, h2, h3, h4⟩ | ⟨h1, h2, h3⟩
      · have hne : c.name ≠ x.2.1 := fun e => h4 (sort_lo ha (.inl e))
        exact .inl ⟨h1, h2, (getC (x := y.2) (by rw [← he]; exact hne)).trans h3, getX h4⟩
      · have hne : c.name ≠ y.2.1 := fun e => by have hz : getL cmpN (sndL b) c.name = none := sort_lo hb (.inl e); rw [hz] at h2; cases h2
        refine .inr ⟨h1, (getC hne).trans h2, ?_⟩
        rw [show sndL (x :: a) = x.2 :: sndL a from rfl, getC (by rw [he]; exact hne)]
        exact h3
  | case7 x a y b hl hg hv ih =>
    intro c hc
    have he : x.2.1 = y.2.1 := cmpN_ok.eq _ _ (by omega)
    rcases ih (List.pairwise_cons.1 ha).2 (List.pairwise_cons.1 hb).2 c hc with ⟨h1, h2, h3, h4⟩ | ⟨h1, h2, h3⟩
    · have hne : c.name ≠ x.2.1 := fun e => h4 (sort_lo ha (.inl e))
      exact .inl ⟨h1, h2, (getC (x := y.2) (by rw [← he]; exact hne)).trans h3, getX h4⟩
    · have hne : c.name ≠ y.2.1 := fun e => by have hz : getL cmpN (sndL b) c.name = none := sort_lo hb (.inl e); rw [hz] at h2; cases h2
      refine .inr ⟨h1, (getC hne).trans h2, ?_⟩
      rw [show sndL (x :: a) = x.2 :: sndL a from rfl, getC (by rw [he]; exact hne)]
      exact h3
theorem diff_written {a b : List (NameT × ByteArray)} {ws : List ChangeT} {c : ChangeT} (hd : (ws.map (·.name)).Nodup) (hv : ∀ d ∈ ws, d.absent = true → d.value = ⟨#[]⟩) (h : ∀ n, getL cmpN b n = applyF (getL cmpN a) ws n) (hc : Changed a b c) : c ∈ ws := by
  by_cases hn : ∃ d ∈ ws, d.name = c.name
  case neg =>
    have h1 := h c.name
    rw [applyF_out (fun d hd e => hn ⟨d, hd, e⟩)] at h1
    rcases hc with ⟨_, _, h3, h4⟩ | ⟨_, h2, h3⟩
    · exact absurd (h1.symm.trans h3) h4
    · exact absurd (h1.symm.trans h2) h3
  case pos =>
    obtain ⟨d, hdm, hdn⟩ := hn
    have h1 := h c.name
    rw [← hdn, applyF_in hd hdm, hdn] at h1
    have : d = c := by
      obtain ⟨dn, dv, da⟩ := d
      obtain ⟨cn, cv, ca⟩ := c
      dsimp only at hdn h1
      subst hdn
      rcases hc with ⟨h2, h3, h4, _⟩ | ⟨h2, h3, _⟩
      · dsimp only at h2 h3 h4
        rw [h4] at h1
        cases da with
        | false => cases h1
        | true =>
          have h5 := hv _ hdm rfl
          dsimp only at h5
          rw [h5, h3, h2]
      · dsimp only at h2 h3
        rw [h3] at h1
        cases da with
        | true => cases h1
        | false =>
          have h5 := Option.some.inj h1
          rw [← h5, h2]
    rw [← this]
    exact hdm
theorem sndL_nds (T : Tree) : sndL (Tr.nds T) = T.ents := nds_ents T
/-- What the writes of a play are. -/
theorem wrR_ok {rs : List NameT} {cs : List ChangeT} {k : Nat} (h : PInv rs cs k) : (∀ c ∈ wrR cs, WOk c) ∧ (∀ c ∈ wrR cs, c.absent = true → c.value = ⟨#[]⟩) ∧ ((wrR cs).map (·.name)).Nodup ∧ (wrR cs).Perm (writesU cs) := by
  have hn : ∀ n ∈ cs.map (·.name), ((lastCall cs n).getD zeroC).name = n := fun n h => by
    obtain ⟨c, hc⟩ := last_some h
    rw [hc]
    exact lastCall_name hc
  obtain ⟨-, h2⟩ := sorted_map _ (fun n => (lastCall cs n).getD zeroC) hn
  have hnd : ((writesU cs).map (·.name)).Nodup := by rw [writes_names]; exact lastOf_nodup cs
  have hp : (wrR cs).Perm (writesU cs) := by
    refine (List.perm_ext_iff_of_nodup (nodup_of_map h2) (nodup_of_map hnd)).2 fun c => ⟨fun h => ?_, fun h => ?_⟩
    · obtain ⟨n, hm, rfl⟩ := List.mem_map.1 h
      obtain ⟨c, hc⟩ := last_some (sortR_mem hm)
      rw [hc]
      refine writes_mem.2 ?_
      rw [Option.getD_some, lastCall_name hc]
      exact hc
    · have h3 := writes_mem.1 h
      refine List.mem_map.2 ⟨c.name, (mem_sortR _ _).2 ?_, by rw [h3]; rfl⟩
      exact List.mem_map.2 ⟨c, last_mem h3, rfl⟩
  have hm : ∀ c ∈ wrR cs, c ∈ cs := fun c hc => last_mem (writes_mem.1 (hp.mem_iff.1 hc))
  refine ⟨fun c hc => ?_, fun c hc => (h.cf c (hm c hc)).1, h2, hp⟩
  obtain ⟨-, h3, h4, h5⟩ := h.cf c (hm c hc)
  exact ⟨h3, h4, Nat.le_trans h5 (by decide)⟩
end Go.Proofs.YthghfhnicdoebaaGreatDoor

namespace Go.Proofs.YthghfhnicdoebaaGreatDoor
open Go.RowKit
attribute [local go_sem ↓] Go.wp_at_zero Go.wp_at_succ
attribute [local go_sem ↓] run_eql_change

/-- A state of the reference's list. -/
structure StL (B : Nat) (w : World) (sp : Nat) (l : List (NameT × ByteArray)) (T : Tree) : Prop where
  i : StateIn B w sp T
  e : T.ents = l
theorem stL_of {N B : Nat} {w : World} {sp : Nat} {f : NameT → Option ByteArray} {l : List (NameT × ByteArray)} (h : BaseN N B w sp f) (hs : SortL cmpN l) (hf : f = getL cmpN l) : ∃ T, StL B w sp l T := by
  obtain ⟨T, h1, h2, h3⟩ := h
  refine ⟨T, h1, sort_ext h1.good.sort hs fun n => ?_⟩
  rw [← h3 n, hf]
theorem isStL {B sp : Nat} {w : World} {l : List (NameT × ByteArray)} {T : Tree} {v : Value} (h : StL B w sp l T) (hB : B ≤ w.heap.size) (hl : RowK kE w v l) :
    Calls Tryz.prog 20 #[.pointer (some ⟨sp, 0, none⟩), v] w fun r w' => r = .returned (.bool true) ∧ Below w.heap.size w w' := is05_any B sp T w v h.i hB (by rw [h.e]; exact hl)
theorem diffStL {B sp sq : Nat} {w : World} {l m : List (NameT × ByteArray)} {T U : Tree} {ws : List ChangeT} (h : StL B w sp l T) (h2 : StL B w sq m U) (hB : B ≤ w.heap.size) (hd : (ws.map (·.name)).Nodup) (hv : ∀ d ∈ ws, d.absent = true → d.value = ⟨#[]⟩) (hm : getL cmpN m = applyF (getL cmpN l) ws) :
    Calls Tryz.prog 21 #[.pointer (some ⟨sp, 0, none⟩), .pointer (some ⟨sq, 0, none⟩)] w fun r w' => ∃ v ds, r = .returned v ∧ RowC w' v ds ∧ Below w.heap.size w w' ∧ (∀ c ∈ ds, c ∈ ws) ∧ ds.length ≤ 120000 := by
  refine (diff_any B sp sq T U w h.i h2.i hB).mono ?_
  rintro r w' ⟨v, h3, h4, h5⟩
  refine ⟨v, _, h3, h4, h5, fun c hc => ?_, ?_⟩
  · have h6 := diffN_spec _ _ (by rw [sndL_nds]; exact h.i.good.sort) (by rw [sndL_nds]; exact h2.i.good.sort) c hc
    rw [sndL_nds, sndL_nds, h.e, h2.e] at h6
    exact diff_written hd hv (fun n => by rw [hm]) h6
  · have h6 := diffN_len (Tr.nds T) (Tr.nds U)
    rw [nds_len, nds_len] at h6
    have h7 := h.i.sz
    have h8 := h2.i.sz
    omega
theorem LOk.le {l : List (NameT × ByteArray)} {k : Nat} (h : LOk l k) : LE l k := ⟨h.s, h.n, fun e he => (h.e e he).1, fun e he => Nat.le_trans (h.e e he).2.2 (by decide)⟩
theorem after_list {l : List (NameT × ByteArray)} {rs : List NameT} {cs : List ChangeT} {k M : Nat} (hl : LE l M) (h : PInv rs cs k) : getL cmpN (appL l (wrR cs)) = applyF (getL cmpN l) (wrR cs) ∧ stOf (VOf l rs cs) = applyF (getL cmpN l) (wrR cs) ∧ SortL cmpN (appL l (wrR cs)) := by
  obtain ⟨h1, -, -, h4⟩ := wrR_ok h
  refine ⟨get_apps hl _ h1, (after_st (V := VOf l rs cs) h4).symm, ?_⟩
  have := (hl.apps h1 (wrR cs).length).s
  rwa [List.take_length] at this

set_option maxRecDepth 100000 in
set_option maxHeartbeats 6400000 in
theorem viewAfter_any (a5 : Option Addr) (n5 c5 : Nat) (f5 : Nat → ChangeT) (a : Option Addr) (n c : Nat) (fo : Nat → OpV) (w : World) (hu : Usages w) (hn5 : n5 ≤ 9223372036854775807) (hl5 : C24Sl w a5 n5 f5) (hn : n ≤ 9223372036854775807) (hl : OpSlV w a n fo) :
    Calls Tryz.prog 5 #[.slice a5 n5 c5, .slice a n c] w fun r w' => r = .returned (.bool true) ∧ Below w.heap.size w w' := by
  have HPl : Hid (∀ W, Below w.heap.size w W → Calls Tryz.prog 13 #[.slice a5 n5 c5, .slice a n c] W (Play24Post (baseL f5 (min n5 12)) (runR (baseL f5 (min n5 12)) fo (min n 30)) W)) := fun W hW => play24_any a5 n5 c5 f5 a n c fo W (hu.below hW hu.pos) hn5 (hl5.later hW) hn (hl.later hW)
  have HBs : Hid (∀ W, Below w.heap.size w W → Calls Tryz.prog 8 #[.slice a5 n5 c5] W (BaseRow (baseL f5 (min n5 12)) W)) := fun W hW => (base24_any a5 n5 c5 f5 W (hu.below hW hu.pos) hn5 (hl5.later hW)).mono (fun _ _ h => base_row h)
  have HKn : Hid (Calls Tryz.prog 7 #[] w fun r w' => r = .returned (.bool true) ∧ Below w.heap.size w w') := known24_any w hu
  have HLk : Hid (LOk (baseL f5 (min n5 12)) 12) := (baseL_ok f5 _).more (by omega)
  have HRi : Hid (PInv (runR (baseL f5 (min n5 12)) fo (min n 30)).1 (runR (baseL f5 (min n5 12)) fo (min n 30)).2 30) := (runR_inv _ _ _).more (Nat.min_le_right _ _)
  clear hu hl hl5
  generalize runR (baseL f5 (min n5 12)) fo (min n 30) = q at *
  generalize baseL f5 (min n5 12) = l at *
  have HAf := Lib.hid (after_list (rs := q.1) HLk.out.le HRi.out)
  have HWr := Lib.hid (wrR_ok HRi.out)
  have HCl : Hid (q.2.length ≤ 30) := HRi.out.cl
  have HWl : Hid ((wrR q.2).length ≤ 30) := Nat.le_trans (wrR_len _) HRi.out.cl
  go_enter Tryz.func5, Tryz.ntmps5
  go_wp2_with fail
  refine HKn.out.mono ?_
  rintro r w1 ⟨rfl, hb1⟩
  have HB1 := Lib.hid hb1
  clear hb1 HKn
  go_wp2_with fail
  refine (HBs.out _ HB1.out).mono ?_
  rintro r w2 ⟨sp, asl, ns, ks, rfl, hb2, hbn, hrow, -⟩
  have HB2 : Hid (Below w.heap.size w w2) := HB1.out.trans (hb2.mono HB1.out.size)
  obtain ⟨T, hT⟩ := stL_of hbn HLk.out.s rfl
  have HT := Lib.hid hT
  have HRow2 := Lib.hid hrow
  clear hb2 hbn hrow HB1 HBs hT
  go_wp2_with fail
  refine (HPl.out _ HB2.out).mono ?_
  rintro r w3 ⟨wv, b, ab, nb, kb, ar, nr, kr, ac, nc, kc, rfl, hbv, hpv⟩
  have hb3 : Below w2.heap.size w2 w3 := hbv.trans (hpv.s.below.mono hbv.size)
  have HB23 := Lib.hid hb3
  have HB34 : Hid (∀ oj, Below w3.heap.size w3 (w3.alloc oj)) := fun oj => (Below.refl _ _).alloc (Nat.le_refl _) _
  have HX34 : Hid (∀ oj, (w3.alloc oj).heap[w3.heap.size]? = some oj) := fun oj => heap_alloc_new w3 oj
  have HPv := Lib.hid hpv
  clear hbv hpv hb3 HPl
  go_upto_region 7 with fail
  have HBx := Lib.hid (HB34.out (.cells #[.slice ab nb kb, .slice ar nr kr, .slice ac nc kc] 33))
  have HX4 := Lib.hid (HX34.out (.cells #[.slice ab nb kb, .slice ar nr kr, .slice ac nc kc] 33))
  clear HB34 HX34
  generalize w3.alloc (.cells #[.slice ab nb kb, .slice ar nr kr, .slice ac nc kc] 33) = w4 at *
  have HB24 : Hid (Below w2.heap.size w2 w4) := HB23.out.trans (HBx.out.mono HB23.out.size)
  have HP4 := Lib.hid (HPv.out.later HBx.out)
  generalize w3.heap.size = P at *
  clear HB23 HBx HPv
  go_wp2_with fail
  refine (qmAfter HP4.out.s (by have := HCl.out; show 12 + q.2.length < 60000; omega)).mono ?_
  rintro r w5 ⟨sq, rfl, hb5, hbn5⟩
  obtain ⟨U, hU⟩ := stL_of (l := appL l (wrR q.2)) hbn5 HAf.out.2.2 (HAf.out.2.1.trans HAf.out.1.symm)
  have HU := Lib.hid hU
  have HB25 : Hid (Below w2.heap.size w2 w5) := HB24.out.trans (hb5.mono HB24.out.size)
  have HP5 := Lib.hid (HP4.out.later hb5)
  have HX5 := Lib.hid ((hb5.block _ (lt_of_heap HX4.out)).trans HX4.out)
  clear hb5 hbn5 hU HX4 HP4 HB24
  have x0 : w5.cell? ⟨P, 0, none⟩ = some (.slice ab nb kb) := cell_of_heap HX5.out 0
  have x1 : w5.cell? ⟨P, 1, none⟩ = some (.slice ar nr kr) := cell_of_heap HX5.out 1
  have x2 : w5.cell? ⟨P, 2, none⟩ = some (.slice ac nc kc) := cell_of_heap HX5.out 2
  go_wp2_with fail
  refine (rWrites_any w5 ab ar ac nb nr nc kb kr kc q.2 HP5.out.hc (fun c hc => (HRi.out.cf c hc).2.1) (by have := HCl.out; omega)).mono ?_
  rintro r w6 ⟨v6, rfl, hr6, hb6⟩
  have HR6 := Lib.hid hr6
  have HB26 : Hid (Below w2.heap.size w2 w6) := HB25.out.trans (hb6.mono HB25.out.size)
  have HB56 := Lib.hid hb6
  clear x0 x1 x2 hr6 hb6
  go_wp2_with fail
  refine (rApply_any w6 (.slice asl ns ks) v6 l (wrR q.2) (HRow2.out.later HB26.out) HR6.out 12 HLk.out.le (by have := HWl.out; omega) HWr.out.1).mono ?_
  rintro r w7 ⟨v7, rfl, hr7, hb7⟩
  have HR7 := Lib.hid hr7
  have HB27 : Hid (Below w2.heap.size w2 w7) := HB26.out.trans (hb7.mono HB26.out.size)
  have HB57 : Hid (Below w5.heap.size w5 w7) := HB56.out.trans (hb7.mono HB56.out.size)
  clear hr7 hb7
  have HTl : Hid (∀ W, Below w2.heap.size w2 W → StL w2.heap.size W sp l T) := fun W hW => ⟨HT.out.i.later hW, HT.out.e⟩
  have HUl : Hid (∀ W, Below w5.heap.size w5 W → StL w5.heap.size W sq (appL l (wrR q.2)) U) := fun W hW => ⟨HU.out.i.later hW, HU.out.e⟩
  have HIs1 : Hid (∀ W, Below w7.heap.size w7 W → Calls Tryz.prog 20 #[.pointer (some ⟨sq, 0, none⟩), v7] W fun r w' => r = .returned (.bool true) ∧ Below W.heap.size W w') := fun W hW => isStL (HUl.out W (HB57.out.trans (hW.mono HB57.out.size))) (Nat.le_trans HB57.out.size hW.size) (HR7.out.later hW)
  have HIs2 : Hid (∀ W, Below w7.heap.size w7 W → Calls Tryz.prog 20 #[.pointer (some ⟨sp, 0, none⟩), .slice asl ns ks] W fun r w' => r = .returned (.bool true) ∧ Below W.heap.size W w') := fun W hW => isStL (HTl.out W (HB27.out.trans (hW.mono HB27.out.size))) (Nat.le_trans HB27.out.size hW.size) (HRow2.out.later (HB27.out.trans (hW.mono HB27.out.size)))
  go_wp2_with (first
    | (go_at_call 20; (with_reducible refine (HIs1.out _ (Below.refl _ _)).mono ?_); rintro r w8 ⟨rfl, hb8⟩; have HB78 := Lib.hid hb8; clear hb8)
    | (go_at_call 20; (with_reducible refine (HIs2.out _ HB78.out).mono ?_); rintro r w9 ⟨rfl, hb9⟩; have HB79 : Hid (Below w7.heap.size w7 w9) := HB78.out.trans (hb9.mono HB78.out.size); clear hb9)
    | (go_at_call 21; refine (diffStL ((fun h => (⟨h.i.up HB25.out.size, h.e⟩ : StL w5.heap.size _ sp l T)) (HTl.out _ (HB27.out.trans (HB79.out.mono HB27.out.size)))) (HUl.out _ (HB57.out.trans (HB79.out.mono HB57.out.size))) (Nat.le_trans HB57.out.size HB79.out.size) HWr.out.2.2.1 HWr.out.2.1 HAf.out.1).mono ?_; rintro r wA ⟨vd, ds, rfl, hrd, hbd, hin, hdl⟩; have HB7A : Hid (Below w7.heap.size w7 wA) := HB79.out.trans (hbd.mono HB79.out.size); have HRd := Lib.hid hrd; have HIn := Lib.hid hin; have HDl := Lib.hid hdl; clear hrd hbd hin hdl)
    | (go_at_call 22; refine (qm_writes24 (cs := q.2) (HP5.out.s.later (HB57.out.trans (HB7A.out.mono HB57.out.size))) rfl).mono ?_; rintro r wB ⟨vw, rfl, hrw, hbw⟩; have HB7B : Hid (Below w7.heap.size w7 wB) := HB7A.out.trans (hbw.mono HB7A.out.size); have HRw := Lib.hid hrw; have HRd2 := Lib.hid (HRd.out.later hbw); clear hrw hbw))
  have HBB : Hid (Below w.heap.size w wB) := HB2.out.trans ((HB27.out.trans (HB7B.out.mono HB27.out.size)).mono HB2.out.size)
  clear HT HU HRow2 HP5 HX5 HR6 HB56 HB26 HB25 HR7 HB57 HB27 HTl HUl HIs1 HIs2 HB78 HB79 HB7A HB7B HAf HWr HRi HLk HCl HB2 HRd
  generalize wrR q.2 = ws at *
  generalize hnd : ds.length = nd at *
  have Hnd := Lib.hid hnd
  clear hnd
  generalize hnw : ws.length = nw at *
  have Hnw := Lib.hid hnw
  clear hnw
  obtain ⟨qd, kd, ed, hrd1⟩ := HRd2.out
  obtain ⟨qw, kw, ew, hrw1⟩ := HRw.out
  rw [Hnd.out] at ed
  rw [Hnw.out] at ew
  subst ed
  subst ew
  have HD1 := Lib.hid hrd1
  have HW1 := Lib.hid hrw1
  clear hrd1 hrw1 HRd2 HRw
  have hnd1 : nd ≤ 120000 := HDl.out
  have hnw1 : nw ≤ 30 := HWl.out
  go_loopg [16] nd (fun gk iv wr => ∃ k : Nat, k + gk = nd ∧ iv = .int .i64 k ∧ Hid (Below wB.heap.size wB wr))
  case atStart => exact ⟨0, by omega, rfl, Below.refl _ _⟩
  case round =>
    obtain ⟨k, hg, rfl, HBr⟩ := hrel
    have Hg := Lib.hid hg
    have hk : k ≤ nd := by omega
    clear hg
    by_cases hlt : k < nd
    · have hkl : k < ds.length := by rw [Hnd.out]; exact hlt
      have he : ds[k]? = some ds[k] := List.getElem?_eq_getElem hkl
      have hmem := HIn.out _ (List.getElem_mem hkl)
      generalize ds[k] = e at *
      obtain ⟨m, hm⟩ := List.mem_iff_getElem?.1 hmem
      have hml : m < nw := by rw [← Hnw.out]; exact (List.getElem?_eq_some_iff.1 hm).1
      obtain ⟨gd, rfl, hcd⟩ := HD1.out k e he
      have Hm := Lib.hid hm
      obtain ⟨⟨e1, e2, e3, e4, e5⟩, e6, e7⟩ := e
      have HSd : Hid (∀ W, Below wB.heap.size wB W → W.cell? ⟨gd, k * 7, none⟩ = some (.int .i64 e1) ∧ W.cell? ⟨gd, k * 7 + 1, none⟩ = some (.string e2) ∧ W.cell? ⟨gd, k * 7 + 2, none⟩ = some (.int .i64 e3) ∧ W.cell? ⟨gd, k * 7 + 3, none⟩ = some (.int .i64 e4) ∧ W.cell? ⟨gd, k * 7 + 4, none⟩ = some (.string e5) ∧ W.cell? ⟨gd, k * 7 + 5, none⟩ = some (.string e6) ∧ W.cell? ⟨gd, k * 7 + 6, none⟩ = some (.bool e7)) := fun W hW => by
        have h : ∀ i u, (changeCells ⟨⟨e1, e2, e3, e4, e5⟩, e6, e7⟩)[i]? = some u → W.cell? ⟨gd, k * 7 + i, none⟩ = some u := fun i u hu => by
          have h1 := hcd i u hu
          exact ((bcell hW).1 _ _ (World.block_lt_of_cell? wB _ h1)).trans h1
        exact ⟨h 0 _ rfl, h 1 _ rfl, h 2 _ rfl, h 3 _ rfl, h 4 _ rfl, h 5 _ rfl, h 6 _ rfl⟩
      clear hcd he hmem hm
      go_wp2_with fail
      go_loopg [17, 18] nw (fun gj fv jv wi => ∃ (j : Nat) (bb : Bool), j + gj = nw ∧ jv = .int .i64 j ∧ fv = .bool bb ∧ Hid (m < j → bb = true) ∧ Hid (Below wB.heap.size wB wi))
      case atStart => exact ⟨0, false, by omega, rfl, rfl, (fun h => by omega), HBr.out⟩
      case round =>
        obtain ⟨j, bb, hgj, rfl, rfl, HBb, HBi⟩ := hrel
        have Hgj := Lib.hid hgj
        have hj : j ≤ nw := by omega
        clear hgj
        by_cases hjl : j < nw
        · have hjl2 : j < ws.length := by rw [Hnw.out]; exact hjl
          have hd : ws[j]? = some ws[j] := List.getElem?_eq_getElem hjl2
          have HMj : Hid (m = j → ws[j] = ⟨⟨e1, e2, e3, e4, e5⟩, e6, e7⟩) := fun h => by
            subst h
            rw [Hm.out] at hd
            exact (Option.some.inj hd).symm
          generalize ws[j] = d at *
          obtain ⟨gw, rfl, hcw⟩ := HW1.out j d hd
          obtain ⟨⟨d1, d2, d3, d4, d5⟩, d6, d7⟩ := d
          obtain ⟨y0, y1, y2, y3, y4, y5, y6⟩ := HSd.out _ HBi.out
          have hcw2 : ∀ i u, (changeCells ⟨⟨d1, d2, d3, d4, d5⟩, d6, d7⟩)[i]? = some u → wr.cell? ⟨gw, j * 7 + i, none⟩ = some u := fun i u hu => ((bcell HBi.out).1 _ _ (World.block_lt_of_cell? wB _ (hcw i u hu))).trans (hcw i u hu)
          have z0 : wr.cell? ⟨gw, j * 7, none⟩ = some (.int .i64 d1) := hcw2 0 _ rfl
          have z1 : wr.cell? ⟨gw, j * 7 + 1, none⟩ = some (.string d2) := hcw2 1 _ rfl
          have z2 : wr.cell? ⟨gw, j * 7 + 2, none⟩ = some (.int .i64 d3) := hcw2 2 _ rfl
          have z3 : wr.cell? ⟨gw, j * 7 + 3, none⟩ = some (.int .i64 d4) := hcw2 3 _ rfl
          have z4 : wr.cell? ⟨gw, j * 7 + 4, none⟩ = some (.string d5) := hcw2 4 _ rfl
          have z5 : wr.cell? ⟨gw, j * 7 + 5, none⟩ = some (.string d6) := hcw2 5 _ rfl
          have z6 : wr.cell? ⟨gw, j * 7 + 6, none⟩ = some (.bool d7) := hcw2 6 _ rfl
          clear hcw hcw2 hd
          have HEq : Hid (m = j → eqCB ⟨⟨d1, d2, d3, d4, d5⟩, d6, d7⟩ ⟨⟨e1, e2, e3, e4, e5⟩, e6, e7⟩ = true) := fun h => by rw [HMj.out h]; exact eqCB_self _
          obtain ⟨b2, hb2⟩ : ∃ b2, eqCB ⟨⟨d1, d2, d3, d4, d5⟩, d6, d7⟩ ⟨⟨e1, e2, e3, e4, e5⟩, e6, e7⟩ = b2 := ⟨_, rfl⟩
          rw [hb2] at HEq
          have Hh2 := Lib.hid hb2
          cases bb
          · go_upto_region 20 with fail
            go_quiet (fail)
            go_wp2
            go_roundg (nw - (j + 1))
            case measure => have := Hgj.out; omega
            case rel => exact ⟨j + 1, b2, by have := Hgj.out; omega, by go_num, rfl, (fun h => by
              by_cases hmj : m = j
              · exact HEq.out hmj
              · exact absurd (HBb.out (by omega)) (by decide)), below_toDrewN3 HBi.out _⟩
          · go_upto_region 20 with fail
            go_quiet (fail)
            go_wp2
            go_roundg (nw - (j + 1))
            case measure => have := Hgj.out; omega
            case rel => exact ⟨j + 1, true, by have := Hgj.out; omega, by go_num, rfl, (fun _ => rfl), below_toDrewN3 HBi.out _⟩
        · have hjn : j = nw := by omega
          have hbb : bb = true := HBb.out (by omega)
          subst hbb
          clear hjn
          go_wp2_with fail
          go_roundg (nd - (k + 1))
          case measure => have := Hg.out; omega
          case rel => exact ⟨k + 1, by have := Hg.out; omega, by go_num, HBi.out⟩
    · go_wp2
      go_ret
      exact ⟨rfl, HBB.out.trans (HBr.out.mono HBB.out.size)⟩
end Go.Proofs.YthghfhnicdoebaaGreatDoor

namespace Go.Proofs.YthghfhnicdoebaaGreatDoor
open Go.RowKit
attribute [local go_sem ↓] Go.wp_at_zero Go.wp_at_succ
attribute [local go_sem ↓] run_neq_change

theorem diffN_like (a b : List NdT) (h : sndL a = sndL b) : diffN a b = [] := by
  induction a generalizing b with
  | nil =>
    cases b with
    | nil => rw [diffN]
    | cons y b => cases h
  | cons x a ih =>
    cases b with
    | nil => cases h
    | cons y b =>
      have h1 : x.2 = y.2 := (List.cons.inj h).1
      have h2 : sndL a = sndL b := (List.cons.inj h).2
      rw [diffN, h1, cmpN_ok.refl, if_neg (by decide), if_neg (by decide), if_neg (by simp), ih b h2]
set_option maxRecDepth 100000 in
set_option maxHeartbeats 1600000 in
theorem stateEqual_like {B sp sq : Nat} {w : World} {l : List (NameT × ByteArray)} {T U : Tree} (h1 : StL B w sp l T) (h2 : StL B w sq l U) (hB : B ≤ w.heap.size) :
    Calls Tryz.prog 59 #[.pointer (some ⟨sp, 0, none⟩), .pointer (some ⟨sq, 0, none⟩)] w fun r w' => r = .returned (.bool true) ∧ Below w.heap.size w w' := by
  have s1 : T.sz = l.length := by rw [← nds_len, ← h1.e, ← nds_ents, List.length_map]
  have s2 : U.sz = l.length := by rw [← nds_len, ← h2.e, ← nds_ents, List.length_map]
  have HL1 := Lib.hid (stateLen_any B sp T w h1.i)
  have HL2 := Lib.hid (stateLen_any B sq U w h2.i)
  have HB1 := Lib.hid (stateBytes_any B sp T w h1.i)
  have HB2 := Lib.hid (stateBytes_any B sq U w h2.i)
  have HDf := Lib.hid (diff_any B sp sq T U w h1.i h2.i hB)
  have hd : diffN (Tr.nds T) (Tr.nds U) = [] := diffN_like _ _ (by rw [sndL_nds, sndL_nds, h1.e, h2.e])
  unfold DiffPost at HDf
  rw [hd] at HDf
  rw [s1] at HL1
  rw [s2] at HL2
  rw [h1.e] at HB1
  rw [h2.e] at HB2
  clear h1 h2 hB hd s1 s2
  generalize l.length = nl at *
  generalize sumB l = bl at *
  go_enter Tryz.func59, Tryz.ntmps59
  go_wp2_with (first
    | (go_at_call 52; first | ((with_reducible refine HL1.out.mono ?_); rintro r w2 ⟨rfl, rfl⟩) | ((with_reducible refine HL2.out.mono ?_); rintro r w2 ⟨rfl, rfl⟩))
    | (go_at_call 53; first | ((with_reducible refine HB1.out.mono ?_); rintro r w2 ⟨rfl, rfl⟩) | ((with_reducible refine HB2.out.mono ?_); rintro r w2 ⟨rfl, rfl⟩))
    | (go_at_call 21; (with_reducible refine HDf.out.mono ?_); rintro r w2 ⟨v, rfl, ⟨qa, qc, rfl, _⟩, hb2⟩; have HBd := Lib.hid hb2; clear hb2))
  go_ret
  exact ⟨rfl, HBd.out⟩
set_option maxRecDepth 100000 in
theorem run_equal_C (w : World) (a b : ChangeT) : (Op.equal 40 (changeV a) (changeV b)).run Tryz.prog w = .ok (decide (a = b)) w := by
  have hu : Tryz.prog.underlying 40 = some (.struct (Tryz.prog.fieldsOf 40)) := by kernel_rfl
  have hst : Tryz.prog.stoodInHeld 40 = false := by kernel_rfl
  simp only [Op.equal, Op.maxDepth, changeV]
  rw [run_equalIn_struct w 9999 _ _ _ hu hst]
  simp [go_sem, Tryz.underlying38, Tryz.underlying3, Tryz.underlying9, Tryz.underlying4]
  have hb : ∀ x y : ByteArray, x.toList = y.toList ↔ x = y := fun x y => by have := str_beq x y; rw [Bool.eq_iff_iff] at this; simpa using this
  obtain ⟨⟨a1, a2, a3, a4, a5⟩, a6, a7⟩ := a
  obtain ⟨⟨b1, b2, b3, b4, b5⟩, b6, b7⟩ := b
  simp only [hb, ChangeT.mk.injEq, NameT.mk.injEq]
  by_cases h1 : a1 = b1
  case neg => simp [h1]
  by_cases h2 : a2 = b2
  case neg => simp [h2]
  by_cases h3 : a3 = b3
  case neg => simp [h3]
  by_cases h4 : a4 = b4
  case neg => simp [h4]
  by_cases h5 : a5 = b5
  case neg => simp [h5]
  by_cases h6 : a6 = b6
  case neg => simp [h6]
  by_cases h7 : a7 = b7
  case neg => simp [h7]
  simp [h1, h2, h3, h4, h5, h6, h7]
theorem run_neq_C (w : World) (a1 : Int) (a2 : ByteArray) (a3 a4 : Int) (a5 a6 : ByteArray) (a7 : Bool) (b1 : Int) (b2 : ByteArray) (b3 b4 : Int) (b5 b6 : ByteArray) (b7 : Bool) : (binOp .neq 40 (.agg #[.int .i64 a1, .string a2, .int .i64 a3, .int .i64 a4, .string a5, .string a6, .bool a7]) (.agg #[.int .i64 b1, .string b2, .int .i64 b3, .int .i64 b4, .string b5, .string b6, .bool b7])).run Tryz.prog w = .ok (.bool (neqCB ⟨⟨a1, a2, a3, a4, a5⟩, a6, a7⟩ ⟨⟨b1, b2, b3, b4, b5⟩, b6, b7⟩)) w := by
  have h := run_equal_C w ⟨⟨a1, a2, a3, a4, a5⟩, a6, a7⟩ ⟨⟨b1, b2, b3, b4, b5⟩, b6, b7⟩
  simp only [changeV] at h
  simp only [binOp]
  simp [h, neqCB]
attribute [local go_sem ↓] run_neq_C
theorem take_eq_of {α : Type} {xs ys : List α} {k : Nat} {x y : α} (hx : xs[k]? = some x) (hy : ys[k]? = some y) (h : xs.take k = ys.take k) (e : x = y) : xs.take (k + 1) = ys.take (k + 1) := by
  rw [List.take_add_one, List.take_add_one, hx, hy, h, e]
set_option maxRecDepth 100000 in
set_option maxHeartbeats 3200000 in
theorem slEq_any (w : World) (v1 v2 : Value) (xs ys : List ChangeT) (h1 : RowC w v1 xs) (h2 : RowC w v2 ys) (hx : xs.length ≤ 1000000) :
    Calls Tryz.prog 61 #[v1, v2] w fun r w' => r = .returned (.bool (decide (xs = ys))) ∧ Below w.heap.size w w' := by
  have H1 := Lib.hid h1
  have H2 := Lib.hid h2
  obtain ⟨p1, k1, rfl, -⟩ := h1
  obtain ⟨p2, k2, rfl, -⟩ := h2
  by_cases hn : xs.length = ys.length
  case neg =>
    have HF : Hid (decide (xs = ys) = false) := decide_eq_false (fun e => hn (by rw [e]))
    generalize xs.length = n at *
    generalize ys.length = m at *
    go_enter Tryz.func61, Tryz.ntmps61
    go_wp2_with fail
    refine bodyPost_ret (v := .bool false) (by simp [results, Tryz.results61, go_sem]) rfl ?_
    exact ⟨by rw [HF.out], Below.refl _ _⟩
  obtain ⟨n, hnn⟩ : ∃ n, xs.length = n := ⟨_, rfl⟩
  have hm : ys.length = n := by rw [← hn]; exact hnn
  have Hn := Lib.hid hnn
  have Hm := Lib.hid hm
  rw [hnn] at H1 hx ⊢
  rw [hm] at H2 ⊢
  clear hn hnn hm
  go_enter Tryz.func61, Tryz.ntmps61
  go_wp2_with fail
  go_loopg [13] n (fun gk iv wr => ∃ k : Nat, k + gk = n ∧ iv = .int .i64 k ∧ Hid (xs.take k = ys.take k) ∧ Hid (Below w.heap.size w wr))
  case atStart => exact ⟨0, by omega, rfl, (by show _ = _; rw [List.take_zero, List.take_zero]), Below.refl _ _⟩
  case round =>
    obtain ⟨k, hg, rfl, HTk, HB⟩ := hrel
    have Hg := Lib.hid hg
    have hk : k ≤ n := by omega
    clear hg
    by_cases hlt : k < n
    · have hkx : k < xs.length := by rw [Hn.out]; exact hlt
      have hky : k < ys.length := by rw [Hm.out]; exact hlt
      have ex : xs[k]? = some xs[k] := List.getElem?_eq_getElem hkx
      have ey : ys[k]? = some ys[k] := List.getElem?_eq_getElem hky
      generalize xs[k] = x at *
      generalize ys[k] = y at *
      have Hex := Lib.hid ex
      have Hey := Lib.hid ey
      clear hkx hky
      obtain ⟨q, cap, e1, hr1⟩ := H1.out.later HB.out
      obtain ⟨g1, ea, hc1⟩ := hr1 k x ex
      obtain ⟨q2, cap2, e2, hr2⟩ := H2.out.later HB.out
      obtain ⟨g2, eb, hc2⟩ := hr2 k y ey
      obtain ⟨f1, -, -⟩ := Value.slice.inj e1
      obtain ⟨f2, -, -⟩ := Value.slice.inj e2
      subst f1
      subst f2
      clear e1 e2 hr1 hr2
      subst ea
      subst eb
      obtain ⟨⟨c1, c2, c3, c4, c5⟩, c6, c7⟩ := x
      obtain ⟨⟨d1, d2, d3, d4, d5⟩, d6, d7⟩ := y
      have a0 : wr.cell? ⟨g1, k * 7, none⟩ = some (.int .i64 c1) := hc1 0 _ rfl
      have a1 : wr.cell? ⟨g1, k * 7 + 1, none⟩ = some (.string c2) := hc1 1 _ rfl
      have a2 : wr.cell? ⟨g1, k * 7 + 2, none⟩ = some (.int .i64 c3) := hc1 2 _ rfl
      have a3 : wr.cell? ⟨g1, k * 7 + 3, none⟩ = some (.int .i64 c4) := hc1 3 _ rfl
      have a4 : wr.cell? ⟨g1, k * 7 + 4, none⟩ = some (.string c5) := hc1 4 _ rfl
      have a5 : wr.cell? ⟨g1, k * 7 + 5, none⟩ = some (.string c6) := hc1 5 _ rfl
      have a6 : wr.cell? ⟨g1, k * 7 + 6, none⟩ = some (.bool c7) := hc1 6 _ rfl
      have b0 : wr.cell? ⟨g2, k * 7, none⟩ = some (.int .i64 d1) := hc2 0 _ rfl
      have b1 : wr.cell? ⟨g2, k * 7 + 1, none⟩ = some (.string d2) := hc2 1 _ rfl
      have b2 : wr.cell? ⟨g2, k * 7 + 2, none⟩ = some (.int .i64 d3) := hc2 2 _ rfl
      have b3 : wr.cell? ⟨g2, k * 7 + 3, none⟩ = some (.int .i64 d4) := hc2 3 _ rfl
      have b4 : wr.cell? ⟨g2, k * 7 + 4, none⟩ = some (.string d5) := hc2 4 _ rfl
      have b5 : wr.cell? ⟨g2, k * 7 + 5, none⟩ = some (.string d6) := hc2 5 _ rfl
      have b6 : wr.cell? ⟨g2, k * 7 + 6, none⟩ = some (.bool d7) := hc2 6 _ rfl
      clear hc1 hc2 ex ey
      by_cases he : (⟨⟨c1, c2, c3, c4, c5⟩, c6, c7⟩ : ChangeT) = ⟨⟨d1, d2, d3, d4, d5⟩, d6, d7⟩
      · have hq : neqCB ⟨⟨c1, c2, c3, c4, c5⟩, c6, c7⟩ ⟨⟨d1, d2, d3, d4, d5⟩, d6, d7⟩ = false := by unfold neqCB; rw [he]; simp
        have HTn : Hid (xs.take (k + 1) = ys.take (k + 1)) := take_eq_of Hex.out Hey.out HTk.out he
        clear he
        go_upto_region 6 with fail
        go_quiet (fail)
        go_wp2
        go_roundg (n - (k + 1))
        case measure => have := Hg.out; omega
        case rel => exact ⟨k + 1, by have := Hg.out; omega, by go_num, HTn.out, below_toDrewN3 HB.out _⟩
      · have hq : neqCB ⟨⟨c1, c2, c3, c4, c5⟩, c6, c7⟩ ⟨⟨d1, d2, d3, d4, d5⟩, d6, d7⟩ = true := by unfold neqCB; simp [he]
        have HF : Hid (decide (xs = ys) = false) := decide_eq_false (fun e => he (by have h := Hey.out; rw [← e, Hex.out] at h; exact Option.some.inj h))
        clear he
        go_upto_region 6 with fail
        go_quiet (fail)
        go_wp2
        refine bodyPost_ret (v := .bool false) (by simp [results, Tryz.results61, go_sem]) rfl ?_
        exact ⟨by rw [HF.out], below_toDrewN3 HB.out _⟩
    · have HF : Hid (decide (xs = ys) = true) := decide_eq_true (by
        have h := HTk.out
        rw [List.take_of_length_le (by rw [Hn.out]; omega), List.take_of_length_le (by rw [Hm.out]; omega)] at h
        exact h)
      go_wp2
      refine bodyPost_ret (v := .bool true) (by simp [results, Tryz.results61, go_sem]) rfl ?_
      exact ⟨by rw [HF.out], HB.out⟩
set_option maxRecDepth 100000 in
set_option maxHeartbeats 3200000 in
theorem rSame_any (w : World) (v1 v2 : Value) (xs ys : List ChangeT) (h1 : RowK kC w v1 xs) (h2 : RowK kC w v2 ys) (hx : xs.length ≤ 1000000) :
    Calls Tryz.prog 24 #[v1, v2] w fun r w' => r = .returned (.bool (decide (xs = ys))) ∧ Below w.heap.size w w' := by
  have H1 := Lib.hid h1
  have H2 := Lib.hid h2
  obtain ⟨p1, k1, rfl, -, -⟩ := h1.form
  clear h1
  obtain ⟨p2, k2, rfl, -, -⟩ := h2.form
  clear h2
  by_cases hn : xs.length = ys.length
  case neg =>
    have HF : Hid (decide (xs = ys) = false) := decide_eq_false (fun e => hn (by rw [e]))
    generalize xs.length = n at *
    generalize ys.length = m at *
    go_enter Tryz.func24, Tryz.ntmps24
    go_wp2_with fail
    refine bodyPost_ret (v := .bool false) (by simp [results, Tryz.results24, go_sem]) rfl ?_
    exact ⟨by rw [HF.out], Below.refl _ _⟩
  obtain ⟨n, hnn⟩ : ∃ n, xs.length = n := ⟨_, rfl⟩
  have hm : ys.length = n := by rw [← hn]; exact hnn
  have Hn := Lib.hid hnn
  have Hm := Lib.hid hm
  rw [hnn] at H1 hx ⊢
  rw [hm] at H2 ⊢
  clear hn hnn hm
  go_enter Tryz.func24, Tryz.ntmps24
  go_wp2_with fail
  go_loopg [5] n (fun gk iv wr => ∃ k : Nat, k + gk = n ∧ iv = .int .i64 k ∧ Hid (xs.take k = ys.take k) ∧ Hid (Below w.heap.size w wr))
  case atStart => exact ⟨0, by omega, rfl, (by show _ = _; rw [List.take_zero, List.take_zero]), Below.refl _ _⟩
  case round =>
    obtain ⟨k, hg, rfl, HTk, HB⟩ := hrel
    have Hg := Lib.hid hg
    have hk : k ≤ n := by omega
    clear hg
    by_cases hlt : k < n
    · have hkx : k < xs.length := by rw [Hn.out]; exact hlt
      have hky : k < ys.length := by rw [Hm.out]; exact hlt
      have ex : xs[k]? = some xs[k] := List.getElem?_eq_getElem hkx
      have ey : ys[k]? = some ys[k] := List.getElem?_eq_getElem hky
      generalize xs[k] = x at *
      generalize ys[k] = y at *
      have Hex := Lib.hid ex
      have Hey := Lib.hid ey
      clear hkx hky
      obtain ⟨g1, o1, rfl, hc1⟩ := (H1.out.later HB.out).at_ ex
      obtain ⟨g2, o2, rfl, hc2⟩ := (H2.out.later HB.out).at_ ey
      obtain ⟨⟨c1, c2, c3, c4, c5⟩, c6, c7⟩ := x
      obtain ⟨⟨d1, d2, d3, d4, d5⟩, d6, d7⟩ := y
      have a0 : wr.cell? ⟨g1, o1 + k * 7, none⟩ = some (.int .i64 c1) := hc1 0 _ rfl
      have a1 : wr.cell? ⟨g1, o1 + k * 7 + 1, none⟩ = some (.string c2) := hc1 1 _ rfl
      have a2 : wr.cell? ⟨g1, o1 + k * 7 + 2, none⟩ = some (.int .i64 c3) := hc1 2 _ rfl
      have a3 : wr.cell? ⟨g1, o1 + k * 7 + 3, none⟩ = some (.int .i64 c4) := hc1 3 _ rfl
      have a4 : wr.cell? ⟨g1, o1 + k * 7 + 4, none⟩ = some (.string c5) := hc1 4 _ rfl
      have a5 : wr.cell? ⟨g1, o1 + k * 7 + 5, none⟩ = some (.string c6) := hc1 5 _ rfl
      have a6 : wr.cell? ⟨g1, o1 + k * 7 + 6, none⟩ = some (.bool c7) := hc1 6 _ rfl
      have b0 : wr.cell? ⟨g2, o2 + k * 7, none⟩ = some (.int .i64 d1) := hc2 0 _ rfl
      have b1 : wr.cell? ⟨g2, o2 + k * 7 + 1, none⟩ = some (.string d2) := hc2 1 _ rfl
      have b2 : wr.cell? ⟨g2, o2 + k * 7 + 2, none⟩ = some (.int .i64 d3) := hc2 2 _ rfl
      have b3 : wr.cell? ⟨g2, o2 + k * 7 + 3, none⟩ = some (.int .i64 d4) := hc2 3 _ rfl
      have b4 : wr.cell? ⟨g2, o2 + k * 7 + 4, none⟩ = some (.string d5) := hc2 4 _ rfl
      have b5 : wr.cell? ⟨g2, o2 + k * 7 + 5, none⟩ = some (.string d6) := hc2 5 _ rfl
      have b6 : wr.cell? ⟨g2, o2 + k * 7 + 6, none⟩ = some (.bool d7) := hc2 6 _ rfl
      clear hc1 hc2 ex ey
      by_cases he : (⟨⟨c1, c2, c3, c4, c5⟩, c6, c7⟩ : ChangeT) = ⟨⟨d1, d2, d3, d4, d5⟩, d6, d7⟩
      · have hq : neqCB ⟨⟨c1, c2, c3, c4, c5⟩, c6, c7⟩ ⟨⟨d1, d2, d3, d4, d5⟩, d6, d7⟩ = false := by unfold neqCB; rw [he]; simp
        have HTn : Hid (xs.take (k + 1) = ys.take (k + 1)) := take_eq_of Hex.out Hey.out HTk.out he
        clear he
        go_upto_region 6 with fail
        go_quiet (fail)
        go_wp2
        go_roundg (n - (k + 1))
        case measure => have := Hg.out; omega
        case rel => exact ⟨k + 1, by have := Hg.out; omega, by go_num, HTn.out, below_toDrewN3 HB.out _⟩
      · have hq : neqCB ⟨⟨c1, c2, c3, c4, c5⟩, c6, c7⟩ ⟨⟨d1, d2, d3, d4, d5⟩, d6, d7⟩ = true := by unfold neqCB; simp [he]
        have HF : Hid (decide (xs = ys) = false) := decide_eq_false (fun e => he (by have h := Hey.out; rw [← e, Hex.out] at h; exact Option.some.inj h))
        clear he
        go_upto_region 6 with fail
        go_quiet (fail)
        go_wp2
        refine bodyPost_ret (v := .bool false) (by simp [results, Tryz.results24, go_sem]) rfl ?_
        exact ⟨by rw [HF.out], below_toDrewN3 HB.out _⟩
    · have HF : Hid (decide (xs = ys) = true) := decide_eq_true (by
        have h := HTk.out
        rw [List.take_of_length_le (by rw [Hn.out]; omega), List.take_of_length_le (by rw [Hm.out]; omega)] at h
        exact h)
      go_wp2
      refine bodyPost_ret (v := .bool true) (by simp [results, Tryz.results24, go_sem]) rfl ?_
      exact ⟨by rw [HF.out], HB.out⟩
end Go.Proofs.YthghfhnicdoebaaGreatDoor
