/- Law 36: TerminalErrors. (printed by wip/gen_ter.py) -/
import Derived.Test.YtfobmfenjdiimaaGreatDoorDotA
import Derived.Test.YtfobmfenjdiimaaGreatDoorRtC
import Derived.Test.YtfobmfenjdiimaaGreatDoorKnown
import Derived.Test.YtfobmfenjdiimaaGreatDoorQmW
import Derived.Deep.RegionHeld3
import Derived.Deep.DeepCutAuto
namespace Go.Proofs.YtfobmfenjdiimaaGreatDoor
open Go.RowKit
attribute [local go_sem ↓] Go.wp_at_zero Go.wp_at_succ

/-- The condition may be made stronger on the way. -/
theorem wpAnyH_mono {P : Program} {md : Region.Mode} {ops : Array Oper} {Q : Exit → Act → World → Prop} {S1 S2 : World → Prop} (hS : ∀ w, S2 w → S1 w) : ∀ (fuel : Nat) (listed : Array Bool) (a : Act) (w : World), wpAnyH P md ops Q S2 fuel listed a w → wpAnyH P md ops Q S1 fuel listed a w
  | 0, _, _, _, h => h
  | fuel + 1, _, _, _, h => ⟨h.1, fun i hi => wpOp_mono (fun a' w' h' => ⟨hS _ h'.1, wpAnyH_mono hS fuel _ a' w' h'.2⟩) (h.2 i hi)⟩
/-- A row of zeros, and its text. -/
theorem zrow (N : Nat) (hN : N ≤ 70000) : ∃ (cur : Array Value) (zs : ByteArray), zs.size = N ∧ (∀ W : World, (Instr.makeSlice 48 (.int .i64 N) (.int .i64 N)).run Tryz.prog W = .ok (.slice (some ⟨W.heap.size, 0, none⟩) N N) (W.alloc (.cells cur 5))) ∧
    ∀ (W : World) (g : Nat), W.heap[g]? = some (.cells cur 5 (0, 0)) → (convert 48 9 (.slice (some ⟨g, 0, none⟩) N N)).run Tryz.prog W = .ok (.string zs) W := by
  obtain ⟨i0, hi, hz0, hz1, hz2⟩ := info_parts Tryz.infoByte
  refine ⟨madeCells (Value.int .u8 0).cells N, strOf (List.replicate N 0), by rw [strOf_size]; simp, fun W => ?_, fun W g hg => ?_⟩
  · have h := run_make (P := Tryz.prog) (w := W) 48 5 i0 (.int .u8 0) Tryz.underlying48 hi hz0 .i64 .i64 N N (by omega) (by omega) (by rw [hz2]; omega) (by omega)
    rw [hz1] at h
    simpa using h
  · refine run_bytes_str W g 0 N N _ ⟨by simp, fun j hj => ?_⟩
    rw [Nat.zero_add, cell_of_heap hg, ← Array.getElem?_toList]
    have : (Value.int .u8 0).cells = #[.int .u8 0] := rfl
    rw [this, toList_madeCells_one]
    simp [hj]
theorem nv_any (W0 W : World) (sp : Nat) (hu : Usages W) (hb : Below W0.heap.size W0 W) (hn : BaseN 0 W.heap.size W sp (fun _ => none)) : Calls Tryz.prog 9 #[.pointer (some ⟨sp, 0, none⟩)] W fun r w' => ∃ b, r = .returned (.pointer (some ⟨b, 0, none⟩)) ∧ QM W0 w' b 0 ⟨fun _ => none, [], []⟩ (fun _ => False) ∧ Below W.heap.size W w' := by
  refine (qmNew (w0 := W) hu (Below.refl _ _) hn).mono ?_
  rintro r w' ⟨rfl, s, -⟩
  exact ⟨_, rfl, s.from hb, s.below⟩
theorem show_none (zs : ByteArray) : (tShow zs ⟨fun _ => none, [], []⟩ 1 0).2 = if 65536 < zs.size then 5 else 0 := by
  have hg : tGet ⟨fun _ => none, [], []⟩ 1 0 = (newT 0, 0) := (hasT_get (V := ⟨fun _ => none, [], []⟩) (n := 1) (e := 0) (o := none) rfl (by decide)).1
  unfold tShow
  split
  · rename_i h
    rw [hg, if_neg (by omega)]
  · unfold tChange
    rw [hg]
    dsimp only
    rw [if_neg (by omega)]
    by_cases h : 65536 < zs.size
    · have ho : opShow zs (newT 0) = (newT 0, 5) := if_pos h
      rw [ho, if_pos h]
      dsimp only
      rw [if_pos (by omega)]
    · have ho : (opShow zs (newT 0)).2 = 0 := by unfold opShow; rw [if_neg h]
      have hc := (good_show zs (newT 0) (checkT_new (by decide)) (small_zero 0) ho).1
      have he : (encT (opShow zs (newT 0)).1).2 = 0 := by rw [encT_err]; exact hc
      rw [ho, if_neg (by omega), he, if_neg (by omega), if_neg h]
theorem QM.low36 {w0 w0' w w' : World} {R b M : Nat} {cs : Array Value} {T : TypeId} {fr : Nat × Nat} {V : AV} {G : Nat → Prop} (s : QM w0 w b M V G) (hR : w.heap[R]? = some (.cells cs T fr)) (hT : Apart T) (h0 : 0 < R) (hg0 : w0.grownBy w0' (some R)) (hs : w0'.heap.size = w0.heap.size) (hg : w.grownBy w' (some R)) (he : w'.heap[R]? = w0'.heap[R]?) : QM w0' w' b M V G := by
  obtain ⟨⟨h, hv, hn, h1, h2, h4⟩, h5⟩ := s
  refine ⟨⟨h, hv.box hR hT h0 hg, hn.box hR hT hg, h1, by rw [hs]; exact h2, fun k hk => ⟨(h4 k hk).1, Nat.lt_of_lt_of_le (h4 k hk).2.1 hg.size, (h4 k hk).2.2⟩⟩,
    ⟨hg.os.trans (h5.os.trans hg0.os.symm), hg.tape.trans (h5.tape.trans hg0.tape.symm), hg.output.trans (h5.output.trans hg0.output.symm), by rw [hs]; exact Nat.le_trans h5.size hg.size, fun k hk => ?_⟩⟩
  rw [hs] at hk
  by_cases e : k = R
  · rw [e]; exact he
  · exact (hg.block k (Nat.lt_of_lt_of_le hk h5.size) (fun x => e (Option.some.inj x))).trans ((h5.block k hk).trans (hg0.block k hk (fun x => e (Option.some.inj x))).symm)
theorem apart_op36 : Apart 23 := ⟨by decide, by decide, by decide, by decide⟩
theorem bad_do36 (value : ByteArray) (o : OpU) (h1 : o.num = 5) (h2 : o.ep = 1) (h : (decT value).2 ≠ 0) : (decT value).2 = 3 ∧ uE ⟨setF (fun _ => none) (ofTerm 5) value, [], []⟩ o = 3 ∧ (uV ⟨setF (fun _ => none) (ofTerm 5) value, [], []⟩ o).calls = [] := by
  have h3 : (decT value).2 = 3 := by
    unfold decT at h ⊢
    split at h
    · exact absurd rfl h
    · rename_i hx
      rw [if_neg hx]
  have ha : avGet ⟨setF (fun _ => none) (ofTerm 5) value, [], []⟩ (ofTerm 5) = (value, true) := by simp [avGet, setF, lastCall]
  have hg : tGet ⟨setF (fun _ => none) (ofTerm 5) value, [], []⟩ 5 1 = (zeroT, 3) := by
    unfold tGet ofValue
    rw [if_neg (by decide), ha]
    dsimp only
    rw [if_neg (by exact fun h => nomatch h), if_pos h, h3]
  refine ⟨h3, ?_, ?_⟩
  · unfold uE
    rw [h1, h2]
    split
    · unfold tChange
      rw [hg, if_pos (by decide)]
    · rw [hg]
  · unfold uV
    rw [h1, h2]
    split
    · unfold tChange
      rw [hg, if_pos (by decide)]
      exact tSeen_calls _ _ _
    · exact tSeen_calls _ _ _
set_option linter.unusedSimpArgs false in
set_option maxRecDepth 100000 in
set_option maxHeartbeats 12800000 in
theorem terrors_any (value : ByteArray) (o : OpU) (w : World) (hu : Usages w) (hv : value.size ≤ 9223372036854775807) (hkd : o.kd ≤ 255) (hw : o.who.size ≤ 9223372036854775807) (ht : o.text.size ≤ 9223372036854775807) :
    Calls Tryz.prog 3 #[.string value, opuV o] w fun r w' => r = .returned (.bool true) ∧ Below w.heap.size w w' := by
  obtain ⟨kd, num, ep, who, text⟩ := o
  dsimp only at hkd hw ht
  show Calls Tryz.prog 3 #[.string value, .agg #[.int .u8 kd, .int .i64 num, .int .i64 ep, .string who, .string text]] w _
  have HUs : Hid (∀ W, Below w.heap.size w W → Usages W) := fun W hW => hu.below hW hu.pos
  have HKn : Hid (∀ W, Below w.heap.size w W → Calls Tryz.prog 5 #[] W fun r w' => r = .returned (.bool true) ∧ Below W.heap.size W w') := fun W hW => known_any W (hu.below hW hu.pos)
  have Hp : Hid (0 < w.heap.size) := hu.pos
  have HA : Hid (∀ o, Below w.heap.size w (w.alloc o)) := fun o => (Below.refl _ _).alloc (Nat.le_refl _) o
  have HX : Hid (∀ o, (w.alloc o).heap[w.heap.size]? = some o) := fun o => heap_alloc_new w o
  have Hdo : Hid (∀ (V : AV) (b M : Nat) (wl W : World), QM wl W b M V (fun _ => False) → V.calls.length < 1000000 → Calls Tryz.prog 10 #[.pointer (some ⟨b, 0, none⟩), .agg #[.int .u8 kd, .int .i64 5, .int .i64 1, .string who, .string text]] W (DoUPost wl W b M V (fun _ => False) (shortU ⟨kd, 5, 1, who, text⟩))) := fun V b M wl W s hl => do36_any s ⟨kd, 5, 1, who, text⟩ hkd hw ht hl
  have Hdn : Hid (∀ W : World, Calls Tryz.prog 10 #[.pointer none, .agg #[.int .u8 kd, .int .i64 5, .int .i64 (-1), .string who, .string text]] W fun r w' => r = .returned (.tuple #[.int .i64 1, .string ⟨#[]⟩, .agg #[.int .i64 0, .string ⟨#[]⟩, .slice none 0 0, .string ⟨#[]⟩]]) ∧ Below W.heap.size W w') := fun W => don36_any ⟨kd, 5, -1, who, text⟩ W hkd hw ht
  clear hu hkd hw ht
  go_enter Tryz.func3, Tryz.ntmps3
  go_wp2_with fail
  refine (HKn.out _ (HA.out _)).mono ?_
  rintro r w1 ⟨rfl, hb1⟩
  have HB1 : Hid (Below w.heap.size w w1) := (HA.out _).trans (hb1.mono (HA.out _).size)
  have HX1 := Lib.hid ((hb1.block _ (lt_of_heap (HX.out _))).trans (HX.out _))
  clear hb1 HA HX
  by_cases hbig : 3000 < value.size
  · clear Hdo Hdn
    go_wp2_with fail
    refine (HKn.out _ HB1.out).mono ?_
    rintro r w2 ⟨rfl, hb2⟩
    have HB2 : Hid (Below w.heap.size w w2) := HB1.out.trans (hb2.mono HB1.out.size)
    clear hb2
    go_wp2
    refine bodyPost_ret (v := .bool true) (by simp [results, Tryz.results3, go_sem]) rfl ?_
    exact ⟨rfl, HB2.out⟩
  have Hvs : Hid (value.size ≤ 3000) := by show _ ≤ _; omega
  clear HKn
  go_wp2_with fail
  refine (stateNew_any _).mono ?_
  rintro r w2 ⟨rfl, hw2⟩
  have HN2 : Hid (BaseN 0 w2.heap.size w2 w1.heap.size (fun _ => none)) := by subst hw2; exact baseN_empty w1
  have hb2 : Below w1.heap.size w1 w2 := by subst hw2; exact (Below.refl _ _).alloc (Nat.le_refl _) _
  have HB2 : Hid (Below w.heap.size w w2) := HB1.out.trans (hb2.mono HB1.out.size)
  have HX2 := Lib.hid ((hb2.block _ (lt_of_heap HX1.out)).trans HX1.out)
  clear hb2 HX1 hw2 HB1
  generalize w1.heap.size = sp at *
  go_wp2_with fail
  refine (ofTerminal_any 5 _).mono ?_
  rintro r w3 ⟨rfl, hb3⟩
  have HB3 : Hid (Below w.heap.size w w3) := HB2.out.trans (hb3.mono HB2.out.size)
  have HX3 := Lib.hid ((hb3.block _ (lt_of_heap HX2.out)).trans HX2.out)
  have HN3 := Lib.hid ((HN2.out.later hb3).up hb3.size)
  clear hb3 HX2 HB2 HN2
  go_wp2_with fail
  refine (baseWith (n := ofTerm 5) (v := value) (HUs.out _ HB3.out) HN3.out (by omega) (nameOk_term 5 (by omega) (by omega)) (by have := Hvs.out; omega)).mono ?_
  rintro r w4 ⟨sq, rfl, hb4, hn4⟩
  have HB4 : Hid (Below w.heap.size w w4) := HB3.out.trans (hb4.mono HB3.out.size)
  have HX4 := Lib.hid ((hb4.block _ (lt_of_heap HX3.out)).trans HX3.out)
  have HN4 := Lib.hid hn4
  clear hb4 hn4 HX3 HB3 HN3
  go_wp2_with fail
  refine (qmNew (w0 := w4) (HUs.out _ HB4.out) (Below.refl _ _) HN4.out).mono ?_
  rintro r w5 ⟨rfl, s5, -⟩
  have HX5 := Lib.hid ((s5.below.block _ (lt_of_heap HX4.out)).trans HX4.out)
  have HX4' : Hid (((w4.setCell ⟨w.heap.size, 1, none⟩ (.int .i64 5)).setCell ⟨w.heap.size, 2, none⟩ (.int .i64 1)).heap[w.heap.size]? = some (.cells #[.int .u8 kd, .int .i64 5, .int .i64 1, .string who, .string text] 23 (0, 0))) := by
    show _ = _
    exact heap_setCell_same (heap_setCell_same HX4.out 1 _) 2 _
  have HX6 : Hid (((w5.setCell ⟨w.heap.size, 1, none⟩ (.int .i64 5)).setCell ⟨w.heap.size, 2, none⟩ (.int .i64 1)).heap[w.heap.size]? = some (.cells #[.int .u8 kd, .int .i64 5, .int .i64 1, .string who, .string text] 23 (0, 0))) := by
    show _ = _
    exact heap_setCell_same (heap_setCell_same HX5.out 1 _) 2 _
  have HS6 : Hid (QM ((w4.setCell ⟨w.heap.size, 1, none⟩ (.int .i64 5)).setCell ⟨w.heap.size, 2, none⟩ (.int .i64 1)) ((w5.setCell ⟨w.heap.size, 1, none⟩ (.int .i64 5)).setCell ⟨w.heap.size, 2, none⟩ (.int .i64 1)) (w4.heap.size + 2) (0 + 1) ⟨setF (fun _ => none) (ofTerm 5) value, [], []⟩ (fun _ => False)) :=
    QM.low36 s5 HX5.out apart_op36 Hp.out (grown_trans (grown_setCell _ _ _ _) (grown_setCell _ _ _ _)) (by simp) (grown_trans (grown_setCell _ _ _ _) (grown_setCell _ _ _ _)) (HX6.out.trans HX4'.out.symm)
  have HBl : Hid (Below w.heap.size w ((w4.setCell ⟨w.heap.size, 1, none⟩ (.int .i64 5)).setCell ⟨w.heap.size, 2, none⟩ (.int .i64 1))) := (HB4.out.setCell (p := ⟨w.heap.size, 1, none⟩) (Nat.le_refl _) _).setCell (p := ⟨w.heap.size, 2, none⟩) (Nat.le_refl _) _
  clear s5 HX4 HB4 HN4
  generalize (w4.setCell ⟨w.heap.size, 1, none⟩ (.int .i64 5)).setCell ⟨w.heap.size, 2, none⟩ (.int .i64 1) = wl at *
  generalize w4.heap.size + 2 = b at *
  have o1 : w5.cell? ⟨w.heap.size, 1, none⟩ = some (.int .i64 num) := cell_of_heap HX5.out 1
  have o2 : w5.cell? ⟨w.heap.size, 2, none⟩ = some (.int .i64 ep) := cell_of_heap HX5.out 2
  have o0 : w5.cell? ⟨w.heap.size, 0, none⟩ = some (.int .u8 kd) := cell_of_heap HX5.out 0
  have o3 : w5.cell? ⟨w.heap.size, 3, none⟩ = some (.string who) := cell_of_heap HX5.out 3
  have o4 : w5.cell? ⟨w.heap.size, 4, none⟩ = some (.string text) := cell_of_heap HX5.out 4
  have f1 := frozen_of_heap HX5.out 1
  have f2 := frozen_of_heap HX5.out 2
  have HBad : Hid ((decT value).2 ≠ 0 → (decT value).2 = 3 ∧ uE ⟨setF (fun _ => none) (ofTerm 5) value, [], []⟩ (shortU ⟨kd, 5, 1, who, text⟩) = 3 ∧ (uV ⟨setF (fun _ => none) (ofTerm 5) value, [], []⟩ (shortU ⟨kd, 5, 1, who, text⟩)).calls = []) := fun h => bad_do36 value _ rfl rfl h
  go_wp2_with fail
  clear o0 o1 o2 o3 o4 f1 f2
  generalize (w5.setCell ⟨w.heap.size, 1, none⟩ (.int .i64 5)).setCell ⟨w.heap.size, 2, none⟩ (.int .i64 1) = w6 at *
  refine (Hdo.out _ b _ wl w6 HS6.out (by show 0 < _; omega)).mono ?_
  rintro r w7 ⟨a, n, c, rfl, -, s7, -⟩
  have HX7 := Lib.hid ((s7.below.block _ (lt_of_heap HX4'.out)).trans HX4'.out)
  have HS7 := Lib.hid s7
  have HB7 : Hid (Below w.heap.size w w7) := HBl.out.trans (s7.below.mono HBl.out.size)
  clear s7 HX6 HS6 HX5 Hdo HX4' HBl
  generalize uE ⟨setF (fun _ => none) (ofTerm 5) value, [], []⟩ (shortU ⟨kd, 5, 1, who, text⟩) = e at *
  generalize uV ⟨setF (fun _ => none) (ofTerm 5) value, [], []⟩ (shortU ⟨kd, 5, 1, who, text⟩) = V' at *
  generalize uLine ⟨setF (fun _ => none) (ofTerm 5) value, [], []⟩ (shortU ⟨kd, 5, 1, who, text⟩) = line at *
  generalize uGot ⟨setF (fun _ => none) (ofTerm 5) value, [], []⟩ (shortU ⟨kd, 5, 1, who, text⟩) = got at *
  obtain ⟨te, ts, tl, tc⟩ := got
  dsimp only
  have HDr : Hid (∀ W, Calls Tryz.prog 11 #[.string value] W (TermPost W (decT value).1 (decT value).2)) := fun W => by have h := rDec36_any value W (by have := Hvs.out; omega); rw [rDecT_is value (by have := Hvs.out; omega)] at h; exact h
  have HA7 : Hid (∀ o, Below w7.heap.size w7 (w7.alloc o)) := fun o => (Below.refl _ _).alloc (Nat.le_refl _) _
  generalize decT value = de at *
  obtain ⟨⟨xe, xs, xl, xc⟩, xq⟩ := de
  dsimp only at HDr HBad
  go_wp2_with fail
  refine (HDr.out _).mono ?_
  rintro r w8 ⟨a8, n8, c8, rfl, -, -, hb8⟩
  have HB78 : Hid (Below w7.heap.size w7 w8) := (HA7.out _).trans (hb8.mono (HA7.out _).size)
  clear hb8 HA7 HDr
  have HA8 : Hid (∀ o, Below w8.heap.size w8 (w8.alloc o)) := fun o => (Below.refl _ _).alloc (Nat.le_refl _) _
  dsimp only
  go_upto_region 10 with fail
  have HB79 := Lib.hid (HB78.out.trans ((HA8.out (.cells #[.int .i64 xe, .string xs, .slice a8 n8 c8, .string xc] 42)).mono HB78.out.size))
  clear HB78 HA8
  generalize w8.alloc (.cells #[.int .i64 xe, .string xs, .slice a8 n8 c8, .string xc] 42) = w9 at *
  generalize w8.heap.size = P11 at *
  have HS9 := Lib.hid (HS7.out.later HB79.out)
  have HX9 := Lib.hid ((HB79.out.block _ (lt_of_heap HX7.out)).trans HX7.out)
  have HB9 : Hid (Below w.heap.size w w9) := HB7.out.trans (HB79.out.mono HB7.out.size)
  clear HS7 HX7 HB7 HB79
  go_cut [62] (fun gv wx => gv = .bool false ∧ Hid (Below w9.heap.size w9 wx))
  case first =>
    by_cases h0 : xq = 0
    · subst h0
      go_wp2
      go_meet
      exact ⟨rfl, Below.refl _ _⟩
    · obtain ⟨h1, h2, h3⟩ := HBad.out h0
      subst h1 h2
      go_wp2_with fail
      refine (qmWrites HS9.out).mono ?_
      rintro r w10 ⟨v, cs, rfl, hrow, hperm, -, hb10, -⟩
      have hcs : cs = [] := by
        rw [h3] at hperm
        exact List.Perm.eq_nil hperm
      obtain ⟨qv, kv, rfl, -⟩ := hrow
      rw [hcs]
      have HB10 := Lib.hid hb10
      clear hb10 hperm h3
      go_wp2
      go_meet
      exact ⟨rfl, HB10.out⟩
  case rest =>
    obtain ⟨rfl, HBw⟩ := hcut
    have HX10 := Lib.hid ((HBw.out.block _ (lt_of_heap HX9.out)).trans HX9.out)
    have HB10 : Hid (Below w.heap.size w wc) := HB9.out.trans (HBw.out.mono HB9.out.size)
    clear HBw HX9 HB9 HS9 HBad
    have o0 : wc.cell? ⟨w.heap.size, 0, none⟩ = some (.int .u8 kd) := cell_of_heap HX10.out 0
    have o1 : wc.cell? ⟨w.heap.size, 1, none⟩ = some (.int .i64 5) := cell_of_heap HX10.out 1
    have o2 : wc.cell? ⟨w.heap.size, 2, none⟩ = some (.int .i64 1) := cell_of_heap HX10.out 2
    have o3 : wc.cell? ⟨w.heap.size, 3, none⟩ = some (.string who) := cell_of_heap HX10.out 3
    have o4 : wc.cell? ⟨w.heap.size, 4, none⟩ = some (.string text) := cell_of_heap HX10.out 4
    have f2 := frozen_of_heap HX10.out 2
    have HB11 : Hid (Below w.heap.size w (wc.setCell ⟨w.heap.size, 2, none⟩ (.int .i64 (-1)))) := HB10.out.setCell (p := ⟨w.heap.size, 2, none⟩) (Nat.le_refl _) _
    go_wp2_with fail
    clear o0 o1 o2 o3 o4 f2 HX10 HB10
    generalize wc.setCell ⟨w.heap.size, 2, none⟩ (.int .i64 (-1)) = w11 at *
    refine (Hdn.out _).mono ?_
    rintro r w12 ⟨rfl, hb12⟩
    have HB12 : Hid (Below w.heap.size w w12) := HB11.out.trans (hb12.mono HB11.out.size)
    have HA12 : Hid (∀ o, Below w.heap.size w (w12.alloc o)) := fun o => HB12.out.alloc HB12.out.size o
    clear hb12 HB11 HB12
    go_upto_region 14 with fail
    have HB0 := Lib.hid (HA12.out (.cells #[.int .i64 0, .string ⟨#[]⟩, .slice none 0 0, .string ⟨#[]⟩] 38))
    clear HA12 Hdn
    generalize w12.alloc (.cells #[.int .i64 0, .string ⟨#[]⟩, .slice none 0 0, .string ⟨#[]⟩] 38) = W0 at *
    go_cut [16] (fun gv wx => gv = .int .i64 5 ∧ Hid (Below W0.heap.size W0 wx))
    case first =>
      obtain ⟨cur, zs, hzs, hmk0, hcv0⟩ := zrow 65537 (by omega)
      have hmk : ∀ W : World, (Instr.makeSlice 48 (.int .i64 65537) (.int .i64 65537)).run Tryz.prog W = .ok (.slice (some ⟨W.heap.size, 0, none⟩) 65537 65537) (W.alloc (.cells cur 5)) := hmk0
      have HCv : Hid (∀ (W : World) (g : Nat), W.heap[g]? = some (.cells cur 5 (0, 0)) → (convert 48 9 (.slice (some ⟨g, 0, none⟩) 65537 65537)).run Tryz.prog W = .ok (.string zs) W) := hcv0
      have Hzs : Hid (zs.size ≤ 70000) := by show _ ≤ _; omega
      have HRes : Hid ((tShow zs ⟨fun _ => none, [], []⟩ 1 0).2 = 5) := by show _ = _; rw [show_none, hzs]; rfl
      have HU1 : Hid (∀ W, Below W0.heap.size W0 W → Usages W) := fun W hW => HUs.out W (HB0.out.trans (hW.mono HB0.out.size))
      have HA1 : Hid (∀ o, Below W0.heap.size W0 (W0.drew.alloc o)) := fun o => ((Below.refl _ _).alloc (Nat.le_refl _) o).trans ⟨rfl, rfl, rfl, Nat.le_refl _, fun _ _ => rfl⟩
      have HA2 : Hid (∀ o o', Below W0.heap.size W0 ((W0.drew.alloc o).alloc o')) := fun o o' => (HA1.out o).alloc (by show W0.heap.size ≤ (W0.drew.alloc o).heap.size; rw [World.size_alloc]; show W0.heap.size ≤ W0.heap.size + 1; omega) o'
      have HNA : Hid (BaseN 0 (W0.drew.alloc (.cells #[.pointer none] 68)).heap.size (W0.drew.alloc (.cells #[.pointer none] 68)) W0.heap.size (fun _ => none)) := baseN_empty W0.drew
      have HNA2 : Hid (∀ o, BaseN 0 ((W0.drew.alloc (.cells #[.pointer none] 68)).alloc o).heap.size ((W0.drew.alloc (.cells #[.pointer none] 68)).alloc o) W0.heap.size (fun _ => none)) := fun o => (HNA.out.later ((Below.refl _ _).alloc (Nat.le_refl _) _)).up (by simp)
      have HNB : Hid (∀ o, BaseN 0 ((W0.drew.alloc o).alloc (.cells #[.pointer none] 68)).heap.size ((W0.drew.alloc o).alloc (.cells #[.pointer none] 68)) (W0.heap.size + 1) (fun _ => none)) := fun o => by
        have h := baseN_empty (W0.drew.alloc o)
        have e : (W0.drew.alloc o).heap.size = W0.heap.size + 1 := World.size_alloc _ _
        rw [e] at h
        exact h
      clear hzs hmk0 hcv0
      refine wp_region_held_drew (S := (fun _ => True)) (by kernel_rfl) (trivial) (fun hHeld0 => ?_)
      refine wpAnyH_ready (rs := [0, 2]) (by kernel_rfl) (by simp) ?_
      refine AllReadyH.cons rfl (fun K hK => ?_) (AllReadyH.cons rfl (fun K hK => ?_) AllReadyH.nil)
      · go_simp
        go_at_call 6
        refine (stateNew_any _).mono ?_
        rintro r wS ⟨rfl, rfl⟩
        go_wp2_with fail
        refine hK.out _ _ (trivial) (fun hH7 => ?_)
        clear hK K
        try simp only [Act.put, List.setIfInBounds_toArray, List.set_cons_zero, List.set_cons_succ, List.getElem_toArray, List.getElem_cons_zero, List.getElem_cons_succ]
        refine wpAnyH_ready (rs := [1, 2]) (by kernel_rfl) (by simp) ?_
        refine AllReadyH.cons rfl (fun K hK => ?_) (AllReadyH.cons rfl (fun K hK => ?_) AllReadyH.nil)
        · go_simp
          go_at_call 9
          refine (nv_any (W0.drew.alloc (.cells #[.pointer none] 68)) (W0.drew.alloc (.cells #[.pointer none] 68)) (W0.heap.size) (HU1.out _ (HA1.out _)) (Below.refl _ _) (HNA.out)).mono ?_
          rintro r wV ⟨bv, rfl, sv, hbv⟩
          have SV := Lib.hid sv
          have HV : Hid (Below W0.heap.size W0 wV) := (HA1.out _).trans (hbv.mono (HA1.out _).size)
          go_wp2_with fail
          refine hK.out _ _ (trivial) (fun hH1 => ?_)
          clear hK K
          try simp only [Act.put, List.setIfInBounds_toArray, List.set_cons_zero, List.set_cons_succ, List.getElem_toArray, List.getElem_cons_zero, List.getElem_cons_succ]
          clear sv hbv
          refine wpAnyH_ready (rs := [2]) (by kernel_rfl) (by simp) ?_
          refine AllReadyH.cons rfl (fun K hK => ?_) AllReadyH.nil
          go_simp
          refine hK.out _ _ (trivial) (fun hH2 => ?_)
          clear hK K
          try simp only [Act.put, List.setIfInBounds_toArray, List.set_cons_zero, List.set_cons_succ, List.getElem_toArray, List.getElem_cons_zero, List.getElem_cons_succ]
          refine wpAnyH_mono (S2 := fun W => W.heap[wV.heap.size]? = some (.cells cur 5 (0, 0))) (fun _ _ => trivial) _ _ _ _ ?_
          have hRow : (fun W : World => W.heap[wV.heap.size]? = some (.cells cur 5 (0, 0))) ((wV).alloc (.cells cur 5)) := by
            have h := heap_alloc_new (wV) (.cells cur 5)
            first | exact h | (rw [World.size_alloc] at h; exact h)
          refine wpAnyH_take (i := 3) (v := ?_) rfl (by kernel_rfl) (by kernel_rfl) (by kernel_rfl) (fun _ _ _ h => h) (Or.inl ⟨by rfl, ?_⟩) (by assumption) ?_
          rotate_left
          · (intro wx hSw; have hcv := HCv.out wx (wV.heap.size) hSw; go_simp <;> with_reducible rfl)
          try simp only [Act.put, List.setIfInBounds_toArray, List.set_cons_zero, List.set_cons_succ, List.getElem_toArray, List.getElem_cons_zero, List.getElem_cons_succ]
          refine wpAnyH_ready (rs := [4]) (by kernel_rfl) (by simp) ?_
          refine AllReadyH.cons rfl (fun K hK => ?_) AllReadyH.nil
          go_simp
          go_at_call 13
          refine (qtShow ((SV.out.fresh (G' := fun k => k = wV.heap.size) ((Below.refl _ _).alloc (Nat.le_refl _) (.cells cur 5)) (fun k hk => .inr ⟨Nat.le_of_eq hk.symm, by rw [World.size_alloc]; omega⟩))) (by show 0 < _; omega) 1 0 zs (by have := Hzs.out; omega)).mono ?_
          rintro r wE ⟨rfl, sE, hkE⟩
          rw [HRes.out]
          have HE : Hid (Below W0.heap.size W0 wE) := (HA1.out _).trans (sE.below.mono (HA1.out _).size)
          go_wp2_with fail
          refine hK.out _ _ ((hkE _ rfl).trans hRow) (fun hH3 => ?_)
          clear hK K
          try simp only [Act.put, List.setIfInBounds_toArray, List.set_cons_zero, List.set_cons_succ, List.getElem_toArray, List.getElem_cons_zero, List.getElem_cons_succ]
          clear sE hkE
          refine wpAnyH_take (i := 5) (v := ?_) rfl (by kernel_rfl) (by kernel_rfl) (by kernel_rfl) (fun _ _ _ h => h) (Or.inl ⟨by rfl, ?_⟩) (by assumption) ?_
          rotate_left
          · (intro wx hSw; (try dsimp only at hSw); go_simp <;> with_reducible rfl)
          try simp only [Act.put, List.setIfInBounds_toArray, List.set_cons_zero, List.set_cons_succ, List.getElem_toArray, List.getElem_cons_zero, List.getElem_cons_succ]
          refine wpAnyH_done (by kernel_rfl) ?_ _
          go_wp2_with fail
          go_meet
          exact ⟨rfl, HE.out⟩
        · go_simp
          refine hK.out _ _ (trivial) (fun hH4 => ?_)
          clear hK K
          try simp only [Act.put, List.setIfInBounds_toArray, List.set_cons_zero, List.set_cons_succ, List.getElem_toArray, List.getElem_cons_zero, List.getElem_cons_succ]
          refine wpAnyH_mono (S2 := fun W => W.heap[W0.heap.size + 1]? = some (.cells cur 5 (0, 0))) (fun _ _ => trivial) _ _ _ _ ?_
          have hRow : (fun W : World => W.heap[W0.heap.size + 1]? = some (.cells cur 5 (0, 0))) ((W0.drew.alloc (.cells #[.pointer none] 68)).alloc (.cells cur 5)) := by
            have h := heap_alloc_new (W0.drew.alloc (.cells #[.pointer none] 68)) (.cells cur 5)
            first | exact h | (rw [World.size_alloc] at h; exact h)
          refine wpAnyH_take (i := 3) (v := ?_) rfl (by kernel_rfl) (by kernel_rfl) (by kernel_rfl) (fun _ _ _ h => h) (Or.inl ⟨by rfl, ?_⟩) (by assumption) ?_
          rotate_left
          · (intro wx hSw; have hcv := HCv.out wx (W0.heap.size + 1) hSw; go_simp <;> with_reducible rfl)
          try simp only [Act.put, List.setIfInBounds_toArray, List.set_cons_zero, List.set_cons_succ, List.getElem_toArray, List.getElem_cons_zero, List.getElem_cons_succ]
          have hRowV : ((W0.drew.alloc (.cells #[.pointer none] 68)).alloc (.cells cur 5)).heap[W0.heap.size + 1]? = some (.cells cur 5 (0, 0)) := hRow
          refine wpAnyH_ready (rs := [1]) (by kernel_rfl) (by simp) ?_
          refine AllReadyH.cons rfl (fun K hK => ?_) AllReadyH.nil
          go_simp
          go_at_call 9
          refine (nv_any ((W0.drew.alloc (.cells #[.pointer none] 68)).alloc (.cells cur 5)) ((W0.drew.alloc (.cells #[.pointer none] 68)).alloc (.cells cur 5)) (W0.heap.size) (HU1.out _ (HA2.out _ _)) (Below.refl _ _) (HNA2.out _)).mono ?_
          rintro r wV ⟨bv, rfl, sv, hbv⟩
          have SV := Lib.hid sv
          have HV : Hid (Below W0.heap.size W0 wV) := (HA2.out _ _).trans (hbv.mono (HA2.out _ _).size)
          go_wp2_with fail
          refine hK.out _ _ ((hbv.block _ (by simp)).trans hRow) (fun hH5 => ?_)
          clear hK K
          try simp only [Act.put, List.setIfInBounds_toArray, List.set_cons_zero, List.set_cons_succ, List.getElem_toArray, List.getElem_cons_zero, List.getElem_cons_succ]
          clear sv hbv
          refine wpAnyH_ready (rs := [4]) (by kernel_rfl) (by simp) ?_
          refine AllReadyH.cons rfl (fun K hK => ?_) AllReadyH.nil
          go_simp
          go_at_call 13
          refine (qtShow (SV.out) (by show 0 < _; omega) 1 0 zs (by have := Hzs.out; omega)).mono ?_
          rintro r wE ⟨rfl, sE, hkE⟩
          rw [HRes.out]
          have HE : Hid (Below W0.heap.size W0 wE) := (HA2.out _ _).trans (sE.below.mono (HA2.out _ _).size)
          go_wp2_with fail
          refine hK.out _ _ ((sE.below.block _ (lt_of_heap hRowV)).trans hRowV) (fun hH6 => ?_)
          clear hK K
          try simp only [Act.put, List.setIfInBounds_toArray, List.set_cons_zero, List.set_cons_succ, List.getElem_toArray, List.getElem_cons_zero, List.getElem_cons_succ]
          clear sE hkE
          refine wpAnyH_take (i := 5) (v := ?_) rfl (by kernel_rfl) (by kernel_rfl) (by kernel_rfl) (fun _ _ _ h => h) (Or.inl ⟨by rfl, ?_⟩) (by assumption) ?_
          rotate_left
          · (intro wx hSw; (try dsimp only at hSw); go_simp <;> with_reducible rfl)
          try simp only [Act.put, List.setIfInBounds_toArray, List.set_cons_zero, List.set_cons_succ, List.getElem_toArray, List.getElem_cons_zero, List.getElem_cons_succ]
          refine wpAnyH_done (by kernel_rfl) ?_ _
          go_wp2_with fail
          go_meet
          exact ⟨rfl, HE.out⟩
      · go_simp
        refine hK.out _ _ (trivial) (fun hH8 => ?_)
        clear hK K
        try simp only [Act.put, List.setIfInBounds_toArray, List.set_cons_zero, List.set_cons_succ, List.getElem_toArray, List.getElem_cons_zero, List.getElem_cons_succ]
        refine wpAnyH_mono (S2 := fun W => W.heap[W0.heap.size]? = some (.cells cur 5 (0, 0))) (fun _ _ => trivial) _ _ _ _ ?_
        have hRow : (fun W : World => W.heap[W0.heap.size]? = some (.cells cur 5 (0, 0))) ((W0.drew).alloc (.cells cur 5)) := by
          have h := heap_alloc_new (W0.drew) (.cells cur 5)
          first | exact h | (rw [World.size_alloc] at h; exact h)
        refine wpAnyH_take (i := 3) (v := ?_) rfl (by kernel_rfl) (by kernel_rfl) (by kernel_rfl) (fun _ _ _ h => h) (Or.inl ⟨by rfl, ?_⟩) (by assumption) ?_
        rotate_left
        · (intro wx hSw; have hcv := HCv.out wx (W0.heap.size) hSw; go_simp <;> with_reducible rfl)
        try simp only [Act.put, List.setIfInBounds_toArray, List.set_cons_zero, List.set_cons_succ, List.getElem_toArray, List.getElem_cons_zero, List.getElem_cons_succ]
        refine wpAnyH_ready (rs := [0]) (by kernel_rfl) (by simp) ?_
        refine AllReadyH.cons rfl (fun K hK => ?_) AllReadyH.nil
        go_simp
        go_at_call 6
        refine (stateNew_any _).mono ?_
        rintro r wS ⟨rfl, rfl⟩
        go_wp2_with fail
        refine hK.out _ _ ((Below.heap_alloc _ _ _ (by simp)).trans hRow) (fun hH9 => ?_)
        clear hK K
        try simp only [Act.put, List.setIfInBounds_toArray, List.set_cons_zero, List.set_cons_succ, List.getElem_toArray, List.getElem_cons_zero, List.getElem_cons_succ]
        have hRowV : ((W0.drew.alloc (.cells cur 5)).alloc (.cells #[.pointer none] 68)).heap[W0.heap.size]? = some (.cells cur 5 (0, 0)) := (Below.heap_alloc _ _ _ (by simp)).trans hRow
        refine wpAnyH_ready (rs := [1]) (by kernel_rfl) (by simp) ?_
        refine AllReadyH.cons rfl (fun K hK => ?_) AllReadyH.nil
        go_simp
        go_at_call 9
        refine (nv_any ((W0.drew.alloc (.cells cur 5)).alloc (.cells #[.pointer none] 68)) ((W0.drew.alloc (.cells cur 5)).alloc (.cells #[.pointer none] 68)) (W0.heap.size + 1) (HU1.out _ (HA2.out _ _)) (Below.refl _ _) (HNB.out _)).mono ?_
        rintro r wV ⟨bv, rfl, sv, hbv⟩
        have SV := Lib.hid sv
        have HV : Hid (Below W0.heap.size W0 wV) := (HA2.out _ _).trans (hbv.mono (HA2.out _ _).size)
        go_wp2_with fail
        refine hK.out _ _ ((hbv.block _ (by simp; omega)).trans ((Below.heap_alloc _ _ _ (by simp)).trans hRow)) (fun hH10 => ?_)
        clear hK K
        try simp only [Act.put, List.setIfInBounds_toArray, List.set_cons_zero, List.set_cons_succ, List.getElem_toArray, List.getElem_cons_zero, List.getElem_cons_succ]
        clear sv hbv
        refine wpAnyH_ready (rs := [4]) (by kernel_rfl) (by simp) ?_
        refine AllReadyH.cons rfl (fun K hK => ?_) AllReadyH.nil
        go_simp
        go_at_call 13
        refine (qtShow (SV.out) (by show 0 < _; omega) 1 0 zs (by have := Hzs.out; omega)).mono ?_
        rintro r wE ⟨rfl, sE, hkE⟩
        rw [HRes.out]
        have HE : Hid (Below W0.heap.size W0 wE) := (HA2.out _ _).trans (sE.below.mono (HA2.out _ _).size)
        go_wp2_with fail
        refine hK.out _ _ ((sE.below.block _ (lt_of_heap hRowV)).trans hRowV) (fun hH11 => ?_)
        clear hK K
        try simp only [Act.put, List.setIfInBounds_toArray, List.set_cons_zero, List.set_cons_succ, List.getElem_toArray, List.getElem_cons_zero, List.getElem_cons_succ]
        clear sE hkE
        refine wpAnyH_take (i := 5) (v := ?_) rfl (by kernel_rfl) (by kernel_rfl) (by kernel_rfl) (fun _ _ _ h => h) (Or.inl ⟨by rfl, ?_⟩) (by assumption) ?_
        rotate_left
        · (intro wx hSw; (try dsimp only at hSw); go_simp <;> with_reducible rfl)
        try simp only [Act.put, List.setIfInBounds_toArray, List.set_cons_zero, List.set_cons_succ, List.getElem_toArray, List.getElem_cons_zero, List.getElem_cons_succ]
        refine wpAnyH_done (by kernel_rfl) ?_ _
        go_wp2_with fail
        go_meet
        exact ⟨rfl, HE.out⟩
    case rest =>
      obtain ⟨rfl, HBw⟩ := hcut
      have HB0' : Hid (Below w.heap.size w wc) := HB0.out.trans (HBw.out.mono HB0.out.size)
      clear HBw HB0
      go_upto_region 15 with fail
      have HB0 := HB0'
      clear HB0'
      generalize wc = W0' at *
      go_cut [17] (fun gv wx => gv = .int .i64 0 ∧ Hid (Below W0'.heap.size W0' wx))
      case first =>
        obtain ⟨cur, zs, hzs, hmk0, hcv0⟩ := zrow 65536 (by omega)
        have hmk : ∀ W : World, (Instr.makeSlice 48 (.int .i64 65536) (.int .i64 65536)).run Tryz.prog W = .ok (.slice (some ⟨W.heap.size, 0, none⟩) 65536 65536) (W.alloc (.cells cur 5)) := hmk0
        have HCv : Hid (∀ (W : World) (g : Nat), W.heap[g]? = some (.cells cur 5 (0, 0)) → (convert 48 9 (.slice (some ⟨g, 0, none⟩) 65536 65536)).run Tryz.prog W = .ok (.string zs) W) := hcv0
        have Hzs : Hid (zs.size ≤ 70000) := by show _ ≤ _; omega
        have HRes : Hid ((tShow zs ⟨fun _ => none, [], []⟩ 1 0).2 = 0) := by show _ = _; rw [show_none, hzs]; rfl
        have HU1 : Hid (∀ W, Below W0'.heap.size W0' W → Usages W) := fun W hW => HUs.out W (HB0.out.trans (hW.mono HB0.out.size))
        have HA1 : Hid (∀ o, Below W0'.heap.size W0' (W0'.drew.alloc o)) := fun o => ((Below.refl _ _).alloc (Nat.le_refl _) o).trans ⟨rfl, rfl, rfl, Nat.le_refl _, fun _ _ => rfl⟩
        have HA2 : Hid (∀ o o', Below W0'.heap.size W0' ((W0'.drew.alloc o).alloc o')) := fun o o' => (HA1.out o).alloc (by show W0'.heap.size ≤ (W0'.drew.alloc o).heap.size; rw [World.size_alloc]; show W0'.heap.size ≤ W0'.heap.size + 1; omega) o'
        have HNA : Hid (BaseN 0 (W0'.drew.alloc (.cells #[.pointer none] 68)).heap.size (W0'.drew.alloc (.cells #[.pointer none] 68)) W0'.heap.size (fun _ => none)) := baseN_empty W0'.drew
        have HNA2 : Hid (∀ o, BaseN 0 ((W0'.drew.alloc (.cells #[.pointer none] 68)).alloc o).heap.size ((W0'.drew.alloc (.cells #[.pointer none] 68)).alloc o) W0'.heap.size (fun _ => none)) := fun o => (HNA.out.later ((Below.refl _ _).alloc (Nat.le_refl _) _)).up (by simp)
        have HNB : Hid (∀ o, BaseN 0 ((W0'.drew.alloc o).alloc (.cells #[.pointer none] 68)).heap.size ((W0'.drew.alloc o).alloc (.cells #[.pointer none] 68)) (W0'.heap.size + 1) (fun _ => none)) := fun o => by
          have h := baseN_empty (W0'.drew.alloc o)
          have e : (W0'.drew.alloc o).heap.size = W0'.heap.size + 1 := World.size_alloc _ _
          rw [e] at h
          exact h
        clear hzs hmk0 hcv0
        refine wp_region_held_drew (S := (fun _ => True)) (by kernel_rfl) (trivial) (fun hHeld0 => ?_)
        refine wpAnyH_ready (rs := [0, 2]) (by kernel_rfl) (by simp) ?_
        refine AllReadyH.cons rfl (fun K hK => ?_) (AllReadyH.cons rfl (fun K hK => ?_) AllReadyH.nil)
        · go_simp
          go_at_call 6
          refine (stateNew_any _).mono ?_
          rintro r wS ⟨rfl, rfl⟩
          go_wp2_with fail
          refine hK.out _ _ (trivial) (fun hH7 => ?_)
          clear hK K
          try simp only [Act.put, List.setIfInBounds_toArray, List.set_cons_zero, List.set_cons_succ, List.getElem_toArray, List.getElem_cons_zero, List.getElem_cons_succ]
          refine wpAnyH_ready (rs := [1, 2]) (by kernel_rfl) (by simp) ?_
          refine AllReadyH.cons rfl (fun K hK => ?_) (AllReadyH.cons rfl (fun K hK => ?_) AllReadyH.nil)
          · go_simp
            go_at_call 9
            refine (nv_any (W0'.drew.alloc (.cells #[.pointer none] 68)) (W0'.drew.alloc (.cells #[.pointer none] 68)) (W0'.heap.size) (HU1.out _ (HA1.out _)) (Below.refl _ _) (HNA.out)).mono ?_
            rintro r wV ⟨bv, rfl, sv, hbv⟩
            have SV := Lib.hid sv
            have HV : Hid (Below W0'.heap.size W0' wV) := (HA1.out _).trans (hbv.mono (HA1.out _).size)
            go_wp2_with fail
            refine hK.out _ _ (trivial) (fun hH1 => ?_)
            clear hK K
            try simp only [Act.put, List.setIfInBounds_toArray, List.set_cons_zero, List.set_cons_succ, List.getElem_toArray, List.getElem_cons_zero, List.getElem_cons_succ]
            clear sv hbv
            refine wpAnyH_ready (rs := [2]) (by kernel_rfl) (by simp) ?_
            refine AllReadyH.cons rfl (fun K hK => ?_) AllReadyH.nil
            go_simp
            refine hK.out _ _ (trivial) (fun hH2 => ?_)
            clear hK K
            try simp only [Act.put, List.setIfInBounds_toArray, List.set_cons_zero, List.set_cons_succ, List.getElem_toArray, List.getElem_cons_zero, List.getElem_cons_succ]
            refine wpAnyH_mono (S2 := fun W => W.heap[wV.heap.size]? = some (.cells cur 5 (0, 0))) (fun _ _ => trivial) _ _ _ _ ?_
            have hRow : (fun W : World => W.heap[wV.heap.size]? = some (.cells cur 5 (0, 0))) ((wV).alloc (.cells cur 5)) := by
              have h := heap_alloc_new (wV) (.cells cur 5)
              first | exact h | (rw [World.size_alloc] at h; exact h)
            refine wpAnyH_take (i := 3) (v := ?_) rfl (by kernel_rfl) (by kernel_rfl) (by kernel_rfl) (fun _ _ _ h => h) (Or.inl ⟨by rfl, ?_⟩) (by assumption) ?_
            rotate_left
            · (intro wx hSw; have hcv := HCv.out wx (wV.heap.size) hSw; go_simp <;> with_reducible rfl)
            try simp only [Act.put, List.setIfInBounds_toArray, List.set_cons_zero, List.set_cons_succ, List.getElem_toArray, List.getElem_cons_zero, List.getElem_cons_succ]
            refine wpAnyH_ready (rs := [4]) (by kernel_rfl) (by simp) ?_
            refine AllReadyH.cons rfl (fun K hK => ?_) AllReadyH.nil
            go_simp
            go_at_call 13
            refine (qtShow ((SV.out.fresh (G' := fun k => k = wV.heap.size) ((Below.refl _ _).alloc (Nat.le_refl _) (.cells cur 5)) (fun k hk => .inr ⟨Nat.le_of_eq hk.symm, by rw [World.size_alloc]; omega⟩))) (by show 0 < _; omega) 1 0 zs (by have := Hzs.out; omega)).mono ?_
            rintro r wE ⟨rfl, sE, hkE⟩
            rw [HRes.out]
            have HE : Hid (Below W0'.heap.size W0' wE) := (HA1.out _).trans (sE.below.mono (HA1.out _).size)
            go_wp2_with fail
            refine hK.out _ _ ((hkE _ rfl).trans hRow) (fun hH3 => ?_)
            clear hK K
            try simp only [Act.put, List.setIfInBounds_toArray, List.set_cons_zero, List.set_cons_succ, List.getElem_toArray, List.getElem_cons_zero, List.getElem_cons_succ]
            clear sE hkE
            refine wpAnyH_take (i := 5) (v := ?_) rfl (by kernel_rfl) (by kernel_rfl) (by kernel_rfl) (fun _ _ _ h => h) (Or.inl ⟨by rfl, ?_⟩) (by assumption) ?_
            rotate_left
            · (intro wx hSw; (try dsimp only at hSw); go_simp <;> with_reducible rfl)
            try simp only [Act.put, List.setIfInBounds_toArray, List.set_cons_zero, List.set_cons_succ, List.getElem_toArray, List.getElem_cons_zero, List.getElem_cons_succ]
            refine wpAnyH_done (by kernel_rfl) ?_ _
            go_wp2_with fail
            go_meet
            exact ⟨rfl, HE.out⟩
          · go_simp
            refine hK.out _ _ (trivial) (fun hH4 => ?_)
            clear hK K
            try simp only [Act.put, List.setIfInBounds_toArray, List.set_cons_zero, List.set_cons_succ, List.getElem_toArray, List.getElem_cons_zero, List.getElem_cons_succ]
            refine wpAnyH_mono (S2 := fun W => W.heap[W0'.heap.size + 1]? = some (.cells cur 5 (0, 0))) (fun _ _ => trivial) _ _ _ _ ?_
            have hRow : (fun W : World => W.heap[W0'.heap.size + 1]? = some (.cells cur 5 (0, 0))) ((W0'.drew.alloc (.cells #[.pointer none] 68)).alloc (.cells cur 5)) := by
              have h := heap_alloc_new (W0'.drew.alloc (.cells #[.pointer none] 68)) (.cells cur 5)
              first | exact h | (rw [World.size_alloc] at h; exact h)
            refine wpAnyH_take (i := 3) (v := ?_) rfl (by kernel_rfl) (by kernel_rfl) (by kernel_rfl) (fun _ _ _ h => h) (Or.inl ⟨by rfl, ?_⟩) (by assumption) ?_
            rotate_left
            · (intro wx hSw; have hcv := HCv.out wx (W0'.heap.size + 1) hSw; go_simp <;> with_reducible rfl)
            try simp only [Act.put, List.setIfInBounds_toArray, List.set_cons_zero, List.set_cons_succ, List.getElem_toArray, List.getElem_cons_zero, List.getElem_cons_succ]
            have hRowV : ((W0'.drew.alloc (.cells #[.pointer none] 68)).alloc (.cells cur 5)).heap[W0'.heap.size + 1]? = some (.cells cur 5 (0, 0)) := hRow
            refine wpAnyH_ready (rs := [1]) (by kernel_rfl) (by simp) ?_
            refine AllReadyH.cons rfl (fun K hK => ?_) AllReadyH.nil
            go_simp
            go_at_call 9
            refine (nv_any ((W0'.drew.alloc (.cells #[.pointer none] 68)).alloc (.cells cur 5)) ((W0'.drew.alloc (.cells #[.pointer none] 68)).alloc (.cells cur 5)) (W0'.heap.size) (HU1.out _ (HA2.out _ _)) (Below.refl _ _) (HNA2.out _)).mono ?_
            rintro r wV ⟨bv, rfl, sv, hbv⟩
            have SV := Lib.hid sv
            have HV : Hid (Below W0'.heap.size W0' wV) := (HA2.out _ _).trans (hbv.mono (HA2.out _ _).size)
            go_wp2_with fail
            refine hK.out _ _ ((hbv.block _ (by simp)).trans hRow) (fun hH5 => ?_)
            clear hK K
            try simp only [Act.put, List.setIfInBounds_toArray, List.set_cons_zero, List.set_cons_succ, List.getElem_toArray, List.getElem_cons_zero, List.getElem_cons_succ]
            clear sv hbv
            refine wpAnyH_ready (rs := [4]) (by kernel_rfl) (by simp) ?_
            refine AllReadyH.cons rfl (fun K hK => ?_) AllReadyH.nil
            go_simp
            go_at_call 13
            refine (qtShow (SV.out) (by show 0 < _; omega) 1 0 zs (by have := Hzs.out; omega)).mono ?_
            rintro r wE ⟨rfl, sE, hkE⟩
            rw [HRes.out]
            have HE : Hid (Below W0'.heap.size W0' wE) := (HA2.out _ _).trans (sE.below.mono (HA2.out _ _).size)
            go_wp2_with fail
            refine hK.out _ _ ((sE.below.block _ (lt_of_heap hRowV)).trans hRowV) (fun hH6 => ?_)
            clear hK K
            try simp only [Act.put, List.setIfInBounds_toArray, List.set_cons_zero, List.set_cons_succ, List.getElem_toArray, List.getElem_cons_zero, List.getElem_cons_succ]
            clear sE hkE
            refine wpAnyH_take (i := 5) (v := ?_) rfl (by kernel_rfl) (by kernel_rfl) (by kernel_rfl) (fun _ _ _ h => h) (Or.inl ⟨by rfl, ?_⟩) (by assumption) ?_
            rotate_left
            · (intro wx hSw; (try dsimp only at hSw); go_simp <;> with_reducible rfl)
            try simp only [Act.put, List.setIfInBounds_toArray, List.set_cons_zero, List.set_cons_succ, List.getElem_toArray, List.getElem_cons_zero, List.getElem_cons_succ]
            refine wpAnyH_done (by kernel_rfl) ?_ _
            go_wp2_with fail
            go_meet
            exact ⟨rfl, HE.out⟩
        · go_simp
          refine hK.out _ _ (trivial) (fun hH8 => ?_)
          clear hK K
          try simp only [Act.put, List.setIfInBounds_toArray, List.set_cons_zero, List.set_cons_succ, List.getElem_toArray, List.getElem_cons_zero, List.getElem_cons_succ]
          refine wpAnyH_mono (S2 := fun W => W.heap[W0'.heap.size]? = some (.cells cur 5 (0, 0))) (fun _ _ => trivial) _ _ _ _ ?_
          have hRow : (fun W : World => W.heap[W0'.heap.size]? = some (.cells cur 5 (0, 0))) ((W0'.drew).alloc (.cells cur 5)) := by
            have h := heap_alloc_new (W0'.drew) (.cells cur 5)
            first | exact h | (rw [World.size_alloc] at h; exact h)
          refine wpAnyH_take (i := 3) (v := ?_) rfl (by kernel_rfl) (by kernel_rfl) (by kernel_rfl) (fun _ _ _ h => h) (Or.inl ⟨by rfl, ?_⟩) (by assumption) ?_
          rotate_left
          · (intro wx hSw; have hcv := HCv.out wx (W0'.heap.size) hSw; go_simp <;> with_reducible rfl)
          try simp only [Act.put, List.setIfInBounds_toArray, List.set_cons_zero, List.set_cons_succ, List.getElem_toArray, List.getElem_cons_zero, List.getElem_cons_succ]
          refine wpAnyH_ready (rs := [0]) (by kernel_rfl) (by simp) ?_
          refine AllReadyH.cons rfl (fun K hK => ?_) AllReadyH.nil
          go_simp
          go_at_call 6
          refine (stateNew_any _).mono ?_
          rintro r wS ⟨rfl, rfl⟩
          go_wp2_with fail
          refine hK.out _ _ ((Below.heap_alloc _ _ _ (by simp)).trans hRow) (fun hH9 => ?_)
          clear hK K
          try simp only [Act.put, List.setIfInBounds_toArray, List.set_cons_zero, List.set_cons_succ, List.getElem_toArray, List.getElem_cons_zero, List.getElem_cons_succ]
          have hRowV : ((W0'.drew.alloc (.cells cur 5)).alloc (.cells #[.pointer none] 68)).heap[W0'.heap.size]? = some (.cells cur 5 (0, 0)) := (Below.heap_alloc _ _ _ (by simp)).trans hRow
          refine wpAnyH_ready (rs := [1]) (by kernel_rfl) (by simp) ?_
          refine AllReadyH.cons rfl (fun K hK => ?_) AllReadyH.nil
          go_simp
          go_at_call 9
          refine (nv_any ((W0'.drew.alloc (.cells cur 5)).alloc (.cells #[.pointer none] 68)) ((W0'.drew.alloc (.cells cur 5)).alloc (.cells #[.pointer none] 68)) (W0'.heap.size + 1) (HU1.out _ (HA2.out _ _)) (Below.refl _ _) (HNB.out _)).mono ?_
          rintro r wV ⟨bv, rfl, sv, hbv⟩
          have SV := Lib.hid sv
          have HV : Hid (Below W0'.heap.size W0' wV) := (HA2.out _ _).trans (hbv.mono (HA2.out _ _).size)
          go_wp2_with fail
          refine hK.out _ _ ((hbv.block _ (by simp; omega)).trans ((Below.heap_alloc _ _ _ (by simp)).trans hRow)) (fun hH10 => ?_)
          clear hK K
          try simp only [Act.put, List.setIfInBounds_toArray, List.set_cons_zero, List.set_cons_succ, List.getElem_toArray, List.getElem_cons_zero, List.getElem_cons_succ]
          clear sv hbv
          refine wpAnyH_ready (rs := [4]) (by kernel_rfl) (by simp) ?_
          refine AllReadyH.cons rfl (fun K hK => ?_) AllReadyH.nil
          go_simp
          go_at_call 13
          refine (qtShow (SV.out) (by show 0 < _; omega) 1 0 zs (by have := Hzs.out; omega)).mono ?_
          rintro r wE ⟨rfl, sE, hkE⟩
          rw [HRes.out]
          have HE : Hid (Below W0'.heap.size W0' wE) := (HA2.out _ _).trans (sE.below.mono (HA2.out _ _).size)
          go_wp2_with fail
          refine hK.out _ _ ((sE.below.block _ (lt_of_heap hRowV)).trans hRowV) (fun hH11 => ?_)
          clear hK K
          try simp only [Act.put, List.setIfInBounds_toArray, List.set_cons_zero, List.set_cons_succ, List.getElem_toArray, List.getElem_cons_zero, List.getElem_cons_succ]
          clear sE hkE
          refine wpAnyH_take (i := 5) (v := ?_) rfl (by kernel_rfl) (by kernel_rfl) (by kernel_rfl) (fun _ _ _ h => h) (Or.inl ⟨by rfl, ?_⟩) (by assumption) ?_
          rotate_left
          · (intro wx hSw; (try dsimp only at hSw); go_simp <;> with_reducible rfl)
          try simp only [Act.put, List.setIfInBounds_toArray, List.set_cons_zero, List.set_cons_succ, List.getElem_toArray, List.getElem_cons_zero, List.getElem_cons_succ]
          refine wpAnyH_done (by kernel_rfl) ?_ _
          go_wp2_with fail
          go_meet
          exact ⟨rfl, HE.out⟩
      case rest =>
        obtain ⟨rfl, HBw⟩ := hcut
        go_wp2
        refine bodyPost_ret (v := .bool true) (by simp [results, Tryz.results3, go_sem]) rfl ?_
        exact ⟨rfl, HB0.out.trans (HBw.out.mono HB0.out.size)⟩
end Go.Proofs.YtfobmfenjdiimaaGreatDoor
