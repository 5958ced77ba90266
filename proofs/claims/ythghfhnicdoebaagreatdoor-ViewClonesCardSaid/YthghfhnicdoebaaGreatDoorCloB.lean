/- maps.Clone of the two maps of a view; slices.Clone of its calls. View.Clone. -/
import Derived.Test.YthghfhnicdoebaaGreatDoorEquA
import Derived.Laws.Externs
import Derived.MapKept
import Derived.Deep.RegionHeld3
namespace Go.Proofs.YthghfhnicdoebaaGreatDoor
open Go.RowKit
attribute [local go_sem ↓] Go.wp_at_zero Go.wp_at_succ

theorem run_clone_map (w : World) {r : Nat} {es : Array MapEntry} {clock : Nat} (t : TypeId) (hb : w.heap[r]? = some (.map es clock)) :
    (Extern.MapsClone.clone #[.iface t (.map (some r))]).run Tryz.prog w = .ok (.iface t (.map (some w.heap.size))) (w.alloc (.map es clock)) := by
  show Sem.run Tryz.prog (getObj r >>= _ : Sem Value) w = _
  simp [MapKept.run_getObj_map hb, Result.andThen, go_sem]
theorem run_assert_map (w : World) (t xT k e : TypeId) (v : Value) (h : Tryz.prog.underlying t = some (.map k e)) : (Instr.typeAssert (.iface t v) xT t false).run Tryz.prog w = .ok v w := by
  simp [Instr.typeAssert, run_underlying h, go_sem, Result.andThen]
set_option maxRecDepth 100000 in
set_option maxHeartbeats 1600000 in
theorem cloneReads_any (b : Nat) (es : Array MapEntry) (clock : Nat) (w : World) (hb : w.heap[b]? = some (.map es clock)) :
    Calls Tryz.prog 63 #[.map (some b)] w fun e w' => e = .returned (.map (some w.heap.size)) ∧ w' = w.alloc (.map es clock) := by
  go_enter Tryz.func63, Tryz.ntmps63
  go_wp2
  rw [run_callFunc_extern Tryz.func86 (by kernel_rfl) (by kernel_rfl) (by kernel_rfl) (e := Extern.MapsClone.clone) (by kernel_rfl), run_clone_map w 80 hb]
  simp only [Result.andThen]
  rw [Oper.upon_value]
  go_wp2
  rw [run_assert_map _ 80 _ _ _ _ Tryz.underlying80]
  simp only [Result.andThen]
  rw [Oper.upon_value]
  go_wp2
  go_ret
  exact ⟨rfl, rfl⟩
set_option maxRecDepth 100000 in
set_option maxHeartbeats 1600000 in
theorem cloneLast_any (b : Nat) (es : Array MapEntry) (clock : Nat) (w : World) (hb : w.heap[b]? = some (.map es clock)) :
    Calls Tryz.prog 65 #[.map (some b)] w fun e w' => e = .returned (.map (some w.heap.size)) ∧ w' = w.alloc (.map es clock) := by
  go_enter Tryz.func65, Tryz.ntmps65
  go_wp2
  rw [run_callFunc_extern Tryz.func86 (by kernel_rfl) (by kernel_rfl) (by kernel_rfl) (e := Extern.MapsClone.clone) (by kernel_rfl), run_clone_map w 81 hb]
  simp only [Result.andThen]
  rw [Oper.upon_value]
  go_wp2
  rw [run_assert_map _ 81 _ _ _ _ Tryz.underlying81]
  simp only [Result.andThen]
  rw [Oper.upon_value]
  go_wp2
  go_ret
  exact ⟨rfl, rfl⟩
theorem run_eql_chg_nil (w : World) (a : Option Addr) (l c : Nat) : (binOp .eql 50 (.slice a l c) (.slice none 0 0)).run Tryz.prog w = .ok (.bool a.isNone) w :=
  Lib.run_eql_slice_nil w _ _ a l c 0 0 Tryz.underlying50
attribute [local go_sem] run_eql_chg_nil
set_option maxHeartbeats 1600000 in
theorem slClone_any (w : World) (v : Value) (cs : List ChangeT) (h : RowK kD w v cs) (hl : cs.length ≤ 1000000) :
    Calls Tryz.prog 64 #[v] w fun r w' => ∃ v', r = .returned v' ∧ OwnK kD w.heap.size w' v' cs ∧ Below w.heap.size w w' := by
  rcases id h with ⟨rfl, rfl⟩ | ⟨g, off, c, rfl, -, -⟩
  · go_enter Tryz.func64, Tryz.ntmps64
    go_wp2
    go_ret
    exact ⟨_, rfl, OwnK.nil _ _, Below.refl _ _⟩
  · have H := Lib.hid h
    have HLn : Hid (([] : List ChangeT).length + cs.length ≤ 1000000) := by show _ ≤ _; simp; omega
    have HB : Hid (∀ o, Below w.heap.size w (w.alloc o)) := fun o => (Below.refl _ _).alloc (Nat.le_refl _) _
    have HE0 : Hid (OwnK kD w.heap.size (w.alloc (.cells #[] 64)) (.slice (some ⟨w.heap.size, 0, none⟩) 0 0) []) := OwnK.empty (K := kD) (heap_alloc_new w _) (Nat.le_refl _)
    clear h hl
    generalize cs.length = n at H ⊢
    go_enter Tryz.func64, Tryz.ntmps64
    go_wp2_with (first
      | (at_builtin; go_loud (refine wpList_append_K (K := kD) rfl _ _ rfl w.heap.size (.slice (some ⟨w.heap.size, 0, none⟩) 0 0) [] rfl HE0.out (.slice (some ⟨g, off, none⟩) n c) cs rfl (H.out.later (HB.out _)) HLn.out (HB.out _).size ?_; intro v9 w9 hrow9 hg9 hat9; have HO9 : Hid (OwnK kD w.heap.size w9 v9 cs) := hrow9; have HL9 : Hid (Below w.heap.size w w9) := OwnK.below HE0.out hg9 (HB.out _) (Nat.le_refl _); clear hrow9 hg9 hat9))
      | go_in)
    refine bodyPost_ret (v := v9) (by simp [results, Tryz.results64, go_sem]) rfl ?_
    exact ⟨_, rfl, HO9.out, HL9.out⟩
end Go.Proofs.YthghfhnicdoebaaGreatDoor

namespace Go.Proofs.YthghfhnicdoebaaGreatDoor
open Go.RowKit
attribute [local go_sem ↓] Go.wp_at_zero Go.wp_at_succ

theorem owns_zero {W : World} {base : Nat} {e : TypeId} {size : Nat} {v : Value} {k : Nat} {xs : List Value} (h : W.ownsRow base e size v k xs) : W.ownsRow 0 e size v k xs :=
  ⟨h.1, h.2.imp id fun ⟨g, cap, cur, e, _, r⟩ => ⟨g, cap, cur, e, Nat.zero_le _, r⟩⟩
theorem MapIs.laterB {α : Type} {enc : α → Value} {w w' : World} {m : Nat} {l : List (NameT × α)} (h : MapIs enc w m l) (hb : Below w.heap.size w w') : MapIs enc w' m l := h.kept (hb.block m h.lt)
/-- What Clone leaves: a view of its own with the same value. -/
def ClonePost (w : World) (h : VH) (V : AV) (r : Ending) (w' : World) : Prop :=
  ∃ h', r = .returned (.pointer (some ⟨h'.b, 0, none⟩)) ∧ ViewAt w' h' V ∧ h'.bs = w.heap.size ∧ h'.sp = h.sp ∧ Below w.heap.size w w' ∧ w.heap.size ≤ h'.b
theorem clone_done {w w1 w2 w3 w4 : World} {h : VH} {V : AV} {p1 p3 b : Nat} {v2 : Value} (hv : ViewAt w h V) (hb1 : Below w.heap.size w w1) (g1 : w.heap.size ≤ p1) (m1 : MapIs changeV w1 p1 V.reads) (hb2 : Below w1.heap.size w1 w2) (o2 : OwnK kD w1.heap.size w2 v2 V.calls) (hb3 : Below w2.heap.size w2 w3) (g3 : w2.heap.size ≤ p3) (m3 : MapIs idxV w3 p3 (lastOf V.calls)) (hb4 : Below w3.heap.size w3 w4) (g4 : w.heap.size ≤ b)
    (hh : w4.heap[b]? = some (.cells #[.pointer (some ⟨h.sp, 0, none⟩), .map (some p1), v2, .map (some p3)] 83 (0, 0))) : ClonePost w h V (.returned (.pointer (some ⟨b, 0, none⟩))) w4 := by
  have hlow : Below w.heap.size w w4 := hb1.trans ((hb2.trans ((hb3.trans (hb4.mono hb3.size)).mono hb2.size)).mono hb1.size)
  have h13 : p1 < w1.heap.size := m1.lt
  have h12 := hb1.size
  have h23 := hb2.size
  refine ⟨⟨b, p1, p3, v2, h.sp, w.heap.size⟩, rfl, ?_, rfl, rfl, hlow, g4⟩
  refine ⟨hh, (((m1.laterB hb2).laterB hb3).laterB hb4), m3.laterB hb4, owns_zero ((o2.later hb3).later hb4), (by show p1 ≠ p3; omega), hv.usages.below hlow hv.usages.pos, ?_, ?_, hv.usages.pos, hlow.size, hv.len, hv.ok, hv.rdk⟩
  · obtain ⟨t, h1, h2⟩ := hv.base
    exact ⟨t, (h1.up hv.top).later hlow, h2⟩
  · intro k hk
    show w.heap.size ≤ k
    rcases hk with e | e | e | hk
    · have e : k = b := e
      omega
    · have e : k = p1 := e
      omega
    · have e : k = p3 := e
      omega
    · have hk : v2.ownBlock = some k := hk
      rcases o2.2 with ⟨e, _⟩ | ⟨g, cap, cur, e, hg, _⟩
      · rw [e] at hk; cases hk
      · rw [e] at hk
        have : g = k := by simpa [Value.ownBlock] using hk
        omega

set_option maxRecDepth 100000 in
set_option maxHeartbeats 6400000 in
theorem vClone_any (h : VH) (V : AV) (w : World) (hv : ViewAt w h V) : Calls Tryz.prog 26 #[.pointer (some ⟨h.b, 0, none⟩)] w (ClonePost w h V) := by
  have HDone : Hid (∀ w1 w2 w3 w4 p1 p3 b v2, Below w.heap.size w w1 → w.heap.size ≤ p1 → MapIs changeV w1 p1 V.reads → Below w1.heap.size w1 w2 → OwnK kD w1.heap.size w2 v2 V.calls → Below w2.heap.size w2 w3 → w2.heap.size ≤ p3 → MapIs idxV w3 p3 (lastOf V.calls) → Below w3.heap.size w3 w4 → w.heap.size ≤ b → w4.heap[b]? = some (.cells #[.pointer (some ⟨h.sp, 0, none⟩), .map (some p1), v2, .map (some p3)] 83 (0, 0)) → ClonePost w h V (.returned (.pointer (some ⟨b, 0, none⟩))) w4) := fun w1 w2 w3 w4 p1 p3 b v2 a1 a2 a3 a4 a5 a6 a7 a8 a9 a10 a11 => clone_done hv a1 a2 a3 a4 a5 a6 a7 a8 a9 a10 a11
  have HC1 : Hid (∀ W, Below w.heap.size w W → Calls Tryz.prog 63 #[.map (some h.rm)] W fun e w' => ∃ p, e = .returned (.map (some p)) ∧ W.heap.size ≤ p ∧ MapIs changeV w' p V.reads ∧ Below W.heap.size W w') := fun W hW => by
    obtain ⟨es, clock, h1, h2⟩ := hv.reads
    have h1' := (hW.block _ (lt_of_heap h1)).trans h1
    refine (cloneReads_any h.rm es clock W h1').mono ?_
    rintro e w' ⟨rfl, rfl⟩
    exact ⟨_, rfl, Nat.le_refl _, ⟨es, clock, World.alloc_heap_new W _, h2⟩, (Below.refl _ _).alloc (Nat.le_refl _) _⟩
  have HC3 : Hid (∀ W, Below w.heap.size w W → Calls Tryz.prog 65 #[.map (some h.lm)] W fun e w' => ∃ p, e = .returned (.map (some p)) ∧ W.heap.size ≤ p ∧ MapIs idxV w' p (lastOf V.calls) ∧ Below W.heap.size W w') := fun W hW => by
    obtain ⟨es, clock, h1, h2⟩ := hv.last
    have h1' := (hW.block _ (lt_of_heap h1)).trans h1
    refine (cloneLast_any h.lm es clock W h1').mono ?_
    rintro e w' ⟨rfl, rfl⟩
    exact ⟨_, rfl, Nat.le_refl _, ⟨es, clock, World.alloc_heap_new W _, h2⟩, (Below.refl _ _).alloc (Nat.le_refl _) _⟩
  have hrow : RowK kD w h.cv V.calls := OwnK.row (K := kD) (base := 0) hv.calls
  have HC2 : Hid (∀ W, Below w.heap.size w W → Calls Tryz.prog 64 #[h.cv] W fun r w' => ∃ qx cx, r = .returned (.slice qx V.calls.length cx) ∧ OwnK kD W.heap.size w' (.slice qx V.calls.length cx) V.calls ∧ Below W.heap.size W w') := fun W hW => (slClone_any W h.cv V.calls (hrow.later hW) hv.len).mono fun r w' ⟨v', e1, e2, e3⟩ => by
    obtain ⟨qx, cx, e, -, -⟩ := e2.row.form
    subst e
    exact ⟨qx, cx, e1, e2, e3⟩
  have HS : Hid (∀ W, Below w.heap.size w W → W.cell? ⟨h.b, 0, none⟩ = some (.pointer (some ⟨h.sp, 0, none⟩)) ∧ W.cell? ⟨h.b, 1, none⟩ = some (.map (some h.rm)) ∧ W.cell? ⟨h.b, 2, none⟩ = some h.cv ∧ W.cell? ⟨h.b, 3, none⟩ = some (.map (some h.lm))) := fun W hW => by
    have h1 := (hW.block _ (lt_of_heap hv.heap)).trans hv.heap
    exact ⟨cell_of_heap h1 0, cell_of_heap h1 1, cell_of_heap h1 2, cell_of_heap h1 3⟩
  obtain ⟨qa, qc, hcv, -, -⟩ := hrow.form
  rw [hcv] at HC2 HS
  clear hv hrow hcv
  obtain ⟨b, rm, lm, cv, sp, bs⟩ := h
  dsimp only at HC1 HC2 HC3 HS HDone ⊢
  generalize V.calls.length = nc at *
  have HD0 : Hid (Below w.heap.size w w.drew) := (Below.refl _ _).drew
  go_enter Tryz.func26, Tryz.ntmps26
  go_upto_region 3 with fail
  go_region_held3 (fun W => W.cell? ⟨b, 0, none⟩ = some (.pointer (some ⟨sp, 0, none⟩)) ∧ W.cell? ⟨b, 1, none⟩ = some (.map (some rm)) ∧ W.cell? ⟨b, 2, none⟩ = some (.slice qa nc qc) ∧ W.cell? ⟨b, 3, none⟩ = some (.map (some lm))) (first | with_reducible exact HS.out _ HD0.out | with_reducible exact HS.out _ B1.out | with_reducible exact HS.out _ B2.out | with_reducible exact HS.out _ B3.out | go_keep)
    (first
      | (go_at_call 63; (with_reducible refine (HC1.out _ HD0.out).mono ?_); rintro r w1 ⟨p1, rfl, hp1, hm1, hb⟩; have B1 : Hid (Below w.heap.size w w1) := HD0.out.trans (hb.mono HD0.out.size); have G1 : Hid (w.heap.size ≤ p1) := hp1; have M1 := Lib.hid hm1; clear hp1 hm1 hb)
      | (go_at_call 64; (with_reducible refine (HC2.out _ B1.out).mono ?_); rintro r w2 ⟨qx, cx, rfl, hr2, hb⟩; have B12 := Lib.hid hb; have B2 : Hid (Below w.heap.size w w2) := B1.out.trans (hb.mono B1.out.size); have O2 := Lib.hid hr2; clear hr2 hb)
      | (go_at_call 65; (with_reducible refine (HC3.out _ B2.out).mono ?_); rintro r w3 ⟨p3, rfl, hp3, hm3, hb⟩; have B23 := Lib.hid hb; have B3 : Hid (Below w.heap.size w w3) := B2.out.trans (hb.mono B2.out.size); have G3 := Lib.hid hp3; have M3 := Lib.hid hm3; clear hp3 hm3 hb)
      | fail)
  all_goals
    go_wp2
    refine bodyPost_ret (v := .pointer (some ⟨w3.heap.size, 0, none⟩)) (by simp [results, Tryz.results26, go_sem]) rfl ?_
    exact HDone.out w1 w2 w3 _ p1 p3 w3.heap.size (.slice qx nc cx) B1.out G1.out M1.out B12.out O2.out B23.out G3.out M3.out ((Below.refl _ _).alloc (Nat.le_refl _) _) B3.out.size (heap_alloc_new w3 _)
end Go.Proofs.YthghfhnicdoebaaGreatDoor
