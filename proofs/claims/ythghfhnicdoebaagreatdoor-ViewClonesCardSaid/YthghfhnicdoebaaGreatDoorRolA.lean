/- view.Rollback. -/
import Derived.Test.YthghfhnicdoebaaGreatDoorViewH
import Derived.Test.YthghfhnicdoebaaGreatDoorQmC
import Derived.Deep.LoopGhost
import Derived.Deep.RegionHeld3
namespace Go.Proofs.YthghfhnicdoebaaGreatDoor
open Go.RowKit
attribute [local go_sem ↓] Go.wp_at_zero Go.wp_at_succ

theorem flat_take (cs : List ChangeT) (m : Nat) : (cs.take m).flatMap changeCells = (cs.flatMap changeCells).take (m * 7) := by
  induction cs generalizing m with
  | nil => simp
  | cons c cs ih =>
    cases m with
    | zero => simp
    | succ m =>
      rw [List.take_succ_cons, List.flatMap_cons, List.flatMap_cons, ih]
      have hl : (changeCells c).length = 7 := rfl
      rw [List.take_append, hl, show (m + 1) * 7 - 7 = m * 7 by omega, List.take_of_length_le (l := changeCells c) (by rw [hl]; omega)]
theorem row_take {w : World} {base : Nat} {av : Option Addr} {N cap m : Nat} {cs : List ChangeT} (h : w.ownsRow base 64 7 (.slice av N cap) cs.length (cs.flatMap changeCells)) (hN : cs.length = N) (hm : m ≤ N) :
    w.ownsRow base 64 7 (.slice av m cap) (cs.take m).length ((cs.take m).flatMap changeCells) := by
  have hl : (cs.take m).length = m := by rw [List.length_take]; omega
  obtain ⟨h1, h2⟩ := h
  refine ⟨?_, ?_⟩
  · rw [flat_take, List.length_take, h1, hl]; omega
  rcases h2 with ⟨hv, h0⟩ | ⟨g, cap', cur, hv, hb, hh, hc, hx, hs, ht⟩
  · obtain rfl : m = 0 := by omega
    cases hv
    exact .inl ⟨rfl, hl⟩
  · cases hv
    refine .inr ⟨g, cap, cur, by rw [hl], hb, hh, by omega, hx, hs, ?_⟩
    rw [flat_take, ← ht, List.take_take, hl]
    congr 1
    omega
theorem own_cap (av : Option Addr) (m c m' c' : Nat) : (Value.slice av m c).ownBlock = (Value.slice av m' c').ownBlock := by cases av <;> rfl
theorem rol_post {b rm lm lm' : Nat} {av : Option Addr} {N cap m : Nat} {sp bs : Nat} {V : AV} {w w' : World} (hv : ViewAt w ⟨b, rm, lm, .slice av N cap, sp, bs⟩ V) (hN : V.calls.length = N) (hm : m ≤ N)
    (hb : w'.heap[b]? = some (.cells #[.pointer (some ⟨sp, 0, none⟩), .map (some rm), .slice av m cap, .map (some lm')] 83 (0, 0))) (hk : Kept (fun k => k = b) w w') (hl : w.heap.size ≤ lm') (hmap : MapIs idxV w' lm' (lastOf (V.calls.take m))) :
    VQ ⟨b, rm, lm, .slice av N cap, sp, bs⟩ (fun _ => False) w ⟨V.base, V.reads, V.calls.take m⟩ w' ⟨b, rm, lm', .slice av m cap, sp, bs⟩ := by
  have hbs : bs ≤ b := hv.lo b (.inl rfl)
  have hbel : Below bs w w' := hk.below hv.top (fun k e => by subst e; exact hbs)
  have hrm := hv.reads.lt
  dsimp only at hrm
  have hbrm : rm ≠ b := fun e => by obtain ⟨es, cl, h1, _⟩ := hv.reads; dsimp only at h1; rw [e, hv.heap] at h1; cases h1
  have hcap : (V.calls.take m).length = m := by rw [List.length_take]; omega
  refine ⟨⟨hb, hv.reads.kept (hk.block rm hrm hbrm), hmap, ?_, by show rm ≠ lm'; omega, hv.usages.below hbel hv.pos, hv.base.later hbel, ?_, hv.pos, Nat.le_trans hv.top hk.size, ?_, fun c hc => hv.ok c (List.mem_of_mem_take hc), hv.rdk⟩, rfl, rfl, rfl, hk.mono (fun k _ e => .inl (.inl e)), ?_⟩
  · have hrow := row_take (by have := hv.calls; dsimp only at this; exact this) hN hm
    refine row_kept hrow (fun g hg => hk.block g ?_ ?_)
    · obtain ⟨cur, hc⟩ := row_lt hrow hg
      exact lt_of_heap hc
    · rintro rfl
      obtain ⟨cur, hc⟩ := row_lt hrow hg
      have := hv.heap
      dsimp only at this
      rw [this] at hc
      cases hc
  · intro k hf
    rcases hf with rfl | rfl | rfl | hf
    · exact hbs
    · exact hv.lo _ (.inr (.inl rfl))
    · exact Nat.le_trans hv.top hl
    · exact hv.lo k (.inr (.inr (.inr ((own_cap _ _ _ _ _).trans hf))))
  · show (V.calls.take m).length ≤ _
    have := hv.len
    omega
  · intro k hf
    rcases hf with rfl | rfl | rfl | hf
    · exact .inl (.inl rfl)
    · exact .inl (.inr (.inl rfl))
    · exact .inr hl
    · exact .inl (.inr (.inr (.inr ((own_cap _ _ _ _ _).trans hf))))
/-- Between two rounds of Rollback's loop. -/
structure RolI (w wr : World) (b rm sp : Nat) (av : Option Addr) (m cap lm' : Nat) (cs : List ChangeT) (k : Nat) : Prop where
  heap : wr.heap[b]? = some (.cells #[.pointer (some ⟨sp, 0, none⟩), .map (some rm), .slice av m cap, .map (some lm')] 83 (0, 0))
  map : MapIs idxV wr lm' (lastOf (cs.take k))
  kept : Kept (fun j => j = b) w wr
  lo : w.heap.size ≤ lm'
theorem rol_start {b rm lm N cap sp bs m : Nat} {av av' : Option Addr} {V : AV} {w : World} (hv : ViewAt w ⟨b, rm, lm, .slice av N cap, sp, bs⟩ V) (cap' : Nat) :
    RolI w (((w.setCell ⟨b, 2, none⟩ (.slice av' m cap')).setCell ⟨b, 3, none⟩ (.map (some w.heap.size))).alloc (.map #[] 0)) b rm sp av' m cap' w.heap.size V.calls 0 := by
  have hb := hv.heap
  dsimp only at hb
  have hlt := lt_of_heap hb
  have h3 := heap_setCell_same (heap_setCell_same hb 2 (.slice av' m cap')) 3 (.map (some w.heap.size))
  have hsz : ((w.setCell ⟨b, 2, none⟩ (.slice av' m cap')).setCell ⟨b, 3, none⟩ (.map (some w.heap.size))).heap.size = w.heap.size := by rw [size_setCell, size_setCell]
  refine ⟨(Below.heap_alloc _ _ b (by omega)).trans h3, ⟨#[], 0, ?_, rfl, by simp [Stamps]⟩, ⟨rfl, rfl, rfl, by rw [World.size_alloc, hsz]; omega, fun k hk hn => ?_⟩, Nat.le_refl _⟩
  · have := World.alloc_heap_new ((w.setCell ⟨b, 2, none⟩ (.slice av' m cap')).setCell ⟨b, 3, none⟩ (.map (some w.heap.size))) (.map #[] 0)
    rwa [hsz] at this
  · rw [Below.heap_alloc _ _ _ (by omega), Below.heap_setCell _ _ _ _ hn]
    exact Below.heap_setCell _ _ _ _ hn
theorem rol_next {w wr w2 : World} {b rm sp m cap lm' k : Nat} {av : Option Addr} {cs : List ChangeT} {o : Obj} {c : ChangeT} (h : RolI w wr b rm sp av m cap lm' cs k) (hlt : b < w.heap.size) (hc : cs[k]? = some c) (hm : MapIs idxV w2 lm' (aSet (lastOf (cs.take k)) c.name k)) (hg : (wr.alloc o).drew.grownBy w2 (some lm')) : RolI w w2 b rm sp av m cap lm' cs (k + 1) := by
  have hk : k < cs.length := (List.getElem?_eq_some_iff.1 hc).1
  have hlo := h.lo
  have hsz := h.kept.size
  refine ⟨(hg.block b (by simp; omega) (fun e => by have := Option.some.inj e; omega)).trans ((Below.heap_alloc wr.drew _ b (by show b < wr.heap.size; omega)).trans h.heap), ?_, ⟨hg.os.trans h.kept.os, hg.tape.trans h.kept.tape, hg.output.trans h.kept.output, Nat.le_trans (Nat.le_trans hsz (by simp)) hg.size, fun j hj hn => ?_⟩, hlo⟩
  · have e : cs.take (k + 1) = cs.take k ++ [c] := by
      rw [List.take_add_one, hc]; rfl
    rw [e, lastOf_snoc, List.length_take, Nat.min_eq_left (by omega)]
    exact hm
  · exact (hg.block j (by simp; omega) (fun e => by have := Option.some.inj e; omega)).trans ((Below.heap_alloc wr.drew _ j (by show j < wr.heap.size; omega)).trans (h.kept.block j hj hn))
theorem rol_cells {w wr : World} {b rm lm N cap sp bs m k lm' : Nat} {g : Nat} {V : AV} (hv : ViewAt w ⟨b, rm, lm, .slice (some ⟨g, 0, none⟩) N cap, sp, bs⟩ V) (h : RolI w wr b rm sp (some ⟨g, 0, none⟩) m cap lm' V.calls k) {c : ChangeT} (hc : V.calls[k]? = some c) :
    ∀ j u, (changeCells c)[j]? = some u → wr.cell? ⟨g, k * 7 + j, none⟩ = some u := by
  intro j u hu
  have hj : j < 7 := (List.getElem?_eq_some_iff.1 hu).1
  have hk : k < V.calls.length := (List.getElem?_eq_some_iff.1 hc).1
  rcases hv.calls.2 with ⟨h1, _⟩ | ⟨g', cap', cur, h1, h2, h3, h4, h5, h6, h7⟩
  · cases h1
  cases h1
  have hne : g ≠ b := fun e => by
    subst e
    have := hv.heap
    dsimp only at this
    rw [this] at h3
    cases h3
  have hb := (h.kept.block g (lt_of_heap h3) hne).trans h3
  rw [cell_of_heap hb, ← Array.getElem?_toList]
  have hf := flat_get V.calls k j c hc hj hu
  rw [← h7, List.getElem?_take_of_lt (by omega)] at hf
  exact hf

set_option maxRecDepth 100000 in
set_option maxHeartbeats 3200000 in
theorem rol_any (h : VH) (V : AV) (m : Nat) (w : World) (hv : ViewAt w h V) (hm : m ≤ V.calls.length) :
    Calls Tryz.prog 34 #[.pointer (some ⟨h.b, 0, none⟩), .int .i64 m] w fun r w' => r = .returned (.int .i64 0) ∧ ∃ h', VQ h (fun _ => False) w ⟨V.base, V.reads, V.calls.take m⟩ w' h' := by
  obtain ⟨b, rm, lm, cv, sp, bs⟩ := h
  have hlt : b < w.heap.size := lt_of_heap hv.heap
  have c2 : w.cell? ⟨b, 2, none⟩ = some cv := cell_of_heap hv.heap 2
  have c3 : w.cell? ⟨b, 3, none⟩ = some (.map (some lm)) := cell_of_heap hv.heap 3
  have f2 : w.frozen? ⟨b, 2, none⟩ = false := frozen_of_heap hv.heap 2
  have f3 : w.frozen? ⟨b, 3, none⟩ = false := frozen_of_heap hv.heap 3
  have hrow := hv.calls
  dsimp only at hrow
  obtain ⟨av, cap, hcv, hform⟩ := row_form hv.calls
  dsimp only at hcv
  subst hcv
  have Hcap : Hid (m ≤ V.calls.length) := hm
  generalize hN : V.calls.length = N at *
  have HN := Lib.hid hN; clear hN
  have Hv := Lib.hid hv; clear hv
  have hcap : N ≤ cap ∧ cap ≤ maxLen := by
    rcases hrow.2 with ⟨h1, h2⟩ | ⟨g', cap', cur, h1, h2, h3, h4, h5, h6, h7⟩
    · cases h1; exact ⟨by omega, by decide⟩
    · cases h1; exact ⟨h4, h5⟩
  have hnone : av = none → N = 0 ∧ cap = 0 := by
    rintro rfl
    rcases hrow.2 with ⟨h1, h2⟩ | ⟨g', cap', cur, h1, h2, h3, h4, h5, h6, h7⟩
    · cases h1; exact ⟨rfl, rfl⟩
    · cases h1
  clear hrow
  rcases hform with rfl | ⟨g, rfl⟩
  · obtain ⟨rfl, rfl⟩ := hnone rfl
    obtain rfl : m = 0 := by omega
    clear hnone hcap
    have HS := Lib.hid (rol_start (m := 0) (av' := none) Hv.out 0)
    have hmm := @run_makeMap Tryz.prog
    go_enter Tryz.func34, Tryz.ntmps34
    go_wp2
    go_loopg [40] 0 (fun gk iv wr => ∃ k : Nat, k + gk = 0 ∧ iv = .int .i64 k ∧ Hid (RolI w wr b rm sp none 0 0 w.heap.size V.calls k))
    case atStart => exact ⟨0, rfl, rfl, HS⟩
    case round =>
      obtain ⟨k, hk, rfl, HI⟩ := hrel
      obtain rfl : k = 0 := by omega
      clear hk
      go_wp2
      go_ret
      exact ⟨rfl, _, rol_post Hv.out HN.out (Nat.le_refl _) HI.out.heap HI.out.kept HI.out.lo HI.out.map⟩
  · clear hnone
    have hmc : m ≤ cap := by omega
    have hcm : cap ≤ 9223372036854775807 := by have := hcap.2; unfold maxLen at this; omega
    have hd1 : decide ((m : Int) < 0) = false := decide_eq_false (by omega)
    have hd2 : decide (N < m) = false := decide_eq_false (by omega)
    have HS := Lib.hid (rol_start (m := m) (av' := some ⟨g, 0, none⟩) Hv.out cap)
    have hmm := @run_makeMap Tryz.prog
    go_enter Tryz.func34, Tryz.ntmps34
    go_wp2
    go_loopg [40] m (fun gk iv wr => ∃ k : Nat, k + gk = m ∧ iv = .int .i64 k ∧ Hid (RolI w wr b rm sp (some ⟨g, 0, none⟩) m cap w.heap.size V.calls k))
    case atStart => exact ⟨0, by omega, rfl, HS⟩
    case round =>
      obtain ⟨k, hk, rfl, HI⟩ := hrel
      clear HS
      have Hk := Lib.hid hk; clear hk
      by_cases hkm : k < m
      · obtain ⟨c, hc⟩ : ∃ c, V.calls[k]? = some c := ⟨V.calls[k]'(by have := HN.out; omega), List.getElem?_eq_getElem _⟩
        have hcell := rol_cells Hv.out HI.out hc
        have r0 : wr.cell? ⟨g, k * 7, none⟩ = some (.int .i64 c.name.kind) := hcell 0 _ rfl
        have r1 := hcell 1 _ rfl
        have r2 := hcell 2 _ rfl
        have r3 := hcell 3 _ rfl
        have r4 := hcell 4 _ rfl
        have r5 := hcell 5 _ rfl
        have r6 := hcell 6 _ rfl
        have v3 : wr.cell? ⟨b, 3, none⟩ = some (.map (some w.heap.size)) := cell_of_heap HI.out.heap 3
        have hltr : b < wr.heap.size := lt_of_heap HI.out.heap
        have hm1 : MapIs idxV ((wr.alloc (.cells #[.int .i64 c.name.kind, .string c.name.owner, .int .i64 c.name.number, .int .i64 c.name.index, .string c.name.text, .string c.value, .bool c.absent] 64)).drew) w.heap.size (lastOf (V.calls.take k)) := HI.out.map.kept (Below.heap_alloc _ _ _ HI.out.map.lt)
        obtain ⟨w2, hrun, hm2, hg2⟩ := run_mapUpdate_name idxV _ 81 3 Tryz.underlying81 w.heap.size (lastOf (V.calls.take k)) hm1 c.name k
        have hml := HI.out.map.lt
        have hk0 : ∀ j, w2.cell? ⟨wr.heap.size, j, none⟩ = (#[.int .i64 c.name.kind, .string c.name.owner, .int .i64 c.name.number, .int .i64 c.name.index, .string c.name.text, .string c.value, .bool c.absent] : Array Value)[j]? := fun j => by
          have h1 := hg2.block wr.heap.size (by simp) (fun e => by have := Option.some.inj e; omega)
          have h2 := cell_of_heap (World.alloc_heap_new wr (.cells #[.int .i64 c.name.kind, .string c.name.owner, .int .i64 c.name.number, .int .i64 c.name.index, .string c.name.text, .string c.value, .bool c.absent] 64)) j
          exact (World.cell?_of_block (a := ⟨wr.heap.size, j, none⟩) h1).trans h2
        have hb2 : w2.heap[b]? = wr.heap[b]? := (hg2.block b (by simp; omega) (fun e => by have := Option.some.inj e; omega)).trans (Below.heap_alloc wr.drew _ b hltr)
        have hS2 : Hid (w2.cell? ⟨b, 3, none⟩ = some (.map (some w.heap.size)) ∧ w2.cell? ⟨wr.heap.size, 0, none⟩ = some (.int .i64 c.name.kind) ∧ w2.cell? ⟨wr.heap.size, 1, none⟩ = some (.string c.name.owner) ∧ w2.cell? ⟨wr.heap.size, 2, none⟩ = some (.int .i64 c.name.number) ∧ w2.cell? ⟨wr.heap.size, 3, none⟩ = some (.int .i64 c.name.index) ∧ w2.cell? ⟨wr.heap.size, 4, none⟩ = some (.string c.name.text)) :=
          ⟨(World.cell?_of_block (a := ⟨b, 3, none⟩) hb2).trans v3, hk0 0, hk0 1, hk0 2, hk0 3, hk0 4⟩
        clear hk0
        unfold nameV idxV at hrun
        have HNx := Lib.hid (rol_next HI.out hlt hc hm2 hg2)
        clear hcell hm1 hc hm2 hg2 hb2 HI
        go_wp2_with fail
        go_region_held3 (fun w' => w'.cell? ⟨b, 3, none⟩ = some (.map (some w.heap.size)) ∧ w'.cell? ⟨wr.heap.size, 0, none⟩ = some (.int .i64 c.name.kind) ∧ w'.cell? ⟨wr.heap.size, 1, none⟩ = some (.string c.name.owner) ∧ w'.cell? ⟨wr.heap.size, 2, none⟩ = some (.int .i64 c.name.number) ∧ w'.cell? ⟨wr.heap.size, 3, none⟩ = some (.int .i64 c.name.index) ∧ w'.cell? ⟨wr.heap.size, 4, none⟩ = some (.string c.name.text)) (first | go_keep | exact hS2.out) (fail)
        all_goals go_wp2
        go_roundg (m - (k + 1))
        case measure => have := Hk.out; omega
        case rel => exact ⟨k + 1, by have := Hk.out; omega, by go_num, HNx⟩
      · obtain rfl : k = m := by have := Hk.out; omega
        go_wp2
        go_ret
        exact ⟨rfl, _, rol_post Hv.out HN.out Hcap.out HI.out.heap HI.out.kept HI.out.lo HI.out.map⟩
section
variable {w0 w : World} {b M : Nat} {V : AV} {G : Nat → Prop} (s : QM w0 w b M V G)
include s
theorem qmRollback {m : Nat} (hm : m ≤ V.calls.length) : Calls Tryz.prog 34 #[.pointer (some ⟨b, 0, none⟩), .int .i64 m] w (QMP w0 b M ⟨V.base, V.reads, V.calls.take m⟩ G w (.int .i64 0)) := by
  obtain ⟨⟨h, hv, hb, rfl, h2, h4⟩, h5⟩ := s
  refine (rol_any h V m w hv hm).mono ?_
  rintro r w' ⟨rfl, h', hp⟩
  exact ⟨rfl, qm_post hv hb rfl h2 h4 h5 rfl hp⟩
theorem qmMark : Calls Tryz.prog 12 #[.pointer (some ⟨b, 0, none⟩)] w fun r w' => r = .returned (.int .i64 V.calls.length) ∧ w = w' := by
  obtain ⟨⟨h, hv, hb, rfl, h2, h4⟩, h5⟩ := s
  exact vMark_any h V w hv
end
end Go.Proofs.YthghfhnicdoebaaGreatDoor
