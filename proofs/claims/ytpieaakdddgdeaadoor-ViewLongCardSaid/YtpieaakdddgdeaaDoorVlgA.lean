/- Law 24: ViewLong. (printed by wip/gen_vlg.py) -/
import Derived.Test.YtpieaakdddgdeaaDoorKnvA
import Derived.Laws.MakeOwn
import Derived.Deep.LoopGhost
namespace Go.Proofs.YtpieaakdddgdeaaDoor
open Go.RowKit
attribute [local go_sem ↓] Go.wp_at_zero Go.wp_at_succ

def strL (bs : List UInt8) : ByteArray := ⟨bs.toArray⟩
def BSlL (w : World) (g n : Nat) (bs : List UInt8) : Prop := n = bs.length ∧ ∀ j, j < n → w.cell? ⟨g, j, none⟩ = some (.int .u8 (bs.getD j 0).toNat)
theorem foldl_pushL (l : List UInt8) (b : ByteArray) : (l.map fun x => (x.toNat : Int)).foldl (fun r n => r.push (UInt8.ofNat n.toNat)) b = ⟨b.data ++ l.toArray⟩ := by
  induction l generalizing b with
  | nil => simp
  | cons x r ih => simp [ih]
theorem run_bytes_strL (w : World) (g n c : Nat) (bs : List UInt8) (h : BSlL w g n bs) : (convert 23 9 (.slice (some ⟨g, 0, none⟩) n c)).run Tryd.prog w = .ok (.string (strL bs)) w := by
  obtain ⟨rfl, hc⟩ := h
  rw [run_convert_bytes_string w 23 9 5 _ _ _ Tryd.underlying23 Tryd.underlying5 Tryd.underlying9]
  have hl : (loadCells ⟨g, 0, none⟩ bs.length).run Tryd.prog w = .ok ((bs.map fun x => (x.toNat : Int)).map (Value.int .u8)).toArray w := by
    have h1 := run_firstCells_some (P := Tryd.prog) w 1 bs.length ⟨g, 0, none⟩ bs.length c ((bs.map fun x => (x.toNat : Int)).map (Value.int .u8)) (by simp) (fun j u hu => by
      have hj : j < bs.length := by
        rcases Nat.lt_or_ge j bs.length with h | h
        · exact h
        · rw [List.getElem?_eq_none (by simpa using h)] at hu; cases hu
      have hadd : (⟨g, 0, none⟩ : Addr).add j = ⟨g, j, none⟩ := by unfold Addr.add; split <;> simp_all
      rw [hadd, hc j hj, ← hu]
      simp [hj])
    simpa [Builtin.firstCells] using h1
  rw [run_bytesToString w _ _ _ _ hl, foldl_pushL]
  simp [strL]
theorem Tryd.infoByteL : (Tryd.prog.info? 5).map (fun i => (i.zero, i.size, i.bytes)) = some (some (.int .u8 0), 1, 1) := by kernel_rfl
/-- A row of n bytes whose first k are c. -/
def LgI (w : World) (G n k : Nat) (c : Nat) (wr : World) : Prop := Below w.heap.size w wr ∧ ∃ cur : Array Value, wr.heap[G]? = some (.cells cur 5 (0, 0)) ∧ cur.size = n ∧ ∀ j, j < k → cur[j]? = some (.int .u8 c)
theorem LgI.full {w wr : World} {G n c : Nat} (h : LgI w G n n c wr) (hc : c ≤ 255) : BSlL wr G n (List.replicate n (UInt8.ofNat c)) := by
  obtain ⟨_, cur, h1, h2, h3⟩ := h
  refine ⟨by simp, fun j hj => ?_⟩
  rw [cell_of_heap h1, h3 j hj]
  simp [hj]
  omega
theorem BSlL.later {w w' : World} {g n : Nat} {bs : List UInt8} (h : BSlL w g n bs) (hb : Below w.heap.size w w') : BSlL w' g n bs :=
  ⟨h.1, fun j hj => ((bcell hb).1 _ _ (World.block_lt_of_cell? w _ (h.2 j hj))).trans (h.2 j hj)⟩
theorem LgI.next {w wr : World} {G n k c : Nat} (h : LgI w G n k c wr) (hk : k < n) (hG : w.heap.size ≤ G) : LgI w G n (k + 1) c (wr.setCell ⟨G, k, none⟩ (.int .u8 c)) := by
  obtain ⟨h0, cur, h1, h2, h3⟩ := h
  refine ⟨Below.setCell h0 (p := ⟨G, k, none⟩) hG _, cur.setIfInBounds k (.int .u8 c), heap_setCell_same h1 k _, by simp [h2], fun j hj => ?_⟩
  rw [Array.getElem?_setIfInBounds]
  by_cases hjk : k = j
  · subst hjk
    rw [if_pos rfl, if_pos (by omega)]
  · rw [if_neg hjk]
    exact h3 j (by omega)
theorem LgI.cell {w wr : World} {G n k c : Nat} (h : LgI w G n k c wr) (hk : k < n) : (∃ x, wr.cell? ⟨G, k, none⟩ = some x) ∧ wr.frozen? ⟨G, k, none⟩ = false := by
  obtain ⟨h0, cur, h1, h2, h3⟩ := h
  exact ⟨⟨cur[k]'(by omega), by rw [cell_of_heap h1]; exact Array.getElem?_eq_getElem _⟩, frozen_of_heap h1 k⟩
set_option maxRecDepth 100000 in
set_option maxHeartbeats 1000000 in
theorem vSet_long (b : Nat) (n : NameT) (x : ByteArray) (w : World) (hu : Usages w) (hn : NameOk n) (hx : 65536 < x.size) : Calls Tryd.prog 10 #[.pointer (some ⟨b, 0, none⟩), nameV n, .string x] w fun r w' => r = .returned (.int .i64 5) ∧ Below w.heap.size w w' := by
  have HBo : Hid (∀ o, Below w.heap.size w (w.alloc o)) := fun o => (Below.refl _ _).alloc (Nat.le_refl _) _
  have HC : Hid (∀ o, Calls Tryd.prog 30 #[nameV n] (w.alloc o) fun r w' => r = .returned (.int .i64 0) ∧ Below (w.alloc o).heap.size (w.alloc o) w') := fun o => hn.2 _ (hu.below (HBo.out o) hu.pos)
  have hx' : (65536 : Int) < (x.size : Int) := by omega
  clear hu hn hx
  obtain ⟨n1, n2, n3, n4, n5⟩ := n
  dsimp only [nameV] at *
  go_enter Tryd.func10, Tryd.ntmps10
  go_wp2_with fail
  refine (HC.out _).mono ?_
  rintro e w1 ⟨rfl, hb1⟩
  have HB1 : Hid (Below w.heap.size w w1) := (HBo.out _).trans (hb1.mono (HBo.out _).size)
  clear hb1
  go_wp2
  go_ret
  exact ⟨rfl, HB1.out⟩
def eV : AV := ⟨fun _ => none, [], []⟩
def eV1 : AV := ⟨fun _ => none, [(clockN, ⟨clockN, ⟨#[]⟩, true⟩)], []⟩
theorem eg : avGet eV clockN = (⟨#[]⟩, false) := rfl
theorem es : avSeen eV clockN = eV1 := rfl
def eVs (s : ByteArray) : AV := ⟨fun _ => none, [], [⟨clockN, s, false⟩]⟩
theorem egs (s : ByteArray) : avGet (eVs s) clockN = (s, true) := by simp [avGet, eVs, lastCall]
theorem ess (s : ByteArray) : avSeen (eVs s) clockN = eVs s := by simp [avSeen, eVs, lastCall]
/-- The state's and the view's makers, as an empty view. -/
theorem emptyView_any (w : World) (hu : Usages w) : Calls Tryd.prog 9 #[] w fun r w1 => r = .returned (.pointer (some ⟨w.heap.size, 0, none⟩)) ∧ Calls Tryd.prog 8 #[.pointer (some ⟨w.heap.size, 0, none⟩)] w1 fun r w2 => r = .returned (.pointer (some ⟨w.heap.size + 3, 0, none⟩)) ∧ QM w w2 (w.heap.size + 3) 0 eV (fun _ => False) := by
  refine (stateNew_any w).mono ?_
  rintro r w1 ⟨rfl, rfl⟩
  have hb : Below w.heap.size w (w.alloc (.cells #[.pointer none] 77)) := (Below.refl _ _).alloc (Nat.le_refl _) _
  have hsz : (w.alloc (.cells #[.pointer none] 77)).heap.size = w.heap.size + 1 := by simp
  refine ⟨rfl, ?_⟩
  refine (qmNew (w0 := w) (hu.below hb hu.pos) hb (baseN_empty w)).mono ?_
  rintro r w2 ⟨rfl, s, -⟩
  rw [hsz] at s
  exact ⟨by rw [hsz], s⟩

set_option linter.unusedSimpArgs false in
set_option maxRecDepth 100000 in
set_option maxHeartbeats 1600000 in
theorem long_more (c : Nat) (hc : c ≤ 255) (w : World) (hu : Usages w) : Calls Tryd.prog 3 #[.bool true, .int .u8 c] w (TruePost w) := by
  have Hu := Lib.hid hu; clear hu
  have Hc := Lib.hid hc; clear hc
  obtain ⟨N, hN, hN1⟩ : ∃ N : Nat, N = 65537 ∧ N ≤ 70000 := ⟨65537, rfl, by omega⟩
  obtain ⟨i0, hi, hz0, hz1, hz2⟩ := info_parts Tryd.infoByteL
  obtain ⟨cur, hcur, hmk⟩ : ∃ cur : Array Value, cur.size = N ∧ ∀ W : World, (Instr.makeSlice 23 (.int .i64 65537) (.int .i64 65537)).run Tryd.prog W = .ok (.slice (some ⟨W.heap.size, 0, none⟩) 65537 65537) (W.alloc (.cells cur 5)) :=
    ⟨madeCells (Value.int .u8 0).cells (65537 * i0.size), by rw [size_madeCells, hz1, hN], fun W => run_make W 23 5 i0 (.int .u8 0) Tryd.underlying23 hi hz0 .i64 .i64 65537 65537 (by omega) (by omega) (by rw [hz2]; omega) (by omega)⟩
  have HN := Lib.hid hN
  clear hN
  have Hcur := Lib.hid hcur; clear hcur hi hz0 hz1 hz2
  go_enter Tryd.func3, Tryd.ntmps3
  go_wp2_with fail
  refine (known24_any _ Hu.out).mono ?_
  rintro r w1 ⟨rfl, hb1⟩
  have HB1 := Lib.hid hb1; clear hb1
  have HI0 : Hid (LgI w1 w1.heap.size N 0 c (w1.alloc (.cells cur 5))) := ⟨(Below.refl _ _).alloc (Nat.le_refl _) _, cur, heap_alloc_new w1 _, Hcur.out, fun j hj => absurd hj (Nat.not_lt_zero j)⟩
  go_wp2_with fail
  clear hmk
  go_loopg [7] N (fun gk iv wr => ∃ k : Nat, k + gk = N ∧ iv = .int .i64 k ∧ Hid (LgI w1 w1.heap.size N k c wr))
  case atStart => exact ⟨0, by omega, rfl, HI0⟩
  case round =>
    clear HI0
    obtain ⟨k, hk, rfl, HI⟩ := hrel
    have Hk := Lib.hid hk; clear hk
    by_cases hlt : k < N
    · have hlt2 : (k : Int) < 65537 := by have := HN.out; omega
      obtain ⟨⟨x, hx⟩, hf⟩ := HI.out.cell hlt
      have HIn := Lib.hid (HI.out.next hlt (Nat.le_refl _))
      clear HI
      go_wp2
      go_roundg (N - (k + 1))
      case measure => have := Hk.out; omega
      case rel => exact ⟨k + 1, by have := Hk.out; omega, by go_num, HIn⟩
    · have hlt2 : ¬ (k : Int) < 65537 := by have := HN.out; omega
      obtain rfl : k = N := by have := Hk.out; omega
      have Hfull := Lib.hid (HI.out.full Hc.out)
      have HB2 : Hid (Below w.heap.size w wr) := HB1.out.trans (HI.out.1.mono HB1.out.size)
      obtain ⟨bs, hbs⟩ : ∃ bs, List.replicate k (UInt8.ofNat c) = bs := ⟨_, rfl⟩
      have hsz : (strL bs).size = k := by
        rw [← hbs]
        simp [strL, ByteArray.size]
      rw [hbs] at Hfull
      have Hsz := Lib.hid hsz
      clear hbs hsz HI Hk hlt
      obtain ⟨st, hst⟩ : ∃ st, strL bs = st := ⟨_, rfl⟩
      have Hst := Lib.hid hst
      rw [hst] at Hsz
      clear hst
      have Hcv : Hid (∀ W, BSlL W w1.heap.size k bs → (convert 23 9 (.slice (some ⟨w1.heap.size, 0, none⟩) 65537 65537)).run Tryd.prog W = .ok (.string st) W) := fun W h => by
        rw [← Hst.out]
        have h2 := run_bytes_strL W _ _ k bs h
        rw [HN.out] at h2
        exact h2
      go_wp2_with fail
      refine (emptyView_any wr (Hu.out.below HB2.out Hu.out.pos)).mono ?_
      rintro r w3 ⟨rfl, hnext⟩
      have Hnext := Lib.hid hnext; clear hnext
      go_wp2_with fail
      refine Hnext.out.mono ?_
      rintro r w4 ⟨rfl, s4⟩
      have S4 := Lib.hid s4
      have F4 := Lib.hid (Hfull.out.later s4.below)
      clear s4 Hnext
      generalize wr.heap.size + 3 = b at *
      have Fd : Hid (BSlL w4.drew w1.heap.size k bs) := F4.out
      have Sd := Lib.hid (S4.out.later ((Below.refl _ _).drew))
      go_wp2_with fail
      refine wp_region_held_drew (S := fun W => BSlL W w1.heap.size k bs) (by kernel_rfl) Fd.out (fun hHeld => ?_)
      refine wpAnyH_take (i := 0) (v := ?_) rfl (by kernel_rfl) (by kernel_rfl) (by kernel_rfl) (fun _ _ _ h => h) (Or.inl ⟨by rfl, ?_⟩) (by assumption) ?_
      rotate_left
      · (intro wx hSw; (try dsimp only at hSw); go_simp <;> with_reducible rfl)
      try simp only [Act.put, List.setIfInBounds_toArray, List.set_cons_zero, List.set_cons_succ, List.getElem_toArray, List.getElem_cons_zero, List.getElem_cons_succ]
      refine wpAnyH_take (i := 2) (v := ?_) rfl (by kernel_rfl) (by kernel_rfl) (by kernel_rfl) (fun _ _ _ h => h) (Or.inl ⟨by rfl, ?_⟩) (by assumption) ?_
      rotate_left
      · (intro wx hSw; (try dsimp only at hSw); go_simp <;> with_reducible rfl)
      try simp only [Act.put, List.setIfInBounds_toArray, List.set_cons_zero, List.set_cons_succ, List.getElem_toArray, List.getElem_cons_zero, List.getElem_cons_succ]
      refine wpAnyH_take (i := 3) (v := .string st) rfl (by kernel_rfl) (by kernel_rfl) (by kernel_rfl) (fun _ _ _ h => h) (Or.inl ⟨by rfl, ?_⟩) (by assumption) ?_
      · (intro wx hSw; have hcv := Hcv.out wx hSw; go_simp)
      try simp only [Act.put, List.setIfInBounds_toArray, List.set_cons_zero, List.set_cons_succ, List.getElem_toArray, List.getElem_cons_zero, List.getElem_cons_succ]
      refine wpAnyH_ready (rs := [1]) (by kernel_rfl) (by simp) ?_
      refine AllReadyH.cons rfl (fun K hK => ?_) AllReadyH.nil
      go_simp
      go_at_call 11
      refine (ofClock_any _).mono ?_
      rintro r w5 ⟨rfl, hb⟩
      have S5 := Lib.hid (Sd.out.later hb)
      have F5 := Lib.hid (Fd.out.later hb)
      clear hb
      go_wp2_with fail
      refine hK.out _ _ F5.out (fun hHeld2 => ?_)
      clear hK K hHeld
      try simp only [Act.put, List.setIfInBounds_toArray, List.set_cons_zero, List.set_cons_succ, List.getElem_toArray, List.getElem_cons_zero, List.getElem_cons_succ]
      refine wpAnyH_ready (rs := [4]) (by kernel_rfl) (by simp) ?_
      refine AllReadyH.cons rfl (fun K hK => ?_) AllReadyH.nil
      go_simp
      go_at_call 10
      refine (vSet_long b clockN st w5 S5.out.usages nameOk_clock (by have h1 := Hsz.out; have h2 := HN.out; omega)).mono ?_
      rintro r w6 ⟨rfl, hb⟩
      have S6 := Lib.hid (S5.out.later hb)
      have F6 := Lib.hid (F5.out.later hb)
      clear hb
      go_wp2_with fail
      refine hK.out _ _ F6.out (fun hHeld => ?_)
      clear hK K hHeld2
      try simp only [Act.put, List.setIfInBounds_toArray, List.set_cons_zero, List.set_cons_succ, List.getElem_toArray, List.getElem_cons_zero, List.getElem_cons_succ]
      refine wpAnyH_take (i := 5) (v := ?_) rfl (by kernel_rfl) (by kernel_rfl) (by kernel_rfl) (fun _ _ _ h => h) (Or.inl ⟨by rfl, ?_⟩) (by assumption) ?_
      rotate_left
      · (intro wx hSw; (try dsimp only at hSw); go_simp <;> with_reducible rfl)
      try simp only [Act.put, List.setIfInBounds_toArray, List.set_cons_zero, List.set_cons_succ, List.getElem_toArray, List.getElem_cons_zero, List.getElem_cons_succ]
      refine wpAnyH_done (by kernel_rfl) ?_ _
      clear S4 F4 Fd Sd S5 F5
      go_wp2_with fail
      refine (ofClock_any w6).mono ?_
      rintro r w7 ⟨rfl, hb⟩
      have S7 := Lib.hid (S6.out.later hb)
      have F7 := Lib.hid (F6.out.later hb)
      clear hb S6 F6
      go_wp2_with fail
      refine (qmVGet S7.out clockN nameOk_clock).mono ?_
      rintro r w8 ⟨rfl, s, -⟩
      rw [eg]
      have S8 : Hid (QM wr w8 b 0 eV1 (fun _ => False)) := by rw [es] at s; exact s
      clear s S7
      go_wp2_with fail
      refine (qmWrites S8.out).mono ?_
      rintro r w9 ⟨v9, c9, rfl, hr9, hp9, -, -, s⟩
      obtain rfl : c9 = [] := List.Perm.eq_nil hp9
      obtain ⟨a9, cap9, rfl, -⟩ := hr9
      have HF : Hid (Below w.heap.size w w9) := HB2.out.trans (s.below.mono HB2.out.size)
      clear hp9 s
      dsimp only [List.length_nil]
      go_wp2
      go_ret
      exact ⟨rfl, HF.out⟩
set_option linter.unusedSimpArgs false in
set_option maxRecDepth 100000 in
set_option maxHeartbeats 1600000 in
theorem long_not (c : Nat) (hc : c ≤ 255) (w : World) (hu : Usages w) : Calls Tryd.prog 3 #[.bool false, .int .u8 c] w (TruePost w) := by
  have Hu := Lib.hid hu; clear hu
  have Hc := Lib.hid hc; clear hc
  obtain ⟨N, hN, hN1⟩ : ∃ N : Nat, N = 65536 ∧ N ≤ 70000 := ⟨65536, rfl, by omega⟩
  obtain ⟨i0, hi, hz0, hz1, hz2⟩ := info_parts Tryd.infoByteL
  obtain ⟨cur, hcur, hmk⟩ : ∃ cur : Array Value, cur.size = N ∧ ∀ W : World, (Instr.makeSlice 23 (.int .i64 65536) (.int .i64 65536)).run Tryd.prog W = .ok (.slice (some ⟨W.heap.size, 0, none⟩) 65536 65536) (W.alloc (.cells cur 5)) :=
    ⟨madeCells (Value.int .u8 0).cells (65536 * i0.size), by rw [size_madeCells, hz1, hN], fun W => run_make W 23 5 i0 (.int .u8 0) Tryd.underlying23 hi hz0 .i64 .i64 65536 65536 (by omega) (by omega) (by rw [hz2]; omega) (by omega)⟩
  have HN := Lib.hid hN
  clear hN
  have Hcur := Lib.hid hcur; clear hcur hi hz0 hz1 hz2
  go_enter Tryd.func3, Tryd.ntmps3
  go_wp2_with fail
  refine (known24_any _ Hu.out).mono ?_
  rintro r w1 ⟨rfl, hb1⟩
  have HB1 := Lib.hid hb1; clear hb1
  have HI0 : Hid (LgI w1 w1.heap.size N 0 c (w1.alloc (.cells cur 5))) := ⟨(Below.refl _ _).alloc (Nat.le_refl _) _, cur, heap_alloc_new w1 _, Hcur.out, fun j hj => absurd hj (Nat.not_lt_zero j)⟩
  go_wp2_with fail
  clear hmk
  go_loopg [7] N (fun gk iv wr => ∃ k : Nat, k + gk = N ∧ iv = .int .i64 k ∧ Hid (LgI w1 w1.heap.size N k c wr))
  case atStart => exact ⟨0, by omega, rfl, HI0⟩
  case round =>
    clear HI0
    obtain ⟨k, hk, rfl, HI⟩ := hrel
    have Hk := Lib.hid hk; clear hk
    by_cases hlt : k < N
    · have hlt2 : (k : Int) < 65536 := by have := HN.out; omega
      obtain ⟨⟨x, hx⟩, hf⟩ := HI.out.cell hlt
      have HIn := Lib.hid (HI.out.next hlt (Nat.le_refl _))
      clear HI
      go_wp2
      go_roundg (N - (k + 1))
      case measure => have := Hk.out; omega
      case rel => exact ⟨k + 1, by have := Hk.out; omega, by go_num, HIn⟩
    · have hlt2 : ¬ (k : Int) < 65536 := by have := HN.out; omega
      obtain rfl : k = N := by have := Hk.out; omega
      have Hfull := Lib.hid (HI.out.full Hc.out)
      have HB2 : Hid (Below w.heap.size w wr) := HB1.out.trans (HI.out.1.mono HB1.out.size)
      obtain ⟨bs, hbs⟩ : ∃ bs, List.replicate k (UInt8.ofNat c) = bs := ⟨_, rfl⟩
      have hsz : (strL bs).size = k := by
        rw [← hbs]
        simp [strL, ByteArray.size]
      rw [hbs] at Hfull
      have Hsz := Lib.hid hsz
      clear hbs hsz HI Hk hlt
      obtain ⟨st, hst⟩ : ∃ st, strL bs = st := ⟨_, rfl⟩
      have Hst := Lib.hid hst
      rw [hst] at Hsz
      clear hst
      have Hcv : Hid (∀ W, BSlL W w1.heap.size k bs → (convert 23 9 (.slice (some ⟨w1.heap.size, 0, none⟩) 65536 65536)).run Tryd.prog W = .ok (.string st) W) := fun W h => by
        rw [← Hst.out]
        have h2 := run_bytes_strL W _ _ k bs h
        rw [HN.out] at h2
        exact h2
      go_wp2_with fail
      refine (emptyView_any wr (Hu.out.below HB2.out Hu.out.pos)).mono ?_
      rintro r w3 ⟨rfl, hnext⟩
      have Hnext := Lib.hid hnext; clear hnext
      go_wp2_with fail
      refine Hnext.out.mono ?_
      rintro r w4 ⟨rfl, s4⟩
      have S4 := Lib.hid s4
      have F4 := Lib.hid (Hfull.out.later s4.below)
      clear s4 Hnext
      generalize wr.heap.size + 3 = b at *
      have Fd : Hid (BSlL w4.drew w1.heap.size k bs) := F4.out
      have Sd := Lib.hid (S4.out.later ((Below.refl _ _).drew))
      go_wp2_with fail
      refine wp_region_held_drew (S := fun W => BSlL W w1.heap.size k bs) (by kernel_rfl) Fd.out (fun hHeld => ?_)
      refine wpAnyH_take (i := 0) (v := ?_) rfl (by kernel_rfl) (by kernel_rfl) (by kernel_rfl) (fun _ _ _ h => h) (Or.inl ⟨by rfl, ?_⟩) (by assumption) ?_
      rotate_left
      · (intro wx hSw; (try dsimp only at hSw); go_simp <;> with_reducible rfl)
      try simp only [Act.put, List.setIfInBounds_toArray, List.set_cons_zero, List.set_cons_succ, List.getElem_toArray, List.getElem_cons_zero, List.getElem_cons_succ]
      refine wpAnyH_take (i := 2) (v := ?_) rfl (by kernel_rfl) (by kernel_rfl) (by kernel_rfl) (fun _ _ _ h => h) (Or.inl ⟨by rfl, ?_⟩) (by assumption) ?_
      rotate_left
      · (intro wx hSw; (try dsimp only at hSw); go_simp <;> with_reducible rfl)
      try simp only [Act.put, List.setIfInBounds_toArray, List.set_cons_zero, List.set_cons_succ, List.getElem_toArray, List.getElem_cons_zero, List.getElem_cons_succ]
      refine wpAnyH_take (i := 3) (v := .string st) rfl (by kernel_rfl) (by kernel_rfl) (by kernel_rfl) (fun _ _ _ h => h) (Or.inl ⟨by rfl, ?_⟩) (by assumption) ?_
      · (intro wx hSw; have hcv := Hcv.out wx hSw; go_simp)
      try simp only [Act.put, List.setIfInBounds_toArray, List.set_cons_zero, List.set_cons_succ, List.getElem_toArray, List.getElem_cons_zero, List.getElem_cons_succ]
      refine wpAnyH_ready (rs := [1]) (by kernel_rfl) (by simp) ?_
      refine AllReadyH.cons rfl (fun K hK => ?_) AllReadyH.nil
      go_simp
      go_at_call 11
      refine (ofClock_any _).mono ?_
      rintro r w5 ⟨rfl, hb⟩
      have S5 := Lib.hid (Sd.out.later hb)
      have F5 := Lib.hid (Fd.out.later hb)
      clear hb
      go_wp2_with fail
      refine hK.out _ _ F5.out (fun hHeld2 => ?_)
      clear hK K hHeld
      try simp only [Act.put, List.setIfInBounds_toArray, List.set_cons_zero, List.set_cons_succ, List.getElem_toArray, List.getElem_cons_zero, List.getElem_cons_succ]
      refine wpAnyH_ready (rs := [4]) (by kernel_rfl) (by simp) ?_
      refine AllReadyH.cons rfl (fun K hK => ?_) AllReadyH.nil
      go_simp
      go_at_call 10
      refine (qmVSet S5.out clockN nameOk_clock st (by have h1 := Hsz.out; have h2 := HN.out; omega) (by decide)).mono ?_
      rintro r w6 ⟨rfl, s, -⟩
      have S6 : Hid (QM wr w6 b 0 (eVs st) (fun _ => False)) := s
      have F6 : Hid (BSlL w6 w1.heap.size k bs) := Hfull.out.later s.below
      clear s
      go_wp2_with fail
      refine hK.out _ _ F6.out (fun hHeld => ?_)
      clear hK K hHeld2
      try simp only [Act.put, List.setIfInBounds_toArray, List.set_cons_zero, List.set_cons_succ, List.getElem_toArray, List.getElem_cons_zero, List.getElem_cons_succ]
      refine wpAnyH_take (i := 5) (v := ?_) rfl (by kernel_rfl) (by kernel_rfl) (by kernel_rfl) (fun _ _ _ h => h) (Or.inl ⟨by rfl, ?_⟩) (by assumption) ?_
      rotate_left
      · (intro wx hSw; (try dsimp only at hSw); go_simp <;> with_reducible rfl)
      try simp only [Act.put, List.setIfInBounds_toArray, List.set_cons_zero, List.set_cons_succ, List.getElem_toArray, List.getElem_cons_zero, List.getElem_cons_succ]
      refine wpAnyH_done (by kernel_rfl) ?_ _
      clear S4 F4 Fd Sd S5 F5
      go_wp2_with fail
      refine (ofClock_any w6).mono ?_
      rintro r w7 ⟨rfl, hb⟩
      have S7 := Lib.hid (S6.out.later hb)
      have F7 := Lib.hid (F6.out.later hb)
      clear hb S6 F6
      go_wp2_with fail
      refine (qmVGet S7.out clockN nameOk_clock).mono ?_
      rintro r w8 ⟨rfl, s, -⟩
      rw [egs]
      have S8 : Hid (QM wr w8 b 0 (eVs st) (fun _ => False)) := by rw [ess] at s; exact s
      have F8 : Hid (BSlL w8 w1.heap.size k bs) := Hfull.out.later s.below
      clear s S7
      have hcv8 := Hcv.out w8 F8.out
      go_wp2_with fail
      refine (qmReads S8.out (Nat.zero_le _)).mono ?_
      rintro r w9 ⟨v9, c9, rfl, hr9, hp9, -, -, s⟩
      obtain rfl : c9 = [] := List.Perm.eq_nil hp9
      obtain ⟨a9, cap9, rfl, -⟩ := hr9
      have HF : Hid (Below w.heap.size w w9) := HB2.out.trans (s.below.mono HB2.out.size)
      clear hp9 s
      dsimp only [List.length_nil]
      go_wp2
      go_ret
      exact ⟨rfl, HF.out⟩
theorem viewLong_any (more : Bool) (c : Nat) (hc : c ≤ 255) (w : World) (hu : Usages w) : Calls Tryd.prog 3 #[.bool more, .int .u8 c] w (TruePost w) := by
  cases more
  · exact long_not c hc w hu
  · exact long_more c hc w hu
end Go.Proofs.YtpieaakdddgdeaaDoor
