/- pipe: change. pipe: what the operations do with a pipe. -/
import Derived.Test.YtemmeopaihmlcaaGreatDoorViewH
import Derived.Test.YtemmeopaihmlcaaGreatDoorPipD
import Derived.BigQuiet
import Derived.BigRegion
import Derived.Deep.DeepCutAuto
namespace Go.Proofs.YtemmeopaihmlcaaGreatDoor
open Go.RowKit
attribute [local go_sem ↓] Go.wp_at_zero Go.wp_at_succ

/-- What change makes of a view. -/
def pChange (op : PipeT → PipeT × Nat) (V : AV) (m : ByteArray) (k e : Int) : AV × Nat :=
  if (pGet V m k e).2 ≠ 0 then (pSeen V m k e, (pGet V m k e).2)
  else if (op (pGet V m k e).1).2 ≠ 0 then (pSeen V m k e, (op (pGet V m k e).1).2)
  else if (op (pGet V m k e).1).1 = (pGet V m k e).1 then (pSeen V m k e, 0)
  else if (op (pGet V m k e).1).1.readers = 0 ∧ (op (pGet V m k e).1).1.writers = 0 then (⟨(pSeen V m k e).base, (pSeen V m k e).reads, (pSeen V m k e).calls ++ [⟨ofPipe m k, ⟨#[]⟩, true⟩]⟩, 0)
  else if (encP (op (pGet V m k e).1).1).2 ≠ 0 then (pSeen V m k e, (encP (op (pGet V m k e).1).1).2)
  else (⟨(pSeen V m k e).base, (pSeen V m k e).reads, (pSeen V m k e).calls ++ [⟨ofPipe m k, (encP (op (pGet V m k e).1).1).1, false⟩]⟩, 0)

set_option maxRecDepth 100000 in
theorem run_equal_pipe (w : World) (a b : PipeT) : (Op.equal 66 (pipeV a) (pipeV b)).run Tryz.prog w = .ok (decide (a = b)) w := by
  have hu : Tryz.prog.underlying 66 = some (.struct (Tryz.prog.fieldsOf 66)) := by kernel_rfl
  have hst : Tryz.prog.stoodInHeld 66 = false := by kernel_rfl
  simp only [Op.equal, Op.maxDepth, pipeV]
  rw [run_equalIn_struct w 9999 _ _ _ hu hst]
  simp [go_sem, Tryz.underlying66, Tryz.underlying3, Tryz.underlying9]
  have hb : ∀ x y : ByteArray, x.toList = y.toList ↔ x = y := fun x y => by have := str_beq x y; rw [Bool.eq_iff_iff] at this; simpa using this
  obtain ⟨a1, a2, a3, a4⟩ := a
  obtain ⟨b1, b2, b3, b4⟩ := b
  simp only [hb, PipeT.mk.injEq]
  by_cases h1 : a1 = b1 <;> by_cases h2 : a2 = b2 <;> by_cases h3 : a3 = b3 <;> by_cases h4 : a4 = b4 <;> simp [h1, h2, h3, h4]
def samePB (a b : PipeT) : Bool := decide (a = b)
theorem run_eql_pipe (w : World) (a1 a2 a3 : Int) (a4 : ByteArray) (b1 b2 b3 : Int) (b4 : ByteArray) : (binOp .eql 66 (.agg #[.int .i64 a1, .int .i64 a2, .int .i64 a3, .string a4]) (.agg #[.int .i64 b1, .int .i64 b2, .int .i64 b3, .string b4])).run Tryz.prog w = .ok (.bool (samePB ⟨a1, a2, a3, a4⟩ ⟨b1, b2, b3, b4⟩)) w := by
  have h := run_equal_pipe w ⟨a1, a2, a3, a4⟩ ⟨b1, b2, b3, b4⟩
  simp only [pipeV] at h
  simp only [binOp]
  simp [h, samePB]
attribute [local go_sem ↓] run_eql_pipe

/-- What the operation leaves, as change hands it the pipe. -/
def POp (f : Nat) (caps : Array Value) (op : PipeT → PipeT × Nat) (ex : Nat → Prop) (w : World) (Q : PipeT → World → Prop) : Prop :=
  ∀ (W : World) (X : Nat) (p : PipeT), checkP p = 0 → W.heap[X]? = some (.cells (pCells p) 66 (0, 0)) → ¬ ex X → (∀ k, ex k → W.heap[k]? = w.heap[k]?) →
    Calls Tryz.prog f (#[.pointer (some ⟨X, 0, none⟩)] ++ caps) W fun r W' => r = .returned (.int .i64 (op p).2) ∧ Kept (fun k => k = X ∨ ex k) W W' ∧ ((op p).2 = 0 → W'.heap[X]? = some (.cells (pCells (op p).1) 66 (0, 0)) ∧ Q p W')

def PChPost (h : VH) (ex : Nat → Prop) (w : World) (p : AV × Nat) (Q : World → Prop) (r : Ending) (w' : World) : Prop :=
  ∃ h', r = .returned (.int .i64 p.2) ∧ VQ h ex w p.1 w' h' ∧ (p.2 = 0 → Q w')

theorem pSeen_calls (V : AV) (m : ByteArray) (k e : Int) : (pSeen V m k e).calls = V.calls := by
  unfold pSeen avSeen
  split
  · rfl
  · split <;> rfl
theorem pGet_args {V : AV} {m : ByteArray} {k e : Int} (h : (pGet V m k e).2 = 0) : pArgs m k e = 0 := by
  unfold pGet at h
  split at h
  · assumption
  · rename_i h1
    simpa using h1
theorem decP_check {s : ByteArray} (h : (decP_ s).2 = 0) : checkP (decP_ s).1 = 0 := by
  unfold decP_ at h ⊢
  split
  · rename_i h1
    exact h1.2
  · rename_i h1
    rw [if_neg h1] at h
    cases h
theorem pGet_check {V : AV} {m : ByteArray} {k e : Int} (h : (pGet V m k e).2 = 0) : checkP (pGet V m k e).1 = 0 := by
  unfold pGet at h ⊢
  split
  · rename_i h1
    rw [if_pos h1] at h
    exact absurd h h1
  · rename_i h1
    rw [if_neg h1] at h
    unfold ofPV at h ⊢
    have hd := @decP_check (avGet V (ofPipe m k)).1
    generalize decP_ (avGet V (ofPipe m k)).1 = d at *
    split
    · rename_i h2
      rw [if_pos h2] at h
      cases h
    · rename_i h2
      rw [if_neg h2] at h
      split
      · rename_i h3
        rw [if_pos h3] at h
        cases h
      · rename_i h3
        exact hd (Decidable.not_not.1 (fun h4 => h3 (.inl h4)))
theorem encP_size (p : PipeT) : (encP p).1.size ≤ 65536 := by
  unfold encP
  split
  · rename_i h
    obtain ⟨_, _, _, _, h5⟩ := checkP_ok h
    have h1 := natBytes_length p.epoch.toNat
    have h2 := natBytes_length p.readers.toNat
    have h3 := natBytes_length p.writers.toNat
    have h4 := natBytes_length p.bytes.size
    have : (strOf (encPB p)).size = (encPB p).length := by rw [← size_toList]; rfl
    rw [this]
    simp only [encPB, List.length_append, size_toList]
    omega
  · exact Nat.zero_le _

set_option maxRecDepth 100000 in
set_option maxHeartbeats 1600000 in
theorem pChange_any (h : VH) (V : AV) (m : ByteArray) (k e : Int) (f : Nat) (caps : Array Value) (op : PipeT → PipeT × Nat) (ex : Nat → Prop) (Q : PipeT → World → Prop) (w : World) (hv : ViewAt w h V) (hmz : m.size ≤ 70368744177664) (hsz : (avGet V (ofPipe m k)).1.size ≤ 35184372088832) (hlen : V.calls.length < 1000000)
    (hex : ∀ j, ex j → h.bs ≤ j ∧ j < w.heap.size ∧ ¬ h.fp j) (hop : POp f caps op ex w Q)
    (hQ : ∀ t W W', Q t W → (∀ j, ex j → W'.heap[j]? = W.heap[j]?) → Q t W')
    (hcf : ∀ args W, (callFunc f args).run Tryz.prog W = .ok (.enter f args) W) :
    Calls Tryz.prog 86 #[.pointer (some ⟨h.b, 0, none⟩), .agg #[.string m, .int .i64 k], .int .i64 e, .func (.func f) #[] caps] w (PChPost h ex w (pChange op V m k e) (Q (pGet V m k e).1)) := by
  have Hv := Lib.hid hv; clear hv
  have Hsz := Lib.hid hsz; clear hsz
  have Hlen := Lib.hid hlen; clear hlen
  have Hby := Lib.hid (pGet_check (V := V) (m := m) (k := k) (e := e))
  have Hex := Lib.hid hex; clear hex
  have Hop := Lib.hid hop; clear hop
  have HQ := Lib.hid hQ; clear hQ
  have Hargs := Lib.hid (pGet_args (V := V) (m := m) (k := k) (e := e))
  have Ha : Hid (∀ o, Below w.heap.size w (w.alloc o)) := fun o => (Below.refl _ _).alloc (Nat.le_refl _) _
  go_enter Tryz.func86, Tryz.ntmps86
  go_wp2_with fail
  refine (pGet_any h V m k e _ (Hv.out.later (Ha.out _)) hmz Hsz.out).mono ?_
  rintro r w1 ⟨h1, rfl, hp⟩
  have hB1 := (hp.kept.block w.heap.size (by simp) (fun hh => by rcases hh with h2 | h2; exact absurd (Hv.out.fp_lt h2) (Nat.lt_irrefl _); exact h2)).trans (World.alloc_heap_new w _)
  have HP : Hid (VQ h ex w (pSeen V m k e) w1 h1) := (VQ.after (Ha.out _) hp).mono (fun _ h => h.elim)
  have hsz1 : w.heap.size < w1.heap.size := lt_of_heap hB1
  have HB1 := Lib.hid hB1; clear hB1
  have HexW1 : Hid (∀ j, ex j → w1.heap[j]? = w.heap[j]?) := fun j hj =>
    (hp.kept.block j (by have := (Hex.out j hj).2.1; simp; omega) (fun hh => by rcases hh with h2 | h2; exact (Hex.out j hj).2.2 h2; exact h2)).trans (Below.heap_alloc w _ j (Hex.out j hj).2.1)
  have HexF : Hid (∀ j, ex j → ¬ h1.fp j) := fun j hj hf => by
    rcases hp.fp j hf with h2 | h2
    · exact (Hex.out j hj).2.2 h2
    · have := (Hex.out j hj).2.1; simp at h2; omega
  have HexL : Hid (∀ j, ex j → j < w.heap.size) := fun j hj => (Hex.out j hj).2.1
  clear hp
  generalize ht : pGet V m k e = t at *
  have Ht := Lib.hid ht; clear ht
  obtain ⟨⟨ep, re, wr, by_⟩, q⟩ := t
  dsimp only [pipeV] at *
  by_cases hq : q = 0
  · subst hq
    have hX2 : ((w1.alloc (.cells #[.int .i64 ep, .int .i64 re, .int .i64 wr, .string by_] 66)).alloc (.cells #[.int .i64 ep, .int .i64 re, .int .i64 wr, .string by_] 66)).heap[w1.heap.size]? = some (.cells (pCells ⟨ep, re, wr, by_⟩) 66 (0, 0)) := (Below.heap_alloc _ _ _ (by simp)).trans (heap_alloc_new w1 _)
    have hO2 : ((w1.alloc (.cells #[.int .i64 ep, .int .i64 re, .int .i64 wr, .string by_] 66)).alloc (.cells #[.int .i64 ep, .int .i64 re, .int .i64 wr, .string by_] 66)).heap[w1.heap.size + 1]? = some (.cells #[.int .i64 ep, .int .i64 re, .int .i64 wr, .string by_] 66 (0, 0)) := second_new w1 _ _
    have hb2 : Below w1.heap.size w1 ((w1.alloc (.cells #[.int .i64 ep, .int .i64 re, .int .i64 wr, .string by_] 66)).alloc (.cells #[.int .i64 ep, .int .i64 re, .int .i64 wr, .string by_] 66)) := ((Below.refl _ _).alloc (Nat.le_refl _) _).alloc (by simp) _
    have hexW := fun j (hj : ex j) => (hb2.block j (by have := HexL.out j hj; omega)).trans (HexW1.out j hj)
    have hexX : ¬ ex w1.heap.size := fun hj => by have := HexL.out _ hj; omega
    have hcall := Hop.out _ w1.heap.size ⟨ep, re, wr, by_⟩ (Hby.out rfl) hX2 hexX hexW
    have Hcall := Lib.hid hcall; clear hcall hexW hexX
    have HO2 := Lib.hid hO2; clear hO2
    have Hb2 := Lib.hid hb2; clear hb2 hX2
    obtain ⟨o, ho⟩ : ∃ o, op ⟨ep, re, wr, by_⟩ = o := ⟨_, rfl⟩
    rw [ho] at Hcall
    have Ho := Lib.hid ho; clear ho
    obtain ⟨⟨ep', re', wr', by'⟩, q⟩ := o
    dsimp only at *
    go_wp2_with fail
    refine Hcall.out.mono ?_
    rintro r w3 ⟨rfl, hk3, hx3⟩
    have HK3 : Hid (Kept (fun j => j = w1.heap.size ∨ ex j) w1 w3) := (Kept.of_below Hb2.out _).trans hk3 (fun _ _ h => h)
    have HP3 : Hid (VQ h ex w (pSeen V m k e) w3 h1) := HP.out.stores HK3.out (fun j hj hs => by
      rcases hs with h2 | h2
      · omega
      · exact ⟨.inr h2, HexF.out j h2, (Hex.out j h2).1⟩)
    have hO3 := (hk3.block (w1.heap.size + 1) (by simp) (fun hh => by
      rcases hh with h2 | h2
      · omega
      · have := HexL.out _ h2; omega)).trans HO2.out
    have hB3 := (HK3.out.block w.heap.size hsz1 (fun hh => by
      rcases hh with h2 | h2
      · omega
      · have := HexL.out _ h2; omega)).trans HB1.out
    have b0 : w3.cell? ⟨w.heap.size, 0, none⟩ = some (.string m) := cell_of_heap hB3 0
    have b1 : w3.cell? ⟨w.heap.size, 1, none⟩ = some (.int .i64 k) := cell_of_heap hB3 1
    have o0 : w3.cell? ⟨w1.heap.size + 1, 0, none⟩ = some (.int .i64 ep) := cell_of_heap hO3 0
    have o1 : w3.cell? ⟨w1.heap.size + 1, 1, none⟩ = some (.int .i64 re) := cell_of_heap hO3 1
    have o2 : w3.cell? ⟨w1.heap.size + 1, 2, none⟩ = some (.int .i64 wr) := cell_of_heap hO3 2
    have o3 : w3.cell? ⟨w1.heap.size + 1, 3, none⟩ = some (.string by_) := cell_of_heap hO3 3
    have HB3 := Lib.hid hB3; clear hB3
    have Hx3 := Lib.hid hx3; clear hx3 hk3 hO3 Hcall HO2 Hb2 HP HB1
    by_cases hq : q = 0
    · subst hq
      obtain ⟨hX3, hQ3⟩ := Hx3.out rfl
      have c0 : w3.cell? ⟨w1.heap.size, 0, none⟩ = some (.int .i64 ep') := cell_of_heap hX3 0
      have c1 : w3.cell? ⟨w1.heap.size, 1, none⟩ = some (.int .i64 re') := cell_of_heap hX3 1
      have c2 : w3.cell? ⟨w1.heap.size, 2, none⟩ = some (.int .i64 wr') := cell_of_heap hX3 2
      have c3 : w3.cell? ⟨w1.heap.size, 3, none⟩ = some (.string by') := cell_of_heap hX3 3
      have hx3 := lt_of_heap hX3
      have HQ3 := Lib.hid hQ3; clear hQ3 hX3 Hx3
      by_cases hsame : (⟨ep', re', wr', by'⟩ : PipeT) = ⟨ep, re, wr, by_⟩
      · have he : Hid (pChange op V m k e = (pSeen V m k e, 0)) := by show _ = _; simp [pChange, Ht.out, Ho.out, hsame]
        have hs : samePB ⟨ep', re', wr', by'⟩ ⟨ep, re, wr, by_⟩ = true := decide_eq_true hsame
        clear hsame
        go_wp2
        go_ret
        rw [he.out]
        exact ⟨h1, rfl, HP3.out, fun _ => HQ3.out⟩
      · have hs : samePB ⟨ep', re', wr', by'⟩ ⟨ep, re, wr, by_⟩ = false := decide_eq_false hsame
        by_cases hz : re' = 0 ∧ wr' = 0
        · have he : Hid (pChange op V m k e = (⟨(pSeen V m k e).base, (pSeen V m k e).reads, (pSeen V m k e).calls ++ [⟨ofPipe m k, ⟨#[]⟩, true⟩]⟩, 0)) := by
            show _ = _
            unfold pChange
            rw [Ht.out, Ho.out, if_neg (by simp), if_neg (by simp), if_neg hsame, if_pos hz]
          obtain ⟨rfl, rfl⟩ := hz
          clear hsame
          have Hn : Hid (NameOk (ofPipe m k)) := nameOk_pipe (pArgs_ok (Hargs.out trivial)).1 hmz (pArgs_ok (Hargs.out trivial)).2.1.1 (pArgs_ok (Hargs.out trivial)).2.1.2
          go_wp2_with fail
          refine (ofPipe_any m k _).mono ?_
          rintro r w4 ⟨rfl, hb4⟩
          have HP4 := Lib.hid (HP3.out.later hb4)
          have Hex4 : Hid (∀ j, ex j → w4.heap[j]? = w3.heap[j]? ∧ j < w4.heap.size) := fun j hj => by
            have h3 : j < w3.heap.size := by have := HexL.out j hj; have := HK3.out.size; omega
            exact ⟨hb4.block j h3, Nat.lt_of_lt_of_le h3 hb4.size⟩
          clear hb4
          have hb1' : h.b = h1.b := HP4.out.b.symm
          rw [hb1']
          go_wp2_with fail
          refine (vDel_any h1 (pSeen V m k e) (ofPipe m k) _ HP4.out.at_ Hn.out (by rw [pSeen_calls]; exact Hlen.out)).mono ?_
          rintro r w6 ⟨rfl, hp6⟩
          obtain ⟨h2, hp6⟩ := hp6.vq
          have Hp6 := Lib.hid hp6; clear hp6
          go_wp2
          go_ret
          rw [he.out]
          exact ⟨h2, rfl, HP4.out.trans Hp6.out, fun _ => HQ.out _ w3 _ HQ3.out (fun j hj => (Hp6.out.kept.block j (Hex4.out j hj).2 (fun hh => by rcases hh with h5 | h5; exact HexF.out j hj h5; exact h5)).trans (Hex4.out j hj).1)⟩
        · have hways : ((re' == 0) = false) ∨ ((re' == 0) = true ∧ (wr' == 0) = false) := by
            by_cases h : re' = 0
            · exact .inr ⟨by simp [h], by simp; intro h'; exact hz ⟨h, h'⟩⟩
            · exact .inl (by simp [h])
          have Henc : Hid ((encP ⟨ep', re', wr', by'⟩).1.size ≤ 65536) := encP_size _
          have Hch : Hid (pChange op V m k e = if (encP ⟨ep', re', wr', by'⟩).2 ≠ 0 then (pSeen V m k e, (encP ⟨ep', re', wr', by'⟩).2) else (⟨(pSeen V m k e).base, (pSeen V m k e).reads, (pSeen V m k e).calls ++ [⟨ofPipe m k, (encP ⟨ep', re', wr', by'⟩).1, false⟩]⟩, 0)) := by
            show _ = _
            unfold pChange
            rw [Ht.out, Ho.out, if_neg (by simp), if_neg (by simp), if_neg hsame, if_neg hz]
          clear hsame hz
          have Hpe : Hid (∀ W, Calls Tryz.prog 84 #[.agg #[.int .i64 ep', .int .i64 re', .int .i64 wr', .string by']] W fun r w' => r = .returned (.tuple #[.string (encP ⟨ep', re', wr', by'⟩).1, .int .i64 (encP ⟨ep', re', wr', by'⟩).2]) ∧ Below W.heap.size W w') := fun W => pEncode_any ep' re' wr' by' W
          generalize encP ⟨ep', re', wr', by'⟩ = en at *
          obtain ⟨sv, q⟩ := en
          dsimp only at *
          by_cases hq : q = 0
          · subst hq
            have he := Lib.hid (Hch.out.trans (if_neg (by simp)))
            clear Hch
            have Hn : Hid (NameOk (ofPipe m k)) := nameOk_pipe (pArgs_ok (Hargs.out trivial)).1 hmz (pArgs_ok (Hargs.out trivial)).2.1.1 (pArgs_ok (Hargs.out trivial)).2.1.2
            rcases hways with h4 | ⟨h4, h6⟩
            all_goals
              go_wp2_with fail
              refine (Hpe.out _).mono ?_
              rintro r w4 ⟨rfl, hb4⟩
              have HP4 := Lib.hid (HP3.out.later hb4)
              have Hex4 : Hid (∀ j, ex j → w4.heap[j]? = w3.heap[j]? ∧ j < w4.heap.size) := fun j hj => by
                have h3 : j < w3.heap.size := by have := HexL.out j hj; have := HK3.out.size; omega
                exact ⟨hb4.block j h3, Nat.lt_of_lt_of_le h3 hb4.size⟩
              have hB4 := (hb4.block w.heap.size (lt_of_heap HB3.out)).trans HB3.out
              have b40 : w4.cell? ⟨w.heap.size, 0, none⟩ = some (.string m) := cell_of_heap hB4 0
              have b41 : w4.cell? ⟨w.heap.size, 1, none⟩ = some (.int .i64 k) := cell_of_heap hB4 1
              clear hb4 hB4
              go_wp2_with fail
              refine (ofPipe_any m k _).mono ?_
              rintro r w5 ⟨rfl, hb5⟩
              have HP5 := Lib.hid (HP4.out.later hb5)
              have Hex5 : Hid (∀ j, ex j → w5.heap[j]? = w3.heap[j]? ∧ j < w5.heap.size) := fun j hj => ⟨(hb5.block j (Hex4.out j hj).2).trans (Hex4.out j hj).1, Nat.lt_of_lt_of_le (Hex4.out j hj).2 hb5.size⟩
              clear hb5
              have hb1' : h.b = h1.b := HP5.out.b.symm
              rw [hb1']
              go_wp2_with fail
              refine (vSet_any h1 (pSeen V m k e) (ofPipe m k) sv _ HP5.out.at_ Hn.out Henc.out (by rw [pSeen_calls]; exact Hlen.out)).mono ?_
              rintro r w6 ⟨rfl, hp6⟩
              obtain ⟨h2, hp6⟩ := hp6.vq
              have Hp6 := Lib.hid hp6; clear hp6
              go_wp2
              go_ret
              rw [he.out]
              exact ⟨h2, rfl, HP5.out.trans Hp6.out, fun _ => HQ.out _ w3 _ HQ3.out (fun j hj => (Hp6.out.kept.block j (Hex5.out j hj).2 (fun hh => by rcases hh with h5 | h5; exact HexF.out j hj h5; exact h5)).trans (Hex5.out j hj).1)⟩
          · have he := Lib.hid (Hch.out.trans (if_pos hq))
            have hq' : ((q : Int) != 0) = true := bne_iff_ne.2 (by omega)
            have Hq := Lib.hid hq; clear hq Hch
            rcases hways with h4 | ⟨h4, h6⟩
            all_goals
              go_wp2_with fail
              refine (Hpe.out _).mono ?_
              rintro r w4 ⟨rfl, hb4⟩
              have HP4 := Lib.hid (HP3.out.later hb4)
              clear hb4
              go_wp2
              go_ret
              rw [he.out]
              exact ⟨h1, rfl, HP4.out, fun h => absurd h Hq.out⟩
    · have he : Hid (pChange op V m k e = (pSeen V m k e, q)) := by show _ = _; simp [pChange, Ht.out, Ho.out, hq]
      have hq' : ((q : Int) != 0) = true := bne_iff_ne.2 (by omega)
      have Hq := Lib.hid hq; clear hq
      go_wp2
      go_ret
      rw [he.out]
      exact ⟨h1, rfl, HP3.out, fun h => absurd h Hq.out⟩
  · have he : Hid (pChange op V m k e = (pSeen V m k e, q)) := by show _ = _; simp [pChange, Ht.out, hq]
    have hq' : ((q : Int) != 0) = true := bne_iff_ne.2 (by omega)
    have Hq := Lib.hid hq; clear hq
    go_wp2
    go_ret
    rw [he.out]
    exact ⟨h1, rfl, HP.out.later ((Below.refl _ _).alloc (Nat.le_refl _) _), fun h => absurd h Hq.out⟩

end Go.Proofs.YtemmeopaihmlcaaGreatDoor

namespace Go.Proofs.YtemmeopaihmlcaaGreatDoor
open Go.RowKit
attribute [local go_sem ↓] Go.wp_at_zero Go.wp_at_succ

def opRead (most : Int) (p : PipeT) : PipeT × Nat :=
  if most < 0 then (p, 2) else if 0 < most ∧ p.bytes.size = 0 ∧ 0 < p.writers then (p, 19) else (⟨p.epoch, p.readers, p.writers, p.bytes.extract (min most.toNat p.bytes.size) p.bytes.size⟩, 0)
def readB (most : Int) (p : PipeT) : ByteArray := p.bytes.extract 0 (min most.toNat p.bytes.size)
def writeN (s : ByteArray) (p : PipeT) : Nat := if s.size = 0 then 0 else min s.size (256 - p.bytes.size)
def opWrite (s : ByteArray) (p : PipeT) : PipeT × Nat :=
  if s.size = 0 then (p, 0) else if p.readers = 0 then (p, 20) else if p.bytes.size = 256 then (p, 19) else (⟨p.epoch, p.readers, p.writers, p.bytes ++ s.extract 0 (writeN s p)⟩, 0)
def opJoin (w : Bool) (p : PipeT) : PipeT × Nat :=
  if w = true then (if p.writers = 0 then (p, 20) else if p.writers = 64 then (p, 9) else (⟨p.epoch, p.readers, p.writers + 1, p.bytes⟩, 0))
  else (if p.readers = 0 then (p, 20) else if p.readers = 64 then (p, 9) else (⟨p.epoch, p.readers + 1, p.writers, p.bytes⟩, 0))
def opLeave (w : Bool) (p : PipeT) : PipeT × Nat :=
  if w = true then (if p.writers = 0 then (p, 20) else (⟨p.epoch, p.readers, p.writers - 1, p.bytes⟩, 0))
  else (if p.readers = 0 then (p, 20) else (⟨p.epoch, p.readers - 1, p.writers, p.bytes⟩, 0))

set_option maxRecDepth 100000 in
set_option maxHeartbeats 800000 in
theorem side_any (X : Nat) (b : Bool) (w : World) : Calls Tryz.prog 92 #[.pointer (some ⟨X, 0, none⟩), .bool b] w fun r w' => r = .returned (.pointer (some ⟨X, if b = true then 2 else 1, none⟩)) ∧ w = w' := by
  cases b with
  | true =>
    go_enter Tryz.func92, Tryz.ntmps92
    go_wp2
    go_ret
    exact ⟨rfl, rfl⟩
  | false =>
    go_enter Tryz.func92, Tryz.ntmps92
    go_wp2
    go_ret
    exact ⟨rfl, rfl⟩

/-- A cell of the call's own, as a block. -/
def Box (w : World) (b : Nat) (T : TypeId) (v : Value) : Prop := w.heap[b]? = some (.cells #[v] T (0, 0))
theorem one_kept {W : World} {X i : Nat} {v : Value} {ex : Nat → Prop} : Kept (fun k => k = X ∨ ex k) W (W.setCell ⟨X, i, none⟩ v) := Kept.of_grown (grown_setCell _ _ _ _) _ (fun k hk => by cases hk; exact .inl rfl)

set_option maxRecDepth 100000 in
set_option maxHeartbeats 1600000 in
theorem join_op (b : Bool) (jb : Nat) (w : World) (hj : Box w jb 4 (.bool b)) : POp 91 #[.pointer (some ⟨jb, 0, none⟩)] (opJoin b) (fun k => k = jb) w (fun _ _ => True) := by
  intro W X p hck hX hnX hW
  have hjW : W.cell? ⟨jb, 0, none⟩ = some (.bool b) := cell_of_heap ((hW jb rfl).trans hj) 0
  obtain ⟨⟨_, _⟩, hre, hwr, _, _⟩ := checkP_ok hck
  obtain ⟨ep, re, wr, by_⟩ := p
  dsimp only at *
  have c1 : W.cell? ⟨X, 1, none⟩ = some (.int .i64 re) := cell_of_heap hX 1
  have c2 : W.cell? ⟨X, 2, none⟩ = some (.int .i64 wr) := cell_of_heap hX 2
  have g1 : W.frozen? ⟨X, 1, none⟩ = false := frozen_of_heap hX 1
  have g2 : W.frozen? ⟨X, 2, none⟩ = false := frozen_of_heap hX 2
  have HX := Lib.hid hX; clear hX hck hj hW
  show Calls Tryz.prog _ #[.pointer (some ⟨X, 0, none⟩), .pointer (some ⟨jb, 0, none⟩)] W _
  cases b with
  | true =>
    by_cases h0 : wr = 0
    · have he : Hid (opJoin true ⟨ep, re, wr, by_⟩ = (⟨ep, re, wr, by_⟩, 20)) := by show _ = _; simp [opJoin, h0]
      subst h0
      go_enter Tryz.func91, Tryz.ntmps91
      go_wp2_with fail
      refine (side_any X true _).mono ?_
      rintro r w1 ⟨rfl, rfl⟩
      go_wp2
      go_ret
      rw [he.out]
      exact ⟨rfl, Kept.refl _ _, fun h => by cases h⟩
    · have h0' : (wr == 0) = false := beq_eq_false_iff_ne.2 h0
      by_cases h1 : wr = 64
      · have he : Hid (opJoin true ⟨ep, re, wr, by_⟩ = (⟨ep, re, wr, by_⟩, 9)) := by show _ = _; simp [opJoin, h1]
        subst h1
        go_enter Tryz.func91, Tryz.ntmps91
        go_wp2_with fail
        refine (side_any X true _).mono ?_
        rintro r w1 ⟨rfl, rfl⟩
        go_wp2
        go_ret
        rw [he.out]
        exact ⟨rfl, Kept.refl _ _, fun h => by cases h⟩
      · have he : Hid (opJoin true ⟨ep, re, wr, by_⟩ = (⟨ep, re, wr + 1, by_⟩, 0)) := by show _ = _; simp [opJoin, h0, h1]
        have h1' : (wr == 64) = false := beq_eq_false_iff_ne.2 h1
        clear h0 h1
        go_enter Tryz.func91, Tryz.ntmps91
        go_wp2_with fail
        refine (side_any X true _).mono ?_
        rintro r w1 ⟨rfl, rfl⟩
        go_wp2
        go_ret
        rw [he.out]
        exact ⟨rfl, one_kept, fun _ => ⟨heap_setCell_same HX.out 2 _, trivial⟩⟩
  | false =>
    by_cases h0 : re = 0
    · have he : Hid (opJoin false ⟨ep, re, wr, by_⟩ = (⟨ep, re, wr, by_⟩, 20)) := by show _ = _; simp [opJoin, h0]
      subst h0
      go_enter Tryz.func91, Tryz.ntmps91
      go_wp2_with fail
      refine (side_any X false _).mono ?_
      rintro r w1 ⟨rfl, rfl⟩
      go_wp2
      go_ret
      rw [he.out]
      exact ⟨rfl, Kept.refl _ _, fun h => by cases h⟩
    · have h0' : (re == 0) = false := beq_eq_false_iff_ne.2 h0
      by_cases h1 : re = 64
      · have he : Hid (opJoin false ⟨ep, re, wr, by_⟩ = (⟨ep, re, wr, by_⟩, 9)) := by show _ = _; simp [opJoin, h1]
        subst h1
        go_enter Tryz.func91, Tryz.ntmps91
        go_wp2_with fail
        refine (side_any X false _).mono ?_
        rintro r w1 ⟨rfl, rfl⟩
        go_wp2
        go_ret
        rw [he.out]
        exact ⟨rfl, Kept.refl _ _, fun h => by cases h⟩
      · have he : Hid (opJoin false ⟨ep, re, wr, by_⟩ = (⟨ep, re + 1, wr, by_⟩, 0)) := by show _ = _; simp [opJoin, h0, h1]
        have h1' : (re == 64) = false := beq_eq_false_iff_ne.2 h1
        clear h0 h1
        go_enter Tryz.func91, Tryz.ntmps91
        go_wp2_with fail
        refine (side_any X false _).mono ?_
        rintro r w1 ⟨rfl, rfl⟩
        go_wp2
        go_ret
        rw [he.out]
        exact ⟨rfl, one_kept, fun _ => ⟨heap_setCell_same HX.out 1 _, trivial⟩⟩

set_option maxRecDepth 100000 in
set_option maxHeartbeats 1600000 in
theorem leave_op (b : Bool) (jb : Nat) (w : World) (hj : Box w jb 4 (.bool b)) : POp 93 #[.pointer (some ⟨jb, 0, none⟩)] (opLeave b) (fun k => k = jb) w (fun _ _ => True) := by
  intro W X p hck hX hnX hW
  have hjW : W.cell? ⟨jb, 0, none⟩ = some (.bool b) := cell_of_heap ((hW jb rfl).trans hj) 0
  obtain ⟨⟨_, _⟩, hre, hwr, _, _⟩ := checkP_ok hck
  obtain ⟨ep, re, wr, by_⟩ := p
  dsimp only at *
  have c1 : W.cell? ⟨X, 1, none⟩ = some (.int .i64 re) := cell_of_heap hX 1
  have c2 : W.cell? ⟨X, 2, none⟩ = some (.int .i64 wr) := cell_of_heap hX 2
  have g1 : W.frozen? ⟨X, 1, none⟩ = false := frozen_of_heap hX 1
  have g2 : W.frozen? ⟨X, 2, none⟩ = false := frozen_of_heap hX 2
  have HX := Lib.hid hX; clear hX hck hj hW
  show Calls Tryz.prog _ #[.pointer (some ⟨X, 0, none⟩), .pointer (some ⟨jb, 0, none⟩)] W _
  cases b with
  | true =>
    by_cases h0 : wr = 0
    · have he : Hid (opLeave true ⟨ep, re, wr, by_⟩ = (⟨ep, re, wr, by_⟩, 20)) := by show _ = _; simp [opLeave, h0]
      subst h0
      go_enter Tryz.func93, Tryz.ntmps93
      go_wp2_with fail
      refine (side_any X true _).mono ?_
      rintro r w1 ⟨rfl, rfl⟩
      go_wp2
      go_ret
      rw [he.out]
      exact ⟨rfl, Kept.refl _ _, fun h => by cases h⟩
    · have h0' : (wr == 0) = false := beq_eq_false_iff_ne.2 h0
      have he : Hid (opLeave true ⟨ep, re, wr, by_⟩ = (⟨ep, re, wr - 1, by_⟩, 0)) := by show _ = _; simp [opLeave, h0]
      clear h0
      go_enter Tryz.func93, Tryz.ntmps93
      go_wp2_with fail
      refine (side_any X true _).mono ?_
      rintro r w1 ⟨rfl, rfl⟩
      go_wp2
      go_ret
      rw [he.out]
      exact ⟨rfl, one_kept, fun _ => ⟨heap_setCell_same HX.out 2 _, trivial⟩⟩
  | false =>
    by_cases h0 : re = 0
    · have he : Hid (opLeave false ⟨ep, re, wr, by_⟩ = (⟨ep, re, wr, by_⟩, 20)) := by show _ = _; simp [opLeave, h0]
      subst h0
      go_enter Tryz.func93, Tryz.ntmps93
      go_wp2_with fail
      refine (side_any X false _).mono ?_
      rintro r w1 ⟨rfl, rfl⟩
      go_wp2
      go_ret
      rw [he.out]
      exact ⟨rfl, Kept.refl _ _, fun h => by cases h⟩
    · have h0' : (re == 0) = false := beq_eq_false_iff_ne.2 h0
      have he : Hid (opLeave false ⟨ep, re, wr, by_⟩ = (⟨ep, re - 1, wr, by_⟩, 0)) := by show _ = _; simp [opLeave, h0]
      clear h0
      go_enter Tryz.func93, Tryz.ntmps93
      go_wp2_with fail
      refine (side_any X false _).mono ?_
      rintro r w1 ⟨rfl, rfl⟩
      go_wp2
      go_ret
      rw [he.out]
      exact ⟨rfl, one_kept, fun _ => ⟨heap_setCell_same HX.out 1 _, trivial⟩⟩

theorem two_kept {W W2 : World} {X mb bb i : Nat} {v u : Value} (hB : Below W.heap.size W W2) : Kept (fun k => k = X ∨ k = mb ∨ k = bb) W ((W2.setCell ⟨bb, 0, none⟩ v).setCell ⟨X, i, none⟩ u).drew := by
  have h1 := ((Kept.of_below hB (fun k => k = X ∨ k = mb ∨ k = bb)).trans (Kept.of_grown (grown_setCell W2 bb 0 v) (fun k => k = X ∨ k = mb ∨ k = bb) (fun k hk => by cases hk; exact .inr (.inr rfl))) (fun _ _ h => h)).trans
    (Kept.of_grown (grown_setCell (W2.setCell ⟨bb, 0, none⟩ v) X i u) (fun k => k = X ∨ k = mb ∨ k = bb) (fun k hk => by cases hk; exact .inl rfl)) (fun _ _ h => h)
  exact ⟨h1.os, h1.tape, h1.output, h1.size, h1.block⟩
theorem two_first {W : World} {X bb i : Nat} {c : Array Value} {T : TypeId} {v u : Value} (hX : W.heap[X]? = some (.cells c T (0, 0))) (hne : X ≠ bb) : ((W.setCell ⟨bb, 0, none⟩ v).setCell ⟨X, i, none⟩ u).drew.heap[X]? = some (.cells (c.setIfInBounds i u) T (0, 0)) :=
  heap_setCell_same ((Below.heap_setCell _ _ _ _ hne).trans hX) i u
theorem two_second {W : World} {X bb i : Nat} {T : TypeId} {v0 v u : Value} (hb : W.heap[bb]? = some (.cells #[v0] T (0, 0))) (hne : bb ≠ X) : ((W.setCell ⟨bb, 0, none⟩ v).setCell ⟨X, i, none⟩ u).drew.heap[bb]? = some (.cells #[v] T (0, 0)) :=
  (Below.heap_setCell _ _ _ _ hne).trans (heap_setCell_same hb 0 v)

set_option maxRecDepth 100000 in
set_option maxHeartbeats 1600000 in
theorem read_op (most : Int) (mb bb : Nat) (w : World) (hne : mb ≠ bb) (hmb : Box w mb 3 (.int .i64 most)) (hbb : Box w bb 9 (.string ⟨#[]⟩)) (hmost : most ≤ 9223372036854775807) :
    POp 87 #[.pointer (some ⟨mb, 0, none⟩), .pointer (some ⟨bb, 0, none⟩)] (opRead most) (fun k => k = mb ∨ k = bb) w (fun p W => Box W bb 9 (.string (readB most p))) := by
  intro W X p hck hX hnX hW
  have hm : W.cell? ⟨mb, 0, none⟩ = some (.int .i64 most) := cell_of_heap ((hW mb (.inl rfl)).trans hmb) 0
  have hbW : W.heap[bb]? = some (.cells #[.string ⟨#[]⟩] 9 (0, 0)) := (hW bb (.inr rfl)).trans hbb
  have hb0 : W.cell? ⟨bb, 0, none⟩ = some (.string ⟨#[]⟩) := cell_of_heap hbW 0
  have hbf : W.frozen? ⟨bb, 0, none⟩ = false := frozen_of_heap hbW 0
  obtain ⟨_, _, hwr, _, hby⟩ := checkP_ok hck
  have hXb : X ≠ bb := fun e => hnX (.inr e)
  have hbX : bb ≠ X := Ne.symm hXb
  have hXm : X ≠ mb := fun e => hnX (.inl e)
  have hmX : mb ≠ X := Ne.symm hXm
  have hbm : bb ≠ mb := Ne.symm hne
  obtain ⟨ep, re, wr, by_⟩ := p
  dsimp only at *
  have c2 : W.cell? ⟨X, 2, none⟩ = some (.int .i64 wr) := cell_of_heap hX 2
  have c3 : W.cell? ⟨X, 3, none⟩ = some (.string by_) := cell_of_heap hX 3
  have g3 : W.frozen? ⟨X, 3, none⟩ = false := frozen_of_heap hX 3
  have HX := Lib.hid hX; clear hX hck hmb hbb hW hnX
  have HbW := Lib.hid hbW; clear hbW
  show Calls Tryz.prog _ #[.pointer (some ⟨X, 0, none⟩), .pointer (some ⟨mb, 0, none⟩), .pointer (some ⟨bb, 0, none⟩)] W _
  by_cases h1 : most < 0
  · have he : Hid (opRead most ⟨ep, re, wr, by_⟩ = (⟨ep, re, wr, by_⟩, 2)) := by show _ = _; simp [opRead, h1]
    go_enter Tryz.func87, Tryz.ntmps87
    go_wp2
    go_ret
    rw [he.out]
    exact ⟨rfl, Kept.refl _ _, fun h => by cases h⟩
  · by_cases h2 : 0 < most ∧ by_.size = 0 ∧ 0 < wr
    · have he : Hid (opRead most ⟨ep, re, wr, by_⟩ = (⟨ep, re, wr, by_⟩, 19)) := by show _ = _; simp [opRead, h1, h2]
      obtain ⟨h2, h3, h4⟩ := h2
      have h3' : by_.toList.isEmpty = true := by rw [toList_empty]; simp [h3]
      go_enter Tryz.func87, Tryz.ntmps87
      go_wp2
      go_ret
      rw [he.out]
      exact ⟨rfl, Kept.refl _ _, fun h => by cases h⟩
    · have he : Hid (opRead most ⟨ep, re, wr, by_⟩ = (⟨ep, re, wr, by_.extract (min most.toNat by_.size) by_.size⟩, 0)) := by show _ = _; simp only [opRead]; rw [if_neg h1, if_neg h2]
      obtain ⟨mn, hmn⟩ := Int.eq_ofNat_of_zero_le (by omega : 0 ≤ most)
      subst hmn
      have hways : (¬ (0 : Int) < (mn : Int)) ∨ ((0 : Int) < (mn : Int) ∧ by_.toList.isEmpty = false) ∨ ((0 : Int) < (mn : Int) ∧ by_.toList.isEmpty = true ∧ ¬ 0 < wr) := by
        by_cases ha : (0 : Int) < (mn : Int)
        · by_cases hb : by_.size = 0
          · exact .inr (.inr ⟨ha, by rw [toList_empty]; simp [hb], fun hc => h2 ⟨ha, hb, hc⟩⟩)
          · exact .inr (.inl ⟨ha, by rw [toList_empty]; simp [hb]⟩)
        · exact .inl ha
      clear h2
      have hmin2 : min (mn : Int).toNat by_.size = min mn by_.size := by simp
      have Hrb : Hid (readB (mn : Int) ⟨ep, re, wr, by_⟩ = by_.extract 0 (min mn by_.size)) := by show _ = _; unfold readB; rw [hmin2]
      rw [hmin2] at he
      clear hmin2
      rcases hways with h6 | ⟨h6, h7⟩ | ⟨h6, h7, h8⟩
      all_goals
        go_enter Tryz.func87, Tryz.ntmps87
        go_upto_region 5 with fail
        go_cut [5] (fun v wx => v = .int .i64 ((min mn by_.size : Nat) : Int) ∧ ∃ j, wx = W.drewN j)
        case first =>
          by_cases h5 : mn ≤ by_.size
          · have hmm : min mn by_.size = mn := by omega
            have Hmm := Lib.hid hmm; clear hmm
            go_quiet (fail)
            go_wp2
            all_goals
              go_meet
              rw [Hmm.out]
              exact ⟨rfl, _, rfl⟩
          · have hmm : min mn by_.size = by_.size := by omega
            have Hmm := Lib.hid hmm; clear hmm
            go_quiet (fail)
            go_wp2
            all_goals
              go_meet
              rw [Hmm.out]
              exact ⟨rfl, _, rfl⟩
        case rest =>
          obtain ⟨rfl, j, rfl⟩ := hcut
          have hm2 : (W.drewN j).cell? ⟨mb, 0, none⟩ = some (.int .i64 mn) := hm
          have hb02 : (W.drewN j).cell? ⟨bb, 0, none⟩ = some (.string ⟨#[]⟩) := hb0
          have hbf2 : (W.drewN j).frozen? ⟨bb, 0, none⟩ = false := hbf
          have c32 : (W.drewN j).cell? ⟨X, 3, none⟩ = some (.string by_) := c3
          have g32 : (W.drewN j).frozen? ⟨X, 3, none⟩ = false := g3
          have HX2 : Hid ((W.drewN j).heap[X]? = some (.cells (pCells ⟨ep, re, wr, by_⟩) 66 (0, 0))) := HX.out
          have HbW2 : Hid ((W.drewN j).heap[bb]? = some (.cells #[.string ⟨#[]⟩] 9 (0, 0))) := HbW.out
          have HBd : Hid (Below W.heap.size W (W.drewN j)) := below_drewN (Below.refl _ _) _
          clear hm hb0 hbf c3 g3 HX HbW c2
          have hlen : min mn by_.size ≤ by_.size := Nat.min_le_right _ _
          generalize hM : min mn by_.size = M at *
          generalize W.drewN j = W2 at *
          go_wp2
          go_region
          go_wp2
          go_ret
          rw [he.out]
          exact ⟨rfl, two_kept HBd.out, fun _ => ⟨two_first HX2.out hXb, (two_second HbW2.out hbX).trans (by rw [Hrb.out])⟩⟩

end Go.Proofs.YtemmeopaihmlcaaGreatDoor
