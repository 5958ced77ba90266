/- view: Get, Set, Mark. A view behind an operation: where it lies, and which blocks may have been written. -/
import Derived.Test.YtfchfjipkggnkaaGreatDoorViewB
namespace Go.Proofs.YtfchfjipkggnkaaGreatDoor
open Go.RowKit
attribute [local go_sem ↓] Go.wp_at_zero Go.wp_at_succ


/-- The last call for a name. -/
def lastCall : List ChangeT → NameT → Option ChangeT
  | [], _ => none
  | c :: cs, n => match lastCall cs n with
    | some d => some d
    | none => if c.name = n then some c else none

theorem aGet_aSet {α : Type} (l : List (NameT × α)) (m n : NameT) (x : α) : aGet (aSet l m x) n = if n = m then some x else aGet l n := by
  induction l with
  | nil => simp [aSet, aGet]
  | cons p r ih =>
    simp only [aSet]
    by_cases h : m = p.1
    · rw [if_pos h]
      simp only [aGet]
      by_cases h2 : n = m
      · simp [h2]
      · rw [if_neg h2, if_neg h2, if_neg (fun e => h2 (e.trans h.symm))]
    · rw [if_neg h]
      simp only [aGet, ih]
      by_cases h2 : n = p.1
      · rw [if_pos h2, if_pos h2, if_neg (fun e => h (e.symm.trans h2))]
      · rw [if_neg h2, if_neg h2]
theorem lastCall_snoc (cs : List ChangeT) (c : ChangeT) (n : NameT) : lastCall (cs ++ [c]) n = if n = c.name then some c else lastCall cs n := by
  induction cs with
  | nil => simp [lastCall, eq_comm]
  | cons d cs ih =>
    simp only [List.cons_append, lastCall, ih]
    by_cases h : n = c.name <;> simp [h]
theorem last_is (cs : List ChangeT) (n : NameT) : (∀ i, aGet (lastOf cs) n = some i → i < cs.length ∧ cs[i]? = lastCall cs n ∧ (lastCall cs n).isSome) ∧ (aGet (lastOf cs) n = none → lastCall cs n = none) := by
  have key : ∀ (r : List ChangeT), (∀ i, aGet (lastOf r.reverse) n = some i → i < r.length ∧ r.reverse[i]? = lastCall r.reverse n ∧ (lastCall r.reverse n).isSome) ∧ (aGet (lastOf r.reverse) n = none → lastCall r.reverse n = none) := by
    intro r
    induction r with
    | nil => simp [lastOf, lastFrom, aGet, lastCall]
    | cons c r ih =>
      simp only [List.reverse_cons]
      rw [lastOf_snoc, lastCall_snoc]
      simp only [aGet_aSet]
      by_cases h : n = c.name
      · simp [h]
      · simp only [h, if_false]
        refine ⟨fun i hi => ?_, ih.2⟩
        obtain ⟨h1, h2, h3⟩ := ih.1 i hi
        refine ⟨by simp; omega, ?_, h3⟩
        rw [List.getElem?_append_left (by simpa using h1)]
        exact h2
  have := key cs.reverse
  simpa using this

theorem flat_get (cs : List ChangeT) (i j : Nat) (c : ChangeT) (hc : cs[i]? = some c) (hj : j < 7) {u : Value} (hu : (changeCells c)[j]? = some u) : (cs.flatMap changeCells)[i * 7 + j]? = some u := by
  induction cs generalizing i with
  | nil => simp at hc
  | cons d cs ih =>
    simp only [List.flatMap_cons]
    have hl : (changeCells d).length = 7 := rfl
    cases i with
    | zero =>
      simp at hc
      subst hc
      rw [List.getElem?_append_left (by rw [hl]; omega)]
      simpa using hu
    | succ i =>
      rw [List.getElem?_append_right (by rw [hl]; omega), hl]
      have := ih i (by simpa using hc)
      rw [show (i + 1) * 7 + j - 7 = i * 7 + j by omega]
      exact this

/-- What Get answers, and the view afterwards. -/
def avGet (V : AV) (n : NameT) : ByteArray × Bool := match lastCall V.calls n with
  | some c => (c.value, !c.absent)
  | none => ((V.base n).getD ⟨#[]⟩, (V.base n).isSome)
def avSeen (V : AV) (n : NameT) : AV := match lastCall V.calls n with
  | some _ => V
  | none => ⟨V.base, aSet V.reads n ⟨n, (V.base n).getD ⟨#[]⟩, (V.base n).isNone⟩, V.calls⟩

theorem VPost.refl_later {h : VH} {V : AV} {w w' : World} (hv : ViewAt w h V) (hb : Below w.heap.size w w') : VPost h w V w' :=
  ⟨h, hv.later hb, rfl, rfl, rfl, rfl, rfl, Kept.of_below hb _, fun _ hk => .inl hk⟩
theorem VPost.after {h : VH} {V : AV} {w w1 w2 : World} (hb : Below w.heap.size w w1) (hp : VPost h w1 V w2) : VPost h w V w2 := by
  obtain ⟨h', h1, h2, h3, h4, h5, h6, h7, h8⟩ := hp
  exact ⟨h', h1, h2, h3, h4, h5, h6, (Kept.of_below hb _).trans h7 (fun _ _ hs => hs), fun k hk => (h8 k hk).imp id (fun h => Nat.le_trans hb.size h)⟩

set_option maxRecDepth 100000 in
set_option maxHeartbeats 3200000 in
theorem vGet_any (h : VH) (V : AV) (n : NameT) (w : World) (hv : ViewAt w h V) (hn : NameOk n) :
    Calls Tryz.prog 28 #[.pointer (some ⟨h.b, 0, none⟩), nameV n] w fun r w' => r = .returned (.tuple #[.string (avGet V n).1, .bool (avGet V n).2]) ∧ VPost h w (avSeen V n) w' := by
  obtain ⟨b, rm, lm, cv, sp, bs⟩ := h
  have hlt : b < w.heap.size := lt_of_heap hv.heap
  have c0 : w.cell? ⟨b, 0, none⟩ = some (.pointer (some ⟨sp, 0, none⟩)) := cell_of_heap hv.heap 0
  have c3 : w.cell? ⟨b, 3, none⟩ = some (.map (some lm)) := cell_of_heap hv.heap 3
  have c2 : w.cell? ⟨b, 2, none⟩ = some cv := cell_of_heap hv.heap 2
  have hne := World.new_ne w ⟨b, 3, none⟩ c3
  obtain ⟨av, cap, hcv, hform⟩ := row_form hv.calls
  dsimp only at hcv
  subst hcv
  have Hv := Lib.hid hv; clear hv
  have Hn := Lib.hid hn; clear hn
  have Hform := Lib.hid hform; clear hform
  obtain ⟨nk, no, nn, ni, nt⟩ := n
  dsimp only [nameV] at *
  generalize hN : V.calls.length = N at *
  have HN := Lib.hid hN; clear hN
  go_enter Tryz.func28, Tryz.ntmps28
  go_wp2_with fail
  refine (Hn.out.2 _ (Hv.out.usages.below ((Below.refl _ _).alloc (Nat.le_refl _) _) Hv.out.usages.pos)).mono ?_
  rintro e w1 ⟨rfl, hb1⟩
  have hb1' : Below w.heap.size w w1 := ((Below.refl _ _).alloc (Nat.le_refl _) _).trans (hb1.mono (by simp))
  have hsz1 : w.heap.size < w1.heap.size := by have := hb1.size; simp at this; omega
  have q : ∀ j, w1.cell? ⟨w.heap.size, j, none⟩ = (#[.int .i64 nk, .string no, .int .i64 nn, .int .i64 ni, .string nt] : Array Value)[j]? := fun j => ((bcell hb1).1 _ _ (by simp)).trans (cell_of_heap (World.alloc_heap_new w _) j)
  have q0 := q 0
  have q1 := q 1
  have q2 := q 2
  have q3 := q 3
  have q4 := q 4
  have d0 : w1.cell? ⟨b, 0, none⟩ = some (.pointer (some ⟨sp, 0, none⟩)) := ((bcell hb1').1 _ _ hlt).trans c0
  have d2 : w1.cell? ⟨b, 2, none⟩ = some (.slice av N cap) := ((bcell hb1').1 _ _ hlt).trans c2
  have d3 : w1.cell? ⟨b, 3, none⟩ = some (.map (some lm)) := ((bcell hb1').1 _ _ hlt).trans c3
  clear q
  have Hb1 := Lib.hid hb1'; clear hb1 hb1'
  dsimp at q0 q1 q2 q3 q4
  have hlook : ∀ m, (Instr.lookup 76 (.map (some lm)) (.agg #[.int .i64 nk, .string no, .int .i64 nn, .int .i64 ni, .string nt]) true).run Tryz.prog (w1.drewN m) = .ok (.tuple #[((aGet (lastOf V.calls) ⟨nk, no, nn, ni, nt⟩).map idxV).getD (.int .i64 0), .bool (aGet (lastOf V.calls) ⟨nk, no, nn, ni, nt⟩).isSome]) (w1.drewN m) := fun m =>
    run_lookup_name idxV (w1.drewN m) 76 3 Tryz.underlying76 (.int .i64 0) (by kernel_rfl) lm (lastOf V.calls) (Hv.out.last.kept (Hb1.out.block lm Hv.out.last.lt)) ⟨nk, no, nn, ni, nt⟩
  have hli := last_is V.calls ⟨nk, no, nn, ni, nt⟩
  cases hag : aGet (lastOf V.calls) ⟨nk, no, nn, ni, nt⟩ with
  | some i =>
    rw [hag] at hlook
    obtain ⟨hi, hci, hsome⟩ := hli.1 i hag
    dsimp [idxV] at hlook
    clear hli hag
    have Hci := Lib.hid hci; clear hci
    have Hsome := Lib.hid hsome; clear hsome
    have Hi := Lib.hid hi; clear hi
    rcases Hform.out with rfl | ⟨g, rfl⟩
    · exfalso
      have h0 := Hv.out.calls.2
      have := Hi.out
      rcases h0 with ⟨h0, _⟩ | ⟨g, cap', cur, h0, _⟩
      · cases h0; have := HN.out; omega
      · cases h0
    · obtain ⟨c, hc⟩ := Option.isSome_iff_exists.1 Hsome.out
      have hci : V.calls[i]? = some c := Hci.out.trans hc
      have hrow := Hv.out.later Hb1.out |>.calls
      have hcell := fun j u h => World.ownsRow.cells hrow (g := g) rfl j u h
      have e5 : w1.cell? ⟨g, i * 7 + 5, none⟩ = some (.string c.value) := by
        have := hcell (i * 7 + 5) (.string c.value) (flat_get V.calls i 5 c hci (by decide) rfl)
        simpa [Addr.add] using this
      have e6 : w1.cell? ⟨g, i * 7 + 6, none⟩ = some (.bool c.absent) := by
        have := hcell (i * 7 + 6) (.bool c.absent) (flat_get V.calls i 6 c hci (by decide) rfl)
        simpa [Addr.add] using this
      have hi0 : (0 : Int) ≤ (i : Int) := Int.natCast_nonneg _
      have hi1 : (i : Int) < (N : Int) := by have := Hi.out; have := HN.out; omega
      clear hcell hrow
      have Hcc := Lib.hid hc; clear hc
      have Hcci := Lib.hid hci; clear hci
      go_wp2
      go_quiet (fail)
      go_wp2
      go_quiet (fail)
      go_wp2
      go_ret2
      have eg : avGet V ⟨nk, no, nn, ni, nt⟩ = (c.value, !c.absent) := by simp [avGet, Hcc.out]
      have es : avSeen V ⟨nk, no, nn, ni, nt⟩ = V := by simp [avSeen, Hcc.out]
      rw [eg, es]
      exact ⟨rfl, VPost.refl_later Hv.out (below_drewN (below_drewN Hb1.out _) _)⟩
  | none =>
    rw [hag] at hlook
    have hnone := hli.2 hag
    dsimp at hlook
    clear hli hag
    have Hnone := Lib.hid hnone; clear hnone
    go_wp2
    go_quiet (fail)
    go_wp2
    have HbW : Hid (Below w.heap.size w (w1.drewN nq)) := below_drewN Hb1.out _
    have p0 : (w1.drewN nq).cell? ⟨w.heap.size, 0, none⟩ = some (.int .i64 nk) := q0
    have p1 : (w1.drewN nq).cell? ⟨w.heap.size, 1, none⟩ = some (.string no) := q1
    have p2 : (w1.drewN nq).cell? ⟨w.heap.size, 2, none⟩ = some (.int .i64 nn) := q2
    have p3 : (w1.drewN nq).cell? ⟨w.heap.size, 3, none⟩ = some (.int .i64 ni) := q3
    have p4 : (w1.drewN nq).cell? ⟨w.heap.size, 4, none⟩ = some (.string nt) := q4
    have r0 : (w1.drewN nq).cell? ⟨b, 0, none⟩ = some (.pointer (some ⟨sp, 0, none⟩)) := d0
    have hszW : w.heap.size < (w1.drewN nq).heap.size := hsz1
    clear q0 q1 q2 q3 q4 d0 d2 d3 hlook Hb1
    generalize w1.drewN nq = W at *
    clear hsz1
    clear w1
    go_region_held3 (fun w' => w'.cell? ⟨b, 0, none⟩ = some (.pointer (some ⟨sp, 0, none⟩)) ∧ w'.cell? ⟨w.heap.size, 0, none⟩ = some (.int .i64 nk) ∧ w'.cell? ⟨w.heap.size, 1, none⟩ = some (.string no) ∧ w'.cell? ⟨w.heap.size, 2, none⟩ = some (.int .i64 nn) ∧ w'.cell? ⟨w.heap.size, 3, none⟩ = some (.int .i64 ni) ∧ w'.cell? ⟨w.heap.size, 4, none⟩ = some (.string nt))
      (first | go_keep | (go_split_ands; refine ⟨?_, ?_, ?_, ?_, ?_, ?_⟩ <;> (rw [(bcell hb2).1 _ _ (by simp <;> omega)]; go_keep)))
      (first | (go_at_call 53; refine ((Hv.out.base.later (Below.drew (HbW.out.mono Hv.out.top))).get Hn.out.1).mono ?_; rintro e w2 ⟨rfl, hb2⟩))
    have HbX : Hid (Below w.heap.size w w2) := (Below.drew HbW.out).trans (hb2.mono (Nat.le_of_lt hszW))
    have hszX : w.heap.size < w2.heap.size := Nat.lt_of_lt_of_le hszW hb2.size
    have t0 : w2.cell? ⟨w.heap.size, 0, none⟩ = some (.int .i64 nk) := ((bcell hb2).1 _ _ hszW).trans p0
    have t1 : w2.cell? ⟨w.heap.size, 1, none⟩ = some (.string no) := ((bcell hb2).1 _ _ hszW).trans p1
    have t2 : w2.cell? ⟨w.heap.size, 2, none⟩ = some (.int .i64 nn) := ((bcell hb2).1 _ _ hszW).trans p2
    have t3 : w2.cell? ⟨w.heap.size, 3, none⟩ = some (.int .i64 ni) := ((bcell hb2).1 _ _ hszW).trans p3
    have t4 : w2.cell? ⟨w.heap.size, 4, none⟩ = some (.string nt) := ((bcell hb2).1 _ _ hszW).trans p4
    clear hb2 p0 p1 p2 p3 p4 r0 hszW HbW
    go_wp2_with fail
    refine (vRead_any ⟨b, rm, lm, .slice av N cap, sp, bs⟩ V ⟨⟨nk, no, nn, ni, nt⟩, (V.base ⟨nk, no, nn, ni, nt⟩).getD ⟨#[]⟩, (V.base ⟨nk, no, nn, ni, nt⟩).isNone⟩ w2 (Hv.out.later HbX.out) Hn.out.1).mono ?_
    rintro e w3 ⟨rfl, hp⟩
    have Hp := Lib.hid hp; clear hp
    go_wp2
    go_ret2
    have eg : avGet V ⟨nk, no, nn, ni, nt⟩ = ((V.base ⟨nk, no, nn, ni, nt⟩).getD ⟨#[]⟩, (V.base ⟨nk, no, nn, ni, nt⟩).isSome) := by simp [avGet, Hnone.out]
    have es : avSeen V ⟨nk, no, nn, ni, nt⟩ = ⟨V.base, aSet V.reads ⟨nk, no, nn, ni, nt⟩ ⟨⟨nk, no, nn, ni, nt⟩, (V.base ⟨nk, no, nn, ni, nt⟩).getD ⟨#[]⟩, (V.base ⟨nk, no, nn, ni, nt⟩).isNone⟩, V.calls⟩ := by simp [avSeen, Hnone.out]
    rw [eg, es]
    exact ⟨rfl, VPost.after HbX.out Hp.out⟩

set_option maxRecDepth 100000 in
set_option maxHeartbeats 3200000 in
theorem vSet_any (h : VH) (V : AV) (n : NameT) (s : ByteArray) (w : World) (hv : ViewAt w h V) (hn : NameOk n) (hs : s.size ≤ 65536) (hlen : V.calls.length < 1000000) :
    Calls Tryz.prog 62 #[.pointer (some ⟨h.b, 0, none⟩), nameV n, .string s] w fun r w' => r = .returned (.int .i64 0) ∧ VPost h w ⟨V.base, V.reads, V.calls ++ [⟨n, s, false⟩]⟩ w' := by
  have Hv := Lib.hid hv; clear hv
  have Hn := Lib.hid hn; clear hn
  have Hlen := Lib.hid hlen; clear hlen
  have hs' : ¬ (65536 < (s.size : Int)) := by omega
  have Hs := Lib.hid hs; clear hs
  obtain ⟨nk, no, nn, ni, nt⟩ := n
  dsimp only [nameV] at *
  go_enter Tryz.func62, Tryz.ntmps62
  go_wp2_with fail
  refine (Hn.out.2 _ (Hv.out.usages.below ((Below.refl _ _).alloc (Nat.le_refl _) _) Hv.out.usages.pos)).mono ?_
  rintro e w1 ⟨rfl, hb1⟩
  have hb1' : Below w.heap.size w w1 := ((Below.refl _ _).alloc (Nat.le_refl _) _).trans (hb1.mono (by simp))
  have q : ∀ j, w1.cell? ⟨w.heap.size, j, none⟩ = (#[.int .i64 nk, .string no, .int .i64 nn, .int .i64 ni, .string nt] : Array Value)[j]? := fun j => ((bcell hb1).1 _ _ (by simp)).trans (cell_of_heap (World.alloc_heap_new w _) j)
  have q0 := q 0
  have q1 := q 1
  have q2 := q 2
  have q3 := q 3
  have q4 := q 4
  clear q hb1
  dsimp at q0 q1 q2 q3 q4
  have Hb1 := Lib.hid hb1'; clear hb1'
  go_wp2_with fail
  refine (vCall_any h V ⟨⟨nk, no, nn, ni, nt⟩, s, false⟩ w1 (Hv.out.later Hb1.out) Hlen.out ⟨Hn.out, Hs.out⟩).mono ?_
  rintro e w2 ⟨rfl, hp⟩
  have Hp := Lib.hid hp; clear hp
  go_wp2
  go_ret
  exact ⟨rfl, VPost.after Hb1.out Hp.out⟩

end Go.Proofs.YtfchfjipkggnkaaGreatDoor

namespace Go.Proofs.YtfchfjipkggnkaaGreatDoor
open Go.RowKit

/-- The view lies at h' in w'; only its own blocks and those of ex have been written. -/
structure VQ (h : VH) (ex : Nat → Prop) (w : World) (V : AV) (w' : World) (h' : VH) : Prop where
  at_ : ViewAt w' h' V
  b : h'.b = h.b
  bs : h'.bs = h.bs
  sp : h'.sp = h.sp
  kept : Kept (fun k => h.fp k ∨ ex k) w w'
  fp : ∀ k, h'.fp k → h.fp k ∨ w.heap.size ≤ k
theorem VPost.vq {h : VH} {w : World} {V : AV} {w' : World} (p : VPost h w V w') : ∃ h', VQ h (fun _ => False) w V w' h' := by
  obtain ⟨h', a1, a2, a3, a4, a5, a6, a7, a8⟩ := p
  exact ⟨h', a1, a2, a5, a6, a7.mono (fun _ _ h => .inl h), a8⟩
section
variable {h h' h1 : VH} {ex ex' S : Nat → Prop} {w w1 w2 : World} {V V1 V2 : AV}
theorem VQ.refl (v : ViewAt w h V) : VQ h ex w V w h := ⟨v, rfl, rfl, rfl, Kept.refl _ _, fun _ hk => .inl hk⟩
theorem VQ.mono (p : VQ h ex w V w1 h') (hx : ∀ k, ex k → ex' k) : VQ h ex' w V w1 h' := ⟨p.at_, p.b, p.bs, p.sp, p.kept.mono (fun k _ h => h.imp id (hx k)), p.fp⟩
theorem VQ.later (p : VQ h ex w V w1 h') (hb : Below w1.heap.size w1 w2) : VQ h ex w V w2 h' :=
  ⟨p.at_.later hb, p.b, p.bs, p.sp, p.kept.trans (Kept.of_below hb _) (fun _ _ hs => hs), p.fp⟩
theorem VQ.after (hb : Below w.heap.size w w1) (p : VQ h ex w1 V w2 h') : VQ h ex w V w2 h' :=
  ⟨p.at_, p.b, p.bs, p.sp, (Kept.of_below hb _).trans p.kept (fun _ _ hs => hs), fun k hk => (p.fp k hk).imp id (fun h => Nat.le_trans hb.size h)⟩
theorem VQ.trans (p : VQ h ex w V1 w1 h1) (q : VQ h1 (fun _ => False) w1 V2 w2 h') : VQ h ex w V2 w2 h' := by
  refine ⟨q.at_, q.b.trans p.b, q.bs.trans p.bs, q.sp.trans p.sp, p.kept.trans q.kept (fun i hi hs => ?_), fun k hk => ?_⟩
  · rcases hs with hs | hs
    · rcases p.fp i hs with h | h
      · exact .inl h
      · omega
    · exact hs.elim
  · rcases q.fp k hk with h | h
    · exact p.fp k h
    · exact .inr (Nat.le_trans p.kept.size h)
/-- Stores into blocks that the view does not have. -/
theorem VQ.stores (p : VQ h ex w V w1 h') (hk : Kept S w1 w2) (hS : ∀ k, k < w1.heap.size → S k → (w.heap.size ≤ k ∨ ex k) ∧ ¬ h'.fp k ∧ h.bs ≤ k) : VQ h ex w V w2 h' := by
  have htop : h'.bs ≤ w1.heap.size := p.at_.top
  refine ⟨p.at_.kept ?_ (fun k hf => hk.block k (p.at_.fp_lt hf) (fun hs => (hS k (p.at_.fp_lt hf) hs).2.1 hf)), p.b, p.bs, p.sp, p.kept.trans hk (fun i hi hs => ?_), p.fp⟩
  · refine ⟨hk.os, hk.tape, hk.output, hk.size, fun k hkk => hk.block k (Nat.lt_of_lt_of_le hkk htop) (fun hs => ?_)⟩
    have := (hS k (Nat.lt_of_lt_of_le hkk htop) hs).2.2
    rw [p.bs] at hkk
    omega
  · rcases (hS i (Nat.lt_of_lt_of_le hi p.kept.size) hs).1 with h | h
    · omega
    · exact .inr h
end

end Go.Proofs.YtfchfjipkggnkaaGreatDoor
