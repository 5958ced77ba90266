/- signal, upon a view whose value is known: change, Exec, SetHandler, SetIgnored, SetBlocked. signal, upon a view whose value is known: Send, Take, Waiting. -/
import Derived.Test.YtpieaakdddgdeaaGreatDoorSgmP
import Derived.BigRegion
import Derived.Deep.QuietTactic
import Derived.BigQuiet
namespace Go.Proofs.YtpieaakdddgdeaaGreatDoor
open Go.RowKit
attribute [local go_sem ↓] Go.wp_at_zero Go.wp_at_succ

/-- What a closure leaves, as change hands it the record. -/
def ROp (f : Nat) (caps : Array Value) (op : RecT → RecT) (ex : Nat → Prop) (w : World) : Prop :=
  ∀ (W : World) (X : Nat) (r : RecT), checkR r = 0 → W.heap[X]? = some (.cells (rCells r) 30 (0, 0)) → ¬ ex X → (∀ k, ex k → W.heap[k]? = w.heap[k]?) →
    Calls Tryz.prog f (#[.pointer (some ⟨X, 0, none⟩)] ++ caps) W fun e W' => e = .returned (.tuple #[]) ∧ Kept (fun k => k = X) W W' ∧ W'.heap[X]? = some (.cells (rCells (op r)) 30 (0, 0))
theorem callFunc_inR {P : Program} {f : FuncId} {fn : Func} (hf : P.funcs[f]? = some fn) (hname : (fn.name == "runtime.NumGoroutine") = false) (hb : fn.body.isNone = false) (args : Array Value) (w : World) : (callFunc f args).run P w = .ok (.enter f args) w := by
  have h1 : fn.name ≠ "runtime.NumGoroutine" := by simpa using hname
  have h2 : fn.body ≠ none := fun e => by rw [e] at hb; cases hb
  simp [callFunc, hf, h1, h2]
theorem sGet_check {V : AV} {m : ByteArray} {r : RecT} (h : sGet V m = (r, 0)) : checkR r = 0 := by
  unfold sGet sGetV at h
  split at h
  · cases h
  · exact (decR_canon h).1

section
variable {w0 w : World} {b M : Nat} {V : AV} {G : Nat → Prop}
set_option maxRecDepth 100000 in
set_option maxHeartbeats 1600000 in
theorem qmSChange (s : QM w0 w b M V G) {m : ByteArray} (hm : NmOk m) (hN : V.calls.length < 1000000) (f : Nat) (caps : Array Value) (op : RecT → RecT) (hop : ROp f caps op G w) (hcf : ∀ args W, (callFunc f args).run Tryz.prog W = .ok (.enter f args) W) :
    Calls Tryz.prog 124 #[.pointer (some ⟨b, 0, none⟩), .string m, .func (.func f) #[] caps] w (QMP w0 b M (sChange op V m).1 G w (.int .i64 (sChange op V m).2)) := by
  have HN : Hid ((sSeen V m).calls.length < 1000000) := by show _ < _; rw [sSeen_calls]; exact hN
  have Hg : Hid (sChange op V m = if (sGet V m).2 = 0 then sPut (sSeen V m) m (op (sGet V m).1) else (sSeen V m, (sGet V m).2)) := (rfl : sChange op V m = if (sGet V m).2 = 0 then sPut (sSeen V m) m (op (sGet V m).1) else (sSeen V m, (sGet V m).2))
  have Q0 := Lib.hid (s.qi0 (Below.refl w.heap.size w))
  have Hop := Lib.hid hop
  clear hN s hop
  obtain ⟨⟨⟨p, bl, i, h0, h1, h2, h3, h4, h5, h6, h7⟩, q⟩, hd⟩ : ∃ d, sGet V m = d := ⟨_, rfl⟩
  rw [hd] at Hg
  have Hd := Lib.hid hd
  clear hd
  go_enter Tryz.func124, Tryz.ntmps124
  go_wp2_with fail
  refine (qmSGet' Q0.out.s hm Hd.out).mono ?_
  rintro r w3 ⟨rfl, s3, hk3⟩
  have Q3 := Lib.hid (Q0.out.step s3 hk3)
  clear s3 hk3 Q0
  dsimp only [recV, rCells] at *
  have HX3 : Hid (∀ o', (w3.alloc o').heap[w3.heap.size]? = some o') := fun o' => heap_alloc_new w3 o'
  have Q3' : Hid (∀ o', QM w0 (w3.alloc o') b M (sSeen V m) (fun k => G k ∨ k = w3.heap.size)) := fun o' => Q3.out.s.fresh ((Below.refl _ _).alloc (Nat.le_refl _) _) (fun k hk => hk.imp .inl (fun h => by subst h; simp))
  have HG3 : Hid (∀ o', ∀ k, G k → (w3.alloc o').heap[k]? = w.heap[k]?) := fun o' k hk => (Below.heap_alloc _ _ _ (Q3.out.s.glt (.inl hk))).trans (Q3.out.g k hk)
  have HGX : Hid (∀ k, G k → k ≠ w3.heap.size) := fun k hk e => by have := Q3.out.s.glt (k := k) (.inl hk); omega
  by_cases hq : q = 0
  · subst hq
    have he := Lib.hid (Hg.out.trans (if_pos rfl))
    have hcall := Hop.out _ w3.heap.size ⟨p, bl, i, h0, h1, h2, h3, h4, h5, h6, h7⟩ (sGet_check Hd.out) (HX3.out _) (fun h => HGX.out _ h rfl) (HG3.out _)
    have Hcall := Lib.hid hcall
    clear hcall Hop Hd Hg
    go_wp2_with fail
    refine Hcall.out.mono ?_
    rintro r w4 ⟨rfl, hk4, hX4⟩
    have S4 : Hid (QM w0 w4 b M (sSeen V m) G) := (Q3'.out _).guarded (hk4.mono (fun k _ h => .inr h)) (fun k hk => .inl (.inl hk))
    have HG4 : Hid (∀ k, G k → w4.heap[k]? = w.heap[k]?) := fun k hk => (hk4.block k ((Q3'.out _).glt (.inl hk)) (HGX.out k hk)).trans (HG3.out _ k hk)
    clear hk4 Hcall Q3' HG3 HX3 Q3
    generalize op ⟨p, bl, i, h0, h1, h2, h3, h4, h5, h6, h7⟩ = r' at *
    obtain ⟨p', bl', i', h0', h1', h2', h3', h4', h5', h6', h7'⟩ := r'
    obtain ⟨c0, c1, c2, c3, c4, c5, c6, c7, c8, c9, c10⟩ := at11 hX4
    dsimp only at c0 c1 c2 c3 c4 c5 c6 c7 c8 c9 c10
    clear hX4
    go_wp2_with fail
    refine (qmSPut S4.out hm HN.out p' bl' i' h0' h1' h2' h3' h4' h5' h6' h7').mono ?_
    rintro r w6 ⟨rfl, s6, hk6⟩
    have S6 := Lib.hid s6; clear s6
    have HG6 : Hid (∀ k, G k → w6.heap[k]? = w.heap[k]?) := fun k hk => (hk6 k hk).trans (HG4.out k hk)
    clear hk6 c0 c1 c2 c3 c4 c5 c6 c7 c8 c9 c10
    generalize sPut (sSeen V m) m ⟨p', bl', i', h0', h1', h2', h3', h4', h5', h6', h7'⟩ = pp at *
    go_wp2
    go_ret
    rw [he.out]
    exact ⟨rfl, S6.out, HG6.out⟩
  · have he := Lib.hid (Hg.out.trans (if_neg hq))
    have hq' : ((q : Int) != 0) = true := bne_iff_ne.2 (by omega)
    clear hq
    go_wp2
    go_ret
    rw [he.out]
    exact ⟨rfl, (Q3'.out _).fresh (Below.refl _ _) (fun k hk => .inl (.inl hk)), HG3.out _⟩

end
theorem ROp.mono {f : Nat} {caps : Array Value} {op : RecT → RecT} {ex ex' : Nat → Prop} {w : World} (h : ROp f caps op ex w) (hx : ∀ k, ex k → ex' k) : ROp f caps op ex' w :=
  fun W X r h1 h2 h3 h4 => h W X r h1 h2 (fun e => h3 (hx _ e)) (fun k hk => h4 k (hx k hk))
/-- In the midst of a closure: the record's block at X alone has been written. -/
structure CI (W W' : World) (X : Nat) (r : RecT) : Prop where
  k : Kept (fun k => k = X) W W'
  x : W'.heap[X]? = some (.cells (rCells r) 30 (0, 0))
section
variable {W W' : World} {X : Nat} {r r' : RecT}
theorem CI.start (h : W.heap[X]? = some (.cells (rCells r) 30 (0, 0))) : CI W W X r := ⟨Kept.refl _ _, h⟩
theorem CI.set (h : CI W W' X r) (i : Nat) (v : Value) (he : (rCells r).setIfInBounds i v = rCells r') : CI W (W'.setCell ⟨X, i, none⟩ v) X r' :=
  ⟨h.k.trans (Kept.of_grown (grown_setCell W' X i v) _ (fun k hk => by cases hk; rfl)) (fun _ _ h => h), by rw [← he]; exact heap_setCell_same h.x i v⟩
theorem CI.drew (h : CI W W' X r) : CI W W'.drew X r := ⟨⟨h.k.os, h.k.tape, h.k.output, h.k.size, h.k.block⟩, h.x⟩
theorem CI.box (h : CI W W' X r) {B : Nat} {v : Value} {T : TypeId} (hB : W.heap[B]? = some (.cells #[v] T (0, 0))) (hne : B ≠ X) : W'.cell? ⟨B, 0, none⟩ = some v := cell_of_heap ((h.k.block B (lt_of_heap hB) hne).trans hB) 0
end
theorem setH_i (r : RecT) (n : Nat) (a : Int) : (r.setH n a).i = r.i ∧ (r.setH n a).p = r.p := by
  unfold RecT.setH
  split <;> exact ⟨rfl, rfl⟩

set_option maxRecDepth 100000 in
set_option maxHeartbeats 1600000 in
theorem exec_op (ex : Nat → Prop) (w : World) : ROp 125 #[] opExec ex w := by
  intro W X r _ hX _ _
  obtain ⟨p, bl, i, h0, h1, h2, h3, h4, h5, h6, h7⟩ := r
  obtain ⟨c0, c1, c2, c3, c4, c5, c6, c7, c8, c9, c10⟩ := at11 hX
  obtain ⟨g0, g1, g2, g3, g4, g5, g6, g7, g8, g9, g10⟩ := free11 hX
  dsimp only at c0 c1 c2 c3 c4 c5 c6 c7 c8 c9 c10
  have C0 := Lib.hid (CI.start hX)
  clear hX
  show Calls Tryz.prog _ #[.pointer (some ⟨X, 0, none⟩)] W _
  go_enter Tryz.func125, Tryz.ntmps125
  go_wp2
  go_end0
  have C1 := (((((((C0.out.set 3 (.int .i64 0) (r' := ⟨p, bl, i, 0, h1, h2, h3, h4, h5, h6, h7⟩) rfl).set 4 (.int .i64 0) (r' := ⟨p, bl, i, 0, 0, h2, h3, h4, h5, h6, h7⟩) rfl).set 5 (.int .i64 0) (r' := ⟨p, bl, i, 0, 0, 0, h3, h4, h5, h6, h7⟩) rfl).set 6 (.int .i64 0) (r' := ⟨p, bl, i, 0, 0, 0, 0, h4, h5, h6, h7⟩) rfl).set 7 (.int .i64 0) (r' := ⟨p, bl, i, 0, 0, 0, 0, 0, h5, h6, h7⟩) rfl).set 8 (.int .i64 0) (r' := ⟨p, bl, i, 0, 0, 0, 0, 0, 0, h6, h7⟩) rfl).set 9 (.int .i64 0) (r' := ⟨p, bl, i, 0, 0, 0, 0, 0, 0, 0, h7⟩) rfl).set 10 (.int .i64 0) (r' := ⟨p, bl, i, 0, 0, 0, 0, 0, 0, 0, 0⟩) rfl
  exact ⟨rfl, C1.k, C1.x⟩

set_option maxRecDepth 100000 in
set_option maxHeartbeats 1600000 in
theorem handler_op (w : World) (Ab Sb : Nat) (n : Nat) (a : Int) (hn : n < 8) (hA : w.heap[Ab]? = some (.cells #[.int .i64 a] 3 (0, 0))) (hS : w.heap[Sb]? = some (.cells #[.int .i64 n] 3 (0, 0))) :
    ROp 127 #[.pointer (some ⟨Ab, 0, none⟩), .pointer (some ⟨Sb, 0, none⟩)] (opHandler n a) (fun k => k = Ab ∨ k = Sb) w := by
  intro W X r _ hX hnX hex
  have hAX : Ab ≠ X := fun e => hnX (.inl e.symm)
  have hSX : Sb ≠ X := fun e => hnX (.inr e.symm)
  have HA := Lib.hid ((hex Ab (.inl rfl)).trans hA)
  have HS := Lib.hid ((hex Sb (.inr rfl)).trans hS)
  have a0 : W.cell? ⟨Ab, 0, none⟩ = some (.int .i64 a) := cell_of_heap HA.out 0
  have s0 : W.cell? ⟨Sb, 0, none⟩ = some (.int .i64 n) := cell_of_heap HS.out 0
  have dk : W.cell? ⟨X, 3 + n, none⟩ = some (.int .i64 (r.hs.getD n 0)) := (cell_of_heap hX (3 + n)).trans (rCells_at r n hn)
  have fk : W.frozen? ⟨X, 3 + n, none⟩ = false := frozen_of_heap hX _
  have C0 := Lib.hid (CI.start hX)
  have C1 := Lib.hid ((C0.out.set (3 + n) (.int .i64 a) (setH_cells r n hn a)).drew)
  have he : Hid (opHandler n a r = { (r.setH n a) with i := andnP (r.setH n a).i n }) := by show _ = _; unfold opHandler; rw [(setH_i r n a).1]
  clear hX hnX hex hA hS C0
  show Calls Tryz.prog _ #[.pointer (some ⟨X, 0, none⟩), .pointer (some ⟨Ab, 0, none⟩), .pointer (some ⟨Sb, 0, none⟩)] W _
  generalize r.setH n a = r2 at *
  go_enter Tryz.func127, Tryz.ntmps127
  go_wp2_with fail
  go_region
  generalize (W.setCell ⟨X, 3 + n, none⟩ (.int .i64 a)).drew = W2 at *
  clear dk fk a0 s0
  have s2 : W2.cell? ⟨Sb, 0, none⟩ = some (.int .i64 n) := C1.out.box HS.out hSX
  have x2 : W2.cell? ⟨X, 2, none⟩ = some (.int .i64 r2.i) := cell_of_heap C1.out.x 2
  have f2 : W2.frozen? ⟨X, 2, none⟩ = false := frozen_of_heap C1.out.x 2
  have C2 := Lib.hid ((C1.out.set 2 (.int .i64 (andnP r2.i n)) (r' := { r2 with i := andnP r2.i n }) rfl).drew)
  clear C1 HA HS
  unfold andnP at *
  go_wp2_with fail
  go_region
  go_end0
  rw [he.out]
  exact ⟨rfl, C2.out.k, C2.out.x⟩

set_option maxRecDepth 100000 in
set_option maxHeartbeats 1600000 in
theorem blocked_op (w : World) (Bb : Nat) (x : Int) (hB : w.heap[Bb]? = some (.cells #[.int .i64 x] 3 (0, 0))) :
    ROp 130 #[.pointer (some ⟨Bb, 0, none⟩)] (opBlocked x) (fun k => k = Bb) w := by
  intro W X r _ hX hnX hex
  have HB := Lib.hid ((hex Bb rfl).trans hB)
  have s0 : W.cell? ⟨Bb, 0, none⟩ = some (.int .i64 x) := cell_of_heap HB.out 0
  have x1 : W.cell? ⟨X, 1, none⟩ = some (.int .i64 r.b) := cell_of_heap hX 1
  have f1 : W.frozen? ⟨X, 1, none⟩ = false := frozen_of_heap hX 1
  have C1 := Lib.hid ((CI.start hX).set 1 (.int .i64 x) (r' := opBlocked x r) rfl)
  clear hX hnX hex hB
  show Calls Tryz.prog _ #[.pointer (some ⟨X, 0, none⟩), .pointer (some ⟨Bb, 0, none⟩)] W _
  go_enter Tryz.func130, Tryz.ntmps130
  go_wp2
  go_end0
  exact ⟨rfl, C1.out.k, C1.out.x⟩

set_option maxRecDepth 100000 in
set_option maxHeartbeats 1600000 in
theorem ignored_op (w : World) (Sb Ib : Nat) (n : Nat) (is : Bool) (hn : n < 8) (hS : w.heap[Sb]? = some (.cells #[.int .i64 n] 3 (0, 0))) (hI : w.heap[Ib]? = some (.cells #[.bool is] 4 (0, 0))) :
    ROp 128 #[.pointer (some ⟨Sb, 0, none⟩), .pointer (some ⟨Ib, 0, none⟩)] (opIgnored n is) (fun k => k = Sb ∨ k = Ib) w := by
  intro W X r _ hX hnX hex
  have hSX : Sb ≠ X := fun e => hnX (.inl e.symm)
  have hIX : Ib ≠ X := fun e => hnX (.inr e.symm)
  have HS := Lib.hid ((hex Sb (.inl rfl)).trans hS)
  have HI := Lib.hid ((hex Ib (.inr rfl)).trans hI)
  have s0 : W.cell? ⟨Sb, 0, none⟩ = some (.int .i64 n) := cell_of_heap HS.out 0
  have x2 : W.cell? ⟨X, 2, none⟩ = some (.int .i64 r.i) := cell_of_heap hX 2
  have f2 : W.frozen? ⟨X, 2, none⟩ = false := frozen_of_heap hX 2
  have C1 := Lib.hid (((CI.start hX).set 2 (.int .i64 (andnP r.i n)) (r' := { r with i := andnP r.i n }) rfl).drew)
  have he1 : Hid (is = true → opIgnored n is r = { ({ r with i := bits BinOp.or IntKind.i64 (andnP r.i n) (wrap64 (2 ^ n)) } : RecT).setH n 0 with p := andnP (({ r with i := bits BinOp.or IntKind.i64 (andnP r.i n) (wrap64 (2 ^ n)) } : RecT).setH n 0).p n }) := fun e => by
    unfold opIgnored
    rw [if_pos e, (setH_i _ n 0).2]
    unfold RecT.setH orP
    rw [Int.toNat_natCast]
    split <;> rfl
  have he0 : Hid (is = false → opIgnored n is r = { r with i := andnP r.i n }) := fun e => by
    unfold opIgnored
    rw [if_neg (by rw [e]; simp)]
  clear hX hnX hex hS hI
  show Calls Tryz.prog _ #[.pointer (some ⟨X, 0, none⟩), .pointer (some ⟨Sb, 0, none⟩), .pointer (some ⟨Ib, 0, none⟩)] W _
  generalize opIgnored n is r = rr at *
  unfold andnP at *
  go_enter Tryz.func128, Tryz.ntmps128
  go_wp2_with fail
  go_region
  generalize (W.setCell ⟨X, 2, none⟩ (.int .i64 (bits BinOp.andNot IntKind.i64 r.i (wrap64 (2 ^ n))))).drew = W1 at *
  clear s0 x2 f2
  have s1 : W1.cell? ⟨Sb, 0, none⟩ = some (.int .i64 n) := C1.out.box HS.out hSX
  have i1 : W1.cell? ⟨Ib, 0, none⟩ = some (.bool is) := C1.out.box HI.out hIX
  have y2 : W1.cell? ⟨X, 2, none⟩ = some (.int .i64 (bits BinOp.andNot IntKind.i64 r.i (wrap64 (2 ^ n)))) := cell_of_heap C1.out.x 2
  have g2 : W1.frozen? ⟨X, 2, none⟩ = false := frozen_of_heap C1.out.x 2
  cases is with
  | false =>
    have e0 := he0.out rfl
    clear he0 he1
    subst e0
    go_wp2_with fail
    go_end0
    exact ⟨rfl, C1.out.k, C1.out.x⟩
  | true =>
    have e1 := Lib.hid (he1.out rfl)
    clear he0 he1
    generalize hq : bits BinOp.andNot IntKind.i64 r.i (wrap64 (2 ^ n)) = q at *
    clear hq
    have C2 := Lib.hid ((C1.out.set 2 (.int .i64 (bits BinOp.or IntKind.i64 q (wrap64 (2 ^ n)))) (r' := { r with i := bits BinOp.or IntKind.i64 q (wrap64 (2 ^ n)) }) rfl).drew)
    go_wp2_with fail
    go_region
    generalize (W1.setCell ⟨X, 2, none⟩ (.int .i64 (bits BinOp.or IntKind.i64 q (wrap64 (2 ^ n))))).drew = W2 at *
    clear s1 i1 y2 g2 C1
    generalize ({ r with i := bits BinOp.or IntKind.i64 q (wrap64 (2 ^ n)) } : RecT) = r2 at *
    have s2 : W2.cell? ⟨Sb, 0, none⟩ = some (.int .i64 n) := C2.out.box HS.out hSX
    have dk : W2.cell? ⟨X, 3 + n, none⟩ = some (.int .i64 (r2.hs.getD n 0)) := (cell_of_heap C2.out.x (3 + n)).trans (rCells_at r2 n hn)
    have fk : W2.frozen? ⟨X, 3 + n, none⟩ = false := frozen_of_heap C2.out.x _
    have C3 := Lib.hid ((C2.out.set (3 + n) (.int .i64 0) (setH_cells r2 n hn 0)).drew)
    go_wp2_with fail
    go_region
    generalize (W2.setCell ⟨X, 3 + n, none⟩ (.int .i64 0)).drew = W3 at *
    clear s2 dk fk C2
    generalize r2.setH n 0 = r3 at *
    have s3 : W3.cell? ⟨Sb, 0, none⟩ = some (.int .i64 n) := C3.out.box HS.out hSX
    have z0 : W3.cell? ⟨X, 0, none⟩ = some (.int .i64 r3.p) := cell_of_heap C3.out.x 0
    have h0 : W3.frozen? ⟨X, 0, none⟩ = false := frozen_of_heap C3.out.x 0
    have C4 := Lib.hid ((C3.out.set 0 (.int .i64 (bits BinOp.andNot IntKind.i64 r3.p (wrap64 (2 ^ n)))) (r' := { r3 with p := bits BinOp.andNot IntKind.i64 r3.p (wrap64 (2 ^ n)) }) rfl).drew)
    go_wp2_with fail
    go_region
    go_end0
    rw [e1.out]
    exact ⟨rfl, C4.out.k, C4.out.x⟩

section
variable {w0 w : World} {b M : Nat} {V : AV} {G : Nat → Prop}
set_option maxRecDepth 100000 in
set_option maxHeartbeats 800000 in
theorem qmSExec (s : QM w0 w b M V G) {m : ByteArray} (hm : NmOk m) (hN : V.calls.length < 1000000) :
    Calls Tryz.prog 64 #[.pointer (some ⟨b, 0, none⟩), .string m] w (QMP w0 b M (sChange opExec V m).1 G w (.int .i64 (sChange opExec V m).2)) := by
  have Hc := Lib.hid (qmSChange s hm hN _ _ _ (exec_op G w) (callFunc_inR Tryz.func125 (by kernel_rfl) (by kernel_rfl)))
  clear s
  generalize sChange opExec V m = pp at *
  go_enter Tryz.func64, Tryz.ntmps64
  go_wp2_with fail
  refine Hc.out.mono ?_
  rintro r w1 ⟨rfl, s1, hk1⟩
  have S1 := Lib.hid s1
  have HK := Lib.hid hk1
  clear s1 hk1 Hc
  go_wp2
  go_ret
  exact ⟨rfl, S1.out, HK.out⟩

set_option maxRecDepth 100000 in
set_option maxHeartbeats 1600000 in
theorem qmSHandler (s : QM w0 w b M V G) {m : ByteArray} (hm : NmOk m) (hN : V.calls.length < 1000000) (n a : Int) :
    Calls Tryz.prog 65 #[.pointer (some ⟨b, 0, none⟩), .string m, .int .i64 n, .int .i64 a] w (QMP w0 b M (sHandler V m n a).1 G w (.int .i64 (sHandler V m n a).2)) := by
  have Q0 : Hid (∀ o1 o2 o3, QI w0 w b M V G (fun k => k = w.heap.size + 1 ∨ k = w.heap.size) (((w.alloc o1).alloc o2).alloc o3)) := fun o1 o2 o3 => s.qi ((((Below.refl _ _).alloc (Nat.le_refl _) _).alloc (by simp) _).alloc (by simp; omega) _) (fun k hk => by rcases hk with h | h <;> subst h <;> simp <;> omega)
  have HX0 : Hid (∀ o1 o2 o3, (((w.alloc o1).alloc o2).alloc o3).heap[w.heap.size]? = some o1 ∧ (((w.alloc o1).alloc o2).alloc o3).heap[w.heap.size + 1]? = some o2 ∧ (((w.alloc o1).alloc o2).alloc o3).heap[w.heap.size + 1 + 1]? = some o3) := fun o1 o2 o3 =>
    ⟨(Below.heap_alloc _ _ _ (by simp; omega)).trans ((Below.heap_alloc _ _ _ (by simp)).trans (World.alloc_heap_new w _)), (Below.heap_alloc _ _ _ (by simp)).trans (second_newS w _ _), by
      have := World.alloc_heap_new ((w.alloc o1).alloc o2) o3
      rwa [World.size_alloc, World.size_alloc] at this⟩
  have Hg : Hid (sHandler V m n a = if sigB n = false ∨ addrB a = false then (V, 2) else if n = 3 then (V, 33) else sChange (opHandler n.toNat a) V m) := (rfl : sHandler V m n a = if sigB n = false ∨ addrB a = false then (V, 2) else if n = 3 then (V, 33) else sChange (opHandler n.toNat a) V m)
  have HN := Lib.hid hN
  clear s hN
  go_enter Tryz.func65, Tryz.ntmps65
  go_wp2_with fail
  refine (sCheck_any b (w.heap.size + 1 + 1) 1 1 (fun _ => m) 0 _ (fun k hk => by obtain rfl : k = 0 := by omega
                                                                                  exact cell_of_heap (HX0.out _ _ _).2.2 0) (fun _ _ => hm.2) (by omega) (.inr ⟨rfl, fun _ _ => hm.1⟩)).mono ?_
  rintro r w1 ⟨rfl, hb⟩
  have Q1 := Lib.hid ((Q0.out _ _ _).later hb)
  have HS := Lib.hid ((hb.block _ (lt_of_heap (HX0.out _ _ _).1)).trans (HX0.out _ _ _).1)
  have HA := Lib.hid ((hb.block _ (lt_of_heap (HX0.out _ _ _).2.1)).trans (HX0.out _ _ _).2.1)
  clear hb Q0 HX0
  have s0 : w1.cell? ⟨w.heap.size, 0, none⟩ = some (.int .i64 n) := cell_of_heap HS.out 0
  have a0 : w1.cell? ⟨w.heap.size + 1, 0, none⟩ = some (.int .i64 a) := cell_of_heap HA.out 0
  generalize w.heap.size + 1 = Ab at *
  generalize hSb : w.heap.size = Sb at *
  clear hSb
  go_wp2_with fail
  cases hsg : sigB n with
  | false =>
    have he := Lib.hid (Hg.out.trans (if_pos (.inl hsg)))
    refine (isSignal_is n _ hsg _).mono ?_
    rintro r w2 ⟨rfl, rfl⟩
    clear hsg
    go_wp2
    go_ret
    rw [he.out]
    exact Q1.out.post _
  | true =>
    refine (isSignal_is n _ hsg _).mono ?_
    rintro r w2 ⟨rfl, rfl⟩
    go_wp2_with fail
    cases had : addrB a with
    | false =>
      have he := Lib.hid (Hg.out.trans (if_pos (.inr had)))
      refine (isAddress_is a _ had _).mono ?_
      rintro r w2 ⟨rfl, rfl⟩
      clear hsg had
      go_wp2
      go_ret
      rw [he.out]
      exact Q1.out.post _
    | true =>
      have hE := Lib.hid (Hg.out.trans (if_neg (by rw [hsg, had]; simp)))
      refine (isAddress_is a _ had _).mono ?_
      rintro r w2 ⟨rfl, rfl⟩
      by_cases h3 : n = 3
      · have he := Lib.hid (hE.out.trans (if_pos h3))
        subst h3
        clear hsg had hE
        go_wp2
        go_ret
        rw [he.out]
        exact Q1.out.post _
      · have he := Lib.hid (hE.out.trans (if_neg h3))
        have h3' : (n == 3) = false := beq_eq_false_iff_ne.2 h3
        have hrg : 1 ≤ n ∧ n < 8 := by simpa [sigB] using hsg
        obtain ⟨k, rfl⟩ := Int.eq_ofNat_of_zero_le (show 0 ≤ n by omega)
        have hk8 : k < 8 := by omega
        have hcall := qmSChange Q1.out.s hm HN.out _ _ _ ((handler_op w1 Ab Sb k a hk8 HA.out HS.out).mono (fun _ h => .inr h)) (callFunc_inR Tryz.func127 (by kernel_rfl) (by kernel_rfl))
        have Hcall : Hid (Calls _ _ _ _ _) := hcall
        simp only [Int.toNat_natCast] at he ⊢
        clear hcall hE hsg had h3 Hg hrg
        generalize sChange (opHandler k a) V m = pp at *
        go_wp2_with fail
        refine Hcall.out.mono ?_
        rintro r w2 ⟨rfl, s2, hk2⟩
        have Q2 := Lib.hid (Q1.out.step s2 hk2)
        clear s2 hk2 Q1 Hcall
        go_wp2
        go_ret
        rw [he.out]
        exact Q2.out.post _

set_option maxRecDepth 100000 in
set_option maxHeartbeats 1600000 in
theorem qmSIgnored (s : QM w0 w b M V G) {m : ByteArray} (hm : NmOk m) (hN : V.calls.length < 1000000) (n : Int) (is : Bool) :
    Calls Tryz.prog 66 #[.pointer (some ⟨b, 0, none⟩), .string m, .int .i64 n, .bool is] w (QMP w0 b M (sIgnored V m n is).1 G w (.int .i64 (sIgnored V m n is).2)) := by
  have Q0 : Hid (∀ o1 o2 o3, QI w0 w b M V G (fun k => k = w.heap.size ∨ k = w.heap.size + 1) (((w.alloc o1).alloc o2).alloc o3)) := fun o1 o2 o3 => s.qi ((((Below.refl _ _).alloc (Nat.le_refl _) _).alloc (by simp) _).alloc (by simp; omega) _) (fun k hk => by rcases hk with h | h <;> subst h <;> simp <;> omega)
  have HX0 : Hid (∀ o1 o2 o3, (((w.alloc o1).alloc o2).alloc o3).heap[w.heap.size]? = some o1 ∧ (((w.alloc o1).alloc o2).alloc o3).heap[w.heap.size + 1]? = some o2 ∧ (((w.alloc o1).alloc o2).alloc o3).heap[w.heap.size + 1 + 1]? = some o3) := fun o1 o2 o3 =>
    ⟨(Below.heap_alloc _ _ _ (by simp; omega)).trans ((Below.heap_alloc _ _ _ (by simp)).trans (World.alloc_heap_new w _)), (Below.heap_alloc _ _ _ (by simp)).trans (second_newS w _ _), by
      have := World.alloc_heap_new ((w.alloc o1).alloc o2) o3
      rwa [World.size_alloc, World.size_alloc] at this⟩
  have Hg : Hid (sIgnored V m n is = if sigB n = false then (V, 2) else if n = 3 then (V, 33) else sChange (opIgnored n.toNat is) V m) := (rfl : sIgnored V m n is = if sigB n = false then (V, 2) else if n = 3 then (V, 33) else sChange (opIgnored n.toNat is) V m)
  have HN := Lib.hid hN
  clear s hN
  go_enter Tryz.func66, Tryz.ntmps66
  go_wp2_with fail
  refine (sCheck_any b (w.heap.size + 1 + 1) 1 1 (fun _ => m) 0 _ (fun k hk => by obtain rfl : k = 0 := by omega
                                                                                  exact cell_of_heap (HX0.out _ _ _).2.2 0) (fun _ _ => hm.2) (by omega) (.inr ⟨rfl, fun _ _ => hm.1⟩)).mono ?_
  rintro r w1 ⟨rfl, hb⟩
  have Q1 := Lib.hid ((Q0.out _ _ _).later hb)
  have HS := Lib.hid ((hb.block _ (lt_of_heap (HX0.out _ _ _).1)).trans (HX0.out _ _ _).1)
  have HI := Lib.hid ((hb.block _ (lt_of_heap (HX0.out _ _ _).2.1)).trans (HX0.out _ _ _).2.1)
  clear hb Q0 HX0
  have s0 : w1.cell? ⟨w.heap.size, 0, none⟩ = some (.int .i64 n) := cell_of_heap HS.out 0
  generalize w.heap.size + 1 = Ib at *
  generalize hSb : w.heap.size = Sb at *
  clear hSb
  go_wp2_with fail
  cases hsg : sigB n with
  | false =>
    have he := Lib.hid (Hg.out.trans (if_pos hsg))
    refine (isSignal_is n _ hsg _).mono ?_
    rintro r w2 ⟨rfl, rfl⟩
    clear hsg
    go_wp2
    go_ret
    rw [he.out]
    exact Q1.out.post _
  | true =>
    have hE := Lib.hid (Hg.out.trans (if_neg (by rw [hsg]; simp)))
    refine (isSignal_is n _ hsg _).mono ?_
    rintro r w2 ⟨rfl, rfl⟩
    by_cases h3 : n = 3
    · have he := Lib.hid (hE.out.trans (if_pos h3))
      subst h3
      clear hsg hE
      go_wp2
      go_ret
      rw [he.out]
      exact Q1.out.post _
    · have he := Lib.hid (hE.out.trans (if_neg h3))
      have h3' : (n == 3) = false := beq_eq_false_iff_ne.2 h3
      have hrg : 1 ≤ n ∧ n < 8 := by simpa [sigB] using hsg
      obtain ⟨k, rfl⟩ := Int.eq_ofNat_of_zero_le (show 0 ≤ n by omega)
      have hk8 : k < 8 := by omega
      have hcall := qmSChange Q1.out.s hm HN.out _ _ _ ((ignored_op w1 Sb Ib k is hk8 HS.out HI.out).mono (fun _ h => .inr h)) (callFunc_inR Tryz.func128 (by kernel_rfl) (by kernel_rfl))
      have Hcall : Hid (Calls _ _ _ _ _) := hcall
      simp only [Int.toNat_natCast] at he ⊢
      clear hcall hE hsg h3 Hg hrg
      generalize sChange (opIgnored k is) V m = pp at *
      go_wp2_with fail
      refine Hcall.out.mono ?_
      rintro r w2 ⟨rfl, s2, hk2⟩
      have Q2 := Lib.hid (Q1.out.step s2 hk2)
      clear s2 hk2 Q1 Hcall
      go_wp2
      go_ret
      rw [he.out]
      exact Q2.out.post _

set_option maxRecDepth 100000 in
set_option maxHeartbeats 1600000 in
theorem qmSBlocked (s : QM w0 w b M V G) {m : ByteArray} (hm : NmOk m) (hN : V.calls.length < 1000000) (x : Int) :
    Calls Tryz.prog 67 #[.pointer (some ⟨b, 0, none⟩), .string m, .int .i64 x] w (QMP w0 b M (sBlocked V m x).1 G w (.int .i64 (sBlocked V m x).2)) := by
  have Q0 : Hid (∀ o1 o3, QI w0 w b M V G (fun k => k = w.heap.size) ((w.alloc o1).alloc o3)) := fun o1 o3 => s.qi (((Below.refl _ _).alloc (Nat.le_refl _) _).alloc (by simp) _) (fun k hk => by subst hk; simp; omega)
  have HX0 : Hid (∀ o1 o3, ((w.alloc o1).alloc o3).heap[w.heap.size]? = some o1 ∧ ((w.alloc o1).alloc o3).heap[w.heap.size + 1]? = some o3) := fun o1 o3 =>
    ⟨(Below.heap_alloc _ _ _ (by simp)).trans (World.alloc_heap_new w _), second_newS w _ _⟩
  have Hg : Hid (sBlocked V m x = if setB x = false then (V, 2) else if hasB x 3 = true then (V, 33) else sChange (opBlocked x) V m) := (rfl : sBlocked V m x = if setB x = false then (V, 2) else if hasB x 3 = true then (V, 33) else sChange (opBlocked x) V m)
  have HN := Lib.hid hN
  clear s hN
  go_enter Tryz.func67, Tryz.ntmps67
  go_wp2_with fail
  refine (sCheck_any b (w.heap.size + 1) 1 1 (fun _ => m) 0 _ (fun k hk => by obtain rfl : k = 0 := by omega
                                                                              exact cell_of_heap (HX0.out _ _).2 0) (fun _ _ => hm.2) (by omega) (.inr ⟨rfl, fun _ _ => hm.1⟩)).mono ?_
  rintro r w1 ⟨rfl, hb⟩
  have Q1 := Lib.hid ((Q0.out _ _).later hb)
  have HS := Lib.hid ((hb.block _ (lt_of_heap (HX0.out _ _).1)).trans (HX0.out _ _).1)
  clear hb Q0 HX0
  have s0 : w1.cell? ⟨w.heap.size, 0, none⟩ = some (.int .i64 x) := cell_of_heap HS.out 0
  generalize hSb : w.heap.size = Sb at *
  clear hSb
  go_wp2_with fail
  cases hsg : setB x with
  | false =>
    have he := Lib.hid (Hg.out.trans (if_pos hsg))
    refine (setValid_is x _ hsg _).mono ?_
    rintro r w2 ⟨rfl, rfl⟩
    clear hsg
    go_wp2
    go_ret
    rw [he.out]
    exact Q1.out.post _
  | true =>
    have hE := Lib.hid (Hg.out.trans (if_neg (by rw [hsg]; simp)))
    refine (setValid_is x _ hsg _).mono ?_
    rintro r w2 ⟨rfl, rfl⟩
    go_wp2_with fail
    cases hk : hasB x 3 with
    | true =>
      have he := Lib.hid (hE.out.trans (if_pos hk))
      refine (setHas_is x 3 _ hk (by omega) _).mono ?_
      rintro r w2 ⟨rfl, rfl⟩
      clear hsg hk hE
      go_wp2
      go_ret
      rw [he.out]
      exact Q1.out.post _
    | false =>
      have he := Lib.hid (hE.out.trans (if_neg (by rw [hk]; simp)))
      refine (setHas_is x 3 _ hk (by omega) _).mono ?_
      rintro r w2 ⟨rfl, rfl⟩
      have hcall := qmSChange Q1.out.s hm HN.out _ _ _ ((blocked_op w1 Sb x HS.out).mono (fun _ h => .inr h)) (callFunc_inR Tryz.func130 (by kernel_rfl) (by kernel_rfl))
      have Hcall : Hid (Calls _ _ _ _ _) := hcall
      clear hcall hE hsg hk Hg
      generalize sChange (opBlocked x) V m = pp at *
      go_wp2_with fail
      refine Hcall.out.mono ?_
      rintro r w2 ⟨rfl, s2, hk2⟩
      have Q2 := Lib.hid (Q1.out.step s2 hk2)
      clear s2 hk2 Q1 Hcall
      go_wp2
      go_ret
      rw [he.out]
      exact Q2.out.post _
end
end Go.Proofs.YtpieaakdddgdeaaGreatDoor

namespace Go.Proofs.YtpieaakdddgdeaaGreatDoor
open Go.RowKit
attribute [local go_sem ↓] Go.wp_at_zero Go.wp_at_succ
attribute [local go_sem ↓] run_eql_rec run_neq_rec

section
variable {w0 w : World} {b M : Nat} {V : AV} {G : Nat → Prop}
set_option maxRecDepth 100000 in
set_option maxHeartbeats 1600000 in
theorem qmSSend (s : QM w0 w b M V G) {f m : ByteArray} (hf : NmOk f) (hm : NmOk m) (hN : V.calls.length < 1000000) (n : Int) :
    Calls Tryz.prog 15 #[.pointer (some ⟨b, 0, none⟩), .string f, .string m, .int .i64 n] w (QMP w0 b M (sSend V f m n).1 G w (.int .i64 (sSend V f m n).2)) := by
  have Q0 : Hid (∀ o', QI w0 w b M V G (fun k => k = w.heap.size) (w.alloc o')) := fun o' => s.qi ((Below.refl _ _).alloc (Nat.le_refl _) _) (fun k hk => by subst hk; simp)
  have HX0 : Hid (∀ v u T (j : Nat), (w.alloc (.cells #[v, u] T)).cell? ⟨w.heap.size, j, none⟩ = (#[v, u] : Array Value)[j]?) := fun v u T j => cell_of_heap (heap_alloc_new w _) j
  have HN : Hid ((sSeen V m).calls.length < 1000000) := by show _ < _; rw [sSeen_calls]; exact hN
  have Hg : Hid (sSend V f m n = if sigB n = false then (V, 2) else if nearB f m = false then (V, 14)
    else if (sGet V m).2 ≠ 0 then (sSeen V m, (sGet V m).2) else if withoutB (sGet V m).1 n = true then (sSeen V m, 0)
    else sPut (sSeen V m) m { (sGet V m).1 with p := orP (sGet V m).1.p n }) := (rfl : sSend V f m n = if sigB n = false then (V, 2) else if nearB f m = false then (V, 14)
    else if (sGet V m).2 ≠ 0 then (sSeen V m, (sGet V m).2) else if withoutB (sGet V m).1 n = true then (sSeen V m, 0)
    else sPut (sSeen V m) m { (sGet V m).1 with p := orP (sGet V m).1.p n })
  clear s hN
  go_enter Tryz.func15, Tryz.ntmps15
  go_wp2_with fail
  refine (sCheck_any b w.heap.size 2 2 (two f m) 0 _ (fun k hk => by
    rcases (by omega : k = 0 ∨ k = 1) with rfl | rfl
    · exact HX0.out _ _ _ 0
    · exact HX0.out _ _ _ 1) (fun k _ => by unfold two; split; exact hf.2; exact hm.2) (by omega) (.inr ⟨rfl, fun k _ => by unfold two; split; exact hf.1; exact hm.1⟩)).mono ?_
  rintro r w1 ⟨rfl, hb⟩
  have Q1 := Lib.hid ((Q0.out _).later hb)
  clear hb Q0 HX0
  go_wp2_with fail
  cases hsg : sigB n with
  | false =>
    have he := Lib.hid (Hg.out.trans (if_pos hsg))
    refine (isSignal_is n _ hsg _).mono ?_
    rintro r w2 ⟨rfl, rfl⟩
    clear hsg
    go_wp2
    go_ret
    rw [he.out]
    exact Q1.out.post _
  | true =>
    have he := Hg.out.trans (if_neg (by rw [hsg]; simp))
    clear Hg
    refine (isSignal_is n _ hsg _).mono ?_
    rintro r w2 ⟨rfl, rfl⟩
    have hrg : 1 ≤ n ∧ n < 8 := by simpa [sigB] using hsg
    clear hsg
    have He := Lib.hid he
    clear he
    go_wp2_with fail
    cases hnr : nearB f m with
    | false =>
      have he := Lib.hid (He.out.trans (if_pos hnr))
      refine (isNear_is f m _ hnr _ hf.2 hm.2).mono ?_
      rintro r w2 ⟨rfl, hb⟩
      have Q2 := Lib.hid (Q1.out.later hb)
      clear hnr hb Q1
      go_wp2
      go_ret
      rw [he.out]
      exact Q2.out.post _
    | true =>
      have he := He.out.trans (if_neg (by rw [hnr]; simp))
      clear He
      refine (isNear_is f m _ hnr _ hf.2 hm.2).mono ?_
      rintro r w2 ⟨rfl, hb⟩
      have Q2 := Lib.hid (Q1.out.later hb)
      clear hnr hb Q1
      obtain ⟨⟨⟨p, bl, i, h0, h1, h2, h3, h4, h5, h6, h7⟩, q⟩, hd⟩ : ∃ d, sGet V m = d := ⟨_, rfl⟩
      rw [hd] at he
      have He := Lib.hid he
      have Hd := Lib.hid hd
      clear he hd
      go_wp2_with fail
      refine (qmSGet' Q2.out.s hm Hd.out).mono ?_
      rintro r w3 ⟨rfl, s3, hk3⟩
      have Q3 := Lib.hid (Q2.out.step s3 hk3)
      have Q3' : Hid (∀ o', QI w0 w b M (sSeen V m) G (fun k => k = w3.heap.size) (w3.alloc o')) := fun o' => Q3.out.more ((Below.refl _ _).alloc (Nat.le_refl _) _) (fun k hk => by subst hk; exact .inr ⟨Nat.le_refl _, by simp⟩)
      have HX3 : Hid (∀ o', (w3.alloc o').heap[w3.heap.size]? = some o') := fun o' => heap_alloc_new w3 o'
      clear s3 hk3 Q2 Q3
      dsimp only [recV, rCells] at *
      by_cases hq : q = 0
      · subst hq
        have He2 := Lib.hid (He.out.trans (if_neg (by simp)))
        clear He
        go_wp2_with fail
        cases hwo : withoutB ⟨p, bl, i, h0, h1, h2, h3, h4, h5, h6, h7⟩ n with
        | true =>
          have he := Lib.hid (He2.out.trans (if_pos hwo))
          refine (withoutEffect_is p bl i h0 h1 h2 h3 h4 h5 h6 h7 n (by omega) _ hwo _).mono ?_
          rintro r w4 ⟨rfl, hb⟩
          have Q4 := Lib.hid ((Q3'.out _).later hb)
          clear hb Q3' hwo
          go_wp2
          go_ret
          rw [he.out]
          exact Q4.out.post _
        | false =>
          have he := Lib.hid (He2.out.trans (if_neg (by rw [hwo]; simp)))
          refine (withoutEffect_is p bl i h0 h1 h2 h3 h4 h5 h6 h7 n (by omega) _ hwo _).mono ?_
          rintro r w4 ⟨rfl, hb⟩
          have Q4 := Lib.hid ((Q3'.out _).later hb)
          have hX4 : w4.heap[w3.heap.size]? = some (.cells (rCells ⟨p, bl, i, h0, h1, h2, h3, h4, h5, h6, h7⟩) 30 (0, 0)) := (hb.block _ (by simp)).trans (HX3.out _)
          clear hb Q3' HX3 hwo He2
          obtain ⟨c0, c1, c2, c3, c4, c5, c6, c7, c8, c9, c10⟩ := at11 hX4
          dsimp only at c0 c1 c2 c3 c4 c5 c6 c7 c8 c9 c10
          have f0 : w4.frozen? ⟨w3.heap.size, 0, none⟩ = false := frozen_of_heap hX4 0
          have HX4 := Lib.hid hX4; clear hX4
          generalize w3.heap.size = X at *
          have Hor : Hid (bits BinOp.or IntKind.i64 p (wrap64 (2 ^ n.toNat)) = orP p n) := rfl
          generalize orP p n = p' at *
          go_wp2_with fail
          go_region
          rw [Hor.out]
          clear c0 c1 c2 c3 c4 c5 c6 c7 c8 c9 c10 f0 Hor
          have Q5 := Lib.hid ((Q4.out.set X rfl 0 (.int .i64 p')).drew)
          have hX5 := setX_heap HX4.out p'
          generalize (w4.setCell ⟨X, 0, none⟩ (.int .i64 p')).drew = w5 at *
          clear Q4 HX4
          obtain ⟨c0, c1, c2, c3, c4, c5, c6, c7, c8, c9, c10⟩ := at11 hX5
          dsimp only at c0 c1 c2 c3 c4 c5 c6 c7 c8 c9 c10
          clear hX5
          go_wp2_with fail
          refine (qmSPut Q5.out.s hm HN.out p' bl i h0 h1 h2 h3 h4 h5 h6 h7).mono ?_
          rintro r w6 ⟨rfl, s6, hk6⟩
          have Q6 := Lib.hid (Q5.out.step s6 hk6)
          clear s6 hk6 Q5 c0 c1 c2 c3 c4 c5 c6 c7 c8 c9 c10
          generalize sPut (sSeen V m) m ⟨p', bl, i, h0, h1, h2, h3, h4, h5, h6, h7⟩ = pp at *
          go_wp2
          go_ret
          rw [he.out]
          exact Q6.out.post _
      · have he := Lib.hid (He.out.trans (if_pos hq))
        have hq' : ((q : Int) != 0) = true := bne_iff_ne.2 (by omega)
        clear hq He
        go_wp2
        go_ret
        rw [he.out]
        exact (Q3'.out _).post _

set_option maxRecDepth 100000 in
set_option maxHeartbeats 1600000 in
theorem qmSWait (s : QM w0 w b M V G) {m : ByteArray} (hm : NmOk m) :
    Calls Tryz.prog 45 #[.pointer (some ⟨b, 0, none⟩), .string m] w (QMP w0 b M (sWait V m).1 G w (.bool (sWait V m).2)) := by
  have Q0 := Lib.hid (s.qi0 (Below.refl w.heap.size w))
  clear s
  obtain ⟨⟨⟨p, bl, i, h0, h1, h2, h3, h4, h5, h6, h7⟩, q⟩, hd⟩ : ∃ d, sGet V m = d := ⟨_, rfl⟩
  have Hg : Hid (sWait V m = (sSeen V m, decide (q = 0) && decide (nextB ⟨p, bl, i, h0, h1, h2, h3, h4, h5, h6, h7⟩ ≠ 0))) := by show _ = _; unfold sWait; rw [hd]
  have Hd := Lib.hid hd
  clear hd
  go_enter Tryz.func45, Tryz.ntmps45
  go_wp2_with fail
  refine (qmSGet' Q0.out.s hm Hd.out).mono ?_
  rintro r w3 ⟨rfl, s3, hk3⟩
  have Q3 := Lib.hid (Q0.out.step s3 hk3)
  have Q3' : Hid (∀ o', QI w0 w b M (sSeen V m) G (fun _ => False) (w3.alloc o')) := fun o' => Q3.out.later ((Below.refl _ _).alloc (Nat.le_refl _) _)
  clear s3 hk3 Q0 Q3
  dsimp only [recV, rCells] at *
  by_cases hq : q = 0
  · subst hq
    go_wp2_with fail
    obtain ⟨nx, hnx⟩ : ∃ nx, nextB ⟨p, bl, i, h0, h1, h2, h3, h4, h5, h6, h7⟩ = nx := ⟨_, rfl⟩
    refine (next_is p bl i h0 h1 h2 h3 h4 h5 h6 h7 _ hnx _).mono ?_
    rintro r w4 ⟨rfl, hb⟩
    have Q4 := Lib.hid ((Q3'.out _).later hb)
    rw [hnx] at Hg
    clear hb Q3' hnx Hd
    by_cases h0 : nx = 0
    · subst h0
      have he : Hid (sWait V m = (sSeen V m, false)) := by show _ = _; rw [Hg.out]; simp
      go_wp2
      go_ret
      rw [he.out]
      exact Q4.out.post _
    · have he : Hid (sWait V m = (sSeen V m, true)) := by show _ = _; rw [Hg.out]; simp [h0]
      have h0' : (nx != 0) = true := bne_iff_ne.2 h0
      clear h0
      go_wp2
      go_ret
      rw [he.out]
      exact Q4.out.post _
  · have he : Hid (sWait V m = (sSeen V m, false)) := by show _ = _; rw [Hg.out]; simp [hq]
    have hq' : ((q : Int) == 0) = false := beq_eq_false_iff_ne.2 (by omega)
    clear hq
    go_wp2
    go_ret
    rw [he.out]
    exact (Q3'.out _).post _

/-- In the midst of Take: the record at X8, what is left of it at X9. -/
structure TkQ (w0 w : World) (b M : Nat) (V : AV) (G : Nat → Prop) (r : RecT) (X8 X9 : Nat) (q : Int) (W : World) : Prop where
  v : QI w0 w b M V G (fun k => k = X8 ∨ k = X9) W
  e : W.heap[X8]? = some (.cells (rCells r) 30 (0, 0))
  n : W.heap[X9]? = some (.cells (rCells { r with p := q }) 30 (0, 0))
theorem TkQ.later {W W' : World} {r : RecT} {X8 X9 : Nat} {q : Int} (h : TkQ w0 w b M V G r X8 X9 q W) (hb : Below W.heap.size W W') : TkQ w0 w b M V G r X8 X9 q W' :=
  ⟨h.v.later hb, (hb.block _ (lt_of_heap h.e)).trans h.e, (hb.block _ (lt_of_heap h.n)).trans h.n⟩
theorem TkQ.set {W : World} {r : RecT} {X8 X9 : Nat} {q : Int} (h : TkQ w0 w b M V G r X8 X9 q W) (h1 : X8 ≠ X9) (q' : Int) : TkQ w0 w b M V G r X8 X9 q' (W.setCell ⟨X9, 0, none⟩ (.int .i64 q')).drew :=
  ⟨(h.v.set X9 (.inr rfl) 0 _).drew, (setX_other h1 0 _).trans h.e, setX_heap h.n q'⟩
theorem nextB_range (r : RecT) : 0 ≤ nextB r ∧ nextB r ≤ 7 := by
  have h : ∀ f s : Nat, s + f ≤ 8 → 0 ≤ nextFrom r s f ∧ nextFrom r s f ≤ 7 := by
    intro f
    induction f with
    | zero => intro s _; show (0 : Int) ≤ 0 ∧ (0 : Int) ≤ 7; decide
    | succ f ih =>
      intro s hs
      unfold nextFrom
      split
      · exact ⟨by omega, by omega⟩
      · exact ih (s + 1) (by omega)
  unfold nextB
  split
  · decide
  · exact h 7 1 (by omega)

theorem sameRB_iff (a b : RecT) : sameRB a b = true ↔ a = b := by unfold sameRB; exact decide_eq_true_iff
set_option maxRecDepth 100000 in
set_option maxHeartbeats 6400000 in
theorem qmSTake (s : QM w0 w b M V G) {m : ByteArray} (hm : NmOk m) (hN : V.calls.length < 1000000) :
    Calls Tryz.prog 16 #[.pointer (some ⟨b, 0, none⟩), .string m] w (QMP w0 b M (sTake V m).1 G w (.tuple #[.int .i64 (sTake V m).2.sg, .int .i64 (sTake V m).2.ac, .int .i64 (sTake V m).2.ad, .int .i64 (sTake V m).2.e])) := by
  have Q0 := Lib.hid (s.qi0 (Below.refl w.heap.size w))
  have HN : Hid ((sSeen V m).calls.length < 1000000) := by show _ < _; rw [sSeen_calls]; exact hN
  clear hN s
  obtain ⟨⟨⟨p, bl, i, h0, h1, h2, h3, h4, h5, h6, h7⟩, q⟩, hd⟩ : ∃ d, sGet V m = d := ⟨_, rfl⟩
  have Hg : Hid (sTake V m = if q ≠ 0 then (sSeen V m, ⟨0, 0, 0, q⟩)
    else if leftR ⟨p, bl, i, h0, h1, h2, h3, h4, h5, h6, h7⟩ = ⟨p, bl, i, h0, h1, h2, h3, h4, h5, h6, h7⟩ then (sSeen V m, tkOf ⟨p, bl, i, h0, h1, h2, h3, h4, h5, h6, h7⟩)
    else if (sPut (sSeen V m) m (leftR ⟨p, bl, i, h0, h1, h2, h3, h4, h5, h6, h7⟩)).2 ≠ 0 then ((sPut (sSeen V m) m (leftR ⟨p, bl, i, h0, h1, h2, h3, h4, h5, h6, h7⟩)).1, ⟨0, 0, 0, (sPut (sSeen V m) m (leftR ⟨p, bl, i, h0, h1, h2, h3, h4, h5, h6, h7⟩)).2⟩)
    else ((sPut (sSeen V m) m (leftR ⟨p, bl, i, h0, h1, h2, h3, h4, h5, h6, h7⟩)).1, tkOf ⟨p, bl, i, h0, h1, h2, h3, h4, h5, h6, h7⟩)) := by show _ = _; unfold sTake; rw [hd]
  have Hd := Lib.hid hd
  clear hd
  go_enter Tryz.func16, Tryz.ntmps16
  go_wp2_with fail
  refine (qmSGet' Q0.out.s hm Hd.out).mono ?_
  rintro r w3 ⟨rfl, s3, hk3⟩
  have Q3 := Lib.hid (Q0.out.step s3 hk3)
  have Q3' : Hid (∀ o', QI w0 w b M (sSeen V m) G (fun k => k = w3.heap.size) (w3.alloc o')) := fun o' => Q3.out.more ((Below.refl _ _).alloc (Nat.le_refl _) _) (fun k hk => by subst hk; exact .inr ⟨Nat.le_refl _, by simp⟩)
  have HX3 : Hid (∀ o', (w3.alloc o').heap[w3.heap.size]? = some o') := fun o' => heap_alloc_new w3 o'
  clear s3 hk3 Q0 Q3
  dsimp only [recV, rCells] at *
  by_cases hq : q = 0
  case neg =>
    have he := Lib.hid (Hg.out.trans (if_pos hq))
    have hq' : ((q : Int) != 0) = true := bne_iff_ne.2 (by omega)
    clear hq
    go_wp2
    refine bodyPost_ret (v := .tuple #[.int .i64 0, .int .i64 0, .int .i64 0, .int .i64 q]) (by simp [results, Tryz.results16, go_sem]) rfl ?_
    rw [he.out]
    exact (Q3'.out _).post _
  subst hq
  have He := Lib.hid (Hg.out.trans (if_neg (by simp)))
  clear Hg Hd
  go_wp2_with fail
  obtain ⟨sig, hsig, hnx⟩ : ∃ sig : Nat, sig ≤ 7 ∧ nextB ⟨p, bl, i, h0, h1, h2, h3, h4, h5, h6, h7⟩ = sig := by
    have h := nextB_range ⟨p, bl, i, h0, h1, h2, h3, h4, h5, h6, h7⟩
    exact ⟨(nextB ⟨p, bl, i, h0, h1, h2, h3, h4, h5, h6, h7⟩).toNat, by omega, by omega⟩
  refine (next_is p bl i h0 h1 h2 h3 h4 h5 h6 h7 _ hnx _).mono ?_
  rintro r w4 ⟨rfl, hb⟩
  have Q4 := Lib.hid ((Q3'.out _).later hb)
  have hX4 : w4.heap[w3.heap.size]? = some (.cells (rCells ⟨p, bl, i, h0, h1, h2, h3, h4, h5, h6, h7⟩) 30 (0, 0)) := (hb.block _ (by simp)).trans (HX3.out _)
  have hlt4 : w3.heap.size < w4.heap.size := lt_of_heap hX4
  have T0 : Hid (TkQ w0 w b M (sSeen V m) G ⟨p, bl, i, h0, h1, h2, h3, h4, h5, h6, h7⟩ w3.heap.size w4.heap.size p (w4.alloc (.cells #[.int .i64 p, .int .i64 bl, .int .i64 i, .int .i64 h0, .int .i64 h1, .int .i64 h2, .int .i64 h3, .int .i64 h4, .int .i64 h5, .int .i64 h6, .int .i64 h7] 30))) :=
    ⟨Q4.out.more ((Below.refl _ _).alloc (Nat.le_refl _) _) (fun k hk => by
      rcases hk with h | h
      · exact .inl h
      · subst h; exact .inr (by simp)), (Below.heap_alloc _ _ _ hlt4).trans hX4, heap_alloc_new w4 _⟩
  obtain ⟨c0, c1, c2, c3, c4, c5, c6, c7, c8, c9, c10⟩ := at11 hX4
  dsimp only at c0 c1 c2 c3 c4 c5 c6 c7 c8 c9 c10
  have H89 : Hid (w3.heap.size ≠ w4.heap.size) := fun e => by omega
  have Hnx := Lib.hid hnx
  have Hlf : Hid (leftR ⟨p, bl, i, h0, h1, h2, h3, h4, h5, h6, h7⟩ = ⟨leftP ⟨p, bl, i, h0, h1, h2, h3, h4, h5, h6, h7⟩ sig 7, bl, i, h0, h1, h2, h3, h4, h5, h6, h7⟩) := by show _ = _; unfold leftR; rw [hnx]
  clear hX4 Q4 hb Q3' HX3 hnx
  go_wp2
  clear c0 c1 c2 c3 c4 c5 c6 c7 c8 c9 c10
  generalize w4.alloc (.cells #[.int .i64 p, .int .i64 bl, .int .i64 i, .int .i64 h0, .int .i64 h1, .int .i64 h2, .int .i64 h3, .int .i64 h4, .int .i64 h5, .int .i64 h6, .int .i64 h7] 30) = w5 at *
  generalize w3.heap.size = X8 at *
  generalize w4.heap.size = X9 at *
  clear hlt4
  go_loopw [10] (fun s wr => ∃ k : Nat, k ≤ 7 ∧ s = .int .i64 ((k : Int) + 1) ∧ Hid (TkQ w0 w b M (sSeen V m) G ⟨p, bl, i, h0, h1, h2, h3, h4, h5, h6, h7⟩ X8 X9 (leftP ⟨p, bl, i, h0, h1, h2, h3, h4, h5, h6, h7⟩ sig k) wr)) (fun s _ => 8 - (intOf s).toNat)
  case atStart => exact ⟨0, by omega, rfl, T0.out⟩
  case round =>
    obtain ⟨k, hk, rfl, HT⟩ := hrel
    clear T0
    by_cases h8 : k < 7
    · have Hst : Hid (leftP ⟨p, bl, i, h0, h1, h2, h3, h4, h5, h6, h7⟩ sig (k + 1) = if ((k : Int) + 1 = sig) ∨ withoutB ⟨p, bl, i, h0, h1, h2, h3, h4, h5, h6, h7⟩ ((k : Int) + 1) = true then andnP (leftP ⟨p, bl, i, h0, h1, h2, h3, h4, h5, h6, h7⟩ sig k) (k + 1) else leftP ⟨p, bl, i, h0, h1, h2, h3, h4, h5, h6, h7⟩ sig k) := rfl
      obtain ⟨q, hq⟩ : ∃ q, leftP ⟨p, bl, i, h0, h1, h2, h3, h4, h5, h6, h7⟩ sig k = q := ⟨_, rfl⟩
      rw [hq] at HT Hst
      have Hq := Lib.hid hq; clear hq
      by_cases hks : (k : Int) + 1 = sig
      · have hks' : ((k : Int) + 1 == (sig : Int)) = true := beq_iff_eq.2 hks
        have He : Hid (leftP ⟨p, bl, i, h0, h1, h2, h3, h4, h5, h6, h7⟩ sig (k + 1) = bits BinOp.andNot IntKind.i64 q (wrap64 (2 ^ (k + 1)))) := Hst.out.trans (if_pos (.inl hks))
        obtain ⟨c0, -, -, -, -, -, -, -, -, -, -⟩ := at11 HT.out.n
        have f0 : wr.frozen? ⟨X9, 0, none⟩ = false := frozen_of_heap HT.out.n 0
        dsimp only at c0
        have Hks := Lib.hid hks
        clear hks
        go_wp2_with fail
        go_region
        clear c0 f0
        have HT' := Lib.hid (HT.out.set H89.out (bits BinOp.andNot IntKind.i64 q (wrap64 (2 ^ (k + 1)))))
        generalize (wr.setCell ⟨X9, 0, none⟩ (.int .i64 (bits BinOp.andNot IntKind.i64 q (wrap64 (2 ^ (k + 1)))))).drew = wn at *
        rw [← He.out] at HT'
        clear HT
        go_wp2
        go_roundw
        case rel => exact ⟨k + 1, by omega, by go_num, HT'.out⟩
        case measure => simp [intOf]; omega
      · have hks' : ((k : Int) + 1 == (sig : Int)) = false := beq_eq_false_iff_ne.2 hks
        have Hks := Lib.hid hks
        clear hks
        obtain ⟨d0, d1, d2, d3, d4, d5, d6, d7, d8, d9, d10⟩ := at11 HT.out.e
        dsimp only at d0 d1 d2 d3 d4 d5 d6 d7 d8 d9 d10
        go_wp2_with fail
        cases hwo : withoutB ⟨p, bl, i, h0, h1, h2, h3, h4, h5, h6, h7⟩ ((k : Int) + 1) with
        | true =>
          have He : Hid (leftP ⟨p, bl, i, h0, h1, h2, h3, h4, h5, h6, h7⟩ sig (k + 1) = bits BinOp.andNot IntKind.i64 q (wrap64 (2 ^ (k + 1)))) := Hst.out.trans (if_pos (.inr hwo))
          refine (withoutEffect_is p bl i h0 h1 h2 h3 h4 h5 h6 h7 _ (by omega) _ hwo _).mono ?_
          rintro r wb ⟨rfl, hb⟩
          have HTb := Lib.hid (HT.out.later hb)
          clear hb HT d0 d1 d2 d3 d4 d5 d6 d7 d8 d9 d10
          obtain ⟨c0, -, -, -, -, -, -, -, -, -, -⟩ := at11 HTb.out.n
          have f0 : wb.frozen? ⟨X9, 0, none⟩ = false := frozen_of_heap HTb.out.n 0
          dsimp only at c0
          go_wp2_with fail
          go_region
          clear c0 f0
          have HT' := Lib.hid (HTb.out.set H89.out (bits BinOp.andNot IntKind.i64 q (wrap64 (2 ^ (k + 1)))))
          generalize (wb.setCell ⟨X9, 0, none⟩ (.int .i64 (bits BinOp.andNot IntKind.i64 q (wrap64 (2 ^ (k + 1)))))).drew = wn at *
          rw [← He.out] at HT'
          clear HTb
          go_wp2
          go_roundw
          case rel => exact ⟨k + 1, by omega, by go_num, HT'.out⟩
          case measure => simp [intOf]; omega
        | false =>
          have He : Hid (leftP ⟨p, bl, i, h0, h1, h2, h3, h4, h5, h6, h7⟩ sig (k + 1) = q) := Hst.out.trans (if_neg (by rw [hwo]; simp [Hks.out]))
          refine (withoutEffect_is p bl i h0 h1 h2 h3 h4 h5 h6 h7 _ (by omega) _ hwo _).mono ?_
          rintro r wb ⟨rfl, hb⟩
          have HT' := Lib.hid (HT.out.later hb)
          rw [← He.out] at HT'
          clear hb HT d0 d1 d2 d3 d4 d5 d6 d7 d8 d9 d10
          go_wp2
          go_roundw
          case rel => exact ⟨k + 1, by omega, by go_num, HT'.out⟩
          case measure => simp [intOf]; omega
    · obtain rfl : k = 7 := by omega
      generalize hp' : leftP ⟨p, bl, i, h0, h1, h2, h3, h4, h5, h6, h7⟩ sig 7 = p' at *
      clear hp'
      obtain ⟨d0, d1, d2, d3, d4, d5, d6, d7, d8, d9, d10⟩ := at11 HT.out.e
      dsimp only at d0 d1 d2 d3 d4 d5 d6 d7 d8 d9 d10
      obtain ⟨e0, e1, e2, e3, e4, e5, e6, e7, e8, e9, e10⟩ := at11 HT.out.n
      dsimp only at e0 e1 e2 e3 e4 e5 e6 e7 e8 e9 e10
      have HTk : Hid (tkOf ⟨p, bl, i, h0, h1, h2, h3, h4, h5, h6, h7⟩ = if (sig : Int) = 0 then ⟨0, 0, 0, 0⟩ else if (RecT.hs ⟨p, bl, i, h0, h1, h2, h3, h4, h5, h6, h7⟩).getD sig 0 ≠ 0 then ⟨sig, 2, (RecT.hs ⟨p, bl, i, h0, h1, h2, h3, h4, h5, h6, h7⟩).getD sig 0, 0⟩ else ⟨sig, 1, 0, 0⟩) := by
        show _ = _
        unfold tkOf
        rw [Hnx.out]
        rfl
      have dk : wr.cell? ⟨X8, 3 + sig, none⟩ = some (.int .i64 ((RecT.hs ⟨p, bl, i, h0, h1, h2, h3, h4, h5, h6, h7⟩).getD sig 0)) := (cell_of_heap HT.out.e (3 + sig)).trans (rCells_at _ sig (by omega))
      have Hdk : Hid (∀ w6 : World, w6.heap[X8]? = some (.cells (rCells ⟨p, bl, i, h0, h1, h2, h3, h4, h5, h6, h7⟩) 30 (0, 0)) → w6.cell? ⟨X8, 3 + sig, none⟩ = some (.int .i64 ((RecT.hs ⟨p, bl, i, h0, h1, h2, h3, h4, h5, h6, h7⟩).getD sig 0))) := fun w6 h => (cell_of_heap h (3 + sig)).trans (rCells_at _ sig (by omega))
      generalize tkOf ⟨p, bl, i, h0, h1, h2, h3, h4, h5, h6, h7⟩ = tk at *
      generalize (RecT.hs ⟨p, bl, i, h0, h1, h2, h3, h4, h5, h6, h7⟩).getD sig 0 = ad at *
      have Hway : Hid (sig = 0 ∧ tk = ⟨0, 0, 0, 0⟩ ∨ sig ≠ 0 ∧ ad ≠ 0 ∧ tk = ⟨sig, 2, ad, 0⟩ ∨ sig ≠ 0 ∧ ad = 0 ∧ tk = ⟨sig, 1, 0, 0⟩) := by
        show _ ∨ _
        have h := HTk.out
        by_cases h1 : sig = 0
        · rw [if_pos (by omega)] at h; exact .inl ⟨h1, h⟩
        · rw [if_neg (by omega)] at h
          by_cases h2 : ad = 0
          · rw [if_neg (by simp [h2])] at h; exact .inr (.inr ⟨h1, h2, h⟩)
          · rw [if_pos h2] at h; exact .inr (.inl ⟨h1, h2, h⟩)
      clear HTk
      rw [Hlf.out] at He
      cases hsm : sameRB ⟨p', bl, i, h0, h1, h2, h3, h4, h5, h6, h7⟩ ⟨p, bl, i, h0, h1, h2, h3, h4, h5, h6, h7⟩ with
      | true =>
        have he := Lib.hid (He.out.trans (if_pos ((sameRB_iff _ _).1 hsm)))
        clear He
        rcases Hway.out with ⟨rfl, rfl⟩ | ⟨h1, h2, rfl⟩ | ⟨h1, rfl, rfl⟩
        · go_wp2
          refine bodyPost_ret (v := .tuple #[.int .i64 0, .int .i64 0, .int .i64 0, .int .i64 0]) (by simp [results, Tryz.results16, go_sem]) rfl ?_
          rw [he.out]
          exact HT.out.v.post _
        · have h1' : ((sig : Int) == 0) = false := beq_eq_false_iff_ne.2 (by omega)
          have h2' : (ad != 0) = true := bne_iff_ne.2 h2
          have hs8 : sig < 8 := by omega
          clear h1 h2
          go_wp2
          go_quiet (fail)
          go_wp2
          refine bodyPost_ret (v := .tuple #[.int .i64 sig, .int .i64 2, .int .i64 ad, .int .i64 0]) (by simp [results, Tryz.results16, go_sem]) rfl ?_
          rw [he.out]
          exact (HT.out.v.later (below_toDrewN (Below.refl _ _) _)).post _
        · have h1' : ((sig : Int) == 0) = false := beq_eq_false_iff_ne.2 (by omega)
          have hs8 : sig < 8 := by omega
          clear h1
          go_wp2
          refine bodyPost_ret (v := .tuple #[.int .i64 sig, .int .i64 1, .int .i64 0, .int .i64 0]) (by simp [results, Tryz.results16, go_sem]) rfl ?_
          rw [he.out]
          exact HT.out.v.post _
      | false =>
        have hne : (⟨p', bl, i, h0, h1, h2, h3, h4, h5, h6, h7⟩ : RecT) ≠ ⟨p, bl, i, h0, h1, h2, h3, h4, h5, h6, h7⟩ := fun e => by rw [(sameRB_iff _ _).2 e] at hsm; cases hsm
        have He2 := Lib.hid (He.out.trans (if_neg hne))
        clear He hne
        have hcall := qmSPut HT.out.v.s hm HN.out p' bl i h0 h1 h2 h3 h4 h5 h6 h7
        obtain ⟨pp, hpp⟩ : ∃ pp, sPut (sSeen V m) m ⟨p', bl, i, h0, h1, h2, h3, h4, h5, h6, h7⟩ = pp := ⟨_, rfl⟩
        rw [hpp] at hcall He2
        obtain ⟨V2, qe⟩ := pp
        have Hcall := Lib.hid hcall
        clear hcall hpp dk
        dsimp only at Hcall He2
        go_wp2_with fail
        refine Hcall.out.mono ?_
        rintro r w6 ⟨rfl, s6, hk6⟩
        have Q6 := Lib.hid (HT.out.v.step s6 hk6)
        have dk := Hdk.out w6 ((hk6 X8 (.inr (.inl rfl))).trans HT.out.e)
        clear s6 hk6 Hcall d0 d1 d2 d3 d4 d5 d6 d7 d8 d9 d10 e0 e1 e2 e3 e4 e5 e6 e7 e8 e9 e10 HT Hdk
        by_cases hqe : qe = 0
        · subst hqe
          have he := Lib.hid (He2.out.trans (if_neg (by simp)))
          clear He2
          rcases Hway.out with ⟨rfl, rfl⟩ | ⟨h1, h2, rfl⟩ | ⟨h1, rfl, rfl⟩
          · go_wp2
            refine bodyPost_ret (v := .tuple #[.int .i64 0, .int .i64 0, .int .i64 0, .int .i64 0]) (by simp [results, Tryz.results16, go_sem]) rfl ?_
            rw [he.out]
            exact Q6.out.post _
          · have h1' : ((sig : Int) == 0) = false := beq_eq_false_iff_ne.2 (by omega)
            have h2' : (ad != 0) = true := bne_iff_ne.2 h2
            have hs8 : sig < 8 := by omega
            clear h1 h2
            go_wp2
            go_quiet (fail)
            go_wp2
            refine bodyPost_ret (v := .tuple #[.int .i64 sig, .int .i64 2, .int .i64 ad, .int .i64 0]) (by simp [results, Tryz.results16, go_sem]) rfl ?_
            rw [he.out]
            exact (Q6.out.later (below_toDrewN (Below.refl _ _) _)).post _
          · have h1' : ((sig : Int) == 0) = false := beq_eq_false_iff_ne.2 (by omega)
            have hs8 : sig < 8 := by omega
            clear h1
            go_wp2
            refine bodyPost_ret (v := .tuple #[.int .i64 sig, .int .i64 1, .int .i64 0, .int .i64 0]) (by simp [results, Tryz.results16, go_sem]) rfl ?_
            rw [he.out]
            exact Q6.out.post _
        · have he := Lib.hid (He2.out.trans (if_pos hqe))
          have hq' : ((qe : Int) != 0) = true := bne_iff_ne.2 (by omega)
          clear hqe
          go_wp2
          refine bodyPost_ret (v := .tuple #[.int .i64 0, .int .i64 0, .int .i64 0, .int .i64 qe]) (by simp [results, Tryz.results16, go_sem]) rfl ?_
          rw [he.out]
          exact Q6.out.post _
end
end Go.Proofs.YtpieaakdddgdeaaGreatDoor
