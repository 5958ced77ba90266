/- Law 36: play. (printed by wip/gen_plu.py) -/
import Derived.Test.YtfobmfenjdiimaaDoorUplA
import Derived.Test.YtfobmfenjdiimaaDoorRtE
import Derived.Test.YtfobmfenjdiimaaDoorRolA
import Derived.Test.YtfobmfenjdiimaaDoorRowU36
namespace Go.Proofs.YtfobmfenjdiimaaDoor
open Go.RowKit
attribute [local go_sem ↓] Go.wp_at_zero Go.wp_at_succ

def ownR (x : TRow) (k : Nat) : Prop := (Value.slice x.a x.n x.c).ownBlock = some k
/-- The blocks that play guards beside G: the map's, and the rows of its values. -/
def GP (G : Nat → Prop) (mp : Nat) (l : List (Int × TRow)) (k : Nat) : Prop := G k ∨ k = mp ∨ ∃ p ∈ l, ownR p.2 k
/-- In the midst of play. -/
structure PU (w0 w W : World) (b M : Nat) (V : AV) (G : Nat → Prop) (mp : Nat) (l : List (Int × TRow)) : Prop where
  s : QM w0 W b M V (GP G mp l)
  g : ∀ k, G k → W.heap[k]? = w.heap[k]?
  m : MapZ encR W mp l
  row : ∀ p ∈ l, RowK kStr W (.slice p.2.a p.2.n p.2.c) p.2.t.typed
  own : ∀ p ∈ l, ∀ k, ownR p.2 k → mp < k
  gm : ∀ k, G k → k < mp
theorem MapZ.kept {α : Type} {enc : α → Value} {w w' : World} {m : Nat} {l : List (Int × α)} (h : MapZ enc w m l) (hb : w'.heap[m]? = w.heap[m]?) : MapZ enc w' m l := by
  obtain ⟨es, clock, h1, h2, h3⟩ := h
  exact ⟨es, clock, hb.trans h1, h2, h3⟩
theorem MapZ.lt {α : Type} {enc : α → Value} {w : World} {m : Nat} {l : List (Int × α)} (h : MapZ enc w m l) : m < w.heap.size := by
  obtain ⟨es, clock, h1, -⟩ := h
  exact lt_of_heap h1
theorem RowK.same {w w' : World} {v : Value} {xs : List ByteArray} (h : RowK kStr w v xs) (hk : ∀ k, v.ownBlock = some k → w'.heap[k]? = w.heap[k]?) : RowK kStr w' v xs := by
  rcases h with h | ⟨g, off, c, rfl, hc, h⟩
  · exact .inl h
  · refine .inr ⟨g, off, c, rfl, hc, fun j x hx i u hu => ?_⟩
    exact (World.cell?_of_block (a := ⟨g, off + j * kStr.S + i, none⟩) (hk g rfl)).trans (h j x hx i u hu)
section
variable {w0 w W W' : World} {b M mp : Nat} {V V' : AV} {G : Nat → Prop} {l : List (Int × TRow)}
theorem PU.later (d : PU w0 w W b M V G mp l) (hb : Below W.heap.size W W') : PU w0 w W' b M V G mp l :=
  ⟨d.s.later hb, fun k hk => (hb.block k (d.s.glt (.inl hk))).trans (d.g k hk), d.m.kept (hb.block _ d.m.lt), fun p hp => (d.row p hp).later hb, d.own, d.gm⟩
/-- A step of the view. -/
theorem PU.step (d : PU w0 w W b M V G mp l) (s : QM w0 W' b M V' (GP G mp l)) (hk : ∀ k, GP G mp l k → W'.heap[k]? = W.heap[k]?) : PU w0 w W' b M V' G mp l :=
  ⟨s, fun k h => (hk k (.inl h)).trans (d.g k h), d.m.kept (hk _ (.inr (.inl rfl))), fun p hp => (d.row p hp).same (fun k h => hk k (.inr (.inr ⟨p, hp, h⟩))), d.own, d.gm⟩
theorem PU.get (d : PU w0 w W b M V G mp l) (hr : ∃ k, RelU V (funR l) k) (n : Int) : ∃ x : TRow, ((iGet l n).map encR).getD (.agg #[.int .i64 0, .string ⟨#[]⟩, .slice none 0 0, .string ⟨#[]⟩]) = encR x ∧ x.t = (funR l n).getD zeroT ∧ RowK kStr W (.slice x.a x.n x.c) x.t.typed ∧ (∀ k, ownR x k → mp < k ∧ GP G mp l k) ∧ (x.t.session.size ≤ 1000000 ∧ x.t.screen.size ≤ 1000000 ∧ x.t.typed.length ≤ 100000) := by
  unfold funR
  cases hg : iGet l n with
  | none => exact ⟨zeroR, rfl, rfl, RowK.nil _, (fun k h => by cases h), ⟨Nat.zero_le _, Nat.zero_le _, Nat.zero_le _⟩⟩
  | some x =>
    have hm := iGet_mem hg
    obtain ⟨k, hr⟩ := hr
    have hh := hr.has n
    unfold funR at hh
    rw [hg] at hh
    obtain ⟨-, hc⟩ := hh
    have hs := checkT_small hc
    exact ⟨x, rfl, rfl, d.row _ hm, fun k h => ⟨d.own _ hm k h, .inr (.inr ⟨_, hm, h⟩)⟩, Nat.le_trans hs.session (by decide), Nat.le_trans hs.screen (by decide), Nat.le_trans hs.typed (by decide)⟩
/-- The map takes a new value. -/
theorem PU.put (d : PU w0 w W b M V G mp l) (n : Int) (x : TRow) (hm : MapZ encR W' mp (iSet l n x)) (hg : W.grownBy W' (some mp)) (hr : RowK kStr W (.slice x.a x.n x.c) x.t.typed) (ho : ∀ k, ownR x k → mp < k)
    (hs : QM w0 W b M V (fun k => GP G mp l k ∨ ownR x k)) : PU w0 w W' b M V G mp (iSet l n x) := by
  have hk : Kept (fun k => k = mp) W W' := Kept.of_grown hg _ (fun k hk => by cases hk; rfl)
  refine ⟨hs.guarded (Kept.of_grown hg _ (fun k hk => by cases hk; exact .inl (.inr (.inl rfl)))) (fun k h => ?_), fun k h => ?_, hm, fun p hp => ?_, fun p hp k h => ?_, d.gm⟩
  · rcases h with h | h | ⟨p, hp, h⟩
    · exact .inl (.inl (.inl h))
    · exact .inl (.inl (.inr (.inl h)))
    · rcases mem_iSet hp with rfl | hp
      · exact .inl (.inr h)
      · exact .inl (.inl (.inr (.inr ⟨p, hp, h⟩)))
  · refine (hg.block k (d.s.glt (.inl h)) (fun e => ?_)).trans (d.g k h)
    have h1 := Option.some.inj e
    have h2 := d.gm k h
    omega
  · rcases mem_iSet hp with rfl | hp
    · exact hr.grown hg (fun k hk e => by have h1 := Option.some.inj e; have h2 := ho k hk; omega)
    · exact (d.row p hp).grown hg (fun k hk e => by have h1 := Option.some.inj e; have h2 := d.own p hp k hk; omega)
  · rcases mem_iSet hp with rfl | hp
    · exact ho k h
    · exact d.own p hp k h
end
/-- The operation lies in a block of its own. -/
structure PO (w0 wr W : World) (b M : Nat) (V : AV) (G : Nat → Prop) (mp : Nat) (l : List (Int × TRow)) (P : Nat) (oc : Array Value) : Prop where
  s : QM w0 W b M V (fun k => GP G mp l k ∨ k = P)
  op : W.heap[P]? = some (.cells oc 99 (0, 0))
  k : ∀ x, GP G mp l x → W.heap[x]? = wr.heap[x]?
  ge : wr.heap.size ≤ P
section
variable {w0 w wr W W' : World} {b M mp P : Nat} {V V' : AV} {G : Nat → Prop} {l : List (Int × TRow)} {oc : Array Value}
theorem PO.start (d : PU w0 w wr b M V G mp l) (hb : Below wr.heap.size wr W) (oc : Array Value) : PO w0 wr (W.alloc (.cells oc 99)) b M V G mp l W.heap.size oc := by
  have hb2 : Below wr.heap.size wr (W.alloc (.cells oc 99)) := hb.alloc hb.size _
  refine ⟨d.s.fresh hb2 (fun k hk => ?_), World.alloc_heap_new _ _, fun x hx => hb2.block x (d.s.glt hx), hb.size⟩
  rcases hk with hk | hk
  · exact .inl hk
  · subst hk
    exact .inr ⟨hb.size, by simp⟩
theorem PO.later (d : PO w0 wr W b M V G mp l P oc) (hb : Below W.heap.size W W') : PO w0 wr W' b M V G mp l P oc :=
  ⟨d.s.later hb, (hb.block _ (lt_of_heap d.op)).trans d.op, fun x hx => (hb.block x (d.s.glt (.inl hx))).trans (d.k x hx), d.ge⟩
theorem PO.step (d : PO w0 wr W b M V G mp l P oc) (s : QM w0 W' b M V' (fun k => GP G mp l k ∨ k = P)) (hk : ∀ k, (GP G mp l k ∨ k = P) → W'.heap[k]? = W.heap[k]?) : PO w0 wr W' b M V' G mp l P oc :=
  ⟨s, (hk _ (.inr rfl)).trans d.op, fun x hx => (hk _ (.inl hx)).trans (d.k x hx), d.ge⟩
theorem PO.pu (d : PO w0 wr W b M V' G mp l P oc) (p : PU w0 w wr b M V G mp l) : PU w0 w W b M V' G mp l :=
  p.step (d.s.fresh (Below.refl _ _) (fun _ hk => .inl (.inl hk))) d.k
end
/-- What play leaves. -/
def Play36 (w0 w : World) (b M : Nat) (G : Nat → Prop) (r : Ending) (w' : World) : Prop :=
  ∃ V l, r = .returned (.tuple #[.map (some w.heap.size), .bool true]) ∧ PU w0 w w' b M V G w.heap.size l ∧ RelU V (funR l) 30
set_option linter.unusedSimpArgs false in
set_option maxRecDepth 100000 in
set_option maxHeartbeats 12800000 in
theorem play36_any {w0 w : World} {b M : Nat} {V0 : AV} {G : Nat → Prop} (s : QM w0 w b M V0 G) (hV : RelU V0 (fun _ => none) 0) (a : Option Addr) (n c : Nat) (f : Nat → OpU) (hops : ∀ W, Below w0.heap.size w0 W → OpSlU W a n f) :
    Calls Tryd.prog 21 #[.pointer (some ⟨b, 0, none⟩), .slice a n c] w (Play36 w0 w b M G) := by
  have HO : Hid (∀ W, Below w0.heap.size w0 W → OpSlU W a n f) := hops
  have HV0 := Lib.hid hV
  have HP0 : Hid (PU w0 w (w.alloc (.map #[] 0)) b M V0 G w.heap.size []) := by
    have hb : Below w.heap.size w (w.alloc (.map #[] 0)) := (Below.refl _ _).alloc (Nat.le_refl _) _
    refine ⟨s.fresh hb (fun k hk => ?_), fun k hk => hb.block k (s.glt hk), ⟨#[], 0, World.alloc_heap_new w _, rfl, ⟨by simp, by simp⟩⟩, (fun p hp => by cases hp), (fun p hp => by cases hp), fun k hk => s.glt hk⟩
    rcases hk with hk | hk | ⟨p, hp, -⟩
    · exact .inl hk
    · exact .inr ⟨by omega, by simp; omega⟩
    · cases hp
  clear hops hV s
  have hmm := @run_makeMap Tryd.prog
  go_enter Tryd.func21, Tryd.ntmps21
  go_wp2_with fail
  clear hmm
  go_loopg [4, 6] 30 (fun gk mv iv wr => ∃ (k : Nat) (V : AV) (l : List (Int × TRow)), k + gk = 30 ∧ mv = .map (some w.heap.size) ∧ iv = .int .i64 k ∧ Hid (PU w0 w wr b M V G w.heap.size l ∧ RelU V (funR l) k))
  case atStart => exact ⟨0, V0, [], by omega, rfl, rfl, HP0.out, HV0.out⟩
  case round =>
    clear HP0 HV0
    obtain ⟨k, V, l, hg, rfl, rfl, HI⟩ := hrel
    have Hg := Lib.hid hg
    have hk30 : k ≤ 30 := by omega
    clear hg
    by_cases hend : ¬ k < n ∨ (k < n ∧ ¬ k < 30)
    · have HF : Hid (Play36 w0 w b M G (.returned (.tuple #[.map (some w.heap.size), .bool true])) wr) := ⟨V, l, rfl, HI.out.1, ⟨HI.out.2.has, Nat.le_trans HI.out.2.len hk30⟩⟩
      rcases hend with h1 | ⟨h1, h2⟩
      all_goals
        go_wp2
        refine bodyPost_ret (v := .tuple #[.map (some w.heap.size), .bool true]) (by simp [results, Tryd.results21, go_sem]) rfl ?_
        exact HF.out
    have hlt : k < n := by omega
    have h30 : k < 30 := by omega
    clear hend
    obtain ⟨g, off, rfl, hc⟩ := HO.out wr HI.out.1.s.below (by omega)
    obtain ⟨c0, c1, c2, c3, c4, hkd, hwho, htext⟩ := hc k hlt
    clear hc
    generalize f k = o at *
    obtain ⟨kd, num, ep, who, text⟩ := o
    dsimp only at c0 c1 c2 c3 c4 hkd hwho htext
    have Hsz : Hid (who.size ≤ 9223372036854775807 ∧ text.size ≤ 9223372036854775807) := ⟨hwho, htext⟩
    have Hlt := Lib.hid hlt
    go_wp2_with fail
    refine (short36_any kd num ep who text wr Hsz.out.1 Hsz.out.2).mono ?_
    rintro r w1 ⟨rfl, hb1⟩
    have HB1 := Lib.hid hb1
    clear hb1 c0 c1 c2 c3 c4
    have HP2 := Lib.hid (PO.start HI.out.1 HB1.out #[.int .u8 kd, .int .i64 num, .int .i64 ep, .string (cutU who 100), .string (cutU text 3000)])
    clear HB1
    go_wp2_with fail
    generalize w1.alloc (.cells #[.int .u8 kd, .int .i64 num, .int .i64 ep, .string (cutU who 100), .string (cutU text 3000)] 99) = W2 at *
    generalize w1.heap.size = P at *
    refine (qmMark HP2.out.s).mono ?_
    rintro r w2 ⟨rfl, rfl⟩
    clear hwho htext
    have o0 : W2.cell? ⟨P, 0, none⟩ = some (.int .u8 kd) := cell_of_heap HP2.out.op 0
    have o1 : W2.cell? ⟨P, 1, none⟩ = some (.int .i64 num) := cell_of_heap HP2.out.op 1
    have o2 : W2.cell? ⟨P, 2, none⟩ = some (.int .i64 ep) := cell_of_heap HP2.out.op 2
    have o3 : W2.cell? ⟨P, 3, none⟩ = some (.string (cutU who 100)) := cell_of_heap HP2.out.op 3
    have o4 : W2.cell? ⟨P, 4, none⟩ = some (.string (cutU text 3000)) := cell_of_heap HP2.out.op 4
    have HL : Hid (V.calls.length < 1000000) := Nat.lt_of_le_of_lt HI.out.2.len (by omega)
    have HDo : Hid (Calls Tryd.prog 47 #[.pointer (some ⟨b, 0, none⟩), .agg #[.int .u8 kd, .int .i64 num, .int .i64 ep, .string (cutU who 100), .string (cutU text 3000)]] W2 (DoUPost w0 W2 b M V (fun k => GP G w.heap.size l k ∨ k = P) (shortU ⟨kd, num, ep, who, text⟩))) := by
      have h := do36_any HP2.out.s (shortU ⟨kd, num, ep, who, text⟩) hkd (Nat.le_trans (cutU_size _ _) (by decide)) (Nat.le_trans (cutU_size _ _) (by decide)) HL.out
      rw [shortU_short] at h
      exact h
    have Hwz : Hid ((shortU ⟨kd, num, ep, who, text⟩).who.size ≤ 1000) := Nat.le_trans (cutU_size _ _) (by decide)
    cases hr : inRange num ep
    case false =>
      obtain ⟨e1, e2⟩ := u_bad (V := V) (o := shortU ⟨kd, num, ep, who, text⟩) hr
      have hways : num < 1 ∨ (¬ num < 1 ∧ 99 < num) ∨ (¬ num < 1 ∧ ¬ 99 < num ∧ ep < 0) ∨ (¬ num < 1 ∧ ¬ 99 < num ∧ ¬ ep < 0 ∧ 1073741824 < ep) := by
        have h : ¬ (1 ≤ num ∧ num ≤ 99 ∧ 0 ≤ ep ∧ ep ≤ 1073741824) := fun h => (Bool.eq_false_iff.1 hr) (inRange_iff.2 h)
        omega
      clear hr
      unfold DoUPost at HDo
      rw [e1, e2] at HDo
      clear e1 e2
      generalize uLine V (shortU ⟨kd, num, ep, who, text⟩) = ln at *
      generalize uGot V (shortU ⟨kd, num, ep, who, text⟩) = gt at *
      obtain ⟨ge, gs, gl, gc⟩ := gt
      dsimp only at HDo
      go_wp2_with fail
      refine HDo.out.mono ?_
      rintro r w3 ⟨ga, gn, gk', rfl, -, hs3, hk3⟩
      have HP3 := Lib.hid (HP2.out.step hs3 hk3)
      have HA3 : Hid (∀ o, PO w0 wr (w3.alloc o) b M V G w.heap.size l P #[.int .u8 kd, .int .i64 num, .int .i64 ep, .string (cutU who 100), .string (cutU text 3000)]) := fun o => HP3.out.later ((Below.refl _ _).alloc (Nat.le_refl _) _)
      have HC3 : Hid (∀ o i, (w3.alloc o).cell? ⟨P, i, none⟩ = (#[.int .u8 kd, .int .i64 num, .int .i64 ep, .string (cutU who 100), .string (cutU text 3000)] : Array Value)[i]?) := fun o i => cell_of_heap (HA3.out o).op i
      clear hs3 hk3 HDo o0 o1 o2 o3 o4 HP2
      have o1 : ∀ o, (w3.alloc o).cell? ⟨P, 1, none⟩ = some (.int .i64 num) := fun o => HC3.out o 1
      have o2 : ∀ o, (w3.alloc o).cell? ⟨P, 2, none⟩ = some (.int .i64 ep) := fun o => HC3.out o 2
      clear HC3
      rcases hways with h1 | ⟨h1, h2⟩ | ⟨h1, h2, h3⟩ | ⟨h1, h2, h3, h4⟩
      all_goals
        go_wp2_with fail
        refine (qmMark (HA3.out _).s).mono ?_
        rintro r w4 ⟨rfl, rfl⟩
        go_wp2
        go_roundg (30 - (k + 1))
        case measure => have := Hg.out; omega
        case rel => exact ⟨k + 1, V, l, by omega, rfl, by go_num, (HA3.out _).pu HI.out.1, ⟨HI.out.2.has, Nat.le_succ_of_le HI.out.2.len⟩⟩
    case true =>
      obtain ⟨n1, n2, n3, n4⟩ := inRange_iff.1 hr
      obtain ⟨x0, hx, hxt, hxr, hxo, hxz⟩ := HI.out.1.get ⟨k, HI.out.2⟩ num
      have hst := u_step HI.out.2 Hwz.out hr
      obtain ⟨d1, d2, d3, d4, d5, d6⟩ := hst
      rw [show (shortU ⟨kd, num, ep, who, text⟩).num = num from rfl, show (shortU ⟨kd, num, ep, who, text⟩).ep = ep from rfl, ← hxt] at d1 d2 d3 d4 d5 d6
      unfold DoUPost at HDo
      rw [d1, d2, d3] at HDo
      clear d1 d2 d3 hr hxt
      obtain ⟨⟨ep0, se, ls, sc⟩, a0, n0, c0⟩ := x0
      dsimp only at hxr hxz d4 d5 d6
      have HSm : Hid (∀ W, RowK kStr W (.slice a0 n0 c0) ls → (∀ k, (Value.slice a0 n0 c0).ownBlock = some k → k < W.heap.size) → Calls Tryd.prog 48 #[.agg #[.int .i64 ep0, .string se, .slice a0 n0 c0, .string sc], .agg #[.int .u8 kd, .int .i64 num, .int .i64 ep, .string (cutU who 100), .string (cutU text 3000)]] W (SamePost W (.slice a0 n0 c0) ⟨ep0, se, ls, sc⟩ (shortU ⟨kd, num, ep, who, text⟩))) := fun W h1 h2 => by
        have h := same36_any ep0 se sc a0 n0 c0 ls (shortU ⟨kd, num, ep, who, text⟩) W h1 h2 hxz hkd (Nat.le_trans (cutU_size _ _) (by decide)) (Nat.le_trans (cutU_size _ _) (by decide))
        rw [shortU_short] at h
        exact h
      have HX0 : Hid (RowK kStr wr (.slice a0 n0 c0) ls ∧ ∀ k, ownR ⟨⟨ep0, se, ls, sc⟩, a0, n0, c0⟩ k → w.heap.size < k ∧ GP G w.heap.size l k) := ⟨hxr, hxo⟩
      have HLk : Hid (∀ W, MapZ encR W w.heap.size l → (Instr.lookup 52 (.map (some w.heap.size)) (.int .i64 num) false).run Tryd.prog W = .ok (.agg #[.int .i64 ep0, .string se, .slice a0 n0 c0, .string sc]) W) := fun W hW => by
        have h := run_lookup1_int encR W 52 24 Tryd.underlying52 (.agg #[.int .i64 0, .string ⟨#[]⟩, .slice none 0 0, .string ⟨#[]⟩]) (by kernel_rfl) w.heap.size l hW num
        rw [hx] at h
        exact h
      clear hx hxr hxo
      have HCh : Hid (uCh (shortU ⟨kd, num, ep, who, text⟩) = (decide (kd % 8 < 7) && !(decide (kd % 8 = 6) && decide ((cutU text 3000).size = 0)))) := rfl
      have HGl : Hid ((uGotT (shortU ⟨kd, num, ep, who, text⟩) (inT ⟨ep0, se, ls, sc⟩ ep)).typed.length ≤ 1000000) := by
        have h1 := (inT_bounds (T := ⟨ep0, se, ls, sc⟩) (e := ep) hxz.1 hxz.2.1 hxz.2.2).2.2
        unfold uGotT
        split
        · exact Nat.le_trans h1 (by decide)
        · exact Nat.zero_le _
      unfold SamePost at HSm
      rw [show (shortU ⟨kd, num, ep, who, text⟩).ep = ep from rfl] at HSm
      have Hq1 : Hid (∀ e, uOp (shortU ⟨kd, num, ep, who, text⟩) (inT ⟨ep0, se, ls, sc⟩ ep) = e → (uOp (shortU ⟨kd, num, ep, who, text⟩) (inT ⟨ep0, se, ls, sc⟩ ep)).2 = e.2) := fun e h => by rw [h]
      clear Hq1
      generalize uOp (shortU ⟨kd, num, ep, who, text⟩) (inT ⟨ep0, se, ls, sc⟩ ep) = p at *
      generalize uLineT (shortU ⟨kd, num, ep, who, text⟩) (inT ⟨ep0, se, ls, sc⟩ ep) = ln at *
      generalize uGotT (shortU ⟨kd, num, ep, who, text⟩) (inT ⟨ep0, se, ls, sc⟩ ep) = gt at *
      obtain ⟨⟨ne, ns, nl, nc⟩, q⟩ := p
      obtain ⟨ge, gs, gl, gc⟩ := gt
      dsimp only at HDo HSm d4 d5 d6 HGl
      clear hxz
      generalize uV V (shortU ⟨kd, num, ep, who, text⟩) = V1 at *
      generalize uCh (shortU ⟨kd, num, ep, who, text⟩) = ch at *
      have D4 := Lib.hid d4
      have D5 := Lib.hid d5
      have D6 := Lib.hid d6
      clear d4 d5 d6 Hwz
      go_wp2_with fail
      refine HDo.out.mono ?_
      rintro r w3 ⟨ga, gn, gk', rfl, hgr, hs3, hk3⟩
      have HP3 := Lib.hid (HP2.out.step hs3 hk3)
      have HGr := Lib.hid hgr.sl
      clear hs3 hk3 HDo o0 o1 o2 o3 o4 HP2 hgr
      have HP4 := Lib.hid (HP3.out.later ((Below.refl w3.heap.size w3).alloc (Nat.le_refl _) (.cells #[.int .i64 ge, .string gs, .slice ga gn gk', .string gc] 33)))
      have HT4 := Lib.hid (World.alloc_heap_new w3 (.cells #[.int .i64 ge, .string gs, .slice ga gn gk', .string gc] 33))
      have HG4 := Lib.hid (HGr.out.later ((Below.refl w3.heap.size w3).alloc (Nat.le_refl _) (.cells #[.int .i64 ge, .string gs, .slice ga gn gk', .string gc] 33)))
      have HL4 := HLk.out _ (HP4.out.pu HI.out.1).m
      have HC4 : Hid (∀ i, (w3.alloc (.cells #[.int .i64 ge, .string gs, .slice ga gn gk', .string gc] 33)).cell? ⟨P, i, none⟩ = (#[.int .u8 kd, .int .i64 num, .int .i64 ep, .string (cutU who 100), .string (cutU text 3000)] : Array Value)[i]?) := fun i => cell_of_heap HP4.out.op i
      have o0 := HC4.out 0
      have o1 := HC4.out 1
      have o2 := HC4.out 2
      have o3 := HC4.out 3
      have o4 := HC4.out 4
      clear HC4 HP3 HGr HLk
      dsimp at o0 o1 o2 o3 o4
      go_wp2_with fail
      generalize w3.alloc (.cells #[.int .i64 ge, .string gs, .slice ga gn gk', .string gc] 33) = W4 at *
      generalize w3.heap.size = X at *
      refine (HSm.out _ (HX0.out.1.same (fun k hk => HP4.out.k k (HX0.out.2 k hk).2)) (fun k hk => HP4.out.s.glt (.inl (HX0.out.2 k hk).2))).mono ?_
      rintro r w5 ⟨na, nn, nc', xa, xn, xc, rfl, hnr, hxr, hno, hb5⟩
      have HB5 : Hid (Below W4.heap.size W4 w5) := hb5
      have HT5 := Lib.hid ((hb5.block _ (lt_of_heap HT4.out)).trans HT4.out)
      have HG5 := Lib.hid (HG4.out.later hb5)
      have HN5 : Hid (RowK kStr w5 (.slice na nn nc') nl) := hnr
      have HX5 : Hid (RowK kStr w5 (.slice xa xn xc) gl) := hxr
      have HOw : Hid (∀ k, ownR ⟨⟨ne, ns, nl, nc⟩, na, nn, nc'⟩ k → w.heap.size < k ∧ (GP G w.heap.size l k ∨ (W4.heap.size ≤ k ∧ k < w5.heap.size))) := fun k hk => by
        rcases hno k hk with h | h
        · exact ⟨(HX0.out.2 k h).1, .inl (HX0.out.2 k h).2⟩
        · have := (HP4.out.pu HI.out.1).m.lt
          exact ⟨by omega, .inr h⟩
      clear hnr hxr hno hb5 HSm HX0 HT4 HG4 HL4 o0 o1 o2 o3 o4
      have HA5 : Hid (∀ o o', Below w5.heap.size w5 ((w5.alloc o).alloc o')) := fun o o' => ((Below.refl _ _).alloc (Nat.le_refl _) _).alloc (by simp) _
      have HX2 : Hid (∀ o o' : Obj, ((w5.alloc o).alloc o').heap[w5.heap.size]? = some o ∧ ((w5.alloc o).alloc o').heap[w5.heap.size + 1]? = some o') := fun o o' => ⟨(Below.heap_alloc _ _ _ (by simp)).trans (World.alloc_heap_new w5 _), by have := World.alloc_heap_new (w5.alloc o) o'; rw [World.size_alloc] at this; exact this⟩
      dsimp only
      go_upto_region 12 with fail
      have HB6 : Hid (Below w5.heap.size w5 ((w5.alloc (.cells #[.int .i64 ne, .string ns, .slice na nn nc', .string nc] 24)).alloc (.cells #[.int .i64 ge, .string gs, .slice xa xn xc, .string gc] 24))) := HA5.out _ _
      have HY1 := Lib.hid (HX2.out (.cells #[.int .i64 ne, .string ns, .slice na nn nc', .string nc] 24) (.cells #[.int .i64 ge, .string gs, .slice xa xn xc, .string gc] 24)).1
      have HY2 := Lib.hid (HX2.out (.cells #[.int .i64 ne, .string ns, .slice na nn nc', .string nc] 24) (.cells #[.int .i64 ge, .string gs, .slice xa xn xc, .string gc] 24)).2
      clear HA5 HX2
      generalize (w5.alloc (.cells #[.int .i64 ne, .string ns, .slice na nn nc', .string nc] 24)).alloc (.cells #[.int .i64 ge, .string gs, .slice xa xn xc, .string gc] 24) = W6 at *
      have HT6 := Lib.hid ((HB6.out.block _ (lt_of_heap HT5.out)).trans HT5.out)
      have HG6 := Lib.hid (HG5.out.later HB6.out)
      have HX6 := Lib.hid (HX5.out.later HB6.out).ssl
      have HN6 := Lib.hid (HN5.out.later HB6.out)
      have HB46 : Hid (Below W4.heap.size W4 W6) := HB5.out.trans (HB6.out.mono HB5.out.size)
      have HP6 := Lib.hid (HP4.out.later HB46.out)
      have HOw6 : Hid (∀ k, ownR ⟨⟨ne, ns, nl, nc⟩, na, nn, nc'⟩ k → w.heap.size < k ∧ (GP G w.heap.size l k ∨ (W4.heap.size ≤ k ∧ k < W6.heap.size))) := fun k hk => ⟨(HOw.out k hk).1, (HOw.out k hk).2.imp id fun h => ⟨h.1, Nat.lt_of_lt_of_le h.2 HB6.out.size⟩⟩
      have hgn := HG6.out.1
      subst hgn
      have hxn := HX6.out.1
      subst hxn
      have Hgl : Hid (gl.length ≤ 1000000) := HGl.out
      have HSx : Hid (∀ W, Below W6.heap.size W6 W → W.cell? ⟨X, 0, none⟩ = some (.int .i64 ge) ∧ W.cell? ⟨X, 1, none⟩ = some (.string gs) ∧ W.cell? ⟨X, 2, none⟩ = some (.slice ga gl.length gk') ∧ W.cell? ⟨X, 3, none⟩ = some (.string gc) ∧ W.cell? ⟨w5.heap.size + 1, 0, none⟩ = some (.int .i64 ge) ∧ W.cell? ⟨w5.heap.size + 1, 1, none⟩ = some (.string gs) ∧ W.cell? ⟨w5.heap.size + 1, 2, none⟩ = some (.slice xa gl.length xc) ∧ W.cell? ⟨w5.heap.size + 1, 3, none⟩ = some (.string gc)) := fun W hW => by
        have g1 := (hW.block _ (lt_of_heap HT6.out)).trans HT6.out
        have g2 := (hW.block _ (lt_of_heap HY2.out)).trans HY2.out
        exact ⟨cell_of_heap g1 0, cell_of_heap g1 1, cell_of_heap g1 2, cell_of_heap g1 3, cell_of_heap g2 0, cell_of_heap g2 1, cell_of_heap g2 2, cell_of_heap g2 3⟩
      have HOf : Hid (∀ W, Below W6.heap.size W6 W → Calls Tryd.prog 17 #[.agg #[.int .i64 ge, .string gs, .slice ga gl.length gk', .string gc]] W fun r w' => ∃ b d, r = .returned (.agg #[.int .i64 ge, .string gs, .slice b gl.length d, .string gc]) ∧ SSl w' b gl.length gl ∧ Below W.heap.size W w') := fun W hW => (of36_any ge gs gc ga gl.length gk' gl W (HG6.out.later hW) Hgl.out).mono (fun r w' h => by obtain ⟨b, d, h1, h2, -, h4⟩ := h; exact ⟨b, d, h1, h2.sl, h4⟩)
      have HS1 : Hid (∀ W b d, Below W6.heap.size W6 W → SSl W b gl.length gl → Calls Tryd.prog 16 #[.agg #[.int .i64 ge, .string gs, .slice b gl.length d, .string gc], .agg #[.int .i64 ge, .string gs, .slice xa gl.length xc, .string gc]] W fun r w' => r = .returned (.bool true) ∧ Below W.heap.size W w') := fun W b d hW h => (rSame36_any ge gs gc b gl.length d gl ge gs gc xa gl.length xc gl W h (HX6.out.later hW) (by have := Hgl.out; omega)).mono (fun r w' h => ⟨h.1.trans (by rw [decide_eq_true rfl]), h.2⟩)
      have HMk : Hid (∀ W, Below W6.heap.size W6 W → Calls Tryd.prog 46 #[.pointer (some ⟨b, 0, none⟩)] W fun r w' => r = .returned (.int .i64 V1.calls.length) ∧ W = w') := fun W hW => qmMark (HP6.out.s.later hW)
      have hlr : (ln.toList != ln.toList) = false := by simp
      have HD0 : Hid (Below W6.heap.size W6 W6.drew) := (Below.refl _ _).drew
      clear HG5 HX5 HN5 HT5 HG6 HX6 HT6 HB6 HOw HY2
      by_cases hq : q = 0
      · subst hq
        refine wp_region_held_drew (S := (fun W => W.cell? ⟨X, 0, none⟩ = some (.int .i64 ge) ∧ W.cell? ⟨X, 1, none⟩ = some (.string gs) ∧ W.cell? ⟨X, 2, none⟩ = some (.slice ga gl.length gk') ∧ W.cell? ⟨X, 3, none⟩ = some (.string gc) ∧ W.cell? ⟨w5.heap.size + 1, 0, none⟩ = some (.int .i64 ge) ∧ W.cell? ⟨w5.heap.size + 1, 1, none⟩ = some (.string gs) ∧ W.cell? ⟨w5.heap.size + 1, 2, none⟩ = some (.slice xa gl.length xc) ∧ W.cell? ⟨w5.heap.size + 1, 3, none⟩ = some (.string gc))) (by kernel_rfl) (HSx.out _ HD0.out) (fun hHeld0 => ?_)
        refine wpAnyH_take (i := 0) (v := ?_) rfl (by kernel_rfl) (by kernel_rfl) (by kernel_rfl) (fun _ _ _ h => h) (Or.inl ⟨by rfl, ?_⟩) (by assumption) ?_
        rotate_left
        · (intro wx hSw; (try dsimp only at hSw); go_simp <;> with_reducible rfl)
        try simp only [Act.put, List.setIfInBounds_toArray, List.set_cons_zero, List.set_cons_succ, List.getElem_toArray, List.getElem_cons_zero, List.getElem_cons_succ]
        refine wpAnyH_take (i := 1) (v := ?_) rfl (by kernel_rfl) (by kernel_rfl) (by kernel_rfl) (fun _ _ _ h => h) (Or.inl ⟨by rfl, ?_⟩) (by assumption) ?_
        rotate_left
        · (intro wx hSw; (try dsimp only at hSw); go_simp <;> with_reducible rfl)
        try simp only [Act.put, List.setIfInBounds_toArray, List.set_cons_zero, List.set_cons_succ, List.getElem_toArray, List.getElem_cons_zero, List.getElem_cons_succ]
        refine wpAnyH_take (i := 2) (v := ?_) rfl (by kernel_rfl) (by kernel_rfl) (by kernel_rfl) (fun _ _ _ h => h) (Or.inl ⟨by rfl, ?_⟩) (by assumption) ?_
        rotate_left
        · (intro wx hSw; (try dsimp only at hSw); go_simp <;> with_reducible rfl)
        try simp only [Act.put, List.setIfInBounds_toArray, List.set_cons_zero, List.set_cons_succ, List.getElem_toArray, List.getElem_cons_zero, List.getElem_cons_succ]
        refine wpAnyH_take (i := 3) (v := ?_) rfl (by kernel_rfl) (by kernel_rfl) (by kernel_rfl) (fun _ _ _ h => h) (Or.inl ⟨by rfl, ?_⟩) (by assumption) ?_
        rotate_left
        · (intro wx hSw; (try dsimp only at hSw); go_simp <;> with_reducible rfl)
        try simp only [Act.put, List.setIfInBounds_toArray, List.set_cons_zero, List.set_cons_succ, List.getElem_toArray, List.getElem_cons_zero, List.getElem_cons_succ]
        refine wpAnyH_take (i := 4) (v := ?_) rfl (by kernel_rfl) (by kernel_rfl) (by kernel_rfl) (fun _ _ _ h => h) (Or.inl ⟨by rfl, ?_⟩) (by assumption) ?_
        rotate_left
        · (intro wx hSw; (try dsimp only at hSw); go_simp <;> with_reducible rfl)
        try simp only [Act.put, List.setIfInBounds_toArray, List.set_cons_zero, List.set_cons_succ, List.getElem_toArray, List.getElem_cons_zero, List.getElem_cons_succ]
        refine wpAnyH_take (i := 5) (v := ?_) rfl (by kernel_rfl) (by kernel_rfl) (by kernel_rfl) (fun _ _ _ h => h) (Or.inl ⟨by rfl, ?_⟩) (by assumption) ?_
        rotate_left
        · (intro wx hSw; (try dsimp only at hSw); go_simp <;> with_reducible rfl)
        try simp only [Act.put, List.setIfInBounds_toArray, List.set_cons_zero, List.set_cons_succ, List.getElem_toArray, List.getElem_cons_zero, List.getElem_cons_succ]
        refine wpAnyH_take (i := 6) (v := ?_) rfl (by kernel_rfl) (by kernel_rfl) (by kernel_rfl) (fun _ _ _ h => h) (Or.inl ⟨by rfl, ?_⟩) (by assumption) ?_
        rotate_left
        · (intro wx hSw; (try dsimp only at hSw); go_simp <;> with_reducible rfl)
        try simp only [Act.put, List.setIfInBounds_toArray, List.set_cons_zero, List.set_cons_succ, List.getElem_toArray, List.getElem_cons_zero, List.getElem_cons_succ]
        refine wpAnyH_take (i := 7) (v := ?_) rfl (by kernel_rfl) (by kernel_rfl) (by kernel_rfl) (fun _ _ _ h => h) (Or.inl ⟨by rfl, ?_⟩) (by assumption) ?_
        rotate_left
        · (intro wx hSw; (try dsimp only at hSw); go_simp <;> with_reducible rfl)
        try simp only [Act.put, List.setIfInBounds_toArray, List.set_cons_zero, List.set_cons_succ, List.getElem_toArray, List.getElem_cons_zero, List.getElem_cons_succ]
        refine wpAnyH_take (i := 8) (v := ?_) rfl (by kernel_rfl) (by kernel_rfl) (by kernel_rfl) (fun _ _ _ h => h) (Or.inl ⟨by rfl, ?_⟩) (by assumption) ?_
        rotate_left
        · (intro wx hSw; (try dsimp only at hSw); go_simp <;> with_reducible rfl)
        try simp only [Act.put, List.setIfInBounds_toArray, List.set_cons_zero, List.set_cons_succ, List.getElem_toArray, List.getElem_cons_zero, List.getElem_cons_succ]
        refine wpAnyH_take (i := 9) (v := ?_) rfl (by kernel_rfl) (by kernel_rfl) (by kernel_rfl) (fun _ _ _ h => h) (Or.inl ⟨by rfl, ?_⟩) (by assumption) ?_
        rotate_left
        · (intro wx hSw; (try dsimp only at hSw); go_simp <;> with_reducible rfl)
        try simp only [Act.put, List.setIfInBounds_toArray, List.set_cons_zero, List.set_cons_succ, List.getElem_toArray, List.getElem_cons_zero, List.getElem_cons_succ]
        refine wpAnyH_take (i := 11) (v := ?_) rfl (by kernel_rfl) (by kernel_rfl) (by kernel_rfl) (fun _ _ _ h => h) (Or.inl ⟨by rfl, ?_⟩) (by assumption) ?_
        rotate_left
        · (intro wx hSw; (try dsimp only at hSw); go_simp <;> with_reducible rfl)
        try simp only [Act.put, List.setIfInBounds_toArray, List.set_cons_zero, List.set_cons_succ, List.getElem_toArray, List.getElem_cons_zero, List.getElem_cons_succ]
        refine wpAnyH_ready (rs := [10]) (by kernel_rfl) (by simp) ?_
        refine AllReadyH.cons rfl (fun K hK => ?_) AllReadyH.nil
        go_simp
        go_at_call 17
        (with_reducible refine (HOf.out _ HD0.out).mono ?_)
        rintro r v1 ⟨b1, d1, rfl, hr1, hb⟩
        have B1 : Hid (Below W6.heap.size W6 v1) := HD0.out.trans (hb.mono HD0.out.size)
        have R1 := Lib.hid hr1
        clear hr1
        clear hb
        go_wp2_with fail
        refine hK.out _ _ (HSx.out _ B1.out) (fun hHeld1 => ?_)
        clear hK K hHeld0
        try simp only [Act.put, List.setIfInBounds_toArray, List.set_cons_zero, List.set_cons_succ, List.getElem_toArray, List.getElem_cons_zero, List.getElem_cons_succ]
        refine wpAnyH_ready (rs := [12]) (by kernel_rfl) (by simp) ?_
        refine AllReadyH.cons rfl (fun K hK => ?_) AllReadyH.nil
        go_simp
        go_at_call 16
        (with_reducible refine (HS1.out _ _ _ B1.out R1.out).mono ?_)
        rintro r v2 ⟨rfl, hb⟩
        have B2 : Hid (Below W6.heap.size W6 v2) := B1.out.trans (hb.mono B1.out.size)
        clear hb
        go_wp2_with fail
        refine hK.out _ _ (HSx.out _ B2.out) (fun hHeld2 => ?_)
        clear hK K hHeld1
        try simp only [Act.put, List.setIfInBounds_toArray, List.set_cons_zero, List.set_cons_succ, List.getElem_toArray, List.getElem_cons_zero, List.getElem_cons_succ]
        refine wpAnyH_take (i := 13) (v := ?_) rfl (by kernel_rfl) (by kernel_rfl) (by kernel_rfl) (fun _ _ _ h => h) (Or.inl ⟨by rfl, ?_⟩) (by assumption) ?_
        rotate_left
        · (intro wx hSw; (try dsimp only at hSw); go_simp <;> with_reducible rfl)
        try simp only [Act.put, List.setIfInBounds_toArray, List.set_cons_zero, List.set_cons_succ, List.getElem_toArray, List.getElem_cons_zero, List.getElem_cons_succ]
        refine wpAnyH_take (i := 14) (v := ?_) rfl (by kernel_rfl) (by kernel_rfl) (by kernel_rfl) (fun _ _ _ h => h) (Or.inl ⟨by rfl, ?_⟩) (by assumption) ?_
        rotate_left
        · (intro wx hSw; (try dsimp only at hSw); go_simp <;> with_reducible rfl)
        try simp only [Act.put, List.setIfInBounds_toArray, List.set_cons_zero, List.set_cons_succ, List.getElem_toArray, List.getElem_cons_zero, List.getElem_cons_succ]
        refine wpAnyH_take (i := 15) (v := ?_) rfl (by kernel_rfl) (by kernel_rfl) (by kernel_rfl) (fun _ _ _ h => h) (Or.inl ⟨by rfl, ?_⟩) (by assumption) ?_
        rotate_left
        · (intro wx hSw; (try dsimp only at hSw); go_simp <;> with_reducible rfl)
        try simp only [Act.put, List.setIfInBounds_toArray, List.set_cons_zero, List.set_cons_succ, List.getElem_toArray, List.getElem_cons_zero, List.getElem_cons_succ]
        refine wpAnyH_take (i := 16) (v := ?_) rfl (by kernel_rfl) (by kernel_rfl) (by kernel_rfl) (fun _ _ _ h => h) (Or.inl ⟨by rfl, ?_⟩) (by assumption) ?_
        rotate_left
        · (intro wx hSw; (try dsimp only at hSw); go_simp <;> with_reducible rfl)
        try simp only [Act.put, List.setIfInBounds_toArray, List.set_cons_zero, List.set_cons_succ, List.getElem_toArray, List.getElem_cons_zero, List.getElem_cons_succ]
        refine wpAnyH_take (i := 17) (v := ?_) rfl (by kernel_rfl) (by kernel_rfl) (by kernel_rfl) (fun _ _ _ h => h) (Or.inl ⟨by rfl, ?_⟩) (by assumption) ?_
        rotate_left
        · (intro wx hSw; (try dsimp only at hSw); go_simp <;> with_reducible rfl)
        try simp only [Act.put, List.setIfInBounds_toArray, List.set_cons_zero, List.set_cons_succ, List.getElem_toArray, List.getElem_cons_zero, List.getElem_cons_succ]
        refine wpAnyH_take (i := 18) (v := ?_) rfl (by kernel_rfl) (by kernel_rfl) (by kernel_rfl) (fun _ _ _ h => h) (Or.inl ⟨by rfl, ?_⟩) (by assumption) ?_
        rotate_left
        · (intro wx hSw; (try dsimp only at hSw); go_simp <;> with_reducible rfl)
        try simp only [Act.put, List.setIfInBounds_toArray, List.set_cons_zero, List.set_cons_succ, List.getElem_toArray, List.getElem_cons_zero, List.getElem_cons_succ]
        refine wpAnyH_take (i := 19) (v := undef) rfl (by kernel_rfl) (by kernel_rfl) (by kernel_rfl) (fun _ _ _ h => h) (Or.inr ⟨by simp [Region.wanted, yielded, undef], rfl⟩) (by assumption) ?_
        try simp only [Act.put, List.setIfInBounds_toArray, List.set_cons_zero, List.set_cons_succ, List.getElem_toArray, List.getElem_cons_zero, List.getElem_cons_succ]
        refine wpAnyH_take (i := 20) (v := undef) rfl (by kernel_rfl) (by kernel_rfl) (by kernel_rfl) (fun _ _ _ h => h) (Or.inr ⟨by simp [Region.wanted, yielded, undef], rfl⟩) (by assumption) ?_
        try simp only [Act.put, List.setIfInBounds_toArray, List.set_cons_zero, List.set_cons_succ, List.getElem_toArray, List.getElem_cons_zero, List.getElem_cons_succ]
        refine wpAnyH_take (i := 21) (v := undef) rfl (by kernel_rfl) (by kernel_rfl) (by kernel_rfl) (fun _ _ _ h => h) (Or.inr ⟨by simp [Region.wanted, yielded, undef], rfl⟩) (by assumption) ?_
        try simp only [Act.put, List.setIfInBounds_toArray, List.set_cons_zero, List.set_cons_succ, List.getElem_toArray, List.getElem_cons_zero, List.getElem_cons_succ]
        refine wpAnyH_take (i := 22) (v := undef) rfl (by kernel_rfl) (by kernel_rfl) (by kernel_rfl) (fun _ _ _ h => h) (Or.inr ⟨by simp [Region.wanted, yielded, undef], rfl⟩) (by assumption) ?_
        try simp only [Act.put, List.setIfInBounds_toArray, List.set_cons_zero, List.set_cons_succ, List.getElem_toArray, List.getElem_cons_zero, List.getElem_cons_succ]
        refine wpAnyH_take (i := 23) (v := ?_) rfl (by kernel_rfl) (by kernel_rfl) (by kernel_rfl) (fun _ _ _ h => h) (Or.inl ⟨by rfl, ?_⟩) (by assumption) ?_
        rotate_left
        · (intro wx hSw; (try dsimp only at hSw); go_simp <;> with_reducible rfl)
        try simp only [Act.put, List.setIfInBounds_toArray, List.set_cons_zero, List.set_cons_succ, List.getElem_toArray, List.getElem_cons_zero, List.getElem_cons_succ]
        refine wpAnyH_take (i := 24) (v := ?_) rfl (by kernel_rfl) (by kernel_rfl) (by kernel_rfl) (fun _ _ _ h => h) (Or.inl ⟨by rfl, ?_⟩) (by assumption) ?_
        rotate_left
        · (intro wx hSw; (try dsimp only at hSw); go_simp <;> with_reducible rfl)
        try simp only [Act.put, List.setIfInBounds_toArray, List.set_cons_zero, List.set_cons_succ, List.getElem_toArray, List.getElem_cons_zero, List.getElem_cons_succ]
        refine wpAnyH_done (by kernel_rfl) ?_ _
        have HP9 := Lib.hid (HP6.out.later B2.out)
        have HN9 := Lib.hid (HN6.out.later B2.out)
        have HY9 := Lib.hid ((B2.out.block _ (lt_of_heap HY1.out)).trans HY1.out)
        have HB49 : Hid (Below W4.heap.size W4 v2) := HB46.out.trans (B2.out.mono HB46.out.size)
        have o0 : v2.cell? ⟨P, 0, none⟩ = some (.int .u8 kd) := cell_of_heap HP9.out.op 0
        have o1 : v2.cell? ⟨P, 1, none⟩ = some (.int .i64 num) := cell_of_heap HP9.out.op 1
        have o4 : v2.cell? ⟨P, 4, none⟩ = some (.string (cutU text 3000)) := cell_of_heap HP9.out.op 4
        have y0 : v2.cell? ⟨w5.heap.size, 0, none⟩ = some (.int .i64 ne) := cell_of_heap HY9.out 0
        have y1 : v2.cell? ⟨w5.heap.size, 1, none⟩ = some (.string ns) := cell_of_heap HY9.out 1
        have y2 : v2.cell? ⟨w5.heap.size, 2, none⟩ = some (.slice na nn nc') := cell_of_heap HY9.out 2
        have y3 : v2.cell? ⟨w5.heap.size, 3, none⟩ = some (.string nc) := cell_of_heap HY9.out 3
        obtain ⟨w9, hrun, hm9, hg9⟩ := run_mapUpdate_int encR v2 52 24 Tryd.underlying52 w.heap.size l (HP9.out.pu HI.out.1).m num ⟨⟨ne, ns, nl, nc⟩, na, nn, nc'⟩
        unfold encR at hrun
        dsimp only at hrun
        have HF : Hid (ch = true → PU w0 w w9 b M V1 G w.heap.size (iSet l num ⟨⟨ne, ns, nl, nc⟩, na, nn, nc'⟩) ∧ RelU V1 (funR (iSet l num ⟨⟨ne, ns, nl, nc⟩, na, nn, nc'⟩)) (k + 1)) := fun hch => by
          refine ⟨(HP9.out.pu HI.out.1).put num ⟨⟨ne, ns, nl, nc⟩, na, nn, nc'⟩ hm9 hg9 HN9.out (fun k hk => (HOw6.out k hk).1) (HP4.out.s.fresh HB49.out (fun k hk => ?_)), by rw [funR_set]; exact D5.out (by first | rfl | trivial) hch⟩
          rcases hk with hk | hk
          · exact .inl (.inl hk)
          · rcases (HOw6.out k hk).2 with h | h
            · exact .inl (.inl h)
            · exact .inr ⟨h.1, Nat.lt_of_lt_of_le h.2 B2.out.size⟩
        have HF2 : Hid (ch = false → RelU V1 (funR l) (k + 1)) := fun hch => D6.out (fun h => by rw [hch] at h; cases h.2)
        clear hm9 hg9 HN9 HY9 HB49 D4 D5 D6 HOw6 HMk HOf HS1 HSx HD0 R1 B1
        have hways : kd % 8 = 7 ∨ (kd % 8 = 6 ∧ (cutU text 3000).size = 0) ∨ (kd % 8 = 6 ∧ (cutU text 3000).size ≠ 0) ∨ kd % 8 < 6 := by omega
        rcases hways with h7 | ⟨h6, ht⟩ | ⟨h6, ht⟩ | h5
        · have hch : ch = false := by rw [HCh.out, decide_eq_false (by omega)]; rfl
          have hj : (kd : Int) % 8 = 7 := by omega
          have HR := Lib.hid (HF2.out hch)
          clear HF hch HCh hrun
          go_wp2
          go_roundg (30 - (k + 1))
          case measure => have := Hg.out; omega
          case rel => exact ⟨k + 1, V1, l, by omega, rfl, by go_num, HP9.out.pu HI.out.1, HR.out⟩
        · have hch : ch = false := by rw [HCh.out, decide_eq_true h6, decide_eq_true ht]; simp
          have hj : (kd : Int) % 8 = 6 := by omega
          have he := empty_of ht
          have HR := Lib.hid (HF2.out hch)
          clear HF hch HCh hrun ht
          go_wp2
          go_roundg (30 - (k + 1))
          case measure => have := Hg.out; omega
          case rel => exact ⟨k + 1, V1, l, by omega, rfl, by go_num, HP9.out.pu HI.out.1, HR.out⟩
        · have hch : ch = true := by rw [HCh.out, decide_eq_true h6, decide_eq_false ht, decide_eq_true (by omega)]; rfl
          have hj : (kd : Int) % 8 = 6 := by omega
          have he := nonempty_of ht
          have HR := Lib.hid (HF.out hch)
          clear HF hch HCh ht
          go_wp2
          go_roundg (30 - (k + 1))
          case measure => have := Hg.out; omega
          case rel => exact ⟨k + 1, V1, _, by omega, rfl, by go_num, HR.out⟩
        · have hch : ch = true := by rw [HCh.out, decide_eq_false (by omega : ¬ kd % 8 = 6), decide_eq_true (by omega)]; rfl
          have hj : (kd : Int) % 8 < 6 := by omega
          have hj2 : (((kd : Int) % 8) == 6) = false := beq_eq_false_iff_ne.2 (by omega)
          have HR := Lib.hid (HF.out hch)
          clear HF hch HCh
          go_wp2
          go_roundg (30 - (k + 1))
          case measure => have := Hg.out; omega
          case rel => exact ⟨k + 1, V1, _, by omega, rfl, by go_num, HR.out⟩
      · have hne : ((q : Int) != 0) = true := bne_iff_ne.2 (by omega)
        have hne2 : ((q : Int) == 0) = false := beq_eq_false_iff_ne.2 (by omega)
        have hc4 := D4.out hq
        rw [hc4] at HMk
        have hmm : ((V.calls.length : Int) != V.calls.length) = false := by simp
        refine wp_region_held_drew (S := (fun W => W.cell? ⟨X, 0, none⟩ = some (.int .i64 ge) ∧ W.cell? ⟨X, 1, none⟩ = some (.string gs) ∧ W.cell? ⟨X, 2, none⟩ = some (.slice ga gl.length gk') ∧ W.cell? ⟨X, 3, none⟩ = some (.string gc) ∧ W.cell? ⟨w5.heap.size + 1, 0, none⟩ = some (.int .i64 ge) ∧ W.cell? ⟨w5.heap.size + 1, 1, none⟩ = some (.string gs) ∧ W.cell? ⟨w5.heap.size + 1, 2, none⟩ = some (.slice xa gl.length xc) ∧ W.cell? ⟨w5.heap.size + 1, 3, none⟩ = some (.string gc))) (by kernel_rfl) (HSx.out _ HD0.out) (fun hHeld0 => ?_)
        refine wpAnyH_take (i := 0) (v := ?_) rfl (by kernel_rfl) (by kernel_rfl) (by kernel_rfl) (fun _ _ _ h => h) (Or.inl ⟨by rfl, ?_⟩) (by assumption) ?_
        rotate_left
        · (intro wx hSw; (try dsimp only at hSw); go_simp <;> with_reducible rfl)
        try simp only [Act.put, List.setIfInBounds_toArray, List.set_cons_zero, List.set_cons_succ, List.getElem_toArray, List.getElem_cons_zero, List.getElem_cons_succ]
        refine wpAnyH_take (i := 1) (v := ?_) rfl (by kernel_rfl) (by kernel_rfl) (by kernel_rfl) (fun _ _ _ h => h) (Or.inl ⟨by rfl, ?_⟩) (by assumption) ?_
        rotate_left
        · (intro wx hSw; (try dsimp only at hSw); go_simp <;> with_reducible rfl)
        try simp only [Act.put, List.setIfInBounds_toArray, List.set_cons_zero, List.set_cons_succ, List.getElem_toArray, List.getElem_cons_zero, List.getElem_cons_succ]
        refine wpAnyH_take (i := 2) (v := ?_) rfl (by kernel_rfl) (by kernel_rfl) (by kernel_rfl) (fun _ _ _ h => h) (Or.inl ⟨by rfl, ?_⟩) (by assumption) ?_
        rotate_left
        · (intro wx hSw; (try dsimp only at hSw); go_simp <;> with_reducible rfl)
        try simp only [Act.put, List.setIfInBounds_toArray, List.set_cons_zero, List.set_cons_succ, List.getElem_toArray, List.getElem_cons_zero, List.getElem_cons_succ]
        refine wpAnyH_take (i := 3) (v := ?_) rfl (by kernel_rfl) (by kernel_rfl) (by kernel_rfl) (fun _ _ _ h => h) (Or.inl ⟨by rfl, ?_⟩) (by assumption) ?_
        rotate_left
        · (intro wx hSw; (try dsimp only at hSw); go_simp <;> with_reducible rfl)
        try simp only [Act.put, List.setIfInBounds_toArray, List.set_cons_zero, List.set_cons_succ, List.getElem_toArray, List.getElem_cons_zero, List.getElem_cons_succ]
        refine wpAnyH_take (i := 4) (v := ?_) rfl (by kernel_rfl) (by kernel_rfl) (by kernel_rfl) (fun _ _ _ h => h) (Or.inl ⟨by rfl, ?_⟩) (by assumption) ?_
        rotate_left
        · (intro wx hSw; (try dsimp only at hSw); go_simp <;> with_reducible rfl)
        try simp only [Act.put, List.setIfInBounds_toArray, List.set_cons_zero, List.set_cons_succ, List.getElem_toArray, List.getElem_cons_zero, List.getElem_cons_succ]
        refine wpAnyH_take (i := 5) (v := ?_) rfl (by kernel_rfl) (by kernel_rfl) (by kernel_rfl) (fun _ _ _ h => h) (Or.inl ⟨by rfl, ?_⟩) (by assumption) ?_
        rotate_left
        · (intro wx hSw; (try dsimp only at hSw); go_simp <;> with_reducible rfl)
        try simp only [Act.put, List.setIfInBounds_toArray, List.set_cons_zero, List.set_cons_succ, List.getElem_toArray, List.getElem_cons_zero, List.getElem_cons_succ]
        refine wpAnyH_take (i := 6) (v := ?_) rfl (by kernel_rfl) (by kernel_rfl) (by kernel_rfl) (fun _ _ _ h => h) (Or.inl ⟨by rfl, ?_⟩) (by assumption) ?_
        rotate_left
        · (intro wx hSw; (try dsimp only at hSw); go_simp <;> with_reducible rfl)
        try simp only [Act.put, List.setIfInBounds_toArray, List.set_cons_zero, List.set_cons_succ, List.getElem_toArray, List.getElem_cons_zero, List.getElem_cons_succ]
        refine wpAnyH_take (i := 7) (v := ?_) rfl (by kernel_rfl) (by kernel_rfl) (by kernel_rfl) (fun _ _ _ h => h) (Or.inl ⟨by rfl, ?_⟩) (by assumption) ?_
        rotate_left
        · (intro wx hSw; (try dsimp only at hSw); go_simp <;> with_reducible rfl)
        try simp only [Act.put, List.setIfInBounds_toArray, List.set_cons_zero, List.set_cons_succ, List.getElem_toArray, List.getElem_cons_zero, List.getElem_cons_succ]
        refine wpAnyH_take (i := 8) (v := ?_) rfl (by kernel_rfl) (by kernel_rfl) (by kernel_rfl) (fun _ _ _ h => h) (Or.inl ⟨by rfl, ?_⟩) (by assumption) ?_
        rotate_left
        · (intro wx hSw; (try dsimp only at hSw); go_simp <;> with_reducible rfl)
        try simp only [Act.put, List.setIfInBounds_toArray, List.set_cons_zero, List.set_cons_succ, List.getElem_toArray, List.getElem_cons_zero, List.getElem_cons_succ]
        refine wpAnyH_take (i := 9) (v := ?_) rfl (by kernel_rfl) (by kernel_rfl) (by kernel_rfl) (fun _ _ _ h => h) (Or.inl ⟨by rfl, ?_⟩) (by assumption) ?_
        rotate_left
        · (intro wx hSw; (try dsimp only at hSw); go_simp <;> with_reducible rfl)
        try simp only [Act.put, List.setIfInBounds_toArray, List.set_cons_zero, List.set_cons_succ, List.getElem_toArray, List.getElem_cons_zero, List.getElem_cons_succ]
        refine wpAnyH_take (i := 11) (v := ?_) rfl (by kernel_rfl) (by kernel_rfl) (by kernel_rfl) (fun _ _ _ h => h) (Or.inl ⟨by rfl, ?_⟩) (by assumption) ?_
        rotate_left
        · (intro wx hSw; (try dsimp only at hSw); go_simp <;> with_reducible rfl)
        try simp only [Act.put, List.setIfInBounds_toArray, List.set_cons_zero, List.set_cons_succ, List.getElem_toArray, List.getElem_cons_zero, List.getElem_cons_succ]
        refine wpAnyH_ready (rs := [10]) (by kernel_rfl) (by simp) ?_
        refine AllReadyH.cons rfl (fun K hK => ?_) AllReadyH.nil
        go_simp
        go_at_call 17
        (with_reducible refine (HOf.out _ HD0.out).mono ?_)
        rintro r v1 ⟨b1, d1, rfl, hr1, hb⟩
        have B1 : Hid (Below W6.heap.size W6 v1) := HD0.out.trans (hb.mono HD0.out.size)
        have R1 := Lib.hid hr1
        clear hr1
        clear hb
        go_wp2_with fail
        refine hK.out _ _ (HSx.out _ B1.out) (fun hHeld1 => ?_)
        clear hK K hHeld0
        try simp only [Act.put, List.setIfInBounds_toArray, List.set_cons_zero, List.set_cons_succ, List.getElem_toArray, List.getElem_cons_zero, List.getElem_cons_succ]
        refine wpAnyH_ready (rs := [12]) (by kernel_rfl) (by simp) ?_
        refine AllReadyH.cons rfl (fun K hK => ?_) AllReadyH.nil
        go_simp
        go_at_call 16
        (with_reducible refine (HS1.out _ _ _ B1.out R1.out).mono ?_)
        rintro r v2 ⟨rfl, hb⟩
        have B2 : Hid (Below W6.heap.size W6 v2) := B1.out.trans (hb.mono B1.out.size)
        clear hb
        go_wp2_with fail
        refine hK.out _ _ (HSx.out _ B2.out) (fun hHeld2 => ?_)
        clear hK K hHeld1
        try simp only [Act.put, List.setIfInBounds_toArray, List.set_cons_zero, List.set_cons_succ, List.getElem_toArray, List.getElem_cons_zero, List.getElem_cons_succ]
        refine wpAnyH_take (i := 13) (v := ?_) rfl (by kernel_rfl) (by kernel_rfl) (by kernel_rfl) (fun _ _ _ h => h) (Or.inl ⟨by rfl, ?_⟩) (by assumption) ?_
        rotate_left
        · (intro wx hSw; (try dsimp only at hSw); go_simp <;> with_reducible rfl)
        try simp only [Act.put, List.setIfInBounds_toArray, List.set_cons_zero, List.set_cons_succ, List.getElem_toArray, List.getElem_cons_zero, List.getElem_cons_succ]
        refine wpAnyH_take (i := 14) (v := ?_) rfl (by kernel_rfl) (by kernel_rfl) (by kernel_rfl) (fun _ _ _ h => h) (Or.inl ⟨by rfl, ?_⟩) (by assumption) ?_
        rotate_left
        · (intro wx hSw; (try dsimp only at hSw); go_simp <;> with_reducible rfl)
        try simp only [Act.put, List.setIfInBounds_toArray, List.set_cons_zero, List.set_cons_succ, List.getElem_toArray, List.getElem_cons_zero, List.getElem_cons_succ]
        refine wpAnyH_take (i := 15) (v := ?_) rfl (by kernel_rfl) (by kernel_rfl) (by kernel_rfl) (fun _ _ _ h => h) (Or.inl ⟨by rfl, ?_⟩) (by assumption) ?_
        rotate_left
        · (intro wx hSw; (try dsimp only at hSw); go_simp <;> with_reducible rfl)
        try simp only [Act.put, List.setIfInBounds_toArray, List.set_cons_zero, List.set_cons_succ, List.getElem_toArray, List.getElem_cons_zero, List.getElem_cons_succ]
        refine wpAnyH_take (i := 16) (v := ?_) rfl (by kernel_rfl) (by kernel_rfl) (by kernel_rfl) (fun _ _ _ h => h) (Or.inl ⟨by rfl, ?_⟩) (by assumption) ?_
        rotate_left
        · (intro wx hSw; (try dsimp only at hSw); go_simp <;> with_reducible rfl)
        try simp only [Act.put, List.setIfInBounds_toArray, List.set_cons_zero, List.set_cons_succ, List.getElem_toArray, List.getElem_cons_zero, List.getElem_cons_succ]
        refine wpAnyH_take (i := 17) (v := ?_) rfl (by kernel_rfl) (by kernel_rfl) (by kernel_rfl) (fun _ _ _ h => h) (Or.inl ⟨by rfl, ?_⟩) (by assumption) ?_
        rotate_left
        · (intro wx hSw; (try dsimp only at hSw); go_simp <;> with_reducible rfl)
        try simp only [Act.put, List.setIfInBounds_toArray, List.set_cons_zero, List.set_cons_succ, List.getElem_toArray, List.getElem_cons_zero, List.getElem_cons_succ]
        refine wpAnyH_take (i := 18) (v := ?_) rfl (by kernel_rfl) (by kernel_rfl) (by kernel_rfl) (fun _ _ _ h => h) (Or.inl ⟨by rfl, ?_⟩) (by assumption) ?_
        rotate_left
        · (intro wx hSw; (try dsimp only at hSw); go_simp <;> with_reducible rfl)
        try simp only [Act.put, List.setIfInBounds_toArray, List.set_cons_zero, List.set_cons_succ, List.getElem_toArray, List.getElem_cons_zero, List.getElem_cons_succ]
        refine wpAnyH_take (i := 19) (v := ?_) rfl (by kernel_rfl) (by kernel_rfl) (by kernel_rfl) (fun _ _ _ h => h) (Or.inl ⟨by rfl, ?_⟩) (by assumption) ?_
        rotate_left
        · (intro wx hSw; (try dsimp only at hSw); go_simp <;> with_reducible rfl)
        try simp only [Act.put, List.setIfInBounds_toArray, List.set_cons_zero, List.set_cons_succ, List.getElem_toArray, List.getElem_cons_zero, List.getElem_cons_succ]
        refine wpAnyH_take (i := 21) (v := ?_) rfl (by kernel_rfl) (by kernel_rfl) (by kernel_rfl) (fun _ _ _ h => h) (Or.inl ⟨by rfl, ?_⟩) (by assumption) ?_
        rotate_left
        · (intro wx hSw; (try dsimp only at hSw); go_simp <;> with_reducible rfl)
        try simp only [Act.put, List.setIfInBounds_toArray, List.set_cons_zero, List.set_cons_succ, List.getElem_toArray, List.getElem_cons_zero, List.getElem_cons_succ]
        refine wpAnyH_ready (rs := [20]) (by kernel_rfl) (by simp) ?_
        refine AllReadyH.cons rfl (fun K hK => ?_) AllReadyH.nil
        go_simp
        go_at_call 46
        (with_reducible refine (HMk.out _ B2.out).mono ?_)
        rintro r v3 ⟨rfl, rfl⟩
        go_wp2_with fail
        refine hK.out _ _ (HSx.out _ B2.out) (fun hHeld3 => ?_)
        clear hK K hHeld2
        try simp only [Act.put, List.setIfInBounds_toArray, List.set_cons_zero, List.set_cons_succ, List.getElem_toArray, List.getElem_cons_zero, List.getElem_cons_succ]
        refine wpAnyH_take (i := 22) (v := ?_) rfl (by kernel_rfl) (by kernel_rfl) (by kernel_rfl) (fun _ _ _ h => h) (Or.inl ⟨by rfl, ?_⟩) (by assumption) ?_
        rotate_left
        · (intro wx hSw; (try dsimp only at hSw); go_simp <;> with_reducible rfl)
        try simp only [Act.put, List.setIfInBounds_toArray, List.set_cons_zero, List.set_cons_succ, List.getElem_toArray, List.getElem_cons_zero, List.getElem_cons_succ]
        refine wpAnyH_take (i := 23) (v := ?_) rfl (by kernel_rfl) (by kernel_rfl) (by kernel_rfl) (fun _ _ _ h => h) (Or.inl ⟨by rfl, ?_⟩) (by assumption) ?_
        rotate_left
        · (intro wx hSw; (try dsimp only at hSw); go_simp <;> with_reducible rfl)
        try simp only [Act.put, List.setIfInBounds_toArray, List.set_cons_zero, List.set_cons_succ, List.getElem_toArray, List.getElem_cons_zero, List.getElem_cons_succ]
        refine wpAnyH_take (i := 24) (v := ?_) rfl (by kernel_rfl) (by kernel_rfl) (by kernel_rfl) (fun _ _ _ h => h) (Or.inl ⟨by rfl, ?_⟩) (by assumption) ?_
        rotate_left
        · (intro wx hSw; (try dsimp only at hSw); go_simp <;> with_reducible rfl)
        try simp only [Act.put, List.setIfInBounds_toArray, List.set_cons_zero, List.set_cons_succ, List.getElem_toArray, List.getElem_cons_zero, List.getElem_cons_succ]
        refine wpAnyH_done (by kernel_rfl) ?_ _
        have HP9 := Lib.hid (HP6.out.later B2.out)
        have HR : Hid (RelU V1 (funR l) (k + 1)) := D6.out (fun h => hq h.1)
        clear hq HMk HOf HS1 HSx HD0 R1 B1
        go_wp2
        go_roundg (30 - (k + 1))
        case measure => have := Hg.out; omega
        case rel => exact ⟨k + 1, V1, l, by omega, rfl, by go_num, HP9.out.pu HI.out.1, HR.out⟩
end Go.Proofs.YtfobmfenjdiimaaDoor
