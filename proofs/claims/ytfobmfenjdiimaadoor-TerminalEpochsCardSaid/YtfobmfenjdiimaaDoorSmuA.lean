/- Law 36: same. (printed by wip/gen_smu.py) -/
import Derived.Test.YtfobmfenjdiimaaDoorReE
import Derived.Test.YtfobmfenjdiimaaDoorDotA
namespace Go.Proofs.YtfobmfenjdiimaaDoor
open Go.RowKit
attribute [local go_sem ↓] Go.wp_at_zero Go.wp_at_succ

def uLineT (o : OpU) (t : TermT) : ByteArray := if o.kd % 8 = 4 ∨ o.kd % 8 = 5 then readL o.who t else ⟨#[]⟩
def uGotT (o : OpU) (t : TermT) : TermT := if o.kd % 8 = 7 then t else zeroT
/-- What same leaves. -/
def SamePost (w : World) (v : Value) (T : TermT) (o : OpU) (r : Ending) (w' : World) : Prop :=
  ∃ a n c a' n' c', r = .returned (.tuple #[.agg #[.int .i64 (uOp o (inT T o.ep)).1.epoch, .string (uOp o (inT T o.ep)).1.session, .slice a n c, .string (uOp o (inT T o.ep)).1.screen], .int .i64 (uOp o (inT T o.ep)).2, .string (uLineT o (inT T o.ep)), .agg #[.int .i64 (uGotT o (inT T o.ep)).epoch, .string (uGotT o (inT T o.ep)).session, .slice a' n' c', .string (uGotT o (inT T o.ep)).screen]]) ∧ RowK kStr w' (.slice a n c) (uOp o (inT T o.ep)).1.typed ∧ RowK kStr w' (.slice a' n' c') (uGotT o (inT T o.ep)).typed ∧ (∀ k, (Value.slice a n c).ownBlock = some k → v.ownBlock = some k ∨ (w.heap.size ≤ k ∧ k < w'.heap.size)) ∧ Below w.heap.size w w'
theorem sam_fin {w W : World} {v : Value} {T t1 t2 g : TermT} {o : OpU} {q : Nat} {line : ByteArray} {a a' : Option Addr} {n c n' c' : Nat} (hT : inT T o.ep = t1) (h1 : uOp o t1 = (t2, q)) (h2 : uLineT o t1 = line) (h3 : uGotT o t1 = g) (hr : RowK kStr W (.slice a n c) t2.typed) (hr' : RowK kStr W (.slice a' n' c') g.typed) (ho : ∀ k, (Value.slice a n c).ownBlock = some k → v.ownBlock = some k ∨ (w.heap.size ≤ k ∧ k < W.heap.size)) (hb : Below w.heap.size w W) :
    SamePost w v T o (.returned (.tuple #[.agg #[.int .i64 t2.epoch, .string t2.session, .slice a n c, .string t2.screen], .int .i64 q, .string line, .agg #[.int .i64 g.epoch, .string g.session, .slice a' n' c', .string g.screen]])) W := by
  unfold SamePost
  subst hT h2 h3
  have h4 : (uOp o (inT T o.ep)).1 = t2 := by rw [h1]
  have h5 : (uOp o (inT T o.ep)).2 = q := by rw [h1]
  rw [h4, h5]
  exact ⟨a, n, c, a', n', c', rfl, hr, hr', ho, hb⟩
/-- In the midst of same: four blocks. -/
structure SU (w W : World) (tc oc nc gc : Array Value) : Prop where
  t : W.heap[w.heap.size]? = some (.cells tc 24 (0, 0))
  op : W.heap[w.heap.size + 1]? = some (.cells oc 99 (0, 0))
  nx : W.heap[w.heap.size + 1 + 1]? = some (.cells nc 24 (0, 0))
  got : W.heap[w.heap.size + 1 + 1 + 1]? = some (.cells gc 24 (0, 0))
  b : Below w.heap.size w W
theorem new4 (w : World) (o1 o2 o3 o4 : Obj) : (((((w.alloc o1).alloc o2).alloc o3).alloc o4).heap[w.heap.size]? = some o1 ∧ ((((w.alloc o1).alloc o2).alloc o3).alloc o4).heap[w.heap.size + 1]? = some o2 ∧ ((((w.alloc o1).alloc o2).alloc o3).alloc o4).heap[w.heap.size + 1 + 1]? = some o3 ∧ ((((w.alloc o1).alloc o2).alloc o3).alloc o4).heap[w.heap.size + 1 + 1 + 1]? = some o4) ∧ Below w.heap.size w ((((w.alloc o1).alloc o2).alloc o3).alloc o4) := by
  have b1 : Below w.heap.size w (w.alloc o1) := (Below.refl _ _).alloc (Nat.le_refl _) _
  have b2 : Below w.heap.size w ((w.alloc o1).alloc o2) := b1.alloc (by simp) _
  have b3 : Below w.heap.size w (((w.alloc o1).alloc o2).alloc o3) := b2.alloc (by simp; omega) _
  have b4 := b3.alloc (by simp; omega) o4
  have x2 := World.alloc_heap_new (w.alloc o1) o2
  rw [World.size_alloc] at x2
  have x3 := World.alloc_heap_new ((w.alloc o1).alloc o2) o3
  rw [World.size_alloc, World.size_alloc] at x3
  have x4 := World.alloc_heap_new (((w.alloc o1).alloc o2).alloc o3) o4
  rw [World.size_alloc, World.size_alloc, World.size_alloc] at x4
  refine ⟨⟨?_, ?_, ?_, x4⟩, b4⟩
  · rw [Below.heap_alloc _ _ _ (by simp; omega), Below.heap_alloc _ _ _ (by simp; omega), Below.heap_alloc _ _ _ (by simp)]
    exact World.alloc_heap_new w _
  · rw [Below.heap_alloc _ _ _ (by simp), Below.heap_alloc _ _ _ (by simp)]
    exact x2
  · rw [Below.heap_alloc _ _ _ (by simp)]
    exact x3
section
variable {w W W' : World} {tc oc nc gc : Array Value}
theorem SU.start (w : World) (tc oc nc gc : Array Value) : SU w ((((w.alloc (.cells tc 24)).alloc (.cells oc 99)).alloc (.cells nc 24)).alloc (.cells gc 24)) tc oc nc gc := by
  obtain ⟨⟨h1, h2, h3, h4⟩, h5⟩ := new4 w (.cells tc 24) (.cells oc 99) (.cells nc 24) (.cells gc 24)
  exact ⟨h1, h2, h3, h4, h5⟩
theorem SU.later (d : SU w W tc oc nc gc) (hb : Below W.heap.size W W') : SU w W' tc oc nc gc :=
  ⟨(hb.block _ (lt_of_heap d.t)).trans d.t, (hb.block _ (lt_of_heap d.op)).trans d.op, (hb.block _ (lt_of_heap d.nx)).trans d.nx, (hb.block _ (lt_of_heap d.got)).trans d.got, d.b.trans (hb.mono d.b.size)⟩
theorem SU.lt (d : SU w W tc oc nc gc) : w.heap.size + 3 < W.heap.size := lt_of_heap d.got
theorem nsome {a b : Nat} (h : a ≠ b) : some a ≠ some b := fun e => h (Option.some.inj e)
theorem SU.setT {p0 p1 p2 p3 : Value} (d : SU w W #[p0, p1, p2, p3] oc nc gc) (a b c e : Value) : SU w ((((W.setCell ⟨w.heap.size, 0, none⟩ a).setCell ⟨w.heap.size, 1, none⟩ b).setCell ⟨w.heap.size, 2, none⟩ c).setCell ⟨w.heap.size, 3, none⟩ e) #[a, b, c, e] oc nc gc := by
  have hg := grown_set4 W w.heap.size a b c e
  exact ⟨set4_at d.t _ _ _ _, (hg.block _ (lt_of_heap d.op) (nsome (by omega))).trans d.op, (hg.block _ (lt_of_heap d.nx) (nsome (by omega))).trans d.nx, (hg.block _ (lt_of_heap d.got) (nsome (by omega))).trans d.got, below_grow36 d.b hg (by omega)⟩
theorem SU.setOp {p0 p1 p2 p3 p4 : Value} (d : SU w W tc #[p0, p1, p2, p3, p4] nc gc) (a b c e f : Value) : SU w (((((W.setCell ⟨w.heap.size + 1, 0, none⟩ a).setCell ⟨w.heap.size + 1, 1, none⟩ b).setCell ⟨w.heap.size + 1, 2, none⟩ c).setCell ⟨w.heap.size + 1, 3, none⟩ e).setCell ⟨w.heap.size + 1, 4, none⟩ f) tc #[a, b, c, e, f] nc gc := by
  have hg := grown_set5 W (w.heap.size + 1) a b c e f
  exact ⟨(hg.block _ (lt_of_heap d.t) (nsome (by omega))).trans d.t, set5_at d.op _ _ _ _ _, (hg.block _ (lt_of_heap d.nx) (nsome (by omega))).trans d.nx, (hg.block _ (lt_of_heap d.got) (nsome (by omega))).trans d.got, below_grow36 d.b hg (by omega)⟩
theorem SU.setN {p0 p1 p2 p3 : Value} (d : SU w W tc oc #[p0, p1, p2, p3] gc) (a b c e : Value) : SU w ((((W.setCell ⟨w.heap.size + 1 + 1, 0, none⟩ a).setCell ⟨w.heap.size + 1 + 1, 1, none⟩ b).setCell ⟨w.heap.size + 1 + 1, 2, none⟩ c).setCell ⟨w.heap.size + 1 + 1, 3, none⟩ e) tc oc #[a, b, c, e] gc := by
  have hg := grown_set4 W (w.heap.size + 1 + 1) a b c e
  exact ⟨(hg.block _ (lt_of_heap d.t) (nsome (by omega))).trans d.t, (hg.block _ (lt_of_heap d.op) (nsome (by omega))).trans d.op, set4_at d.nx _ _ _ _, (hg.block _ (lt_of_heap d.got) (nsome (by omega))).trans d.got, below_grow36 d.b hg (by omega)⟩
theorem SU.setG {p0 p1 p2 p3 : Value} (d : SU w W tc oc nc #[p0, p1, p2, p3]) (a b c e : Value) : SU w ((((W.setCell ⟨w.heap.size + 1 + 1 + 1, 0, none⟩ a).setCell ⟨w.heap.size + 1 + 1 + 1, 1, none⟩ b).setCell ⟨w.heap.size + 1 + 1 + 1, 2, none⟩ c).setCell ⟨w.heap.size + 1 + 1 + 1, 3, none⟩ e) tc oc nc #[a, b, c, e] := by
  have hg := grown_set4 W (w.heap.size + 1 + 1 + 1) a b c e
  exact ⟨(hg.block _ (lt_of_heap d.t) (nsome (by omega))).trans d.t, (hg.block _ (lt_of_heap d.op) (nsome (by omega))).trans d.op, (hg.block _ (lt_of_heap d.nx) (nsome (by omega))).trans d.nx, set4_at d.got _ _ _ _, below_grow36 d.b hg (by omega)⟩
end
/-- A row that lies apart from the four blocks. -/
structure RU (w W : World) (v : Value) (v' : Value) (ls : List ByteArray) : Prop where
  row : RowK kStr W v' ls
  own : ∀ k, v'.ownBlock = some k → v.ownBlock = some k ∨ (w.heap.size + 4 ≤ k ∧ k < W.heap.size)
theorem RU.later {w W W' : World} {v v' : Value} {ls : List ByteArray} (h : RU w W v v' ls) (hb : Below W.heap.size W W') : RU w W' v v' ls :=
  ⟨h.row.later hb, fun k hk => (h.own k hk).imp id fun ⟨h1, h2⟩ => ⟨h1, Nat.lt_of_lt_of_le h2 hb.size⟩⟩
theorem RU.set4 {w W : World} {v v' : Value} {ls : List ByteArray} (h : RU w W v v' ls) (hv : ∀ k, v.ownBlock = some k → k < w.heap.size) (R : Nat) (h1 : w.heap.size ≤ R) (h2 : R < w.heap.size + 4) (a b c e : Value) : RU w ((((W.setCell ⟨R, 0, none⟩ a).setCell ⟨R, 1, none⟩ b).setCell ⟨R, 2, none⟩ c).setCell ⟨R, 3, none⟩ e) v v' ls :=
  ⟨h.row.grown (grown_set4 W R a b c e) (fun k hk e => by cases e; rcases h.own _ hk with h3 | h3; exact absurd (hv _ h3) (by omega); omega), fun k hk => (h.own k hk).imp id fun ⟨h3, h4⟩ => ⟨h3, Nat.lt_of_lt_of_le h4 (grown_set4 W R a b c e).size⟩⟩
theorem RU.out {w W : World} {v v' : Value} {ls : List ByteArray} (h : RU w W v v' ls) : ∀ k, v'.ownBlock = some k → v.ownBlock = some k ∨ (w.heap.size ≤ k ∧ k < W.heap.size) := fun k hk => (h.own k hk).imp id fun ⟨h1, h2⟩ => ⟨by omega, h2⟩
theorem RU.new {w W0 W : World} {v v1 v2 : Value} {l1 l2 : List ByteArray} (h : RU w W0 v v1 l1) (hb : Below W0.heap.size W0 W) (hW : w.heap.size + 4 ≤ W0.heap.size) (hr : RowK kStr W v2 l2) (ho : ∀ k, v2.ownBlock = some k → v1.ownBlock = some k ∨ (W0.heap.size ≤ k ∧ k < W.heap.size)) : RU w W v v2 l2 :=
  ⟨hr, fun k hk => by
    rcases ho k hk with h1 | h1
    · exact (h.own k h1).imp id fun ⟨h1, h2⟩ => ⟨h1, Nat.lt_of_lt_of_le h2 hb.size⟩
    · exact .inr ⟨by omega, h1.2⟩⟩
theorem in36_is (ep : Int) (se sc : ByteArray) (a : Option Addr) (n c : Nat) (ls : List ByteArray) (e : Int) (w : World) (hs : RowK kStr w (.slice a n c) ls) :
    Calls Tryd.prog 25 #[.agg #[.int .i64 ep, .string se, .slice a n c, .string sc], .int .i64 e] w (fun r w' => ∃ a' n' c', r = .returned (.agg #[.int .i64 (inT ⟨ep, se, ls, sc⟩ e).epoch, .string (inT ⟨ep, se, ls, sc⟩ e).session, .slice a' n' c', .string (inT ⟨ep, se, ls, sc⟩ e).screen]) ∧ RowK kStr w' (.slice a' n' c') (inT ⟨ep, se, ls, sc⟩ e).typed ∧ (∀ k, (Value.slice a' n' c').ownBlock = some k → (Value.slice a n c).ownBlock = some k ∨ (w.heap.size ≤ k ∧ k < w'.heap.size)) ∧ Below w.heap.size w w') := by
  refine (in36_any ep se sc a n c ls e w hs).mono ?_
  rintro r w' ⟨a', n', c', h1, h2, h3, h4⟩
  refine ⟨a', n', c', ?_, h2, h3, h4⟩
  cases r with
  | returned v =>
    injection h1 with h1
    injection h1 with h1
    have := congrArg (fun x : Array Value => x[0]?) h1
    simp at this
    rw [this]
  | _ => cases h1
theorem inT_bounds {T : TermT} {e : Int} {A B C : Nat} (h1 : T.session.size ≤ A) (h2 : T.screen.size ≤ B) (h3 : T.typed.length ≤ C) : (inT T e).session.size ≤ A ∧ (inT T e).screen.size ≤ B ∧ (inT T e).typed.length ≤ C := by
  unfold inT
  split
  · exact ⟨h1, h2, h3⟩
  · exact ⟨Nat.zero_le _, Nat.zero_le _, Nat.zero_le _⟩
set_option maxRecDepth 100000 in
set_option maxHeartbeats 6400000 in
theorem same36_0 (ep0 : Int) (se sc : ByteArray) (a : Option Addr) (n c : Nat) (ls : List ByteArray) (kd : Nat) (num ep : Int) (who text : ByteArray) (w : World) (hs : RowK kStr w (.slice a n c) ls) (hown : ∀ k, (Value.slice a n c).ownBlock = some k → k < w.heap.size) (hsz : se.size ≤ 1000000 ∧ sc.size ≤ 1000000 ∧ ls.length ≤ 100000) (hkd : kd ≤ 255) (hw : who.size ≤ 9223372036854775807) (ht : text.size ≤ 9223372036854775807) (hj : kd % 8 = 0) :
    Calls Tryd.prog 48 #[.agg #[.int .i64 ep0, .string se, .slice a n c, .string sc], .agg #[.int .u8 kd, .int .i64 num, .int .i64 ep, .string who, .string text]] w (SamePost w (.slice a n c) ⟨ep0, se, ls, sc⟩ (shortU ⟨kd, num, ep, who, text⟩)) := by
  have D0 := Lib.hid (SU.start w #[.int .i64 ep0, .string se, .slice a n c, .string sc] #[.int .u8 kd, .int .i64 num, .int .i64 ep, .string who, .string text] #[.int .i64 0, .string ⟨#[]⟩, .slice none 0 0, .string ⟨#[]⟩] #[.int .i64 0, .string ⟨#[]⟩, .slice none 0 0, .string ⟨#[]⟩])
  have Hw := Lib.hid hw
  have Ht := Lib.hid ht
  have HZ0 := Lib.hid (inT_bounds (T := ⟨ep0, se, ls, sc⟩) (e := ep) hsz.1 hsz.2.1 hsz.2.2)
  have hj' : ((kd : Int)) % 8 = 0 := by omega
  have R0 : Hid (RU w w (.slice a n c) (.slice a n c) ls) := ⟨hs, fun k hk => .inl hk⟩
  have HV : Hid (∀ k, (Value.slice a n c).ownBlock = some k → k < w.heap.size) := hown
  have HU : Hid (∀ t, uOp (shortU ⟨kd, num, ep, who, text⟩) t = opBegin (cutU who 100) t ∧ uLineT (shortU ⟨kd, num, ep, who, text⟩) t = ⟨#[]⟩ ∧ uGotT (shortU ⟨kd, num, ep, who, text⟩) t = zeroT) := fun t => by
    refine ⟨?_, if_neg (by unfold shortU; dsimp only; omega), if_neg (by unfold shortU; dsimp only; omega)⟩
    unfold uOp shortU
    simp [hj]
  clear hw ht hs hown hsz
  go_enter Tryd.func48, Tryd.ntmps48
  go_wp2_with fail
  generalize (((w.alloc (.cells #[.int .i64 ep0, .string se, .slice a n c, .string sc] 24)).alloc (.cells #[.int .u8 kd, .int .i64 num, .int .i64 ep, .string who, .string text] 99)).alloc (.cells #[.int .i64 0, .string ⟨#[]⟩, .slice none 0 0, .string ⟨#[]⟩] 24)).alloc (.cells #[.int .i64 0, .string ⟨#[]⟩, .slice none 0 0, .string ⟨#[]⟩] 24) = W0 at *
  refine (short36_any kd num ep who text _ Hw.out Ht.out).mono ?_
  rintro r w2 ⟨rfl, hb2⟩
  have D2 := Lib.hid (D0.out.later hb2)
  have D3 := Lib.hid (D2.out.setOp (.int .u8 kd) (.int .i64 num) (.int .i64 ep) (.string (cutU who 100)) (.string (cutU text 3000)))
  have R3 := Lib.hid (R0.out.later D3.out.b)
  clear hb2 D0 R0
  have o0 : w2.cell? ⟨w.heap.size + 1, 0, none⟩ = some (.int .u8 kd) := cell_of_heap D2.out.op 0
  have o1 : w2.cell? ⟨w.heap.size + 1, 1, none⟩ = some (.int .i64 num) := cell_of_heap D2.out.op 1
  have o2 : w2.cell? ⟨w.heap.size + 1, 2, none⟩ = some (.int .i64 ep) := cell_of_heap D2.out.op 2
  have o3 : w2.cell? ⟨w.heap.size + 1, 3, none⟩ = some (.string who) := cell_of_heap D2.out.op 3
  have o4 : w2.cell? ⟨w.heap.size + 1, 4, none⟩ = some (.string text) := cell_of_heap D2.out.op 4
  have fo0 := frozen_of_heap D2.out.op 0
  have fo1 := frozen_of_heap D2.out.op 1
  have fo2 := frozen_of_heap D2.out.op 2
  have fo3 := frozen_of_heap D2.out.op 3
  have fo4 := frozen_of_heap D2.out.op 4
  have t0 : w2.cell? ⟨w.heap.size, 0, none⟩ = some (.int .i64 ep0) := cell_of_heap D2.out.t 0
  have t1 : w2.cell? ⟨w.heap.size, 1, none⟩ = some (.string se) := cell_of_heap D2.out.t 1
  have t2 : w2.cell? ⟨w.heap.size, 2, none⟩ = some (.slice a n c) := cell_of_heap D2.out.t 2
  have t3 : w2.cell? ⟨w.heap.size, 3, none⟩ = some (.string sc) := cell_of_heap D2.out.t 3
  go_wp2_with fail
  clear o0 fo0 o1 fo1 o2 fo2 o3 fo3 o4 fo4 t0 t1 t2 t3 D2
  generalize (((((w2).setCell ⟨w.heap.size + 1, 0, none⟩ (.int .u8 kd)).setCell ⟨w.heap.size + 1, 1, none⟩ (.int .i64 num)).setCell ⟨w.heap.size + 1, 2, none⟩ (.int .i64 ep)).setCell ⟨w.heap.size + 1, 3, none⟩ (.string (cutU who 100))).setCell ⟨w.heap.size + 1, 4, none⟩ (.string (cutU text 3000)) = W3 at *
  refine (in36_is ep0 se sc a n c ls ep _ R3.out.row).mono ?_
  rintro r w4 ⟨a1, n1, c1, rfl, hrow, hown1, hb4⟩
  have D4 := Lib.hid (D3.out.later hb4)
  have R4 := Lib.hid (R3.out.new hb4 D3.out.lt hrow hown1)
  have HT : Hid (inT ⟨ep0, se, ls, sc⟩ ep = inT ⟨ep0, se, ls, sc⟩ ep) := rfl
  clear hrow hown1 hb4 D3 R3
  generalize HTe : inT ⟨ep0, se, ls, sc⟩ ep = T1 at HZ0 R4 HT ⊢
  obtain ⟨e1, s1, l1, sc1⟩ := T1
  have HTE := Lib.hid HTe
  dsimp only at HZ0 R4 ⊢
  have HZ := HZ0
  clear HTe HT HZ0
  have D6 := Lib.hid ((D4.out.setT (.int .i64 e1) (.string s1) (.slice a1 n1 c1) (.string sc1)).setN (.int .i64 e1) (.string s1) (.slice a1 n1 c1) (.string sc1))
  have R6 := Lib.hid ((R4.out.set4 HV.out w.heap.size (Nat.le_refl _) (by omega) (.int .i64 e1) (.string s1) (.slice a1 n1 c1) (.string sc1)).set4 HV.out (w.heap.size + 1 + 1) (by omega) (by omega) (.int .i64 e1) (.string s1) (.slice a1 n1 c1) (.string sc1))
  have o0 : w4.cell? ⟨w.heap.size + 1, 0, none⟩ = some (.int .u8 kd) := cell_of_heap D4.out.op 0
  have o1 : w4.cell? ⟨w.heap.size + 1, 1, none⟩ = some (.int .i64 num) := cell_of_heap D4.out.op 1
  have o2 : w4.cell? ⟨w.heap.size + 1, 2, none⟩ = some (.int .i64 ep) := cell_of_heap D4.out.op 2
  have o3 : w4.cell? ⟨w.heap.size + 1, 3, none⟩ = some (.string (cutU who 100)) := cell_of_heap D4.out.op 3
  have o4 : w4.cell? ⟨w.heap.size + 1, 4, none⟩ = some (.string (cutU text 3000)) := cell_of_heap D4.out.op 4
  have fo0 := frozen_of_heap D4.out.op 0
  have fo1 := frozen_of_heap D4.out.op 1
  have fo2 := frozen_of_heap D4.out.op 2
  have fo3 := frozen_of_heap D4.out.op 3
  have fo4 := frozen_of_heap D4.out.op 4
  have t0 : w4.cell? ⟨w.heap.size, 0, none⟩ = some (.int .i64 ep0) := cell_of_heap D4.out.t 0
  have t1 : w4.cell? ⟨w.heap.size, 1, none⟩ = some (.string se) := cell_of_heap D4.out.t 1
  have t2 : w4.cell? ⟨w.heap.size, 2, none⟩ = some (.slice a n c) := cell_of_heap D4.out.t 2
  have t3 : w4.cell? ⟨w.heap.size, 3, none⟩ = some (.string sc) := cell_of_heap D4.out.t 3
  have ft0 := frozen_of_heap D4.out.t 0
  have ft1 := frozen_of_heap D4.out.t 1
  have ft2 := frozen_of_heap D4.out.t 2
  have ft3 := frozen_of_heap D4.out.t 3
  have x0 : w4.cell? ⟨w.heap.size + 1 + 1, 0, none⟩ = some (.int .i64 0) := cell_of_heap D4.out.nx 0
  have x1 : w4.cell? ⟨w.heap.size + 1 + 1, 1, none⟩ = some (.string ⟨#[]⟩) := cell_of_heap D4.out.nx 1
  have x2 : w4.cell? ⟨w.heap.size + 1 + 1, 2, none⟩ = some (.slice none 0 0) := cell_of_heap D4.out.nx 2
  have x3 : w4.cell? ⟨w.heap.size + 1 + 1, 3, none⟩ = some (.string ⟨#[]⟩) := cell_of_heap D4.out.nx 3
  have fx0 := frozen_of_heap D4.out.nx 0
  have fx1 := frozen_of_heap D4.out.nx 1
  have fx2 := frozen_of_heap D4.out.nx 2
  have fx3 := frozen_of_heap D4.out.nx 3
  go_wp2_with fail
  clear o0 fo0 o1 fo1 o2 fo2 o3 fo3 o4 fo4 t0 ft0 t1 ft1 t2 ft2 t3 ft3 x0 fx0 x1 fx1 x2 fx2 x3 fx3 D4 R4
  generalize ((((((((w4).setCell ⟨w.heap.size, 0, none⟩ (.int .i64 e1)).setCell ⟨w.heap.size, 1, none⟩ (.string s1)).setCell ⟨w.heap.size, 2, none⟩ (.slice a1 n1 c1)).setCell ⟨w.heap.size, 3, none⟩ (.string sc1)).setCell ⟨w.heap.size + 1 + 1, 0, none⟩ (.int .i64 e1)).setCell ⟨w.heap.size + 1 + 1, 1, none⟩ (.string s1)).setCell ⟨w.heap.size + 1 + 1, 2, none⟩ (.slice a1 n1 c1)).setCell ⟨w.heap.size + 1 + 1, 3, none⟩ (.string sc1) = W6 at *
  refine (begin36_any e1 s1 sc1 a1 n1 c1 l1 (cutU who 100) _ R6.out.row (by have := cutU_size who 100; omega)).mono ?_
  rintro r w7 ⟨a2, n2, c2, rfl, hrow, hown2, hb7⟩
  have D7 := Lib.hid (D6.out.later hb7)
  have R7 := Lib.hid (R6.out.new hb7 D6.out.lt hrow hown2)
  clear hrow hown2 hb7 D6 R6
  have HQ := Lib.hid (HU.out ⟨e1, s1, l1, sc1⟩)
  clear HU
  generalize opBegin (cutU who 100) ⟨e1, s1, l1, sc1⟩ = p at HQ R7 ⊢
  obtain ⟨⟨e2, s2, l2, sc2⟩, q⟩ := p
  dsimp only at R7 ⊢
  have D8 := Lib.hid (D7.out.setN (.int .i64 e2) (.string s2) (.slice a2 n2 c2) (.string sc2))
  have R8 := Lib.hid (R7.out.set4 HV.out (w.heap.size + 1 + 1) (by omega) (by omega) (.int .i64 e2) (.string s2) (.slice a2 n2 c2) (.string sc2))
  have x0 : w7.cell? ⟨w.heap.size + 1 + 1, 0, none⟩ = some (.int .i64 e1) := cell_of_heap D7.out.nx 0
  have x1 : w7.cell? ⟨w.heap.size + 1 + 1, 1, none⟩ = some (.string s1) := cell_of_heap D7.out.nx 1
  have x2 : w7.cell? ⟨w.heap.size + 1 + 1, 2, none⟩ = some (.slice a1 n1 c1) := cell_of_heap D7.out.nx 2
  have x3 : w7.cell? ⟨w.heap.size + 1 + 1, 3, none⟩ = some (.string sc1) := cell_of_heap D7.out.nx 3
  have fx0 := frozen_of_heap D7.out.nx 0
  have fx1 := frozen_of_heap D7.out.nx 1
  have fx2 := frozen_of_heap D7.out.nx 2
  have fx3 := frozen_of_heap D7.out.nx 3
  go_upto_region 18 with fail
  clear x0 fx0 x1 fx1 x2 fx2 x3 fx3 D7 R7
  generalize ((((w7).setCell ⟨w.heap.size + 1 + 1, 0, none⟩ (.int .i64 e2)).setCell ⟨w.heap.size + 1 + 1, 1, none⟩ (.string s2)).setCell ⟨w.heap.size + 1 + 1, 2, none⟩ (.slice a2 n2 c2)).setCell ⟨w.heap.size + 1 + 1, 3, none⟩ (.string sc2) = W8 at *
  have x0 : W8.cell? ⟨w.heap.size + 1 + 1, 0, none⟩ = some (.int .i64 e2) := cell_of_heap D8.out.nx 0
  have x1 : W8.cell? ⟨w.heap.size + 1 + 1, 1, none⟩ = some (.string s2) := cell_of_heap D8.out.nx 1
  have x2 : W8.cell? ⟨w.heap.size + 1 + 1, 2, none⟩ = some (.slice a2 n2 c2) := cell_of_heap D8.out.nx 2
  have x3 : W8.cell? ⟨w.heap.size + 1 + 1, 3, none⟩ = some (.string sc2) := cell_of_heap D8.out.nx 3
  have fx0 := frozen_of_heap D8.out.nx 0
  have fx1 := frozen_of_heap D8.out.nx 1
  have fx2 := frozen_of_heap D8.out.nx 2
  have fx3 := frozen_of_heap D8.out.nx 3
  have y0 : W8.cell? ⟨w.heap.size + 1 + 1 + 1, 0, none⟩ = some (.int .i64 0) := cell_of_heap D8.out.got 0
  have y1 : W8.cell? ⟨w.heap.size + 1 + 1 + 1, 1, none⟩ = some (.string ⟨#[]⟩) := cell_of_heap D8.out.got 1
  have y2 : W8.cell? ⟨w.heap.size + 1 + 1 + 1, 2, none⟩ = some (.slice none 0 0) := cell_of_heap D8.out.got 2
  have y3 : W8.cell? ⟨w.heap.size + 1 + 1 + 1, 3, none⟩ = some (.string ⟨#[]⟩) := cell_of_heap D8.out.got 3
  have fy0 := frozen_of_heap D8.out.got 0
  have fy1 := frozen_of_heap D8.out.got 1
  have fy2 := frozen_of_heap D8.out.got 2
  have fy3 := frozen_of_heap D8.out.got 3
  have A1 := Lib.hid (((D8.out.setN (.int .i64 e2) (.string s2) (.slice a2 n2 c2) (.string sc2)).setG (.int .i64 0) (.string ⟨#[]⟩) (.slice none 0 0) (.string ⟨#[]⟩)).later (Below.refl _ _).drew)
  have B1 := Lib.hid (((R8.out.set4 HV.out (w.heap.size + 1 + 1) (by omega) (by omega) (.int .i64 e2) (.string s2) (.slice a2 n2 c2) (.string sc2)).set4 HV.out (w.heap.size + 1 + 1 + 1) (by omega) (by omega) (.int .i64 0) (.string ⟨#[]⟩) (.slice none 0 0) (.string ⟨#[]⟩)).later (Below.refl _ _).drew)
  go_region
  all_goals
    go_wp2
    refine bodyPost_ret (v := .tuple #[.agg #[.int .i64 e2, .string s2, .slice a2 n2 c2, .string sc2], .int .i64 q, .string ⟨#[]⟩, .agg #[.int .i64 0, .string ⟨#[]⟩, .slice none 0 0, .string ⟨#[]⟩]]) (by simp [results, Tryd.results48, go_sem, x0, x1, x2, x3, y0, y1, y2, y3]) rfl ?_
    exact sam_fin (T := ⟨ep0, se, ls, sc⟩) HTE.out HQ.out.1 HQ.out.2.1 HQ.out.2.2 B1.out.row (RowK.nil _) B1.out.out A1.out.b
set_option maxRecDepth 100000 in
set_option maxHeartbeats 6400000 in
theorem same36_1 (ep0 : Int) (se sc : ByteArray) (a : Option Addr) (n c : Nat) (ls : List ByteArray) (kd : Nat) (num ep : Int) (who text : ByteArray) (w : World) (hs : RowK kStr w (.slice a n c) ls) (hown : ∀ k, (Value.slice a n c).ownBlock = some k → k < w.heap.size) (hsz : se.size ≤ 1000000 ∧ sc.size ≤ 1000000 ∧ ls.length ≤ 100000) (hkd : kd ≤ 255) (hw : who.size ≤ 9223372036854775807) (ht : text.size ≤ 9223372036854775807) (hj : kd % 8 = 1) :
    Calls Tryd.prog 48 #[.agg #[.int .i64 ep0, .string se, .slice a n c, .string sc], .agg #[.int .u8 kd, .int .i64 num, .int .i64 ep, .string who, .string text]] w (SamePost w (.slice a n c) ⟨ep0, se, ls, sc⟩ (shortU ⟨kd, num, ep, who, text⟩)) := by
  have D0 := Lib.hid (SU.start w #[.int .i64 ep0, .string se, .slice a n c, .string sc] #[.int .u8 kd, .int .i64 num, .int .i64 ep, .string who, .string text] #[.int .i64 0, .string ⟨#[]⟩, .slice none 0 0, .string ⟨#[]⟩] #[.int .i64 0, .string ⟨#[]⟩, .slice none 0 0, .string ⟨#[]⟩])
  have Hw := Lib.hid hw
  have Ht := Lib.hid ht
  have HZ0 := Lib.hid (inT_bounds (T := ⟨ep0, se, ls, sc⟩) (e := ep) hsz.1 hsz.2.1 hsz.2.2)
  have hj' : ((kd : Int)) % 8 = 1 := by omega
  have R0 : Hid (RU w w (.slice a n c) (.slice a n c) ls) := ⟨hs, fun k hk => .inl hk⟩
  have HV : Hid (∀ k, (Value.slice a n c).ownBlock = some k → k < w.heap.size) := hown
  have HU : Hid (∀ t, uOp (shortU ⟨kd, num, ep, who, text⟩) t = opEnd (cutU who 100) t ∧ uLineT (shortU ⟨kd, num, ep, who, text⟩) t = ⟨#[]⟩ ∧ uGotT (shortU ⟨kd, num, ep, who, text⟩) t = zeroT) := fun t => by
    refine ⟨?_, if_neg (by unfold shortU; dsimp only; omega), if_neg (by unfold shortU; dsimp only; omega)⟩
    unfold uOp shortU
    simp [hj]
  clear hw ht hs hown hsz
  go_enter Tryd.func48, Tryd.ntmps48
  go_wp2_with fail
  generalize (((w.alloc (.cells #[.int .i64 ep0, .string se, .slice a n c, .string sc] 24)).alloc (.cells #[.int .u8 kd, .int .i64 num, .int .i64 ep, .string who, .string text] 99)).alloc (.cells #[.int .i64 0, .string ⟨#[]⟩, .slice none 0 0, .string ⟨#[]⟩] 24)).alloc (.cells #[.int .i64 0, .string ⟨#[]⟩, .slice none 0 0, .string ⟨#[]⟩] 24) = W0 at *
  refine (short36_any kd num ep who text _ Hw.out Ht.out).mono ?_
  rintro r w2 ⟨rfl, hb2⟩
  have D2 := Lib.hid (D0.out.later hb2)
  have D3 := Lib.hid (D2.out.setOp (.int .u8 kd) (.int .i64 num) (.int .i64 ep) (.string (cutU who 100)) (.string (cutU text 3000)))
  have R3 := Lib.hid (R0.out.later D3.out.b)
  clear hb2 D0 R0
  have o0 : w2.cell? ⟨w.heap.size + 1, 0, none⟩ = some (.int .u8 kd) := cell_of_heap D2.out.op 0
  have o1 : w2.cell? ⟨w.heap.size + 1, 1, none⟩ = some (.int .i64 num) := cell_of_heap D2.out.op 1
  have o2 : w2.cell? ⟨w.heap.size + 1, 2, none⟩ = some (.int .i64 ep) := cell_of_heap D2.out.op 2
  have o3 : w2.cell? ⟨w.heap.size + 1, 3, none⟩ = some (.string who) := cell_of_heap D2.out.op 3
  have o4 : w2.cell? ⟨w.heap.size + 1, 4, none⟩ = some (.string text) := cell_of_heap D2.out.op 4
  have fo0 := frozen_of_heap D2.out.op 0
  have fo1 := frozen_of_heap D2.out.op 1
  have fo2 := frozen_of_heap D2.out.op 2
  have fo3 := frozen_of_heap D2.out.op 3
  have fo4 := frozen_of_heap D2.out.op 4
  have t0 : w2.cell? ⟨w.heap.size, 0, none⟩ = some (.int .i64 ep0) := cell_of_heap D2.out.t 0
  have t1 : w2.cell? ⟨w.heap.size, 1, none⟩ = some (.string se) := cell_of_heap D2.out.t 1
  have t2 : w2.cell? ⟨w.heap.size, 2, none⟩ = some (.slice a n c) := cell_of_heap D2.out.t 2
  have t3 : w2.cell? ⟨w.heap.size, 3, none⟩ = some (.string sc) := cell_of_heap D2.out.t 3
  go_wp2_with fail
  clear o0 fo0 o1 fo1 o2 fo2 o3 fo3 o4 fo4 t0 t1 t2 t3 D2
  generalize (((((w2).setCell ⟨w.heap.size + 1, 0, none⟩ (.int .u8 kd)).setCell ⟨w.heap.size + 1, 1, none⟩ (.int .i64 num)).setCell ⟨w.heap.size + 1, 2, none⟩ (.int .i64 ep)).setCell ⟨w.heap.size + 1, 3, none⟩ (.string (cutU who 100))).setCell ⟨w.heap.size + 1, 4, none⟩ (.string (cutU text 3000)) = W3 at *
  refine (in36_is ep0 se sc a n c ls ep _ R3.out.row).mono ?_
  rintro r w4 ⟨a1, n1, c1, rfl, hrow, hown1, hb4⟩
  have D4 := Lib.hid (D3.out.later hb4)
  have R4 := Lib.hid (R3.out.new hb4 D3.out.lt hrow hown1)
  have HT : Hid (inT ⟨ep0, se, ls, sc⟩ ep = inT ⟨ep0, se, ls, sc⟩ ep) := rfl
  clear hrow hown1 hb4 D3 R3
  generalize HTe : inT ⟨ep0, se, ls, sc⟩ ep = T1 at HZ0 R4 HT ⊢
  obtain ⟨e1, s1, l1, sc1⟩ := T1
  have HTE := Lib.hid HTe
  dsimp only at HZ0 R4 ⊢
  have HZ := HZ0
  clear HTe HT HZ0
  have D6 := Lib.hid ((D4.out.setT (.int .i64 e1) (.string s1) (.slice a1 n1 c1) (.string sc1)).setN (.int .i64 e1) (.string s1) (.slice a1 n1 c1) (.string sc1))
  have R6 := Lib.hid ((R4.out.set4 HV.out w.heap.size (Nat.le_refl _) (by omega) (.int .i64 e1) (.string s1) (.slice a1 n1 c1) (.string sc1)).set4 HV.out (w.heap.size + 1 + 1) (by omega) (by omega) (.int .i64 e1) (.string s1) (.slice a1 n1 c1) (.string sc1))
  have o0 : w4.cell? ⟨w.heap.size + 1, 0, none⟩ = some (.int .u8 kd) := cell_of_heap D4.out.op 0
  have o1 : w4.cell? ⟨w.heap.size + 1, 1, none⟩ = some (.int .i64 num) := cell_of_heap D4.out.op 1
  have o2 : w4.cell? ⟨w.heap.size + 1, 2, none⟩ = some (.int .i64 ep) := cell_of_heap D4.out.op 2
  have o3 : w4.cell? ⟨w.heap.size + 1, 3, none⟩ = some (.string (cutU who 100)) := cell_of_heap D4.out.op 3
  have o4 : w4.cell? ⟨w.heap.size + 1, 4, none⟩ = some (.string (cutU text 3000)) := cell_of_heap D4.out.op 4
  have fo0 := frozen_of_heap D4.out.op 0
  have fo1 := frozen_of_heap D4.out.op 1
  have fo2 := frozen_of_heap D4.out.op 2
  have fo3 := frozen_of_heap D4.out.op 3
  have fo4 := frozen_of_heap D4.out.op 4
  have t0 : w4.cell? ⟨w.heap.size, 0, none⟩ = some (.int .i64 ep0) := cell_of_heap D4.out.t 0
  have t1 : w4.cell? ⟨w.heap.size, 1, none⟩ = some (.string se) := cell_of_heap D4.out.t 1
  have t2 : w4.cell? ⟨w.heap.size, 2, none⟩ = some (.slice a n c) := cell_of_heap D4.out.t 2
  have t3 : w4.cell? ⟨w.heap.size, 3, none⟩ = some (.string sc) := cell_of_heap D4.out.t 3
  have ft0 := frozen_of_heap D4.out.t 0
  have ft1 := frozen_of_heap D4.out.t 1
  have ft2 := frozen_of_heap D4.out.t 2
  have ft3 := frozen_of_heap D4.out.t 3
  have x0 : w4.cell? ⟨w.heap.size + 1 + 1, 0, none⟩ = some (.int .i64 0) := cell_of_heap D4.out.nx 0
  have x1 : w4.cell? ⟨w.heap.size + 1 + 1, 1, none⟩ = some (.string ⟨#[]⟩) := cell_of_heap D4.out.nx 1
  have x2 : w4.cell? ⟨w.heap.size + 1 + 1, 2, none⟩ = some (.slice none 0 0) := cell_of_heap D4.out.nx 2
  have x3 : w4.cell? ⟨w.heap.size + 1 + 1, 3, none⟩ = some (.string ⟨#[]⟩) := cell_of_heap D4.out.nx 3
  have fx0 := frozen_of_heap D4.out.nx 0
  have fx1 := frozen_of_heap D4.out.nx 1
  have fx2 := frozen_of_heap D4.out.nx 2
  have fx3 := frozen_of_heap D4.out.nx 3
  go_wp2_with fail
  clear o0 fo0 o1 fo1 o2 fo2 o3 fo3 o4 fo4 t0 ft0 t1 ft1 t2 ft2 t3 ft3 x0 fx0 x1 fx1 x2 fx2 x3 fx3 D4 R4
  generalize ((((((((w4).setCell ⟨w.heap.size, 0, none⟩ (.int .i64 e1)).setCell ⟨w.heap.size, 1, none⟩ (.string s1)).setCell ⟨w.heap.size, 2, none⟩ (.slice a1 n1 c1)).setCell ⟨w.heap.size, 3, none⟩ (.string sc1)).setCell ⟨w.heap.size + 1 + 1, 0, none⟩ (.int .i64 e1)).setCell ⟨w.heap.size + 1 + 1, 1, none⟩ (.string s1)).setCell ⟨w.heap.size + 1 + 1, 2, none⟩ (.slice a1 n1 c1)).setCell ⟨w.heap.size + 1 + 1, 3, none⟩ (.string sc1) = W6 at *
  refine (end36_any e1 s1 sc1 a1 n1 c1 l1 (cutU who 100) _ R6.out.row).mono ?_
  rintro r w7 ⟨a2, n2, c2, rfl, hrow, hown2, hb7⟩
  have D7 := Lib.hid (D6.out.later hb7)
  have R7 := Lib.hid (R6.out.new hb7 D6.out.lt hrow hown2)
  clear hrow hown2 hb7 D6 R6
  have HQ := Lib.hid (HU.out ⟨e1, s1, l1, sc1⟩)
  clear HU
  generalize opEnd (cutU who 100) ⟨e1, s1, l1, sc1⟩ = p at HQ R7 ⊢
  obtain ⟨⟨e2, s2, l2, sc2⟩, q⟩ := p
  dsimp only at R7 ⊢
  have D8 := Lib.hid (D7.out.setN (.int .i64 e2) (.string s2) (.slice a2 n2 c2) (.string sc2))
  have R8 := Lib.hid (R7.out.set4 HV.out (w.heap.size + 1 + 1) (by omega) (by omega) (.int .i64 e2) (.string s2) (.slice a2 n2 c2) (.string sc2))
  have x0 : w7.cell? ⟨w.heap.size + 1 + 1, 0, none⟩ = some (.int .i64 e1) := cell_of_heap D7.out.nx 0
  have x1 : w7.cell? ⟨w.heap.size + 1 + 1, 1, none⟩ = some (.string s1) := cell_of_heap D7.out.nx 1
  have x2 : w7.cell? ⟨w.heap.size + 1 + 1, 2, none⟩ = some (.slice a1 n1 c1) := cell_of_heap D7.out.nx 2
  have x3 : w7.cell? ⟨w.heap.size + 1 + 1, 3, none⟩ = some (.string sc1) := cell_of_heap D7.out.nx 3
  have fx0 := frozen_of_heap D7.out.nx 0
  have fx1 := frozen_of_heap D7.out.nx 1
  have fx2 := frozen_of_heap D7.out.nx 2
  have fx3 := frozen_of_heap D7.out.nx 3
  go_upto_region 18 with fail
  clear x0 fx0 x1 fx1 x2 fx2 x3 fx3 D7 R7
  generalize ((((w7).setCell ⟨w.heap.size + 1 + 1, 0, none⟩ (.int .i64 e2)).setCell ⟨w.heap.size + 1 + 1, 1, none⟩ (.string s2)).setCell ⟨w.heap.size + 1 + 1, 2, none⟩ (.slice a2 n2 c2)).setCell ⟨w.heap.size + 1 + 1, 3, none⟩ (.string sc2) = W8 at *
  have x0 : W8.cell? ⟨w.heap.size + 1 + 1, 0, none⟩ = some (.int .i64 e2) := cell_of_heap D8.out.nx 0
  have x1 : W8.cell? ⟨w.heap.size + 1 + 1, 1, none⟩ = some (.string s2) := cell_of_heap D8.out.nx 1
  have x2 : W8.cell? ⟨w.heap.size + 1 + 1, 2, none⟩ = some (.slice a2 n2 c2) := cell_of_heap D8.out.nx 2
  have x3 : W8.cell? ⟨w.heap.size + 1 + 1, 3, none⟩ = some (.string sc2) := cell_of_heap D8.out.nx 3
  have fx0 := frozen_of_heap D8.out.nx 0
  have fx1 := frozen_of_heap D8.out.nx 1
  have fx2 := frozen_of_heap D8.out.nx 2
  have fx3 := frozen_of_heap D8.out.nx 3
  have y0 : W8.cell? ⟨w.heap.size + 1 + 1 + 1, 0, none⟩ = some (.int .i64 0) := cell_of_heap D8.out.got 0
  have y1 : W8.cell? ⟨w.heap.size + 1 + 1 + 1, 1, none⟩ = some (.string ⟨#[]⟩) := cell_of_heap D8.out.got 1
  have y2 : W8.cell? ⟨w.heap.size + 1 + 1 + 1, 2, none⟩ = some (.slice none 0 0) := cell_of_heap D8.out.got 2
  have y3 : W8.cell? ⟨w.heap.size + 1 + 1 + 1, 3, none⟩ = some (.string ⟨#[]⟩) := cell_of_heap D8.out.got 3
  have fy0 := frozen_of_heap D8.out.got 0
  have fy1 := frozen_of_heap D8.out.got 1
  have fy2 := frozen_of_heap D8.out.got 2
  have fy3 := frozen_of_heap D8.out.got 3
  have A1 := Lib.hid (((D8.out.setN (.int .i64 e2) (.string s2) (.slice a2 n2 c2) (.string sc2)).setG (.int .i64 0) (.string ⟨#[]⟩) (.slice none 0 0) (.string ⟨#[]⟩)).later (Below.refl _ _).drew)
  have B1 := Lib.hid (((R8.out.set4 HV.out (w.heap.size + 1 + 1) (by omega) (by omega) (.int .i64 e2) (.string s2) (.slice a2 n2 c2) (.string sc2)).set4 HV.out (w.heap.size + 1 + 1 + 1) (by omega) (by omega) (.int .i64 0) (.string ⟨#[]⟩) (.slice none 0 0) (.string ⟨#[]⟩)).later (Below.refl _ _).drew)
  go_region
  all_goals
    go_wp2
    refine bodyPost_ret (v := .tuple #[.agg #[.int .i64 e2, .string s2, .slice a2 n2 c2, .string sc2], .int .i64 q, .string ⟨#[]⟩, .agg #[.int .i64 0, .string ⟨#[]⟩, .slice none 0 0, .string ⟨#[]⟩]]) (by simp [results, Tryd.results48, go_sem, x0, x1, x2, x3, y0, y1, y2, y3]) rfl ?_
    exact sam_fin (T := ⟨ep0, se, ls, sc⟩) HTE.out HQ.out.1 HQ.out.2.1 HQ.out.2.2 B1.out.row (RowK.nil _) B1.out.out A1.out.b
set_option maxRecDepth 100000 in
set_option maxHeartbeats 6400000 in
theorem same36_2 (ep0 : Int) (se sc : ByteArray) (a : Option Addr) (n c : Nat) (ls : List ByteArray) (kd : Nat) (num ep : Int) (who text : ByteArray) (w : World) (hs : RowK kStr w (.slice a n c) ls) (hown : ∀ k, (Value.slice a n c).ownBlock = some k → k < w.heap.size) (hsz : se.size ≤ 1000000 ∧ sc.size ≤ 1000000 ∧ ls.length ≤ 100000) (hkd : kd ≤ 255) (hw : who.size ≤ 9223372036854775807) (ht : text.size ≤ 9223372036854775807) (hj : kd % 8 = 2) :
    Calls Tryd.prog 48 #[.agg #[.int .i64 ep0, .string se, .slice a n c, .string sc], .agg #[.int .u8 kd, .int .i64 num, .int .i64 ep, .string who, .string text]] w (SamePost w (.slice a n c) ⟨ep0, se, ls, sc⟩ (shortU ⟨kd, num, ep, who, text⟩)) := by
  have D0 := Lib.hid (SU.start w #[.int .i64 ep0, .string se, .slice a n c, .string sc] #[.int .u8 kd, .int .i64 num, .int .i64 ep, .string who, .string text] #[.int .i64 0, .string ⟨#[]⟩, .slice none 0 0, .string ⟨#[]⟩] #[.int .i64 0, .string ⟨#[]⟩, .slice none 0 0, .string ⟨#[]⟩])
  have Hw := Lib.hid hw
  have Ht := Lib.hid ht
  have HZ0 := Lib.hid (inT_bounds (T := ⟨ep0, se, ls, sc⟩) (e := ep) hsz.1 hsz.2.1 hsz.2.2)
  have hj' : ((kd : Int)) % 8 = 2 := by omega
  have R0 : Hid (RU w w (.slice a n c) (.slice a n c) ls) := ⟨hs, fun k hk => .inl hk⟩
  have HV : Hid (∀ k, (Value.slice a n c).ownBlock = some k → k < w.heap.size) := hown
  have HU : Hid (∀ t, uOp (shortU ⟨kd, num, ep, who, text⟩) t = opAdd (cutU text 3000) t ∧ uLineT (shortU ⟨kd, num, ep, who, text⟩) t = ⟨#[]⟩ ∧ uGotT (shortU ⟨kd, num, ep, who, text⟩) t = zeroT) := fun t => by
    refine ⟨?_, if_neg (by unfold shortU; dsimp only; omega), if_neg (by unfold shortU; dsimp only; omega)⟩
    unfold uOp shortU
    simp [hj]
  clear hw ht hs hown hsz
  go_enter Tryd.func48, Tryd.ntmps48
  go_wp2_with fail
  generalize (((w.alloc (.cells #[.int .i64 ep0, .string se, .slice a n c, .string sc] 24)).alloc (.cells #[.int .u8 kd, .int .i64 num, .int .i64 ep, .string who, .string text] 99)).alloc (.cells #[.int .i64 0, .string ⟨#[]⟩, .slice none 0 0, .string ⟨#[]⟩] 24)).alloc (.cells #[.int .i64 0, .string ⟨#[]⟩, .slice none 0 0, .string ⟨#[]⟩] 24) = W0 at *
  refine (short36_any kd num ep who text _ Hw.out Ht.out).mono ?_
  rintro r w2 ⟨rfl, hb2⟩
  have D2 := Lib.hid (D0.out.later hb2)
  have D3 := Lib.hid (D2.out.setOp (.int .u8 kd) (.int .i64 num) (.int .i64 ep) (.string (cutU who 100)) (.string (cutU text 3000)))
  have R3 := Lib.hid (R0.out.later D3.out.b)
  clear hb2 D0 R0
  have o0 : w2.cell? ⟨w.heap.size + 1, 0, none⟩ = some (.int .u8 kd) := cell_of_heap D2.out.op 0
  have o1 : w2.cell? ⟨w.heap.size + 1, 1, none⟩ = some (.int .i64 num) := cell_of_heap D2.out.op 1
  have o2 : w2.cell? ⟨w.heap.size + 1, 2, none⟩ = some (.int .i64 ep) := cell_of_heap D2.out.op 2
  have o3 : w2.cell? ⟨w.heap.size + 1, 3, none⟩ = some (.string who) := cell_of_heap D2.out.op 3
  have o4 : w2.cell? ⟨w.heap.size + 1, 4, none⟩ = some (.string text) := cell_of_heap D2.out.op 4
  have fo0 := frozen_of_heap D2.out.op 0
  have fo1 := frozen_of_heap D2.out.op 1
  have fo2 := frozen_of_heap D2.out.op 2
  have fo3 := frozen_of_heap D2.out.op 3
  have fo4 := frozen_of_heap D2.out.op 4
  have t0 : w2.cell? ⟨w.heap.size, 0, none⟩ = some (.int .i64 ep0) := cell_of_heap D2.out.t 0
  have t1 : w2.cell? ⟨w.heap.size, 1, none⟩ = some (.string se) := cell_of_heap D2.out.t 1
  have t2 : w2.cell? ⟨w.heap.size, 2, none⟩ = some (.slice a n c) := cell_of_heap D2.out.t 2
  have t3 : w2.cell? ⟨w.heap.size, 3, none⟩ = some (.string sc) := cell_of_heap D2.out.t 3
  go_wp2_with fail
  clear o0 fo0 o1 fo1 o2 fo2 o3 fo3 o4 fo4 t0 t1 t2 t3 D2
  generalize (((((w2).setCell ⟨w.heap.size + 1, 0, none⟩ (.int .u8 kd)).setCell ⟨w.heap.size + 1, 1, none⟩ (.int .i64 num)).setCell ⟨w.heap.size + 1, 2, none⟩ (.int .i64 ep)).setCell ⟨w.heap.size + 1, 3, none⟩ (.string (cutU who 100))).setCell ⟨w.heap.size + 1, 4, none⟩ (.string (cutU text 3000)) = W3 at *
  refine (in36_is ep0 se sc a n c ls ep _ R3.out.row).mono ?_
  rintro r w4 ⟨a1, n1, c1, rfl, hrow, hown1, hb4⟩
  have D4 := Lib.hid (D3.out.later hb4)
  have R4 := Lib.hid (R3.out.new hb4 D3.out.lt hrow hown1)
  have HT : Hid (inT ⟨ep0, se, ls, sc⟩ ep = inT ⟨ep0, se, ls, sc⟩ ep) := rfl
  clear hrow hown1 hb4 D3 R3
  generalize HTe : inT ⟨ep0, se, ls, sc⟩ ep = T1 at HZ0 R4 HT ⊢
  obtain ⟨e1, s1, l1, sc1⟩ := T1
  have HTE := Lib.hid HTe
  dsimp only at HZ0 R4 ⊢
  have HZ := HZ0
  clear HTe HT HZ0
  have D6 := Lib.hid ((D4.out.setT (.int .i64 e1) (.string s1) (.slice a1 n1 c1) (.string sc1)).setN (.int .i64 e1) (.string s1) (.slice a1 n1 c1) (.string sc1))
  have R6 := Lib.hid ((R4.out.set4 HV.out w.heap.size (Nat.le_refl _) (by omega) (.int .i64 e1) (.string s1) (.slice a1 n1 c1) (.string sc1)).set4 HV.out (w.heap.size + 1 + 1) (by omega) (by omega) (.int .i64 e1) (.string s1) (.slice a1 n1 c1) (.string sc1))
  have o0 : w4.cell? ⟨w.heap.size + 1, 0, none⟩ = some (.int .u8 kd) := cell_of_heap D4.out.op 0
  have o1 : w4.cell? ⟨w.heap.size + 1, 1, none⟩ = some (.int .i64 num) := cell_of_heap D4.out.op 1
  have o2 : w4.cell? ⟨w.heap.size + 1, 2, none⟩ = some (.int .i64 ep) := cell_of_heap D4.out.op 2
  have o3 : w4.cell? ⟨w.heap.size + 1, 3, none⟩ = some (.string (cutU who 100)) := cell_of_heap D4.out.op 3
  have o4 : w4.cell? ⟨w.heap.size + 1, 4, none⟩ = some (.string (cutU text 3000)) := cell_of_heap D4.out.op 4
  have fo0 := frozen_of_heap D4.out.op 0
  have fo1 := frozen_of_heap D4.out.op 1
  have fo2 := frozen_of_heap D4.out.op 2
  have fo3 := frozen_of_heap D4.out.op 3
  have fo4 := frozen_of_heap D4.out.op 4
  have t0 : w4.cell? ⟨w.heap.size, 0, none⟩ = some (.int .i64 ep0) := cell_of_heap D4.out.t 0
  have t1 : w4.cell? ⟨w.heap.size, 1, none⟩ = some (.string se) := cell_of_heap D4.out.t 1
  have t2 : w4.cell? ⟨w.heap.size, 2, none⟩ = some (.slice a n c) := cell_of_heap D4.out.t 2
  have t3 : w4.cell? ⟨w.heap.size, 3, none⟩ = some (.string sc) := cell_of_heap D4.out.t 3
  have ft0 := frozen_of_heap D4.out.t 0
  have ft1 := frozen_of_heap D4.out.t 1
  have ft2 := frozen_of_heap D4.out.t 2
  have ft3 := frozen_of_heap D4.out.t 3
  have x0 : w4.cell? ⟨w.heap.size + 1 + 1, 0, none⟩ = some (.int .i64 0) := cell_of_heap D4.out.nx 0
  have x1 : w4.cell? ⟨w.heap.size + 1 + 1, 1, none⟩ = some (.string ⟨#[]⟩) := cell_of_heap D4.out.nx 1
  have x2 : w4.cell? ⟨w.heap.size + 1 + 1, 2, none⟩ = some (.slice none 0 0) := cell_of_heap D4.out.nx 2
  have x3 : w4.cell? ⟨w.heap.size + 1 + 1, 3, none⟩ = some (.string ⟨#[]⟩) := cell_of_heap D4.out.nx 3
  have fx0 := frozen_of_heap D4.out.nx 0
  have fx1 := frozen_of_heap D4.out.nx 1
  have fx2 := frozen_of_heap D4.out.nx 2
  have fx3 := frozen_of_heap D4.out.nx 3
  go_wp2_with fail
  clear o0 fo0 o1 fo1 o2 fo2 o3 fo3 o4 fo4 t0 ft0 t1 ft1 t2 ft2 t3 ft3 x0 fx0 x1 fx1 x2 fx2 x3 fx3 D4 R4
  generalize ((((((((w4).setCell ⟨w.heap.size, 0, none⟩ (.int .i64 e1)).setCell ⟨w.heap.size, 1, none⟩ (.string s1)).setCell ⟨w.heap.size, 2, none⟩ (.slice a1 n1 c1)).setCell ⟨w.heap.size, 3, none⟩ (.string sc1)).setCell ⟨w.heap.size + 1 + 1, 0, none⟩ (.int .i64 e1)).setCell ⟨w.heap.size + 1 + 1, 1, none⟩ (.string s1)).setCell ⟨w.heap.size + 1 + 1, 2, none⟩ (.slice a1 n1 c1)).setCell ⟨w.heap.size + 1 + 1, 3, none⟩ (.string sc1) = W6 at *
  refine (type36_any e1 s1 sc1 a1 n1 c1 l1 (cutU text 3000) _ R6.out.row (by have := cutU_size text 3000; omega) (Nat.le_trans HZ.out.2.1 (by decide)) (by rw [← R6.out.row.len]; exact HZ.out.2.2)).mono ?_
  rintro r w7 ⟨a2, n2, c2, rfl, hrow, hown2, hb7⟩
  have D7 := Lib.hid (D6.out.later hb7)
  have R7 := Lib.hid (R6.out.new hb7 D6.out.lt hrow hown2)
  clear hrow hown2 hb7 D6 R6
  have HQ := Lib.hid (HU.out ⟨e1, s1, l1, sc1⟩)
  clear HU
  generalize opAdd (cutU text 3000) ⟨e1, s1, l1, sc1⟩ = p at HQ R7 ⊢
  obtain ⟨⟨e2, s2, l2, sc2⟩, q⟩ := p
  dsimp only at R7 ⊢
  have D8 := Lib.hid (D7.out.setN (.int .i64 e2) (.string s2) (.slice a2 n2 c2) (.string sc2))
  have R8 := Lib.hid (R7.out.set4 HV.out (w.heap.size + 1 + 1) (by omega) (by omega) (.int .i64 e2) (.string s2) (.slice a2 n2 c2) (.string sc2))
  have x0 : w7.cell? ⟨w.heap.size + 1 + 1, 0, none⟩ = some (.int .i64 e1) := cell_of_heap D7.out.nx 0
  have x1 : w7.cell? ⟨w.heap.size + 1 + 1, 1, none⟩ = some (.string s1) := cell_of_heap D7.out.nx 1
  have x2 : w7.cell? ⟨w.heap.size + 1 + 1, 2, none⟩ = some (.slice a1 n1 c1) := cell_of_heap D7.out.nx 2
  have x3 : w7.cell? ⟨w.heap.size + 1 + 1, 3, none⟩ = some (.string sc1) := cell_of_heap D7.out.nx 3
  have fx0 := frozen_of_heap D7.out.nx 0
  have fx1 := frozen_of_heap D7.out.nx 1
  have fx2 := frozen_of_heap D7.out.nx 2
  have fx3 := frozen_of_heap D7.out.nx 3
  go_upto_region 18 with fail
  clear x0 fx0 x1 fx1 x2 fx2 x3 fx3 D7 R7
  generalize ((((w7).setCell ⟨w.heap.size + 1 + 1, 0, none⟩ (.int .i64 e2)).setCell ⟨w.heap.size + 1 + 1, 1, none⟩ (.string s2)).setCell ⟨w.heap.size + 1 + 1, 2, none⟩ (.slice a2 n2 c2)).setCell ⟨w.heap.size + 1 + 1, 3, none⟩ (.string sc2) = W8 at *
  have x0 : W8.cell? ⟨w.heap.size + 1 + 1, 0, none⟩ = some (.int .i64 e2) := cell_of_heap D8.out.nx 0
  have x1 : W8.cell? ⟨w.heap.size + 1 + 1, 1, none⟩ = some (.string s2) := cell_of_heap D8.out.nx 1
  have x2 : W8.cell? ⟨w.heap.size + 1 + 1, 2, none⟩ = some (.slice a2 n2 c2) := cell_of_heap D8.out.nx 2
  have x3 : W8.cell? ⟨w.heap.size + 1 + 1, 3, none⟩ = some (.string sc2) := cell_of_heap D8.out.nx 3
  have fx0 := frozen_of_heap D8.out.nx 0
  have fx1 := frozen_of_heap D8.out.nx 1
  have fx2 := frozen_of_heap D8.out.nx 2
  have fx3 := frozen_of_heap D8.out.nx 3
  have y0 : W8.cell? ⟨w.heap.size + 1 + 1 + 1, 0, none⟩ = some (.int .i64 0) := cell_of_heap D8.out.got 0
  have y1 : W8.cell? ⟨w.heap.size + 1 + 1 + 1, 1, none⟩ = some (.string ⟨#[]⟩) := cell_of_heap D8.out.got 1
  have y2 : W8.cell? ⟨w.heap.size + 1 + 1 + 1, 2, none⟩ = some (.slice none 0 0) := cell_of_heap D8.out.got 2
  have y3 : W8.cell? ⟨w.heap.size + 1 + 1 + 1, 3, none⟩ = some (.string ⟨#[]⟩) := cell_of_heap D8.out.got 3
  have fy0 := frozen_of_heap D8.out.got 0
  have fy1 := frozen_of_heap D8.out.got 1
  have fy2 := frozen_of_heap D8.out.got 2
  have fy3 := frozen_of_heap D8.out.got 3
  have A1 := Lib.hid (((D8.out.setN (.int .i64 e2) (.string s2) (.slice a2 n2 c2) (.string sc2)).setG (.int .i64 0) (.string ⟨#[]⟩) (.slice none 0 0) (.string ⟨#[]⟩)).later (Below.refl _ _).drew)
  have B1 := Lib.hid (((R8.out.set4 HV.out (w.heap.size + 1 + 1) (by omega) (by omega) (.int .i64 e2) (.string s2) (.slice a2 n2 c2) (.string sc2)).set4 HV.out (w.heap.size + 1 + 1 + 1) (by omega) (by omega) (.int .i64 0) (.string ⟨#[]⟩) (.slice none 0 0) (.string ⟨#[]⟩)).later (Below.refl _ _).drew)
  go_region
  all_goals
    go_wp2
    refine bodyPost_ret (v := .tuple #[.agg #[.int .i64 e2, .string s2, .slice a2 n2 c2, .string sc2], .int .i64 q, .string ⟨#[]⟩, .agg #[.int .i64 0, .string ⟨#[]⟩, .slice none 0 0, .string ⟨#[]⟩]]) (by simp [results, Tryd.results48, go_sem, x0, x1, x2, x3, y0, y1, y2, y3]) rfl ?_
    exact sam_fin (T := ⟨ep0, se, ls, sc⟩) HTE.out HQ.out.1 HQ.out.2.1 HQ.out.2.2 B1.out.row (RowK.nil _) B1.out.out A1.out.b
set_option maxRecDepth 100000 in
set_option maxHeartbeats 6400000 in
theorem same36_3 (ep0 : Int) (se sc : ByteArray) (a : Option Addr) (n c : Nat) (ls : List ByteArray) (kd : Nat) (num ep : Int) (who text : ByteArray) (w : World) (hs : RowK kStr w (.slice a n c) ls) (hown : ∀ k, (Value.slice a n c).ownBlock = some k → k < w.heap.size) (hsz : se.size ≤ 1000000 ∧ sc.size ≤ 1000000 ∧ ls.length ≤ 100000) (hkd : kd ≤ 255) (hw : who.size ≤ 9223372036854775807) (ht : text.size ≤ 9223372036854775807) (hj : kd % 8 = 3) :
    Calls Tryd.prog 48 #[.agg #[.int .i64 ep0, .string se, .slice a n c, .string sc], .agg #[.int .u8 kd, .int .i64 num, .int .i64 ep, .string who, .string text]] w (SamePost w (.slice a n c) ⟨ep0, se, ls, sc⟩ (shortU ⟨kd, num, ep, who, text⟩)) := by
  have D0 := Lib.hid (SU.start w #[.int .i64 ep0, .string se, .slice a n c, .string sc] #[.int .u8 kd, .int .i64 num, .int .i64 ep, .string who, .string text] #[.int .i64 0, .string ⟨#[]⟩, .slice none 0 0, .string ⟨#[]⟩] #[.int .i64 0, .string ⟨#[]⟩, .slice none 0 0, .string ⟨#[]⟩])
  have Hw := Lib.hid hw
  have Ht := Lib.hid ht
  have HZ0 := Lib.hid (inT_bounds (T := ⟨ep0, se, ls, sc⟩) (e := ep) hsz.1 hsz.2.1 hsz.2.2)
  have hj' : ((kd : Int)) % 8 = 3 := by omega
  have R0 : Hid (RU w w (.slice a n c) (.slice a n c) ls) := ⟨hs, fun k hk => .inl hk⟩
  have HV : Hid (∀ k, (Value.slice a n c).ownBlock = some k → k < w.heap.size) := hown
  have HU : Hid (∀ t, uOp (shortU ⟨kd, num, ep, who, text⟩) t = opAdd (cutU text 3000) t ∧ uLineT (shortU ⟨kd, num, ep, who, text⟩) t = ⟨#[]⟩ ∧ uGotT (shortU ⟨kd, num, ep, who, text⟩) t = zeroT) := fun t => by
    refine ⟨?_, if_neg (by unfold shortU; dsimp only; omega), if_neg (by unfold shortU; dsimp only; omega)⟩
    unfold uOp shortU
    simp [hj]
  clear hw ht hs hown hsz
  go_enter Tryd.func48, Tryd.ntmps48
  go_wp2_with fail
  generalize (((w.alloc (.cells #[.int .i64 ep0, .string se, .slice a n c, .string sc] 24)).alloc (.cells #[.int .u8 kd, .int .i64 num, .int .i64 ep, .string who, .string text] 99)).alloc (.cells #[.int .i64 0, .string ⟨#[]⟩, .slice none 0 0, .string ⟨#[]⟩] 24)).alloc (.cells #[.int .i64 0, .string ⟨#[]⟩, .slice none 0 0, .string ⟨#[]⟩] 24) = W0 at *
  refine (short36_any kd num ep who text _ Hw.out Ht.out).mono ?_
  rintro r w2 ⟨rfl, hb2⟩
  have D2 := Lib.hid (D0.out.later hb2)
  have D3 := Lib.hid (D2.out.setOp (.int .u8 kd) (.int .i64 num) (.int .i64 ep) (.string (cutU who 100)) (.string (cutU text 3000)))
  have R3 := Lib.hid (R0.out.later D3.out.b)
  clear hb2 D0 R0
  have o0 : w2.cell? ⟨w.heap.size + 1, 0, none⟩ = some (.int .u8 kd) := cell_of_heap D2.out.op 0
  have o1 : w2.cell? ⟨w.heap.size + 1, 1, none⟩ = some (.int .i64 num) := cell_of_heap D2.out.op 1
  have o2 : w2.cell? ⟨w.heap.size + 1, 2, none⟩ = some (.int .i64 ep) := cell_of_heap D2.out.op 2
  have o3 : w2.cell? ⟨w.heap.size + 1, 3, none⟩ = some (.string who) := cell_of_heap D2.out.op 3
  have o4 : w2.cell? ⟨w.heap.size + 1, 4, none⟩ = some (.string text) := cell_of_heap D2.out.op 4
  have fo0 := frozen_of_heap D2.out.op 0
  have fo1 := frozen_of_heap D2.out.op 1
  have fo2 := frozen_of_heap D2.out.op 2
  have fo3 := frozen_of_heap D2.out.op 3
  have fo4 := frozen_of_heap D2.out.op 4
  have t0 : w2.cell? ⟨w.heap.size, 0, none⟩ = some (.int .i64 ep0) := cell_of_heap D2.out.t 0
  have t1 : w2.cell? ⟨w.heap.size, 1, none⟩ = some (.string se) := cell_of_heap D2.out.t 1
  have t2 : w2.cell? ⟨w.heap.size, 2, none⟩ = some (.slice a n c) := cell_of_heap D2.out.t 2
  have t3 : w2.cell? ⟨w.heap.size, 3, none⟩ = some (.string sc) := cell_of_heap D2.out.t 3
  go_wp2_with fail
  clear o0 fo0 o1 fo1 o2 fo2 o3 fo3 o4 fo4 t0 t1 t2 t3 D2
  generalize (((((w2).setCell ⟨w.heap.size + 1, 0, none⟩ (.int .u8 kd)).setCell ⟨w.heap.size + 1, 1, none⟩ (.int .i64 num)).setCell ⟨w.heap.size + 1, 2, none⟩ (.int .i64 ep)).setCell ⟨w.heap.size + 1, 3, none⟩ (.string (cutU who 100))).setCell ⟨w.heap.size + 1, 4, none⟩ (.string (cutU text 3000)) = W3 at *
  refine (in36_is ep0 se sc a n c ls ep _ R3.out.row).mono ?_
  rintro r w4 ⟨a1, n1, c1, rfl, hrow, hown1, hb4⟩
  have D4 := Lib.hid (D3.out.later hb4)
  have R4 := Lib.hid (R3.out.new hb4 D3.out.lt hrow hown1)
  have HT : Hid (inT ⟨ep0, se, ls, sc⟩ ep = inT ⟨ep0, se, ls, sc⟩ ep) := rfl
  clear hrow hown1 hb4 D3 R3
  generalize HTe : inT ⟨ep0, se, ls, sc⟩ ep = T1 at HZ0 R4 HT ⊢
  obtain ⟨e1, s1, l1, sc1⟩ := T1
  have HTE := Lib.hid HTe
  dsimp only at HZ0 R4 ⊢
  have HZ := HZ0
  clear HTe HT HZ0
  have D6 := Lib.hid ((D4.out.setT (.int .i64 e1) (.string s1) (.slice a1 n1 c1) (.string sc1)).setN (.int .i64 e1) (.string s1) (.slice a1 n1 c1) (.string sc1))
  have R6 := Lib.hid ((R4.out.set4 HV.out w.heap.size (Nat.le_refl _) (by omega) (.int .i64 e1) (.string s1) (.slice a1 n1 c1) (.string sc1)).set4 HV.out (w.heap.size + 1 + 1) (by omega) (by omega) (.int .i64 e1) (.string s1) (.slice a1 n1 c1) (.string sc1))
  have o0 : w4.cell? ⟨w.heap.size + 1, 0, none⟩ = some (.int .u8 kd) := cell_of_heap D4.out.op 0
  have o1 : w4.cell? ⟨w.heap.size + 1, 1, none⟩ = some (.int .i64 num) := cell_of_heap D4.out.op 1
  have o2 : w4.cell? ⟨w.heap.size + 1, 2, none⟩ = some (.int .i64 ep) := cell_of_heap D4.out.op 2
  have o3 : w4.cell? ⟨w.heap.size + 1, 3, none⟩ = some (.string (cutU who 100)) := cell_of_heap D4.out.op 3
  have o4 : w4.cell? ⟨w.heap.size + 1, 4, none⟩ = some (.string (cutU text 3000)) := cell_of_heap D4.out.op 4
  have fo0 := frozen_of_heap D4.out.op 0
  have fo1 := frozen_of_heap D4.out.op 1
  have fo2 := frozen_of_heap D4.out.op 2
  have fo3 := frozen_of_heap D4.out.op 3
  have fo4 := frozen_of_heap D4.out.op 4
  have t0 : w4.cell? ⟨w.heap.size, 0, none⟩ = some (.int .i64 ep0) := cell_of_heap D4.out.t 0
  have t1 : w4.cell? ⟨w.heap.size, 1, none⟩ = some (.string se) := cell_of_heap D4.out.t 1
  have t2 : w4.cell? ⟨w.heap.size, 2, none⟩ = some (.slice a n c) := cell_of_heap D4.out.t 2
  have t3 : w4.cell? ⟨w.heap.size, 3, none⟩ = some (.string sc) := cell_of_heap D4.out.t 3
  have ft0 := frozen_of_heap D4.out.t 0
  have ft1 := frozen_of_heap D4.out.t 1
  have ft2 := frozen_of_heap D4.out.t 2
  have ft3 := frozen_of_heap D4.out.t 3
  have x0 : w4.cell? ⟨w.heap.size + 1 + 1, 0, none⟩ = some (.int .i64 0) := cell_of_heap D4.out.nx 0
  have x1 : w4.cell? ⟨w.heap.size + 1 + 1, 1, none⟩ = some (.string ⟨#[]⟩) := cell_of_heap D4.out.nx 1
  have x2 : w4.cell? ⟨w.heap.size + 1 + 1, 2, none⟩ = some (.slice none 0 0) := cell_of_heap D4.out.nx 2
  have x3 : w4.cell? ⟨w.heap.size + 1 + 1, 3, none⟩ = some (.string ⟨#[]⟩) := cell_of_heap D4.out.nx 3
  have fx0 := frozen_of_heap D4.out.nx 0
  have fx1 := frozen_of_heap D4.out.nx 1
  have fx2 := frozen_of_heap D4.out.nx 2
  have fx3 := frozen_of_heap D4.out.nx 3
  go_wp2_with fail
  clear o0 fo0 o1 fo1 o2 fo2 o3 fo3 o4 fo4 t0 ft0 t1 ft1 t2 ft2 t3 ft3 x0 fx0 x1 fx1 x2 fx2 x3 fx3 D4 R4
  generalize ((((((((w4).setCell ⟨w.heap.size, 0, none⟩ (.int .i64 e1)).setCell ⟨w.heap.size, 1, none⟩ (.string s1)).setCell ⟨w.heap.size, 2, none⟩ (.slice a1 n1 c1)).setCell ⟨w.heap.size, 3, none⟩ (.string sc1)).setCell ⟨w.heap.size + 1 + 1, 0, none⟩ (.int .i64 e1)).setCell ⟨w.heap.size + 1 + 1, 1, none⟩ (.string s1)).setCell ⟨w.heap.size + 1 + 1, 2, none⟩ (.slice a1 n1 c1)).setCell ⟨w.heap.size + 1 + 1, 3, none⟩ (.string sc1) = W6 at *
  refine (type36_any e1 s1 sc1 a1 n1 c1 l1 (cutU text 3000) _ R6.out.row (by have := cutU_size text 3000; omega) (Nat.le_trans HZ.out.2.1 (by decide)) (by rw [← R6.out.row.len]; exact HZ.out.2.2)).mono ?_
  rintro r w7 ⟨a2, n2, c2, rfl, hrow, hown2, hb7⟩
  have D7 := Lib.hid (D6.out.later hb7)
  have R7 := Lib.hid (R6.out.new hb7 D6.out.lt hrow hown2)
  clear hrow hown2 hb7 D6 R6
  have HQ := Lib.hid (HU.out ⟨e1, s1, l1, sc1⟩)
  clear HU
  generalize opAdd (cutU text 3000) ⟨e1, s1, l1, sc1⟩ = p at HQ R7 ⊢
  obtain ⟨⟨e2, s2, l2, sc2⟩, q⟩ := p
  dsimp only at R7 ⊢
  have D8 := Lib.hid (D7.out.setN (.int .i64 e2) (.string s2) (.slice a2 n2 c2) (.string sc2))
  have R8 := Lib.hid (R7.out.set4 HV.out (w.heap.size + 1 + 1) (by omega) (by omega) (.int .i64 e2) (.string s2) (.slice a2 n2 c2) (.string sc2))
  have x0 : w7.cell? ⟨w.heap.size + 1 + 1, 0, none⟩ = some (.int .i64 e1) := cell_of_heap D7.out.nx 0
  have x1 : w7.cell? ⟨w.heap.size + 1 + 1, 1, none⟩ = some (.string s1) := cell_of_heap D7.out.nx 1
  have x2 : w7.cell? ⟨w.heap.size + 1 + 1, 2, none⟩ = some (.slice a1 n1 c1) := cell_of_heap D7.out.nx 2
  have x3 : w7.cell? ⟨w.heap.size + 1 + 1, 3, none⟩ = some (.string sc1) := cell_of_heap D7.out.nx 3
  have fx0 := frozen_of_heap D7.out.nx 0
  have fx1 := frozen_of_heap D7.out.nx 1
  have fx2 := frozen_of_heap D7.out.nx 2
  have fx3 := frozen_of_heap D7.out.nx 3
  go_upto_region 18 with fail
  clear x0 fx0 x1 fx1 x2 fx2 x3 fx3 D7 R7
  generalize ((((w7).setCell ⟨w.heap.size + 1 + 1, 0, none⟩ (.int .i64 e2)).setCell ⟨w.heap.size + 1 + 1, 1, none⟩ (.string s2)).setCell ⟨w.heap.size + 1 + 1, 2, none⟩ (.slice a2 n2 c2)).setCell ⟨w.heap.size + 1 + 1, 3, none⟩ (.string sc2) = W8 at *
  have x0 : W8.cell? ⟨w.heap.size + 1 + 1, 0, none⟩ = some (.int .i64 e2) := cell_of_heap D8.out.nx 0
  have x1 : W8.cell? ⟨w.heap.size + 1 + 1, 1, none⟩ = some (.string s2) := cell_of_heap D8.out.nx 1
  have x2 : W8.cell? ⟨w.heap.size + 1 + 1, 2, none⟩ = some (.slice a2 n2 c2) := cell_of_heap D8.out.nx 2
  have x3 : W8.cell? ⟨w.heap.size + 1 + 1, 3, none⟩ = some (.string sc2) := cell_of_heap D8.out.nx 3
  have fx0 := frozen_of_heap D8.out.nx 0
  have fx1 := frozen_of_heap D8.out.nx 1
  have fx2 := frozen_of_heap D8.out.nx 2
  have fx3 := frozen_of_heap D8.out.nx 3
  have y0 : W8.cell? ⟨w.heap.size + 1 + 1 + 1, 0, none⟩ = some (.int .i64 0) := cell_of_heap D8.out.got 0
  have y1 : W8.cell? ⟨w.heap.size + 1 + 1 + 1, 1, none⟩ = some (.string ⟨#[]⟩) := cell_of_heap D8.out.got 1
  have y2 : W8.cell? ⟨w.heap.size + 1 + 1 + 1, 2, none⟩ = some (.slice none 0 0) := cell_of_heap D8.out.got 2
  have y3 : W8.cell? ⟨w.heap.size + 1 + 1 + 1, 3, none⟩ = some (.string ⟨#[]⟩) := cell_of_heap D8.out.got 3
  have fy0 := frozen_of_heap D8.out.got 0
  have fy1 := frozen_of_heap D8.out.got 1
  have fy2 := frozen_of_heap D8.out.got 2
  have fy3 := frozen_of_heap D8.out.got 3
  have A1 := Lib.hid (((D8.out.setN (.int .i64 e2) (.string s2) (.slice a2 n2 c2) (.string sc2)).setG (.int .i64 0) (.string ⟨#[]⟩) (.slice none 0 0) (.string ⟨#[]⟩)).later (Below.refl _ _).drew)
  have B1 := Lib.hid (((R8.out.set4 HV.out (w.heap.size + 1 + 1) (by omega) (by omega) (.int .i64 e2) (.string s2) (.slice a2 n2 c2) (.string sc2)).set4 HV.out (w.heap.size + 1 + 1 + 1) (by omega) (by omega) (.int .i64 0) (.string ⟨#[]⟩) (.slice none 0 0) (.string ⟨#[]⟩)).later (Below.refl _ _).drew)
  go_region
  all_goals
    go_wp2
    refine bodyPost_ret (v := .tuple #[.agg #[.int .i64 e2, .string s2, .slice a2 n2 c2, .string sc2], .int .i64 q, .string ⟨#[]⟩, .agg #[.int .i64 0, .string ⟨#[]⟩, .slice none 0 0, .string ⟨#[]⟩]]) (by simp [results, Tryd.results48, go_sem, x0, x1, x2, x3, y0, y1, y2, y3]) rfl ?_
    exact sam_fin (T := ⟨ep0, se, ls, sc⟩) HTE.out HQ.out.1 HQ.out.2.1 HQ.out.2.2 B1.out.row (RowK.nil _) B1.out.out A1.out.b
set_option maxRecDepth 100000 in
set_option maxHeartbeats 6400000 in
theorem same36_4 (ep0 : Int) (se sc : ByteArray) (a : Option Addr) (n c : Nat) (ls : List ByteArray) (kd : Nat) (num ep : Int) (who text : ByteArray) (w : World) (hs : RowK kStr w (.slice a n c) ls) (hown : ∀ k, (Value.slice a n c).ownBlock = some k → k < w.heap.size) (hsz : se.size ≤ 1000000 ∧ sc.size ≤ 1000000 ∧ ls.length ≤ 100000) (hkd : kd ≤ 255) (hw : who.size ≤ 9223372036854775807) (ht : text.size ≤ 9223372036854775807) (hj : kd % 8 = 4) :
    Calls Tryd.prog 48 #[.agg #[.int .i64 ep0, .string se, .slice a n c, .string sc], .agg #[.int .u8 kd, .int .i64 num, .int .i64 ep, .string who, .string text]] w (SamePost w (.slice a n c) ⟨ep0, se, ls, sc⟩ (shortU ⟨kd, num, ep, who, text⟩)) := by
  have D0 := Lib.hid (SU.start w #[.int .i64 ep0, .string se, .slice a n c, .string sc] #[.int .u8 kd, .int .i64 num, .int .i64 ep, .string who, .string text] #[.int .i64 0, .string ⟨#[]⟩, .slice none 0 0, .string ⟨#[]⟩] #[.int .i64 0, .string ⟨#[]⟩, .slice none 0 0, .string ⟨#[]⟩])
  have Hw := Lib.hid hw
  have Ht := Lib.hid ht
  have HZ0 := Lib.hid (inT_bounds (T := ⟨ep0, se, ls, sc⟩) (e := ep) hsz.1 hsz.2.1 hsz.2.2)
  have hj' : ((kd : Int)) % 8 = 4 := by omega
  have R0 : Hid (RU w w (.slice a n c) (.slice a n c) ls) := ⟨hs, fun k hk => .inl hk⟩
  have HV : Hid (∀ k, (Value.slice a n c).ownBlock = some k → k < w.heap.size) := hown
  have HU : Hid (∀ t, uOp (shortU ⟨kd, num, ep, who, text⟩) t = opTake (cutU who 100) t ∧ uLineT (shortU ⟨kd, num, ep, who, text⟩) t = readL (cutU who 100) t ∧ uGotT (shortU ⟨kd, num, ep, who, text⟩) t = zeroT) := fun t => by
    refine ⟨?_, if_pos (by unfold shortU; dsimp only; omega), if_neg (by unfold shortU; dsimp only; omega)⟩
    unfold uOp shortU
    simp [hj]
  clear hw ht hs hown hsz
  go_enter Tryd.func48, Tryd.ntmps48
  go_wp2_with fail
  generalize (((w.alloc (.cells #[.int .i64 ep0, .string se, .slice a n c, .string sc] 24)).alloc (.cells #[.int .u8 kd, .int .i64 num, .int .i64 ep, .string who, .string text] 99)).alloc (.cells #[.int .i64 0, .string ⟨#[]⟩, .slice none 0 0, .string ⟨#[]⟩] 24)).alloc (.cells #[.int .i64 0, .string ⟨#[]⟩, .slice none 0 0, .string ⟨#[]⟩] 24) = W0 at *
  refine (short36_any kd num ep who text _ Hw.out Ht.out).mono ?_
  rintro r w2 ⟨rfl, hb2⟩
  have D2 := Lib.hid (D0.out.later hb2)
  have D3 := Lib.hid (D2.out.setOp (.int .u8 kd) (.int .i64 num) (.int .i64 ep) (.string (cutU who 100)) (.string (cutU text 3000)))
  have R3 := Lib.hid (R0.out.later D3.out.b)
  clear hb2 D0 R0
  have o0 : w2.cell? ⟨w.heap.size + 1, 0, none⟩ = some (.int .u8 kd) := cell_of_heap D2.out.op 0
  have o1 : w2.cell? ⟨w.heap.size + 1, 1, none⟩ = some (.int .i64 num) := cell_of_heap D2.out.op 1
  have o2 : w2.cell? ⟨w.heap.size + 1, 2, none⟩ = some (.int .i64 ep) := cell_of_heap D2.out.op 2
  have o3 : w2.cell? ⟨w.heap.size + 1, 3, none⟩ = some (.string who) := cell_of_heap D2.out.op 3
  have o4 : w2.cell? ⟨w.heap.size + 1, 4, none⟩ = some (.string text) := cell_of_heap D2.out.op 4
  have fo0 := frozen_of_heap D2.out.op 0
  have fo1 := frozen_of_heap D2.out.op 1
  have fo2 := frozen_of_heap D2.out.op 2
  have fo3 := frozen_of_heap D2.out.op 3
  have fo4 := frozen_of_heap D2.out.op 4
  have t0 : w2.cell? ⟨w.heap.size, 0, none⟩ = some (.int .i64 ep0) := cell_of_heap D2.out.t 0
  have t1 : w2.cell? ⟨w.heap.size, 1, none⟩ = some (.string se) := cell_of_heap D2.out.t 1
  have t2 : w2.cell? ⟨w.heap.size, 2, none⟩ = some (.slice a n c) := cell_of_heap D2.out.t 2
  have t3 : w2.cell? ⟨w.heap.size, 3, none⟩ = some (.string sc) := cell_of_heap D2.out.t 3
  go_wp2_with fail
  clear o0 fo0 o1 fo1 o2 fo2 o3 fo3 o4 fo4 t0 t1 t2 t3 D2
  generalize (((((w2).setCell ⟨w.heap.size + 1, 0, none⟩ (.int .u8 kd)).setCell ⟨w.heap.size + 1, 1, none⟩ (.int .i64 num)).setCell ⟨w.heap.size + 1, 2, none⟩ (.int .i64 ep)).setCell ⟨w.heap.size + 1, 3, none⟩ (.string (cutU who 100))).setCell ⟨w.heap.size + 1, 4, none⟩ (.string (cutU text 3000)) = W3 at *
  refine (in36_is ep0 se sc a n c ls ep _ R3.out.row).mono ?_
  rintro r w4 ⟨a1, n1, c1, rfl, hrow, hown1, hb4⟩
  have D4 := Lib.hid (D3.out.later hb4)
  have R4 := Lib.hid (R3.out.new hb4 D3.out.lt hrow hown1)
  have HT : Hid (inT ⟨ep0, se, ls, sc⟩ ep = inT ⟨ep0, se, ls, sc⟩ ep) := rfl
  clear hrow hown1 hb4 D3 R3
  generalize HTe : inT ⟨ep0, se, ls, sc⟩ ep = T1 at HZ0 R4 HT ⊢
  obtain ⟨e1, s1, l1, sc1⟩ := T1
  have HTE := Lib.hid HTe
  dsimp only at HZ0 R4 ⊢
  have HZ := HZ0
  clear HTe HT HZ0
  have D6 := Lib.hid ((D4.out.setT (.int .i64 e1) (.string s1) (.slice a1 n1 c1) (.string sc1)).setN (.int .i64 e1) (.string s1) (.slice a1 n1 c1) (.string sc1))
  have R6 := Lib.hid ((R4.out.set4 HV.out w.heap.size (Nat.le_refl _) (by omega) (.int .i64 e1) (.string s1) (.slice a1 n1 c1) (.string sc1)).set4 HV.out (w.heap.size + 1 + 1) (by omega) (by omega) (.int .i64 e1) (.string s1) (.slice a1 n1 c1) (.string sc1))
  have o0 : w4.cell? ⟨w.heap.size + 1, 0, none⟩ = some (.int .u8 kd) := cell_of_heap D4.out.op 0
  have o1 : w4.cell? ⟨w.heap.size + 1, 1, none⟩ = some (.int .i64 num) := cell_of_heap D4.out.op 1
  have o2 : w4.cell? ⟨w.heap.size + 1, 2, none⟩ = some (.int .i64 ep) := cell_of_heap D4.out.op 2
  have o3 : w4.cell? ⟨w.heap.size + 1, 3, none⟩ = some (.string (cutU who 100)) := cell_of_heap D4.out.op 3
  have o4 : w4.cell? ⟨w.heap.size + 1, 4, none⟩ = some (.string (cutU text 3000)) := cell_of_heap D4.out.op 4
  have fo0 := frozen_of_heap D4.out.op 0
  have fo1 := frozen_of_heap D4.out.op 1
  have fo2 := frozen_of_heap D4.out.op 2
  have fo3 := frozen_of_heap D4.out.op 3
  have fo4 := frozen_of_heap D4.out.op 4
  have t0 : w4.cell? ⟨w.heap.size, 0, none⟩ = some (.int .i64 ep0) := cell_of_heap D4.out.t 0
  have t1 : w4.cell? ⟨w.heap.size, 1, none⟩ = some (.string se) := cell_of_heap D4.out.t 1
  have t2 : w4.cell? ⟨w.heap.size, 2, none⟩ = some (.slice a n c) := cell_of_heap D4.out.t 2
  have t3 : w4.cell? ⟨w.heap.size, 3, none⟩ = some (.string sc) := cell_of_heap D4.out.t 3
  have ft0 := frozen_of_heap D4.out.t 0
  have ft1 := frozen_of_heap D4.out.t 1
  have ft2 := frozen_of_heap D4.out.t 2
  have ft3 := frozen_of_heap D4.out.t 3
  have x0 : w4.cell? ⟨w.heap.size + 1 + 1, 0, none⟩ = some (.int .i64 0) := cell_of_heap D4.out.nx 0
  have x1 : w4.cell? ⟨w.heap.size + 1 + 1, 1, none⟩ = some (.string ⟨#[]⟩) := cell_of_heap D4.out.nx 1
  have x2 : w4.cell? ⟨w.heap.size + 1 + 1, 2, none⟩ = some (.slice none 0 0) := cell_of_heap D4.out.nx 2
  have x3 : w4.cell? ⟨w.heap.size + 1 + 1, 3, none⟩ = some (.string ⟨#[]⟩) := cell_of_heap D4.out.nx 3
  have fx0 := frozen_of_heap D4.out.nx 0
  have fx1 := frozen_of_heap D4.out.nx 1
  have fx2 := frozen_of_heap D4.out.nx 2
  have fx3 := frozen_of_heap D4.out.nx 3
  go_wp2_with fail
  clear o0 fo0 o1 fo1 o2 fo2 o3 fo3 o4 fo4 t0 ft0 t1 ft1 t2 ft2 t3 ft3 x0 fx0 x1 fx1 x2 fx2 x3 fx3 D4 R4
  generalize ((((((((w4).setCell ⟨w.heap.size, 0, none⟩ (.int .i64 e1)).setCell ⟨w.heap.size, 1, none⟩ (.string s1)).setCell ⟨w.heap.size, 2, none⟩ (.slice a1 n1 c1)).setCell ⟨w.heap.size, 3, none⟩ (.string sc1)).setCell ⟨w.heap.size + 1 + 1, 0, none⟩ (.int .i64 e1)).setCell ⟨w.heap.size + 1 + 1, 1, none⟩ (.string s1)).setCell ⟨w.heap.size + 1 + 1, 2, none⟩ (.slice a1 n1 c1)).setCell ⟨w.heap.size + 1 + 1, 3, none⟩ (.string sc1) = W6 at *
  refine (read36_any e1 s1 sc1 a1 n1 c1 l1 (cutU who 100) _ R6.out.row (by have := cutU_size who 100; omega) (Nat.le_trans HZ.out.1 (by decide))).mono ?_
  rintro r w7 ⟨a2, n2, c2, rfl, hrow, hown2, hb7⟩
  have D7 := Lib.hid (D6.out.later hb7)
  have R7 := Lib.hid (R6.out.new hb7 D6.out.lt hrow hown2)
  clear hrow hown2 hb7 D6 R6
  have HQ := Lib.hid (HU.out ⟨e1, s1, l1, sc1⟩)
  clear HU
  generalize readL (cutU who 100) ⟨e1, s1, l1, sc1⟩ = ln at *
  generalize opTake (cutU who 100) ⟨e1, s1, l1, sc1⟩ = p at HQ R7 ⊢
  obtain ⟨⟨e2, s2, l2, sc2⟩, q⟩ := p
  dsimp only at R7 ⊢
  have D8 := Lib.hid (D7.out.setN (.int .i64 e2) (.string s2) (.slice a2 n2 c2) (.string sc2))
  have R8 := Lib.hid (R7.out.set4 HV.out (w.heap.size + 1 + 1) (by omega) (by omega) (.int .i64 e2) (.string s2) (.slice a2 n2 c2) (.string sc2))
  have x0 : w7.cell? ⟨w.heap.size + 1 + 1, 0, none⟩ = some (.int .i64 e1) := cell_of_heap D7.out.nx 0
  have x1 : w7.cell? ⟨w.heap.size + 1 + 1, 1, none⟩ = some (.string s1) := cell_of_heap D7.out.nx 1
  have x2 : w7.cell? ⟨w.heap.size + 1 + 1, 2, none⟩ = some (.slice a1 n1 c1) := cell_of_heap D7.out.nx 2
  have x3 : w7.cell? ⟨w.heap.size + 1 + 1, 3, none⟩ = some (.string sc1) := cell_of_heap D7.out.nx 3
  have fx0 := frozen_of_heap D7.out.nx 0
  have fx1 := frozen_of_heap D7.out.nx 1
  have fx2 := frozen_of_heap D7.out.nx 2
  have fx3 := frozen_of_heap D7.out.nx 3
  go_upto_region 18 with fail
  clear x0 fx0 x1 fx1 x2 fx2 x3 fx3 D7 R7
  generalize ((((w7).setCell ⟨w.heap.size + 1 + 1, 0, none⟩ (.int .i64 e2)).setCell ⟨w.heap.size + 1 + 1, 1, none⟩ (.string s2)).setCell ⟨w.heap.size + 1 + 1, 2, none⟩ (.slice a2 n2 c2)).setCell ⟨w.heap.size + 1 + 1, 3, none⟩ (.string sc2) = W8 at *
  have x0 : W8.cell? ⟨w.heap.size + 1 + 1, 0, none⟩ = some (.int .i64 e2) := cell_of_heap D8.out.nx 0
  have x1 : W8.cell? ⟨w.heap.size + 1 + 1, 1, none⟩ = some (.string s2) := cell_of_heap D8.out.nx 1
  have x2 : W8.cell? ⟨w.heap.size + 1 + 1, 2, none⟩ = some (.slice a2 n2 c2) := cell_of_heap D8.out.nx 2
  have x3 : W8.cell? ⟨w.heap.size + 1 + 1, 3, none⟩ = some (.string sc2) := cell_of_heap D8.out.nx 3
  have fx0 := frozen_of_heap D8.out.nx 0
  have fx1 := frozen_of_heap D8.out.nx 1
  have fx2 := frozen_of_heap D8.out.nx 2
  have fx3 := frozen_of_heap D8.out.nx 3
  have y0 : W8.cell? ⟨w.heap.size + 1 + 1 + 1, 0, none⟩ = some (.int .i64 0) := cell_of_heap D8.out.got 0
  have y1 : W8.cell? ⟨w.heap.size + 1 + 1 + 1, 1, none⟩ = some (.string ⟨#[]⟩) := cell_of_heap D8.out.got 1
  have y2 : W8.cell? ⟨w.heap.size + 1 + 1 + 1, 2, none⟩ = some (.slice none 0 0) := cell_of_heap D8.out.got 2
  have y3 : W8.cell? ⟨w.heap.size + 1 + 1 + 1, 3, none⟩ = some (.string ⟨#[]⟩) := cell_of_heap D8.out.got 3
  have fy0 := frozen_of_heap D8.out.got 0
  have fy1 := frozen_of_heap D8.out.got 1
  have fy2 := frozen_of_heap D8.out.got 2
  have fy3 := frozen_of_heap D8.out.got 3
  have A1 := Lib.hid (((D8.out.setN (.int .i64 e2) (.string s2) (.slice a2 n2 c2) (.string sc2)).setG (.int .i64 0) (.string ⟨#[]⟩) (.slice none 0 0) (.string ⟨#[]⟩)).later (Below.refl _ _).drew)
  have B1 := Lib.hid (((R8.out.set4 HV.out (w.heap.size + 1 + 1) (by omega) (by omega) (.int .i64 e2) (.string s2) (.slice a2 n2 c2) (.string sc2)).set4 HV.out (w.heap.size + 1 + 1 + 1) (by omega) (by omega) (.int .i64 0) (.string ⟨#[]⟩) (.slice none 0 0) (.string ⟨#[]⟩)).later (Below.refl _ _).drew)
  go_region
  all_goals
    go_wp2
    refine bodyPost_ret (v := .tuple #[.agg #[.int .i64 e2, .string s2, .slice a2 n2 c2, .string sc2], .int .i64 q, .string ln, .agg #[.int .i64 0, .string ⟨#[]⟩, .slice none 0 0, .string ⟨#[]⟩]]) (by simp [results, Tryd.results48, go_sem, x0, x1, x2, x3, y0, y1, y2, y3]) rfl ?_
    exact sam_fin (T := ⟨ep0, se, ls, sc⟩) HTE.out HQ.out.1 HQ.out.2.1 HQ.out.2.2 B1.out.row (RowK.nil _) B1.out.out A1.out.b
set_option maxRecDepth 100000 in
set_option maxHeartbeats 6400000 in
theorem same36_5 (ep0 : Int) (se sc : ByteArray) (a : Option Addr) (n c : Nat) (ls : List ByteArray) (kd : Nat) (num ep : Int) (who text : ByteArray) (w : World) (hs : RowK kStr w (.slice a n c) ls) (hown : ∀ k, (Value.slice a n c).ownBlock = some k → k < w.heap.size) (hsz : se.size ≤ 1000000 ∧ sc.size ≤ 1000000 ∧ ls.length ≤ 100000) (hkd : kd ≤ 255) (hw : who.size ≤ 9223372036854775807) (ht : text.size ≤ 9223372036854775807) (hj : kd % 8 = 5) :
    Calls Tryd.prog 48 #[.agg #[.int .i64 ep0, .string se, .slice a n c, .string sc], .agg #[.int .u8 kd, .int .i64 num, .int .i64 ep, .string who, .string text]] w (SamePost w (.slice a n c) ⟨ep0, se, ls, sc⟩ (shortU ⟨kd, num, ep, who, text⟩)) := by
  have D0 := Lib.hid (SU.start w #[.int .i64 ep0, .string se, .slice a n c, .string sc] #[.int .u8 kd, .int .i64 num, .int .i64 ep, .string who, .string text] #[.int .i64 0, .string ⟨#[]⟩, .slice none 0 0, .string ⟨#[]⟩] #[.int .i64 0, .string ⟨#[]⟩, .slice none 0 0, .string ⟨#[]⟩])
  have Hw := Lib.hid hw
  have Ht := Lib.hid ht
  have HZ0 := Lib.hid (inT_bounds (T := ⟨ep0, se, ls, sc⟩) (e := ep) hsz.1 hsz.2.1 hsz.2.2)
  have hj' : ((kd : Int)) % 8 = 5 := by omega
  have R0 : Hid (RU w w (.slice a n c) (.slice a n c) ls) := ⟨hs, fun k hk => .inl hk⟩
  have HV : Hid (∀ k, (Value.slice a n c).ownBlock = some k → k < w.heap.size) := hown
  have HU : Hid (∀ t, uOp (shortU ⟨kd, num, ep, who, text⟩) t = opTake (cutU who 100) t ∧ uLineT (shortU ⟨kd, num, ep, who, text⟩) t = readL (cutU who 100) t ∧ uGotT (shortU ⟨kd, num, ep, who, text⟩) t = zeroT) := fun t => by
    refine ⟨?_, if_pos (by unfold shortU; dsimp only; omega), if_neg (by unfold shortU; dsimp only; omega)⟩
    unfold uOp shortU
    simp [hj]
  clear hw ht hs hown hsz
  go_enter Tryd.func48, Tryd.ntmps48
  go_wp2_with fail
  generalize (((w.alloc (.cells #[.int .i64 ep0, .string se, .slice a n c, .string sc] 24)).alloc (.cells #[.int .u8 kd, .int .i64 num, .int .i64 ep, .string who, .string text] 99)).alloc (.cells #[.int .i64 0, .string ⟨#[]⟩, .slice none 0 0, .string ⟨#[]⟩] 24)).alloc (.cells #[.int .i64 0, .string ⟨#[]⟩, .slice none 0 0, .string ⟨#[]⟩] 24) = W0 at *
  refine (short36_any kd num ep who text _ Hw.out Ht.out).mono ?_
  rintro r w2 ⟨rfl, hb2⟩
  have D2 := Lib.hid (D0.out.later hb2)
  have D3 := Lib.hid (D2.out.setOp (.int .u8 kd) (.int .i64 num) (.int .i64 ep) (.string (cutU who 100)) (.string (cutU text 3000)))
  have R3 := Lib.hid (R0.out.later D3.out.b)
  clear hb2 D0 R0
  have o0 : w2.cell? ⟨w.heap.size + 1, 0, none⟩ = some (.int .u8 kd) := cell_of_heap D2.out.op 0
  have o1 : w2.cell? ⟨w.heap.size + 1, 1, none⟩ = some (.int .i64 num) := cell_of_heap D2.out.op 1
  have o2 : w2.cell? ⟨w.heap.size + 1, 2, none⟩ = some (.int .i64 ep) := cell_of_heap D2.out.op 2
  have o3 : w2.cell? ⟨w.heap.size + 1, 3, none⟩ = some (.string who) := cell_of_heap D2.out.op 3
  have o4 : w2.cell? ⟨w.heap.size + 1, 4, none⟩ = some (.string text) := cell_of_heap D2.out.op 4
  have fo0 := frozen_of_heap D2.out.op 0
  have fo1 := frozen_of_heap D2.out.op 1
  have fo2 := frozen_of_heap D2.out.op 2
  have fo3 := frozen_of_heap D2.out.op 3
  have fo4 := frozen_of_heap D2.out.op 4
  have t0 : w2.cell? ⟨w.heap.size, 0, none⟩ = some (.int .i64 ep0) := cell_of_heap D2.out.t 0
  have t1 : w2.cell? ⟨w.heap.size, 1, none⟩ = some (.string se) := cell_of_heap D2.out.t 1
  have t2 : w2.cell? ⟨w.heap.size, 2, none⟩ = some (.slice a n c) := cell_of_heap D2.out.t 2
  have t3 : w2.cell? ⟨w.heap.size, 3, none⟩ = some (.string sc) := cell_of_heap D2.out.t 3
  go_wp2_with fail
  clear o0 fo0 o1 fo1 o2 fo2 o3 fo3 o4 fo4 t0 t1 t2 t3 D2
  generalize (((((w2).setCell ⟨w.heap.size + 1, 0, none⟩ (.int .u8 kd)).setCell ⟨w.heap.size + 1, 1, none⟩ (.int .i64 num)).setCell ⟨w.heap.size + 1, 2, none⟩ (.int .i64 ep)).setCell ⟨w.heap.size + 1, 3, none⟩ (.string (cutU who 100))).setCell ⟨w.heap.size + 1, 4, none⟩ (.string (cutU text 3000)) = W3 at *
  refine (in36_is ep0 se sc a n c ls ep _ R3.out.row).mono ?_
  rintro r w4 ⟨a1, n1, c1, rfl, hrow, hown1, hb4⟩
  have D4 := Lib.hid (D3.out.later hb4)
  have R4 := Lib.hid (R3.out.new hb4 D3.out.lt hrow hown1)
  have HT : Hid (inT ⟨ep0, se, ls, sc⟩ ep = inT ⟨ep0, se, ls, sc⟩ ep) := rfl
  clear hrow hown1 hb4 D3 R3
  generalize HTe : inT ⟨ep0, se, ls, sc⟩ ep = T1 at HZ0 R4 HT ⊢
  obtain ⟨e1, s1, l1, sc1⟩ := T1
  have HTE := Lib.hid HTe
  dsimp only at HZ0 R4 ⊢
  have HZ := HZ0
  clear HTe HT HZ0
  have D6 := Lib.hid ((D4.out.setT (.int .i64 e1) (.string s1) (.slice a1 n1 c1) (.string sc1)).setN (.int .i64 e1) (.string s1) (.slice a1 n1 c1) (.string sc1))
  have R6 := Lib.hid ((R4.out.set4 HV.out w.heap.size (Nat.le_refl _) (by omega) (.int .i64 e1) (.string s1) (.slice a1 n1 c1) (.string sc1)).set4 HV.out (w.heap.size + 1 + 1) (by omega) (by omega) (.int .i64 e1) (.string s1) (.slice a1 n1 c1) (.string sc1))
  have o0 : w4.cell? ⟨w.heap.size + 1, 0, none⟩ = some (.int .u8 kd) := cell_of_heap D4.out.op 0
  have o1 : w4.cell? ⟨w.heap.size + 1, 1, none⟩ = some (.int .i64 num) := cell_of_heap D4.out.op 1
  have o2 : w4.cell? ⟨w.heap.size + 1, 2, none⟩ = some (.int .i64 ep) := cell_of_heap D4.out.op 2
  have o3 : w4.cell? ⟨w.heap.size + 1, 3, none⟩ = some (.string (cutU who 100)) := cell_of_heap D4.out.op 3
  have o4 : w4.cell? ⟨w.heap.size + 1, 4, none⟩ = some (.string (cutU text 3000)) := cell_of_heap D4.out.op 4
  have fo0 := frozen_of_heap D4.out.op 0
  have fo1 := frozen_of_heap D4.out.op 1
  have fo2 := frozen_of_heap D4.out.op 2
  have fo3 := frozen_of_heap D4.out.op 3
  have fo4 := frozen_of_heap D4.out.op 4
  have t0 : w4.cell? ⟨w.heap.size, 0, none⟩ = some (.int .i64 ep0) := cell_of_heap D4.out.t 0
  have t1 : w4.cell? ⟨w.heap.size, 1, none⟩ = some (.string se) := cell_of_heap D4.out.t 1
  have t2 : w4.cell? ⟨w.heap.size, 2, none⟩ = some (.slice a n c) := cell_of_heap D4.out.t 2
  have t3 : w4.cell? ⟨w.heap.size, 3, none⟩ = some (.string sc) := cell_of_heap D4.out.t 3
  have ft0 := frozen_of_heap D4.out.t 0
  have ft1 := frozen_of_heap D4.out.t 1
  have ft2 := frozen_of_heap D4.out.t 2
  have ft3 := frozen_of_heap D4.out.t 3
  have x0 : w4.cell? ⟨w.heap.size + 1 + 1, 0, none⟩ = some (.int .i64 0) := cell_of_heap D4.out.nx 0
  have x1 : w4.cell? ⟨w.heap.size + 1 + 1, 1, none⟩ = some (.string ⟨#[]⟩) := cell_of_heap D4.out.nx 1
  have x2 : w4.cell? ⟨w.heap.size + 1 + 1, 2, none⟩ = some (.slice none 0 0) := cell_of_heap D4.out.nx 2
  have x3 : w4.cell? ⟨w.heap.size + 1 + 1, 3, none⟩ = some (.string ⟨#[]⟩) := cell_of_heap D4.out.nx 3
  have fx0 := frozen_of_heap D4.out.nx 0
  have fx1 := frozen_of_heap D4.out.nx 1
  have fx2 := frozen_of_heap D4.out.nx 2
  have fx3 := frozen_of_heap D4.out.nx 3
  go_wp2_with fail
  clear o0 fo0 o1 fo1 o2 fo2 o3 fo3 o4 fo4 t0 ft0 t1 ft1 t2 ft2 t3 ft3 x0 fx0 x1 fx1 x2 fx2 x3 fx3 D4 R4
  generalize ((((((((w4).setCell ⟨w.heap.size, 0, none⟩ (.int .i64 e1)).setCell ⟨w.heap.size, 1, none⟩ (.string s1)).setCell ⟨w.heap.size, 2, none⟩ (.slice a1 n1 c1)).setCell ⟨w.heap.size, 3, none⟩ (.string sc1)).setCell ⟨w.heap.size + 1 + 1, 0, none⟩ (.int .i64 e1)).setCell ⟨w.heap.size + 1 + 1, 1, none⟩ (.string s1)).setCell ⟨w.heap.size + 1 + 1, 2, none⟩ (.slice a1 n1 c1)).setCell ⟨w.heap.size + 1 + 1, 3, none⟩ (.string sc1) = W6 at *
  refine (read36_any e1 s1 sc1 a1 n1 c1 l1 (cutU who 100) _ R6.out.row (by have := cutU_size who 100; omega) (Nat.le_trans HZ.out.1 (by decide))).mono ?_
  rintro r w7 ⟨a2, n2, c2, rfl, hrow, hown2, hb7⟩
  have D7 := Lib.hid (D6.out.later hb7)
  have R7 := Lib.hid (R6.out.new hb7 D6.out.lt hrow hown2)
  clear hrow hown2 hb7 D6 R6
  have HQ := Lib.hid (HU.out ⟨e1, s1, l1, sc1⟩)
  clear HU
  generalize readL (cutU who 100) ⟨e1, s1, l1, sc1⟩ = ln at *
  generalize opTake (cutU who 100) ⟨e1, s1, l1, sc1⟩ = p at HQ R7 ⊢
  obtain ⟨⟨e2, s2, l2, sc2⟩, q⟩ := p
  dsimp only at R7 ⊢
  have D8 := Lib.hid (D7.out.setN (.int .i64 e2) (.string s2) (.slice a2 n2 c2) (.string sc2))
  have R8 := Lib.hid (R7.out.set4 HV.out (w.heap.size + 1 + 1) (by omega) (by omega) (.int .i64 e2) (.string s2) (.slice a2 n2 c2) (.string sc2))
  have x0 : w7.cell? ⟨w.heap.size + 1 + 1, 0, none⟩ = some (.int .i64 e1) := cell_of_heap D7.out.nx 0
  have x1 : w7.cell? ⟨w.heap.size + 1 + 1, 1, none⟩ = some (.string s1) := cell_of_heap D7.out.nx 1
  have x2 : w7.cell? ⟨w.heap.size + 1 + 1, 2, none⟩ = some (.slice a1 n1 c1) := cell_of_heap D7.out.nx 2
  have x3 : w7.cell? ⟨w.heap.size + 1 + 1, 3, none⟩ = some (.string sc1) := cell_of_heap D7.out.nx 3
  have fx0 := frozen_of_heap D7.out.nx 0
  have fx1 := frozen_of_heap D7.out.nx 1
  have fx2 := frozen_of_heap D7.out.nx 2
  have fx3 := frozen_of_heap D7.out.nx 3
  go_upto_region 18 with fail
  clear x0 fx0 x1 fx1 x2 fx2 x3 fx3 D7 R7
  generalize ((((w7).setCell ⟨w.heap.size + 1 + 1, 0, none⟩ (.int .i64 e2)).setCell ⟨w.heap.size + 1 + 1, 1, none⟩ (.string s2)).setCell ⟨w.heap.size + 1 + 1, 2, none⟩ (.slice a2 n2 c2)).setCell ⟨w.heap.size + 1 + 1, 3, none⟩ (.string sc2) = W8 at *
  have x0 : W8.cell? ⟨w.heap.size + 1 + 1, 0, none⟩ = some (.int .i64 e2) := cell_of_heap D8.out.nx 0
  have x1 : W8.cell? ⟨w.heap.size + 1 + 1, 1, none⟩ = some (.string s2) := cell_of_heap D8.out.nx 1
  have x2 : W8.cell? ⟨w.heap.size + 1 + 1, 2, none⟩ = some (.slice a2 n2 c2) := cell_of_heap D8.out.nx 2
  have x3 : W8.cell? ⟨w.heap.size + 1 + 1, 3, none⟩ = some (.string sc2) := cell_of_heap D8.out.nx 3
  have fx0 := frozen_of_heap D8.out.nx 0
  have fx1 := frozen_of_heap D8.out.nx 1
  have fx2 := frozen_of_heap D8.out.nx 2
  have fx3 := frozen_of_heap D8.out.nx 3
  have y0 : W8.cell? ⟨w.heap.size + 1 + 1 + 1, 0, none⟩ = some (.int .i64 0) := cell_of_heap D8.out.got 0
  have y1 : W8.cell? ⟨w.heap.size + 1 + 1 + 1, 1, none⟩ = some (.string ⟨#[]⟩) := cell_of_heap D8.out.got 1
  have y2 : W8.cell? ⟨w.heap.size + 1 + 1 + 1, 2, none⟩ = some (.slice none 0 0) := cell_of_heap D8.out.got 2
  have y3 : W8.cell? ⟨w.heap.size + 1 + 1 + 1, 3, none⟩ = some (.string ⟨#[]⟩) := cell_of_heap D8.out.got 3
  have fy0 := frozen_of_heap D8.out.got 0
  have fy1 := frozen_of_heap D8.out.got 1
  have fy2 := frozen_of_heap D8.out.got 2
  have fy3 := frozen_of_heap D8.out.got 3
  have A1 := Lib.hid (((D8.out.setN (.int .i64 e2) (.string s2) (.slice a2 n2 c2) (.string sc2)).setG (.int .i64 0) (.string ⟨#[]⟩) (.slice none 0 0) (.string ⟨#[]⟩)).later (Below.refl _ _).drew)
  have B1 := Lib.hid (((R8.out.set4 HV.out (w.heap.size + 1 + 1) (by omega) (by omega) (.int .i64 e2) (.string s2) (.slice a2 n2 c2) (.string sc2)).set4 HV.out (w.heap.size + 1 + 1 + 1) (by omega) (by omega) (.int .i64 0) (.string ⟨#[]⟩) (.slice none 0 0) (.string ⟨#[]⟩)).later (Below.refl _ _).drew)
  go_region
  all_goals
    go_wp2
    refine bodyPost_ret (v := .tuple #[.agg #[.int .i64 e2, .string s2, .slice a2 n2 c2, .string sc2], .int .i64 q, .string ln, .agg #[.int .i64 0, .string ⟨#[]⟩, .slice none 0 0, .string ⟨#[]⟩]]) (by simp [results, Tryd.results48, go_sem, x0, x1, x2, x3, y0, y1, y2, y3]) rfl ?_
    exact sam_fin (T := ⟨ep0, se, ls, sc⟩) HTE.out HQ.out.1 HQ.out.2.1 HQ.out.2.2 B1.out.row (RowK.nil _) B1.out.out A1.out.b
set_option maxRecDepth 100000 in
set_option maxHeartbeats 6400000 in
theorem same36_6 (ep0 : Int) (se sc : ByteArray) (a : Option Addr) (n c : Nat) (ls : List ByteArray) (kd : Nat) (num ep : Int) (who text : ByteArray) (w : World) (hs : RowK kStr w (.slice a n c) ls) (hown : ∀ k, (Value.slice a n c).ownBlock = some k → k < w.heap.size) (hsz : se.size ≤ 1000000 ∧ sc.size ≤ 1000000 ∧ ls.length ≤ 100000) (hkd : kd ≤ 255) (hw : who.size ≤ 9223372036854775807) (ht : text.size ≤ 9223372036854775807) (hj : kd % 8 = 6) :
    Calls Tryd.prog 48 #[.agg #[.int .i64 ep0, .string se, .slice a n c, .string sc], .agg #[.int .u8 kd, .int .i64 num, .int .i64 ep, .string who, .string text]] w (SamePost w (.slice a n c) ⟨ep0, se, ls, sc⟩ (shortU ⟨kd, num, ep, who, text⟩)) := by
  have D0 := Lib.hid (SU.start w #[.int .i64 ep0, .string se, .slice a n c, .string sc] #[.int .u8 kd, .int .i64 num, .int .i64 ep, .string who, .string text] #[.int .i64 0, .string ⟨#[]⟩, .slice none 0 0, .string ⟨#[]⟩] #[.int .i64 0, .string ⟨#[]⟩, .slice none 0 0, .string ⟨#[]⟩])
  have Hw := Lib.hid hw
  have Ht := Lib.hid ht
  have HZ0 := Lib.hid (inT_bounds (T := ⟨ep0, se, ls, sc⟩) (e := ep) hsz.1 hsz.2.1 hsz.2.2)
  have hj' : ((kd : Int)) % 8 = 6 := by omega
  have R0 : Hid (RU w w (.slice a n c) (.slice a n c) ls) := ⟨hs, fun k hk => .inl hk⟩
  have HV : Hid (∀ k, (Value.slice a n c).ownBlock = some k → k < w.heap.size) := hown
  have HU : Hid (∀ t, uOp (shortU ⟨kd, num, ep, who, text⟩) t = opShow (cutU text 3000) t ∧ uLineT (shortU ⟨kd, num, ep, who, text⟩) t = ⟨#[]⟩ ∧ uGotT (shortU ⟨kd, num, ep, who, text⟩) t = zeroT) := fun t => by
    refine ⟨?_, if_neg (by unfold shortU; dsimp only; omega), if_neg (by unfold shortU; dsimp only; omega)⟩
    unfold uOp shortU
    simp [hj]
  clear hw ht hs hown hsz
  go_enter Tryd.func48, Tryd.ntmps48
  go_wp2_with fail
  generalize (((w.alloc (.cells #[.int .i64 ep0, .string se, .slice a n c, .string sc] 24)).alloc (.cells #[.int .u8 kd, .int .i64 num, .int .i64 ep, .string who, .string text] 99)).alloc (.cells #[.int .i64 0, .string ⟨#[]⟩, .slice none 0 0, .string ⟨#[]⟩] 24)).alloc (.cells #[.int .i64 0, .string ⟨#[]⟩, .slice none 0 0, .string ⟨#[]⟩] 24) = W0 at *
  refine (short36_any kd num ep who text _ Hw.out Ht.out).mono ?_
  rintro r w2 ⟨rfl, hb2⟩
  have D2 := Lib.hid (D0.out.later hb2)
  have D3 := Lib.hid (D2.out.setOp (.int .u8 kd) (.int .i64 num) (.int .i64 ep) (.string (cutU who 100)) (.string (cutU text 3000)))
  have R3 := Lib.hid (R0.out.later D3.out.b)
  clear hb2 D0 R0
  have o0 : w2.cell? ⟨w.heap.size + 1, 0, none⟩ = some (.int .u8 kd) := cell_of_heap D2.out.op 0
  have o1 : w2.cell? ⟨w.heap.size + 1, 1, none⟩ = some (.int .i64 num) := cell_of_heap D2.out.op 1
  have o2 : w2.cell? ⟨w.heap.size + 1, 2, none⟩ = some (.int .i64 ep) := cell_of_heap D2.out.op 2
  have o3 : w2.cell? ⟨w.heap.size + 1, 3, none⟩ = some (.string who) := cell_of_heap D2.out.op 3
  have o4 : w2.cell? ⟨w.heap.size + 1, 4, none⟩ = some (.string text) := cell_of_heap D2.out.op 4
  have fo0 := frozen_of_heap D2.out.op 0
  have fo1 := frozen_of_heap D2.out.op 1
  have fo2 := frozen_of_heap D2.out.op 2
  have fo3 := frozen_of_heap D2.out.op 3
  have fo4 := frozen_of_heap D2.out.op 4
  have t0 : w2.cell? ⟨w.heap.size, 0, none⟩ = some (.int .i64 ep0) := cell_of_heap D2.out.t 0
  have t1 : w2.cell? ⟨w.heap.size, 1, none⟩ = some (.string se) := cell_of_heap D2.out.t 1
  have t2 : w2.cell? ⟨w.heap.size, 2, none⟩ = some (.slice a n c) := cell_of_heap D2.out.t 2
  have t3 : w2.cell? ⟨w.heap.size, 3, none⟩ = some (.string sc) := cell_of_heap D2.out.t 3
  go_wp2_with fail
  clear o0 fo0 o1 fo1 o2 fo2 o3 fo3 o4 fo4 t0 t1 t2 t3 D2
  generalize (((((w2).setCell ⟨w.heap.size + 1, 0, none⟩ (.int .u8 kd)).setCell ⟨w.heap.size + 1, 1, none⟩ (.int .i64 num)).setCell ⟨w.heap.size + 1, 2, none⟩ (.int .i64 ep)).setCell ⟨w.heap.size + 1, 3, none⟩ (.string (cutU who 100))).setCell ⟨w.heap.size + 1, 4, none⟩ (.string (cutU text 3000)) = W3 at *
  refine (in36_is ep0 se sc a n c ls ep _ R3.out.row).mono ?_
  rintro r w4 ⟨a1, n1, c1, rfl, hrow, hown1, hb4⟩
  have D4 := Lib.hid (D3.out.later hb4)
  have R4 := Lib.hid (R3.out.new hb4 D3.out.lt hrow hown1)
  have HT : Hid (inT ⟨ep0, se, ls, sc⟩ ep = inT ⟨ep0, se, ls, sc⟩ ep) := rfl
  clear hrow hown1 hb4 D3 R3
  generalize HTe : inT ⟨ep0, se, ls, sc⟩ ep = T1 at HZ0 R4 HT ⊢
  obtain ⟨e1, s1, l1, sc1⟩ := T1
  have HTE := Lib.hid HTe
  dsimp only at HZ0 R4 ⊢
  have HZ := HZ0
  clear HTe HT HZ0
  have D6 := Lib.hid ((D4.out.setT (.int .i64 e1) (.string s1) (.slice a1 n1 c1) (.string sc1)).setN (.int .i64 e1) (.string s1) (.slice a1 n1 c1) (.string sc1))
  have R6 := Lib.hid ((R4.out.set4 HV.out w.heap.size (Nat.le_refl _) (by omega) (.int .i64 e1) (.string s1) (.slice a1 n1 c1) (.string sc1)).set4 HV.out (w.heap.size + 1 + 1) (by omega) (by omega) (.int .i64 e1) (.string s1) (.slice a1 n1 c1) (.string sc1))
  have o0 : w4.cell? ⟨w.heap.size + 1, 0, none⟩ = some (.int .u8 kd) := cell_of_heap D4.out.op 0
  have o1 : w4.cell? ⟨w.heap.size + 1, 1, none⟩ = some (.int .i64 num) := cell_of_heap D4.out.op 1
  have o2 : w4.cell? ⟨w.heap.size + 1, 2, none⟩ = some (.int .i64 ep) := cell_of_heap D4.out.op 2
  have o3 : w4.cell? ⟨w.heap.size + 1, 3, none⟩ = some (.string (cutU who 100)) := cell_of_heap D4.out.op 3
  have o4 : w4.cell? ⟨w.heap.size + 1, 4, none⟩ = some (.string (cutU text 3000)) := cell_of_heap D4.out.op 4
  have fo0 := frozen_of_heap D4.out.op 0
  have fo1 := frozen_of_heap D4.out.op 1
  have fo2 := frozen_of_heap D4.out.op 2
  have fo3 := frozen_of_heap D4.out.op 3
  have fo4 := frozen_of_heap D4.out.op 4
  have t0 : w4.cell? ⟨w.heap.size, 0, none⟩ = some (.int .i64 ep0) := cell_of_heap D4.out.t 0
  have t1 : w4.cell? ⟨w.heap.size, 1, none⟩ = some (.string se) := cell_of_heap D4.out.t 1
  have t2 : w4.cell? ⟨w.heap.size, 2, none⟩ = some (.slice a n c) := cell_of_heap D4.out.t 2
  have t3 : w4.cell? ⟨w.heap.size, 3, none⟩ = some (.string sc) := cell_of_heap D4.out.t 3
  have ft0 := frozen_of_heap D4.out.t 0
  have ft1 := frozen_of_heap D4.out.t 1
  have ft2 := frozen_of_heap D4.out.t 2
  have ft3 := frozen_of_heap D4.out.t 3
  have x0 : w4.cell? ⟨w.heap.size + 1 + 1, 0, none⟩ = some (.int .i64 0) := cell_of_heap D4.out.nx 0
  have x1 : w4.cell? ⟨w.heap.size + 1 + 1, 1, none⟩ = some (.string ⟨#[]⟩) := cell_of_heap D4.out.nx 1
  have x2 : w4.cell? ⟨w.heap.size + 1 + 1, 2, none⟩ = some (.slice none 0 0) := cell_of_heap D4.out.nx 2
  have x3 : w4.cell? ⟨w.heap.size + 1 + 1, 3, none⟩ = some (.string ⟨#[]⟩) := cell_of_heap D4.out.nx 3
  have fx0 := frozen_of_heap D4.out.nx 0
  have fx1 := frozen_of_heap D4.out.nx 1
  have fx2 := frozen_of_heap D4.out.nx 2
  have fx3 := frozen_of_heap D4.out.nx 3
  go_wp2_with fail
  clear o0 fo0 o1 fo1 o2 fo2 o3 fo3 o4 fo4 t0 ft0 t1 ft1 t2 ft2 t3 ft3 x0 fx0 x1 fx1 x2 fx2 x3 fx3 D4 R4
  generalize ((((((((w4).setCell ⟨w.heap.size, 0, none⟩ (.int .i64 e1)).setCell ⟨w.heap.size, 1, none⟩ (.string s1)).setCell ⟨w.heap.size, 2, none⟩ (.slice a1 n1 c1)).setCell ⟨w.heap.size, 3, none⟩ (.string sc1)).setCell ⟨w.heap.size + 1 + 1, 0, none⟩ (.int .i64 e1)).setCell ⟨w.heap.size + 1 + 1, 1, none⟩ (.string s1)).setCell ⟨w.heap.size + 1 + 1, 2, none⟩ (.slice a1 n1 c1)).setCell ⟨w.heap.size + 1 + 1, 3, none⟩ (.string sc1) = W6 at *
  refine (show36_any e1 s1 sc1 a1 n1 c1 l1 (cutU text 3000) _ R6.out.row (by have := cutU_size text 3000; omega) (Nat.le_trans HZ.out.2.1 (by decide))).mono ?_
  rintro r w7 ⟨a2, n2, c2, rfl, hrow, hown2, hb7⟩
  have D7 := Lib.hid (D6.out.later hb7)
  have R7 := Lib.hid (R6.out.new hb7 D6.out.lt hrow hown2)
  clear hrow hown2 hb7 D6 R6
  have HQ := Lib.hid (HU.out ⟨e1, s1, l1, sc1⟩)
  clear HU
  generalize opShow (cutU text 3000) ⟨e1, s1, l1, sc1⟩ = p at HQ R7 ⊢
  obtain ⟨⟨e2, s2, l2, sc2⟩, q⟩ := p
  dsimp only at R7 ⊢
  have D8 := Lib.hid (D7.out.setN (.int .i64 e2) (.string s2) (.slice a2 n2 c2) (.string sc2))
  have R8 := Lib.hid (R7.out.set4 HV.out (w.heap.size + 1 + 1) (by omega) (by omega) (.int .i64 e2) (.string s2) (.slice a2 n2 c2) (.string sc2))
  have x0 : w7.cell? ⟨w.heap.size + 1 + 1, 0, none⟩ = some (.int .i64 e1) := cell_of_heap D7.out.nx 0
  have x1 : w7.cell? ⟨w.heap.size + 1 + 1, 1, none⟩ = some (.string s1) := cell_of_heap D7.out.nx 1
  have x2 : w7.cell? ⟨w.heap.size + 1 + 1, 2, none⟩ = some (.slice a1 n1 c1) := cell_of_heap D7.out.nx 2
  have x3 : w7.cell? ⟨w.heap.size + 1 + 1, 3, none⟩ = some (.string sc1) := cell_of_heap D7.out.nx 3
  have fx0 := frozen_of_heap D7.out.nx 0
  have fx1 := frozen_of_heap D7.out.nx 1
  have fx2 := frozen_of_heap D7.out.nx 2
  have fx3 := frozen_of_heap D7.out.nx 3
  go_upto_region 18 with fail
  clear x0 fx0 x1 fx1 x2 fx2 x3 fx3 D7 R7
  generalize ((((w7).setCell ⟨w.heap.size + 1 + 1, 0, none⟩ (.int .i64 e2)).setCell ⟨w.heap.size + 1 + 1, 1, none⟩ (.string s2)).setCell ⟨w.heap.size + 1 + 1, 2, none⟩ (.slice a2 n2 c2)).setCell ⟨w.heap.size + 1 + 1, 3, none⟩ (.string sc2) = W8 at *
  have x0 : W8.cell? ⟨w.heap.size + 1 + 1, 0, none⟩ = some (.int .i64 e2) := cell_of_heap D8.out.nx 0
  have x1 : W8.cell? ⟨w.heap.size + 1 + 1, 1, none⟩ = some (.string s2) := cell_of_heap D8.out.nx 1
  have x2 : W8.cell? ⟨w.heap.size + 1 + 1, 2, none⟩ = some (.slice a2 n2 c2) := cell_of_heap D8.out.nx 2
  have x3 : W8.cell? ⟨w.heap.size + 1 + 1, 3, none⟩ = some (.string sc2) := cell_of_heap D8.out.nx 3
  have fx0 := frozen_of_heap D8.out.nx 0
  have fx1 := frozen_of_heap D8.out.nx 1
  have fx2 := frozen_of_heap D8.out.nx 2
  have fx3 := frozen_of_heap D8.out.nx 3
  have y0 : W8.cell? ⟨w.heap.size + 1 + 1 + 1, 0, none⟩ = some (.int .i64 0) := cell_of_heap D8.out.got 0
  have y1 : W8.cell? ⟨w.heap.size + 1 + 1 + 1, 1, none⟩ = some (.string ⟨#[]⟩) := cell_of_heap D8.out.got 1
  have y2 : W8.cell? ⟨w.heap.size + 1 + 1 + 1, 2, none⟩ = some (.slice none 0 0) := cell_of_heap D8.out.got 2
  have y3 : W8.cell? ⟨w.heap.size + 1 + 1 + 1, 3, none⟩ = some (.string ⟨#[]⟩) := cell_of_heap D8.out.got 3
  have fy0 := frozen_of_heap D8.out.got 0
  have fy1 := frozen_of_heap D8.out.got 1
  have fy2 := frozen_of_heap D8.out.got 2
  have fy3 := frozen_of_heap D8.out.got 3
  have A1 := Lib.hid (((D8.out.setN (.int .i64 e2) (.string s2) (.slice a2 n2 c2) (.string sc2)).setG (.int .i64 0) (.string ⟨#[]⟩) (.slice none 0 0) (.string ⟨#[]⟩)).later (Below.refl _ _).drew)
  have B1 := Lib.hid (((R8.out.set4 HV.out (w.heap.size + 1 + 1) (by omega) (by omega) (.int .i64 e2) (.string s2) (.slice a2 n2 c2) (.string sc2)).set4 HV.out (w.heap.size + 1 + 1 + 1) (by omega) (by omega) (.int .i64 0) (.string ⟨#[]⟩) (.slice none 0 0) (.string ⟨#[]⟩)).later (Below.refl _ _).drew)
  go_region
  all_goals
    go_wp2
    refine bodyPost_ret (v := .tuple #[.agg #[.int .i64 e2, .string s2, .slice a2 n2 c2, .string sc2], .int .i64 q, .string ⟨#[]⟩, .agg #[.int .i64 0, .string ⟨#[]⟩, .slice none 0 0, .string ⟨#[]⟩]]) (by simp [results, Tryd.results48, go_sem, x0, x1, x2, x3, y0, y1, y2, y3]) rfl ?_
    exact sam_fin (T := ⟨ep0, se, ls, sc⟩) HTE.out HQ.out.1 HQ.out.2.1 HQ.out.2.2 B1.out.row (RowK.nil _) B1.out.out A1.out.b
set_option maxRecDepth 100000 in
set_option maxHeartbeats 6400000 in
theorem same36_7 (ep0 : Int) (se sc : ByteArray) (a : Option Addr) (n c : Nat) (ls : List ByteArray) (kd : Nat) (num ep : Int) (who text : ByteArray) (w : World) (hs : RowK kStr w (.slice a n c) ls) (hown : ∀ k, (Value.slice a n c).ownBlock = some k → k < w.heap.size) (hsz : se.size ≤ 1000000 ∧ sc.size ≤ 1000000 ∧ ls.length ≤ 100000) (hkd : kd ≤ 255) (hw : who.size ≤ 9223372036854775807) (ht : text.size ≤ 9223372036854775807) (hj : kd % 8 = 7) :
    Calls Tryd.prog 48 #[.agg #[.int .i64 ep0, .string se, .slice a n c, .string sc], .agg #[.int .u8 kd, .int .i64 num, .int .i64 ep, .string who, .string text]] w (SamePost w (.slice a n c) ⟨ep0, se, ls, sc⟩ (shortU ⟨kd, num, ep, who, text⟩)) := by
  have D0 := Lib.hid (SU.start w #[.int .i64 ep0, .string se, .slice a n c, .string sc] #[.int .u8 kd, .int .i64 num, .int .i64 ep, .string who, .string text] #[.int .i64 0, .string ⟨#[]⟩, .slice none 0 0, .string ⟨#[]⟩] #[.int .i64 0, .string ⟨#[]⟩, .slice none 0 0, .string ⟨#[]⟩])
  have Hw := Lib.hid hw
  have Ht := Lib.hid ht
  have HZ0 := Lib.hid (inT_bounds (T := ⟨ep0, se, ls, sc⟩) (e := ep) hsz.1 hsz.2.1 hsz.2.2)
  have hj' : ((kd : Int)) % 8 = 7 := by omega
  have R0 : Hid (RU w w (.slice a n c) (.slice a n c) ls) := ⟨hs, fun k hk => .inl hk⟩
  have HV : Hid (∀ k, (Value.slice a n c).ownBlock = some k → k < w.heap.size) := hown
  have HU : Hid (∀ t, uOp (shortU ⟨kd, num, ep, who, text⟩) t = (t, 0) ∧ uLineT (shortU ⟨kd, num, ep, who, text⟩) t = ⟨#[]⟩ ∧ uGotT (shortU ⟨kd, num, ep, who, text⟩) t = t) := fun t => by
    refine ⟨?_, if_neg (by unfold shortU; dsimp only; omega), if_pos (by unfold shortU; dsimp only; omega)⟩
    unfold uOp shortU
    simp [hj]
  clear hw ht hs hown hsz
  go_enter Tryd.func48, Tryd.ntmps48
  go_wp2_with fail
  generalize (((w.alloc (.cells #[.int .i64 ep0, .string se, .slice a n c, .string sc] 24)).alloc (.cells #[.int .u8 kd, .int .i64 num, .int .i64 ep, .string who, .string text] 99)).alloc (.cells #[.int .i64 0, .string ⟨#[]⟩, .slice none 0 0, .string ⟨#[]⟩] 24)).alloc (.cells #[.int .i64 0, .string ⟨#[]⟩, .slice none 0 0, .string ⟨#[]⟩] 24) = W0 at *
  refine (short36_any kd num ep who text _ Hw.out Ht.out).mono ?_
  rintro r w2 ⟨rfl, hb2⟩
  have D2 := Lib.hid (D0.out.later hb2)
  have D3 := Lib.hid (D2.out.setOp (.int .u8 kd) (.int .i64 num) (.int .i64 ep) (.string (cutU who 100)) (.string (cutU text 3000)))
  have R3 := Lib.hid (R0.out.later D3.out.b)
  clear hb2 D0 R0
  have o0 : w2.cell? ⟨w.heap.size + 1, 0, none⟩ = some (.int .u8 kd) := cell_of_heap D2.out.op 0
  have o1 : w2.cell? ⟨w.heap.size + 1, 1, none⟩ = some (.int .i64 num) := cell_of_heap D2.out.op 1
  have o2 : w2.cell? ⟨w.heap.size + 1, 2, none⟩ = some (.int .i64 ep) := cell_of_heap D2.out.op 2
  have o3 : w2.cell? ⟨w.heap.size + 1, 3, none⟩ = some (.string who) := cell_of_heap D2.out.op 3
  have o4 : w2.cell? ⟨w.heap.size + 1, 4, none⟩ = some (.string text) := cell_of_heap D2.out.op 4
  have fo0 := frozen_of_heap D2.out.op 0
  have fo1 := frozen_of_heap D2.out.op 1
  have fo2 := frozen_of_heap D2.out.op 2
  have fo3 := frozen_of_heap D2.out.op 3
  have fo4 := frozen_of_heap D2.out.op 4
  have t0 : w2.cell? ⟨w.heap.size, 0, none⟩ = some (.int .i64 ep0) := cell_of_heap D2.out.t 0
  have t1 : w2.cell? ⟨w.heap.size, 1, none⟩ = some (.string se) := cell_of_heap D2.out.t 1
  have t2 : w2.cell? ⟨w.heap.size, 2, none⟩ = some (.slice a n c) := cell_of_heap D2.out.t 2
  have t3 : w2.cell? ⟨w.heap.size, 3, none⟩ = some (.string sc) := cell_of_heap D2.out.t 3
  go_wp2_with fail
  clear o0 fo0 o1 fo1 o2 fo2 o3 fo3 o4 fo4 t0 t1 t2 t3 D2
  generalize (((((w2).setCell ⟨w.heap.size + 1, 0, none⟩ (.int .u8 kd)).setCell ⟨w.heap.size + 1, 1, none⟩ (.int .i64 num)).setCell ⟨w.heap.size + 1, 2, none⟩ (.int .i64 ep)).setCell ⟨w.heap.size + 1, 3, none⟩ (.string (cutU who 100))).setCell ⟨w.heap.size + 1, 4, none⟩ (.string (cutU text 3000)) = W3 at *
  refine (in36_is ep0 se sc a n c ls ep _ R3.out.row).mono ?_
  rintro r w4 ⟨a1, n1, c1, rfl, hrow, hown1, hb4⟩
  have D4 := Lib.hid (D3.out.later hb4)
  have R4 := Lib.hid (R3.out.new hb4 D3.out.lt hrow hown1)
  have HT : Hid (inT ⟨ep0, se, ls, sc⟩ ep = inT ⟨ep0, se, ls, sc⟩ ep) := rfl
  clear hrow hown1 hb4 D3 R3
  generalize HTe : inT ⟨ep0, se, ls, sc⟩ ep = T1 at HZ0 R4 HT ⊢
  obtain ⟨e1, s1, l1, sc1⟩ := T1
  have HTE := Lib.hid HTe
  dsimp only at HZ0 R4 ⊢
  have HZ := HZ0
  clear HTe HT HZ0
  have D6 := Lib.hid ((D4.out.setT (.int .i64 e1) (.string s1) (.slice a1 n1 c1) (.string sc1)).setN (.int .i64 e1) (.string s1) (.slice a1 n1 c1) (.string sc1))
  have R6 := Lib.hid ((R4.out.set4 HV.out w.heap.size (Nat.le_refl _) (by omega) (.int .i64 e1) (.string s1) (.slice a1 n1 c1) (.string sc1)).set4 HV.out (w.heap.size + 1 + 1) (by omega) (by omega) (.int .i64 e1) (.string s1) (.slice a1 n1 c1) (.string sc1))
  have o0 : w4.cell? ⟨w.heap.size + 1, 0, none⟩ = some (.int .u8 kd) := cell_of_heap D4.out.op 0
  have o1 : w4.cell? ⟨w.heap.size + 1, 1, none⟩ = some (.int .i64 num) := cell_of_heap D4.out.op 1
  have o2 : w4.cell? ⟨w.heap.size + 1, 2, none⟩ = some (.int .i64 ep) := cell_of_heap D4.out.op 2
  have o3 : w4.cell? ⟨w.heap.size + 1, 3, none⟩ = some (.string (cutU who 100)) := cell_of_heap D4.out.op 3
  have o4 : w4.cell? ⟨w.heap.size + 1, 4, none⟩ = some (.string (cutU text 3000)) := cell_of_heap D4.out.op 4
  have fo0 := frozen_of_heap D4.out.op 0
  have fo1 := frozen_of_heap D4.out.op 1
  have fo2 := frozen_of_heap D4.out.op 2
  have fo3 := frozen_of_heap D4.out.op 3
  have fo4 := frozen_of_heap D4.out.op 4
  have t0 : w4.cell? ⟨w.heap.size, 0, none⟩ = some (.int .i64 ep0) := cell_of_heap D4.out.t 0
  have t1 : w4.cell? ⟨w.heap.size, 1, none⟩ = some (.string se) := cell_of_heap D4.out.t 1
  have t2 : w4.cell? ⟨w.heap.size, 2, none⟩ = some (.slice a n c) := cell_of_heap D4.out.t 2
  have t3 : w4.cell? ⟨w.heap.size, 3, none⟩ = some (.string sc) := cell_of_heap D4.out.t 3
  have ft0 := frozen_of_heap D4.out.t 0
  have ft1 := frozen_of_heap D4.out.t 1
  have ft2 := frozen_of_heap D4.out.t 2
  have ft3 := frozen_of_heap D4.out.t 3
  have x0 : w4.cell? ⟨w.heap.size + 1 + 1, 0, none⟩ = some (.int .i64 0) := cell_of_heap D4.out.nx 0
  have x1 : w4.cell? ⟨w.heap.size + 1 + 1, 1, none⟩ = some (.string ⟨#[]⟩) := cell_of_heap D4.out.nx 1
  have x2 : w4.cell? ⟨w.heap.size + 1 + 1, 2, none⟩ = some (.slice none 0 0) := cell_of_heap D4.out.nx 2
  have x3 : w4.cell? ⟨w.heap.size + 1 + 1, 3, none⟩ = some (.string ⟨#[]⟩) := cell_of_heap D4.out.nx 3
  have fx0 := frozen_of_heap D4.out.nx 0
  have fx1 := frozen_of_heap D4.out.nx 1
  have fx2 := frozen_of_heap D4.out.nx 2
  have fx3 := frozen_of_heap D4.out.nx 3
  have y0 : w4.cell? ⟨w.heap.size + 1 + 1 + 1, 0, none⟩ = some (.int .i64 0) := cell_of_heap D4.out.got 0
  have y1 : w4.cell? ⟨w.heap.size + 1 + 1 + 1, 1, none⟩ = some (.string ⟨#[]⟩) := cell_of_heap D4.out.got 1
  have y2 : w4.cell? ⟨w.heap.size + 1 + 1 + 1, 2, none⟩ = some (.slice none 0 0) := cell_of_heap D4.out.got 2
  have y3 : w4.cell? ⟨w.heap.size + 1 + 1 + 1, 3, none⟩ = some (.string ⟨#[]⟩) := cell_of_heap D4.out.got 3
  have fy0 := frozen_of_heap D4.out.got 0
  have fy1 := frozen_of_heap D4.out.got 1
  have fy2 := frozen_of_heap D4.out.got 2
  have fy3 := frozen_of_heap D4.out.got 3
  have D8 := Lib.hid (D6.out.setG (.int .i64 e1) (.string s1) (.slice a1 n1 c1) (.string sc1))
  have R8 := Lib.hid (R6.out.set4 HV.out (w.heap.size + 1 + 1 + 1) (by omega) (by omega) (.int .i64 e1) (.string s1) (.slice a1 n1 c1) (.string sc1))
  go_upto_region 18 with fail
  clear o0 fo0 o1 fo1 o2 fo2 o3 fo3 o4 fo4 t0 ft0 t1 ft1 t2 ft2 t3 ft3 x0 fx0 x1 fx1 x2 fx2 x3 fx3 y0 fy0 y1 fy1 y2 fy2 y3 fy3 D4 D6 R4 R6
  generalize ((((((((((((w4).setCell ⟨w.heap.size, 0, none⟩ (.int .i64 e1)).setCell ⟨w.heap.size, 1, none⟩ (.string s1)).setCell ⟨w.heap.size, 2, none⟩ (.slice a1 n1 c1)).setCell ⟨w.heap.size, 3, none⟩ (.string sc1)).setCell ⟨w.heap.size + 1 + 1, 0, none⟩ (.int .i64 e1)).setCell ⟨w.heap.size + 1 + 1, 1, none⟩ (.string s1)).setCell ⟨w.heap.size + 1 + 1, 2, none⟩ (.slice a1 n1 c1)).setCell ⟨w.heap.size + 1 + 1, 3, none⟩ (.string sc1)).setCell ⟨w.heap.size + 1 + 1 + 1, 0, none⟩ (.int .i64 e1)).setCell ⟨w.heap.size + 1 + 1 + 1, 1, none⟩ (.string s1)).setCell ⟨w.heap.size + 1 + 1 + 1, 2, none⟩ (.slice a1 n1 c1)).setCell ⟨w.heap.size + 1 + 1 + 1, 3, none⟩ (.string sc1) = W8 at *
  have x0 : W8.cell? ⟨w.heap.size + 1 + 1, 0, none⟩ = some (.int .i64 e1) := cell_of_heap D8.out.nx 0
  have x1 : W8.cell? ⟨w.heap.size + 1 + 1, 1, none⟩ = some (.string s1) := cell_of_heap D8.out.nx 1
  have x2 : W8.cell? ⟨w.heap.size + 1 + 1, 2, none⟩ = some (.slice a1 n1 c1) := cell_of_heap D8.out.nx 2
  have x3 : W8.cell? ⟨w.heap.size + 1 + 1, 3, none⟩ = some (.string sc1) := cell_of_heap D8.out.nx 3
  have fx0 := frozen_of_heap D8.out.nx 0
  have fx1 := frozen_of_heap D8.out.nx 1
  have fx2 := frozen_of_heap D8.out.nx 2
  have fx3 := frozen_of_heap D8.out.nx 3
  have y0 : W8.cell? ⟨w.heap.size + 1 + 1 + 1, 0, none⟩ = some (.int .i64 e1) := cell_of_heap D8.out.got 0
  have y1 : W8.cell? ⟨w.heap.size + 1 + 1 + 1, 1, none⟩ = some (.string s1) := cell_of_heap D8.out.got 1
  have y2 : W8.cell? ⟨w.heap.size + 1 + 1 + 1, 2, none⟩ = some (.slice a1 n1 c1) := cell_of_heap D8.out.got 2
  have y3 : W8.cell? ⟨w.heap.size + 1 + 1 + 1, 3, none⟩ = some (.string sc1) := cell_of_heap D8.out.got 3
  have fy0 := frozen_of_heap D8.out.got 0
  have fy1 := frozen_of_heap D8.out.got 1
  have fy2 := frozen_of_heap D8.out.got 2
  have fy3 := frozen_of_heap D8.out.got 3
  have A1 := Lib.hid (((D8.out.setN (.int .i64 e1) (.string s1) (.slice a1 n1 c1) (.string sc1)).setG (.int .i64 e1) (.string s1) (.slice a1 n1 c1) (.string sc1)).later (Below.refl _ _).drew)
  have B1 := Lib.hid (((R8.out.set4 HV.out (w.heap.size + 1 + 1) (by omega) (by omega) (.int .i64 e1) (.string s1) (.slice a1 n1 c1) (.string sc1)).set4 HV.out (w.heap.size + 1 + 1 + 1) (by omega) (by omega) (.int .i64 e1) (.string s1) (.slice a1 n1 c1) (.string sc1)).later (Below.refl _ _).drew)
  go_region
  all_goals
    go_wp2
    refine bodyPost_ret (v := .tuple #[.agg #[.int .i64 e1, .string s1, .slice a1 n1 c1, .string sc1], .int .i64 0, .string ⟨#[]⟩, .agg #[.int .i64 e1, .string s1, .slice a1 n1 c1, .string sc1]]) (by simp [results, Tryd.results48, go_sem, x0, x1, x2, x3, y0, y1, y2, y3]) rfl ?_
    exact sam_fin (T := ⟨ep0, se, ls, sc⟩) HTE.out (HU.out _).1 (HU.out _).2.1 (HU.out _).2.2 B1.out.row B1.out.row B1.out.out A1.out.b
theorem same36_any (ep0 : Int) (se sc : ByteArray) (a : Option Addr) (n c : Nat) (ls : List ByteArray) (o : OpU) (w : World) (hs : RowK kStr w (.slice a n c) ls) (hown : ∀ k, (Value.slice a n c).ownBlock = some k → k < w.heap.size) (hsz : se.size ≤ 1000000 ∧ sc.size ≤ 1000000 ∧ ls.length ≤ 100000) (hkd : o.kd ≤ 255) (hw : o.who.size ≤ 9223372036854775807) (ht : o.text.size ≤ 9223372036854775807) :
    Calls Tryd.prog 48 #[.agg #[.int .i64 ep0, .string se, .slice a n c, .string sc], opuV o] w (SamePost w (.slice a n c) ⟨ep0, se, ls, sc⟩ (shortU o)) := by
  obtain ⟨kd, num, ep, who, text⟩ := o
  dsimp only at hkd hw ht
  have h : kd % 8 = 0 ∨ kd % 8 = 1 ∨ kd % 8 = 2 ∨ kd % 8 = 3 ∨ kd % 8 = 4 ∨ kd % 8 = 5 ∨ kd % 8 = 6 ∨ kd % 8 = 7 := by omega
  rcases h with h | h | h | h | h | h | h | h
  · exact same36_0 ep0 se sc a n c ls kd num ep who text w hs hown hsz hkd hw ht h
  · exact same36_1 ep0 se sc a n c ls kd num ep who text w hs hown hsz hkd hw ht h
  · exact same36_2 ep0 se sc a n c ls kd num ep who text w hs hown hsz hkd hw ht h
  · exact same36_3 ep0 se sc a n c ls kd num ep who text w hs hown hsz hkd hw ht h
  · exact same36_4 ep0 se sc a n c ls kd num ep who text w hs hown hsz hkd hw ht h
  · exact same36_5 ep0 se sc a n c ls kd num ep who text w hs hown hsz hkd hw ht h
  · exact same36_6 ep0 se sc a n c ls kd num ep who text w hs hown hsz hkd hw ht h
  · exact same36_7 ep0 se sc a n c ls kd num ep who text w hs hown hsz hkd hw ht h
end Go.Proofs.YtfobmfenjdiimaaDoor
