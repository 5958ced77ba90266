/- Law 36: same. (printed by wip/gen_smu.py) Maps whose keys are ints. (printed by wip/gen_mapi.py) Law 36, plain: what an operation makes of a view whose terminals are known. -/
import Derived.Test.YtfobmfenjdiimaaGreatDoorReE
import Derived.Test.YtfobmfenjdiimaaGreatDoorDotA
import Derived.Test.YtfobmfenjdiimaaGreatDoorMaps
namespace Go.Proofs.YtfobmfenjdiimaaGreatDoor
open Go.RowKit
attribute [local go_sem ↓] Go.wp_at_zero Go.wp_at_succ

def uLineT (o : OpU) (t : TermT) : ByteArray := if o.kd % 8 = 4 ∨ o.kd % 8 = 5 then readL o.who t else ⟨#[]⟩
def uGotT (o : OpU) (t : TermT) : TermT := if o.kd % 8 = 7 then t else zeroT
/-- What same leaves. -/
def SamePost (w : World) (v : Value) (T : TermT) (o : OpU) (r : Ending) (w' : World) : Prop :=
  ∃ a n c a' n' c', r = .returned (.tuple #[.agg #[.int .i64 (uOp o (inT T o.ep)).1.epoch, .string (uOp o (inT T o.ep)).1.session, .slice a n c, .string (uOp o (inT T o.ep)).1.screen], .int .i64 (uOp o (inT T o.ep)).2, .string (uLineT o (inT T o.ep)), .agg #[.int .i64 (uGotT o (inT T o.ep)).epoch, .string (uGotT o (inT T o.ep)).session, .slice a' n' c', .string (uGotT o (inT T o.ep)).screen]]) ∧ RowK kStr w' (.slice a n c) (uOp o (inT T o.ep)).1.typed ∧ RowK kStr w' (.slice a' n' c') (uGotT o (inT T o.ep)).typed ∧ (∀ k, (Value.slice a n c).ownBlock = some k → v.ownBlock = some k ∨ (w.heap.size ≤ k ∧ k < w'.heap.size)) ∧ Below w.heap.size w w'
theorem sam_fin {w W : World} {v : Value} {T t1 t2 g : TermT} {o : OpU} {q : Nat} {line : ByteArray} {a a' : Option Addr} {n c n' c' : Nat} (hT : inT T o.ep = t1) (h1 : uOp o t1 = (t2, q)) (h2 : uLineT o t1 = line) (h3 : uGotT o t1 = g) (hr : RowK kStr W (.slice a n c) t2.typed) (hr' : RowK kStr W (.slice a' n' c') g.typed) (ho : ∀ k, (Value.slice a n c).ownBlock = some k → v.ownBlock = some k ∨ (w.heap.size ≤ k ∧ k < W.heap.size)) (hb : Below w.heap.size w W) :
    SamePost w v T o (.returned (.tuple #[.agg #[.int .i64 t2.epoch, .string t2.session, .slice a n c, .string t2.screen], .int .i64 q, .string line, .agg #[.int .i64 g.epoch, .string g.session, .slice a' n' c', .string g.screen]])) W := by
  unfold SamePost
  subst hT h2 h3
  have h4 : (uOp o (inT T o.ep)).1 = t2 := by rw [h1]
  have h5 : (uOp o (inT T o.ep)).2 = q := by rw [h1]
  rw [h4, h5]
  exact ⟨a, n, c, a', n', c', rfl, hr, hr', ho, hb⟩
/-- In the midst of same: four blocks. -/
structure SU (w W : World) (tc oc nc gc : Array Value) : Prop where
  t : W.heap[w.heap.size]? = some (.cells tc 42 (0, 0))
  op : W.heap[w.heap.size + 1]? = some (.cells oc 23 (0, 0))
  nx : W.heap[w.heap.size + 1 + 1]? = some (.cells nc 42 (0, 0))
  got : W.heap[w.heap.size + 1 + 1 + 1]? = some (.cells gc 42 (0, 0))
  b : Below w.heap.size w W
theorem new4 (w : World) (o1 o2 o3 o4 : Obj) : (((((w.alloc o1).alloc o2).alloc o3).alloc o4).heap[w.heap.size]? = some o1 ∧ ((((w.alloc o1).alloc o2).alloc o3).alloc o4).heap[w.heap.size + 1]? = some o2 ∧ ((((w.alloc o1).alloc o2).alloc o3).alloc o4).heap[w.heap.size + 1 + 1]? = some o3 ∧ ((((w.alloc o1).alloc o2).alloc o3).alloc o4).heap[w.heap.size + 1 + 1 + 1]? = some o4) ∧ Below w.heap.size w ((((w.alloc o1).alloc o2).alloc o3).alloc o4) := by
  have b1 : Below w.heap.size w (w.alloc o1) := (Below.refl _ _).alloc (Nat.le_refl _) _
  have b2 : Below w.heap.size w ((w.alloc o1).alloc o2) := b1.alloc (by simp) _
  have b3 : Below w.heap.size w (((w.alloc o1).alloc o2).alloc o3) := b2.alloc (by simp; omega) _
  have b4 := b3.alloc (by simp; omega) o4
  have x2 := World.alloc_heap_new (w.alloc o1) o2
  rw [World.size_alloc] at x2
  have x3 := World.alloc_heap_new ((w.alloc o1).alloc o2) o3
  rw [World.size_alloc, World.size_alloc] at x3
  have x4 := World.alloc_heap_new (((w.alloc o1).alloc o2).alloc o3) o4
  rw [World.size_alloc, World.size_alloc, World.size_alloc] at x4
  refine ⟨⟨?_, ?_, ?_, x4⟩, b4⟩
  · rw [Below.heap_alloc _ _ _ (by simp; omega), Below.heap_alloc _ _ _ (by simp; omega), Below.heap_alloc _ _ _ (by simp)]
    exact World.alloc_heap_new w _
  · rw [Below.heap_alloc _ _ _ (by simp), Below.heap_alloc _ _ _ (by simp)]
    exact x2
  · rw [Below.heap_alloc _ _ _ (by simp)]
    exact x3
section
variable {w W W' : World} {tc oc nc gc : Array Value}
theorem SU.start (w : World) (tc oc nc gc : Array Value) : SU w ((((w.alloc (.cells tc 42)).alloc (.cells oc 23)).alloc (.cells nc 42)).alloc (.cells gc 42)) tc oc nc gc := by
  obtain ⟨⟨h1, h2, h3, h4⟩, h5⟩ := new4 w (.cells tc 42) (.cells oc 23) (.cells nc 42) (.cells gc 42)
  exact ⟨h1, h2, h3, h4, h5⟩
theorem SU.later (d : SU w W tc oc nc gc) (hb : Below W.heap.size W W') : SU w W' tc oc nc gc :=
  ⟨(hb.block _ (lt_of_heap d.t)).trans d.t, (hb.block _ (lt_of_heap d.op)).trans d.op, (hb.block _ (lt_of_heap d.nx)).trans d.nx, (hb.block _ (lt_of_heap d.got)).trans d.got, d.b.trans (hb.mono d.b.size)⟩
theorem SU.lt (d : SU w W tc oc nc gc) : w.heap.size + 3 < W.heap.size := lt_of_heap d.got
theorem nsome {a b : Nat} (h : a ≠ b) : some a ≠ some b := fun e => h (Option.some.inj e)
theorem SU.setT {p0 p1 p2 p3 : Value} (d : SU w W #[p0, p1, p2, p3] oc nc gc) (a b c e : Value) : SU w ((((W.setCell ⟨w.heap.size, 0, none⟩ a).setCell ⟨w.heap.size, 1, none⟩ b).setCell ⟨w.heap.size, 2, none⟩ c).setCell ⟨w.heap.size, 3, none⟩ e) #[a, b, c, e] oc nc gc := by
  have hg := grown_set4 W w.heap.size a b c e
  exact ⟨set4_at d.t _ _ _ _, (hg.block _ (lt_of_heap d.op) (nsome (by omega))).trans d.op, (hg.block _ (lt_of_heap d.nx) (nsome (by omega))).trans d.nx, (hg.block _ (lt_of_heap d.got) (nsome (by omega))).trans d.got, below_grow36 d.b hg (by omega)⟩
theorem SU.setOp {p0 p1 p2 p3 p4 : Value} (d : SU w W tc #[p0, p1, p2, p3, p4] nc gc) (a b c e f : Value) : SU w (((((W.setCell ⟨w.heap.size + 1, 0, none⟩ a).setCell ⟨w.heap.size + 1, 1, none⟩ b).setCell ⟨w.heap.size + 1, 2, none⟩ c).setCell ⟨w.heap.size + 1, 3, none⟩ e).setCell ⟨w.heap.size + 1, 4, none⟩ f) tc #[a, b, c, e, f] nc gc := by
  have hg := grown_set5 W (w.heap.size + 1) a b c e f
  exact ⟨(hg.block _ (lt_of_heap d.t) (nsome (by omega))).trans d.t, set5_at d.op _ _ _ _ _, (hg.block _ (lt_of_heap d.nx) (nsome (by omega))).trans d.nx, (hg.block _ (lt_of_heap d.got) (nsome (by omega))).trans d.got, below_grow36 d.b hg (by omega)⟩
theorem SU.setN {p0 p1 p2 p3 : Value} (d : SU w W tc oc #[p0, p1, p2, p3] gc) (a b c e : Value) : SU w ((((W.setCell ⟨w.heap.size + 1 + 1, 0, none⟩ a).setCell ⟨w.heap.size + 1 + 1, 1, none⟩ b).setCell ⟨w.heap.size + 1 + 1, 2, none⟩ c).setCell ⟨w.heap.size + 1 + 1, 3, none⟩ e) tc oc #[a, b, c, e] gc := by
  have hg := grown_set4 W (w.heap.size + 1 + 1) a b c e
  exact ⟨(hg.block _ (lt_of_heap d.t) (nsome (by omega))).trans d.t, (hg.block _ (lt_of_heap d.op) (nsome (by omega))).trans d.op, set4_at d.nx _ _ _ _, (hg.block _ (lt_of_heap d.got) (nsome (by omega))).trans d.got, below_grow36 d.b hg (by omega)⟩
theorem SU.setG {p0 p1 p2 p3 : Value} (d : SU w W tc oc nc #[p0, p1, p2, p3]) (a b c e : Value) : SU w ((((W.setCell ⟨w.heap.size + 1 + 1 + 1, 0, none⟩ a).setCell ⟨w.heap.size + 1 + 1 + 1, 1, none⟩ b).setCell ⟨w.heap.size + 1 + 1 + 1, 2, none⟩ c).setCell ⟨w.heap.size + 1 + 1 + 1, 3, none⟩ e) tc oc nc #[a, b, c, e] := by
  have hg := grown_set4 W (w.heap.size + 1 + 1 + 1) a b c e
  exact ⟨(hg.block _ (lt_of_heap d.t) (nsome (by omega))).trans d.t, (hg.block _ (lt_of_heap d.op) (nsome (by omega))).trans d.op, (hg.block _ (lt_of_heap d.nx) (nsome (by omega))).trans d.nx, set4_at d.got _ _ _ _, below_grow36 d.b hg (by omega)⟩
end
/-- A row that lies apart from the four blocks. -/
structure RU (w W : World) (v : Value) (v' : Value) (ls : List ByteArray) : Prop where
  row : RowK kStr W v' ls
  own : ∀ k, v'.ownBlock = some k → v.ownBlock = some k ∨ (w.heap.size + 4 ≤ k ∧ k < W.heap.size)
theorem RU.later {w W W' : World} {v v' : Value} {ls : List ByteArray} (h : RU w W v v' ls) (hb : Below W.heap.size W W') : RU w W' v v' ls :=
  ⟨h.row.later hb, fun k hk => (h.own k hk).imp id fun ⟨h1, h2⟩ => ⟨h1, Nat.lt_of_lt_of_le h2 hb.size⟩⟩
theorem RU.set4 {w W : World} {v v' : Value} {ls : List ByteArray} (h : RU w W v v' ls) (hv : ∀ k, v.ownBlock = some k → k < w.heap.size) (R : Nat) (h1 : w.heap.size ≤ R) (h2 : R < w.heap.size + 4) (a b c e : Value) : RU w ((((W.setCell ⟨R, 0, none⟩ a).setCell ⟨R, 1, none⟩ b).setCell ⟨R, 2, none⟩ c).setCell ⟨R, 3, none⟩ e) v v' ls :=
  ⟨h.row.grown (grown_set4 W R a b c e) (fun k hk e => by cases e; rcases h.own _ hk with h3 | h3; exact absurd (hv _ h3) (by omega); omega), fun k hk => (h.own k hk).imp id fun ⟨h3, h4⟩ => ⟨h3, Nat.lt_of_lt_of_le h4 (grown_set4 W R a b c e).size⟩⟩
theorem RU.out {w W : World} {v v' : Value} {ls : List ByteArray} (h : RU w W v v' ls) : ∀ k, v'.ownBlock = some k → v.ownBlock = some k ∨ (w.heap.size ≤ k ∧ k < W.heap.size) := fun k hk => (h.own k hk).imp id fun ⟨h1, h2⟩ => ⟨by omega, h2⟩
theorem RU.new {w W0 W : World} {v v1 v2 : Value} {l1 l2 : List ByteArray} (h : RU w W0 v v1 l1) (hb : Below W0.heap.size W0 W) (hW : w.heap.size + 4 ≤ W0.heap.size) (hr : RowK kStr W v2 l2) (ho : ∀ k, v2.ownBlock = some k → v1.ownBlock = some k ∨ (W0.heap.size ≤ k ∧ k < W.heap.size)) : RU w W v v2 l2 :=
  ⟨hr, fun k hk => by
    rcases ho k hk with h1 | h1
    · exact (h.own k h1).imp id fun ⟨h1, h2⟩ => ⟨h1, Nat.lt_of_lt_of_le h2 hb.size⟩
    · exact .inr ⟨by omega, h1.2⟩⟩
theorem in36_is (ep : Int) (se sc : ByteArray) (a : Option Addr) (n c : Nat) (ls : List ByteArray) (e : Int) (w : World) (hs : RowK kStr w (.slice a n c) ls) :
    Calls Tryz.prog 73 #[.agg #[.int .i64 ep, .string se, .slice a n c, .string sc], .int .i64 e] w (fun r w' => ∃ a' n' c', r = .returned (.agg #[.int .i64 (inT ⟨ep, se, ls, sc⟩ e).epoch, .string (inT ⟨ep, se, ls, sc⟩ e).session, .slice a' n' c', .string (inT ⟨ep, se, ls, sc⟩ e).screen]) ∧ RowK kStr w' (.slice a' n' c') (inT ⟨ep, se, ls, sc⟩ e).typed ∧ (∀ k, (Value.slice a' n' c').ownBlock = some k → (Value.slice a n c).ownBlock = some k ∨ (w.heap.size ≤ k ∧ k < w'.heap.size)) ∧ Below w.heap.size w w') := by
  refine (in36_any ep se sc a n c ls e w hs).mono ?_
  rintro r w' ⟨a', n', c', h1, h2, h3, h4⟩
  refine ⟨a', n', c', ?_, h2, h3, h4⟩
  cases r with
  | returned v =>
    injection h1 with h1
    injection h1 with h1
    have := congrArg (fun x : Array Value => x[0]?) h1
    simp at this
    rw [this]
  | _ => cases h1
theorem inT_bounds {T : TermT} {e : Int} {A B C : Nat} (h1 : T.session.size ≤ A) (h2 : T.screen.size ≤ B) (h3 : T.typed.length ≤ C) : (inT T e).session.size ≤ A ∧ (inT T e).screen.size ≤ B ∧ (inT T e).typed.length ≤ C := by
  unfold inT
  split
  · exact ⟨h1, h2, h3⟩
  · exact ⟨Nat.zero_le _, Nat.zero_le _, Nat.zero_le _⟩
set_option maxRecDepth 100000 in
set_option maxHeartbeats 6400000 in
theorem same36_0 (ep0 : Int) (se sc : ByteArray) (a : Option Addr) (n c : Nat) (ls : List ByteArray) (kd : Nat) (num ep : Int) (who text : ByteArray) (w : World) (hs : RowK kStr w (.slice a n c) ls) (hown : ∀ k, (Value.slice a n c).ownBlock = some k → k < w.heap.size) (hsz : se.size ≤ 1000000 ∧ sc.size ≤ 1000000 ∧ ls.length ≤ 100000) (hkd : kd ≤ 255) (hw : who.size ≤ 9223372036854775807) (ht : text.size ≤ 9223372036854775807) (hj : kd % 8 = 0) :
    Calls Tryz.prog 38 #[.agg #[.int .i64 ep0, .string se, .slice a n c, .string sc], .agg #[.int .u8 kd, .int .i64 num, .int .i64 ep, .string who, .string text]] w (SamePost w (.slice a n c) ⟨ep0, se, ls, sc⟩ (shortU ⟨kd, num, ep, who, text⟩)) := by
  have D0 := Lib.hid (SU.start w #[.int .i64 ep0, .string se, .slice a n c, .string sc] #[.int .u8 kd, .int .i64 num, .int .i64 ep, .string who, .string text] #[.int .i64 0, .string ⟨#[]⟩, .slice none 0 0, .string ⟨#[]⟩] #[.int .i64 0, .string ⟨#[]⟩, .slice none 0 0, .string ⟨#[]⟩])
  have Hw := Lib.hid hw
  have Ht := Lib.hid ht
  have HZ0 := Lib.hid (inT_bounds (T := ⟨ep0, se, ls, sc⟩) (e := ep) hsz.1 hsz.2.1 hsz.2.2)
  have hj' : ((kd : Int)) % 8 = 0 := by omega
  have R0 : Hid (RU w w (.slice a n c) (.slice a n c) ls) := ⟨hs, fun k hk => .inl hk⟩
  have HV : Hid (∀ k, (Value.slice a n c).ownBlock = some k → k < w.heap.size) := hown
  have HU : Hid (∀ t, uOp (shortU ⟨kd, num, ep, who, text⟩) t = opBegin (cutU who 100) t ∧ uLineT (shortU ⟨kd, num, ep, who, text⟩) t = ⟨#[]⟩ ∧ uGotT (shortU ⟨kd, num, ep, who, text⟩) t = zeroT) := fun t => by
    refine ⟨?_, if_neg (by unfold shortU; dsimp only; omega), if_neg (by unfold shortU; dsimp only; omega)⟩
    unfold uOp shortU
    simp [hj]
  clear hw ht hs hown hsz
  go_enter Tryz.func38, Tryz.ntmps38
  go_wp2_with fail
  generalize (((w.alloc (.cells #[.int .i64 ep0, .string se, .slice a n c, .string sc] 42)).alloc (.cells #[.int .u8 kd, .int .i64 num, .int .i64 ep, .string who, .string text] 23)).alloc (.cells #[.int .i64 0, .string ⟨#[]⟩, .slice none 0 0, .string ⟨#[]⟩] 42)).alloc (.cells #[.int .i64 0, .string ⟨#[]⟩, .slice none 0 0, .string ⟨#[]⟩] 42) = W0 at *
  refine (short36_any kd num ep who text _ Hw.out Ht.out).mono ?_
  rintro r w2 ⟨rfl, hb2⟩
  have D2 := Lib.hid (D0.out.later hb2)
  have D3 := Lib.hid (D2.out.setOp (.int .u8 kd) (.int .i64 num) (.int .i64 ep) (.string (cutU who 100)) (.string (cutU text 3000)))
  have R3 := Lib.hid (R0.out.later D3.out.b)
  clear hb2 D0 R0
  have o0 : w2.cell? ⟨w.heap.size + 1, 0, none⟩ = some (.int .u8 kd) := cell_of_heap D2.out.op 0
  have o1 : w2.cell? ⟨w.heap.size + 1, 1, none⟩ = some (.int .i64 num) := cell_of_heap D2.out.op 1
  have o2 : w2.cell? ⟨w.heap.size + 1, 2, none⟩ = some (.int .i64 ep) := cell_of_heap D2.out.op 2
  have o3 : w2.cell? ⟨w.heap.size + 1, 3, none⟩ = some (.string who) := cell_of_heap D2.out.op 3
  have o4 : w2.cell? ⟨w.heap.size + 1, 4, none⟩ = some (.string text) := cell_of_heap D2.out.op 4
  have fo0 := frozen_of_heap D2.out.op 0
  have fo1 := frozen_of_heap D2.out.op 1
  have fo2 := frozen_of_heap D2.out.op 2
  have fo3 := frozen_of_heap D2.out.op 3
  have fo4 := frozen_of_heap D2.out.op 4
  have t0 : w2.cell? ⟨w.heap.size, 0, none⟩ = some (.int .i64 ep0) := cell_of_heap D2.out.t 0
  have t1 : w2.cell? ⟨w.heap.size, 1, none⟩ = some (.string se) := cell_of_heap D2.out.t 1
  have t2 : w2.cell? ⟨w.heap.size, 2, none⟩ = some (.slice a n c) := cell_of_heap D2.out.t 2
  have t3 : w2.cell? ⟨w.heap.size, 3, none⟩ = some (.string sc) := cell_of_heap D2.out.t 3
  go_wp2_with fail
  clear o0 fo0 o1 fo1 o2 fo2 o3 fo3 o4 fo4 t0 t1 t2 t3 D2
  generalize (((((w2).setCell ⟨w.heap.size + 1, 0, none⟩ (.int .u8 kd)).setCell ⟨w.heap.size + 1, 1, none⟩ (.int .i64 num)).setCell ⟨w.heap.size + 1, 2, none⟩ (.int .i64 ep)).setCell ⟨w.heap.size + 1, 3, none⟩ (.string (cutU who 100))).setCell ⟨w.heap.size + 1, 4, none⟩ (.string (cutU text 3000)) = W3 at *
  refine (in36_is ep0 se sc a n c ls ep _ R3.out.row).mono ?_
  rintro r w4 ⟨a1, n1, c1, rfl, hrow, hown1, hb4⟩
  have D4 := Lib.hid (D3.out.later hb4)
  have R4 := Lib.hid (R3.out.new hb4 D3.out.lt hrow hown1)
  have HT : Hid (inT ⟨ep0, se, ls, sc⟩ ep = inT ⟨ep0, se, ls, sc⟩ ep) := rfl
  clear hrow hown1 hb4 D3 R3
  generalize HTe : inT ⟨ep0, se, ls, sc⟩ ep = T1 at HZ0 R4 HT ⊢
  obtain ⟨e1, s1, l1, sc1⟩ := T1
  have HTE := Lib.hid HTe
  dsimp only at HZ0 R4 ⊢
  have HZ := HZ0
  clear HTe HT HZ0
  have D6 := Lib.hid ((D4.out.setT (.int .i64 e1) (.string s1) (.slice a1 n1 c1) (.string sc1)).setN (.int .i64 e1) (.string s1) (.slice a1 n1 c1) (.string sc1))
  have R6 := Lib.hid ((R4.out.set4 HV.out w.heap.size (Nat.le_refl _) (by omega) (.int .i64 e1) (.string s1) (.slice a1 n1 c1) (.string sc1)).set4 HV.out (w.heap.size + 1 + 1) (by omega) (by omega) (.int .i64 e1) (.string s1) (.slice a1 n1 c1) (.string sc1))
  have o0 : w4.cell? ⟨w.heap.size + 1, 0, none⟩ = some (.int .u8 kd) := cell_of_heap D4.out.op 0
  have o1 : w4.cell? ⟨w.heap.size + 1, 1, none⟩ = some (.int .i64 num) := cell_of_heap D4.out.op 1
  have o2 : w4.cell? ⟨w.heap.size + 1, 2, none⟩ = some (.int .i64 ep) := cell_of_heap D4.out.op 2
  have o3 : w4.cell? ⟨w.heap.size + 1, 3, none⟩ = some (.string (cutU who 100)) := cell_of_heap D4.out.op 3
  have o4 : w4.cell? ⟨w.heap.size + 1, 4, none⟩ = some (.string (cutU text 3000)) := cell_of_heap D4.out.op 4
  have fo0 := frozen_of_heap D4.out.op 0
  have fo1 := frozen_of_heap D4.out.op 1
  have fo2 := frozen_of_heap D4.out.op 2
  have fo3 := frozen_of_heap D4.out.op 3
  have fo4 := frozen_of_heap D4.out.op 4
  have t0 : w4.cell? ⟨w.heap.size, 0, none⟩ = some (.int .i64 ep0) := cell_of_heap D4.out.t 0
  have t1 : w4.cell? ⟨w.heap.size, 1, none⟩ = some (.string se) := cell_of_heap D4.out.t 1
  have t2 : w4.cell? ⟨w.heap.size, 2, none⟩ = some (.slice a n c) := cell_of_heap D4.out.t 2
  have t3 : w4.cell? ⟨w.heap.size, 3, none⟩ = some (.string sc) := cell_of_heap D4.out.t 3
  have ft0 := frozen_of_heap D4.out.t 0
  have ft1 := frozen_of_heap D4.out.t 1
  have ft2 := frozen_of_heap D4.out.t 2
  have ft3 := frozen_of_heap D4.out.t 3
  have x0 : w4.cell? ⟨w.heap.size + 1 + 1, 0, none⟩ = some (.int .i64 0) := cell_of_heap D4.out.nx 0
  have x1 : w4.cell? ⟨w.heap.size + 1 + 1, 1, none⟩ = some (.string ⟨#[]⟩) := cell_of_heap D4.out.nx 1
  have x2 : w4.cell? ⟨w.heap.size + 1 + 1, 2, none⟩ = some (.slice none 0 0) := cell_of_heap D4.out.nx 2
  have x3 : w4.cell? ⟨w.heap.size + 1 + 1, 3, none⟩ = some (.string ⟨#[]⟩) := cell_of_heap D4.out.nx 3
  have fx0 := frozen_of_heap D4.out.nx 0
  have fx1 := frozen_of_heap D4.out.nx 1
  have fx2 := frozen_of_heap D4.out.nx 2
  have fx3 := frozen_of_heap D4.out.nx 3
  go_wp2_with fail
  clear o0 fo0 o1 fo1 o2 fo2 o3 fo3 o4 fo4 t0 ft0 t1 ft1 t2 ft2 t3 ft3 x0 fx0 x1 fx1 x2 fx2 x3 fx3 D4 R4
  generalize ((((((((w4).setCell ⟨w.heap.size, 0, none⟩ (.int .i64 e1)).setCell ⟨w.heap.size, 1, none⟩ (.string s1)).setCell ⟨w.heap.size, 2, none⟩ (.slice a1 n1 c1)).setCell ⟨w.heap.size, 3, none⟩ (.string sc1)).setCell ⟨w.heap.size + 1 + 1, 0, none⟩ (.int .i64 e1)).setCell ⟨w.heap.size + 1 + 1, 1, none⟩ (.string s1)).setCell ⟨w.heap.size + 1 + 1, 2, none⟩ (.slice a1 n1 c1)).setCell ⟨w.heap.size + 1 + 1, 3, none⟩ (.string sc1) = W6 at *
  refine (begin36_any e1 s1 sc1 a1 n1 c1 l1 (cutU who 100) _ R6.out.row (by have := cutU_size who 100; omega)).mono ?_
  rintro r w7 ⟨a2, n2, c2, rfl, hrow, hown2, hb7⟩
  have D7 := Lib.hid (D6.out.later hb7)
  have R7 := Lib.hid (R6.out.new hb7 D6.out.lt hrow hown2)
  clear hrow hown2 hb7 D6 R6
  have HQ := Lib.hid (HU.out ⟨e1, s1, l1, sc1⟩)
  clear HU
  generalize opBegin (cutU who 100) ⟨e1, s1, l1, sc1⟩ = p at HQ R7 ⊢
  obtain ⟨⟨e2, s2, l2, sc2⟩, q⟩ := p
  dsimp only at R7 ⊢
  have D8 := Lib.hid (D7.out.setN (.int .i64 e2) (.string s2) (.slice a2 n2 c2) (.string sc2))
  have R8 := Lib.hid (R7.out.set4 HV.out (w.heap.size + 1 + 1) (by omega) (by omega) (.int .i64 e2) (.string s2) (.slice a2 n2 c2) (.string sc2))
  have x0 : w7.cell? ⟨w.heap.size + 1 + 1, 0, none⟩ = some (.int .i64 e1) := cell_of_heap D7.out.nx 0
  have x1 : w7.cell? ⟨w.heap.size + 1 + 1, 1, none⟩ = some (.string s1) := cell_of_heap D7.out.nx 1
  have x2 : w7.cell? ⟨w.heap.size + 1 + 1, 2, none⟩ = some (.slice a1 n1 c1) := cell_of_heap D7.out.nx 2
  have x3 : w7.cell? ⟨w.heap.size + 1 + 1, 3, none⟩ = some (.string sc1) := cell_of_heap D7.out.nx 3
  have fx0 := frozen_of_heap D7.out.nx 0
  have fx1 := frozen_of_heap D7.out.nx 1
  have fx2 := frozen_of_heap D7.out.nx 2
  have fx3 := frozen_of_heap D7.out.nx 3
  go_upto_region 18 with fail
  clear x0 fx0 x1 fx1 x2 fx2 x3 fx3 D7 R7
  generalize ((((w7).setCell ⟨w.heap.size + 1 + 1, 0, none⟩ (.int .i64 e2)).setCell ⟨w.heap.size + 1 + 1, 1, none⟩ (.string s2)).setCell ⟨w.heap.size + 1 + 1, 2, none⟩ (.slice a2 n2 c2)).setCell ⟨w.heap.size + 1 + 1, 3, none⟩ (.string sc2) = W8 at *
  have x0 : W8.cell? ⟨w.heap.size + 1 + 1, 0, none⟩ = some (.int .i64 e2) := cell_of_heap D8.out.nx 0
  have x1 : W8.cell? ⟨w.heap.size + 1 + 1, 1, none⟩ = some (.string s2) := cell_of_heap D8.out.nx 1
  have x2 : W8.cell? ⟨w.heap.size + 1 + 1, 2, none⟩ = some (.slice a2 n2 c2) := cell_of_heap D8.out.nx 2
  have x3 : W8.cell? ⟨w.heap.size + 1 + 1, 3, none⟩ = some (.string sc2) := cell_of_heap D8.out.nx 3
  have fx0 := frozen_of_heap D8.out.nx 0
  have fx1 := frozen_of_heap D8.out.nx 1
  have fx2 := frozen_of_heap D8.out.nx 2
  have fx3 := frozen_of_heap D8.out.nx 3
  have y0 : W8.cell? ⟨w.heap.size + 1 + 1 + 1, 0, none⟩ = some (.int .i64 0) := cell_of_heap D8.out.got 0
  have y1 : W8.cell? ⟨w.heap.size + 1 + 1 + 1, 1, none⟩ = some (.string ⟨#[]⟩) := cell_of_heap D8.out.got 1
  have y2 : W8.cell? ⟨w.heap.size + 1 + 1 + 1, 2, none⟩ = some (.slice none 0 0) := cell_of_heap D8.out.got 2
  have y3 : W8.cell? ⟨w.heap.size + 1 + 1 + 1, 3, none⟩ = some (.string ⟨#[]⟩) := cell_of_heap D8.out.got 3
  have fy0 := frozen_of_heap D8.out.got 0
  have fy1 := frozen_of_heap D8.out.got 1
  have fy2 := frozen_of_heap D8.out.got 2
  have fy3 := frozen_of_heap D8.out.got 3
  have A1 := Lib.hid (((D8.out.setN (.int .i64 e2) (.string s2) (.slice a2 n2 c2) (.string sc2)).setG (.int .i64 0) (.string ⟨#[]⟩) (.slice none 0 0) (.string ⟨#[]⟩)).later (Below.refl _ _).drew)
  have B1 := Lib.hid (((R8.out.set4 HV.out (w.heap.size + 1 + 1) (by omega) (by omega) (.int .i64 e2) (.string s2) (.slice a2 n2 c2) (.string sc2)).set4 HV.out (w.heap.size + 1 + 1 + 1) (by omega) (by omega) (.int .i64 0) (.string ⟨#[]⟩) (.slice none 0 0) (.string ⟨#[]⟩)).later (Below.refl _ _).drew)
  go_region
  all_goals
    go_wp2
    refine bodyPost_ret (v := .tuple #[.agg #[.int .i64 e2, .string s2, .slice a2 n2 c2, .string sc2], .int .i64 q, .string ⟨#[]⟩, .agg #[.int .i64 0, .string ⟨#[]⟩, .slice none 0 0, .string ⟨#[]⟩]]) (by simp [results, Tryz.results38, go_sem, x0, x1, x2, x3, y0, y1, y2, y3]) rfl ?_
    exact sam_fin (T := ⟨ep0, se, ls, sc⟩) HTE.out HQ.out.1 HQ.out.2.1 HQ.out.2.2 B1.out.row (RowK.nil _) B1.out.out A1.out.b
set_option maxRecDepth 100000 in
set_option maxHeartbeats 6400000 in
theorem same36_1 (ep0 : Int) (se sc : ByteArray) (a : Option Addr) (n c : Nat) (ls : List ByteArray) (kd : Nat) (num ep : Int) (who text : ByteArray) (w : World) (hs : RowK kStr w (.slice a n c) ls) (hown : ∀ k, (Value.slice a n c).ownBlock = some k → k < w.heap.size) (hsz : se.size ≤ 1000000 ∧ sc.size ≤ 1000000 ∧ ls.length ≤ 100000) (hkd : kd ≤ 255) (hw : who.size ≤ 9223372036854775807) (ht : text.size ≤ 9223372036854775807) (hj : kd % 8 = 1) :
    Calls Tryz.prog 38 #[.agg #[.int .i64 ep0, .string se, .slice a n c, .string sc], .agg #[.int .u8 kd, .int .i64 num, .int .i64 ep, .string who, .string text]] w (SamePost w (.slice a n c) ⟨ep0, se, ls, sc⟩ (shortU ⟨kd, num, ep, who, text⟩)) := by
  have D0 := Lib.hid (SU.start w #[.int .i64 ep0, .string se, .slice a n c, .string sc] #[.int .u8 kd, .int .i64 num, .int .i64 ep, .string who, .string text] #[.int .i64 0, .string ⟨#[]⟩, .slice none 0 0, .string ⟨#[]⟩] #[.int .i64 0, .string ⟨#[]⟩, .slice none 0 0, .string ⟨#[]⟩])
  have Hw := Lib.hid hw
  have Ht := Lib.hid ht
  have HZ0 := Lib.hid (inT_bounds (T := ⟨ep0, se, ls, sc⟩) (e := ep) hsz.1 hsz.2.1 hsz.2.2)
  have hj' : ((kd : Int)) % 8 = 1 := by omega
  have R0 : Hid (RU w w (.slice a n c) (.slice a n c) ls) := ⟨hs, fun k hk => .inl hk⟩
  have HV : Hid (∀ k, (Value.slice a n c).ownBlock = some k → k < w.heap.size) := hown
  have HU : Hid (∀ t, uOp (shortU ⟨kd, num, ep, who, text⟩) t = opEnd (cutU who 100) t ∧ uLineT (shortU ⟨kd, num, ep, who, text⟩) t = ⟨#[]⟩ ∧ uGotT (shortU ⟨kd, num, ep, who, text⟩) t = zeroT) := fun t => by
    refine ⟨?_, if_neg (by unfold shortU; dsimp only; omega), if_neg (by unfold shortU; dsimp only; omega)⟩
    unfold uOp shortU
    simp [hj]
  clear hw ht hs hown hsz
  go_enter Tryz.func38, Tryz.ntmps38
  go_wp2_with fail
  generalize (((w.alloc (.cells #[.int .i64 ep0, .string se, .slice a n c, .string sc] 42)).alloc (.cells #[.int .u8 kd, .int .i64 num, .int .i64 ep, .string who, .string text] 23)).alloc (.cells #[.int .i64 0, .string ⟨#[]⟩, .slice none 0 0, .string ⟨#[]⟩] 42)).alloc (.cells #[.int .i64 0, .string ⟨#[]⟩, .slice none 0 0, .string ⟨#[]⟩] 42) = W0 at *
  refine (short36_any kd num ep who text _ Hw.out Ht.out).mono ?_
  rintro r w2 ⟨rfl, hb2⟩
  have D2 := Lib.hid (D0.out.later hb2)
  have D3 := Lib.hid (D2.out.setOp (.int .u8 kd) (.int .i64 num) (.int .i64 ep) (.string (cutU who 100)) (.string (cutU text 3000)))
  have R3 := Lib.hid (R0.out.later D3.out.b)
  clear hb2 D0 R0
  have o0 : w2.cell? ⟨w.heap.size + 1, 0, none⟩ = some (.int .u8 kd) := cell_of_heap D2.out.op 0
  have o1 : w2.cell? ⟨w.heap.size + 1, 1, none⟩ = some (.int .i64 num) := cell_of_heap D2.out.op 1
  have o2 : w2.cell? ⟨w.heap.size + 1, 2, none⟩ = some (.int .i64 ep) := cell_of_heap D2.out.op 2
  have o3 : w2.cell? ⟨w.heap.size + 1, 3, none⟩ = some (.string who) := cell_of_heap D2.out.op 3
  have o4 : w2.cell? ⟨w.heap.size + 1, 4, none⟩ = some (.string text) := cell_of_heap D2.out.op 4
  have fo0 := frozen_of_heap D2.out.op 0
  have fo1 := frozen_of_heap D2.out.op 1
  have fo2 := frozen_of_heap D2.out.op 2
  have fo3 := frozen_of_heap D2.out.op 3
  have fo4 := frozen_of_heap D2.out.op 4
  have t0 : w2.cell? ⟨w.heap.size, 0, none⟩ = some (.int .i64 ep0) := cell_of_heap D2.out.t 0
  have t1 : w2.cell? ⟨w.heap.size, 1, none⟩ = some (.string se) := cell_of_heap D2.out.t 1
  have t2 : w2.cell? ⟨w.heap.size, 2, none⟩ = some (.slice a n c) := cell_of_heap D2.out.t 2
  have t3 : w2.cell? ⟨w.heap.size, 3, none⟩ = some (.string sc) := cell_of_heap D2.out.t 3
  go_wp2_with fail
  clear o0 fo0 o1 fo1 o2 fo2 o3 fo3 o4 fo4 t0 t1 t2 t3 D2
  generalize (((((w2).setCell ⟨w.heap.size + 1, 0, none⟩ (.int .u8 kd)).setCell ⟨w.heap.size + 1, 1, none⟩ (.int .i64 num)).setCell ⟨w.heap.size + 1, 2, none⟩ (.int .i64 ep)).setCell ⟨w.heap.size + 1, 3, none⟩ (.string (cutU who 100))).setCell ⟨w.heap.size + 1, 4, none⟩ (.string (cutU text 3000)) = W3 at *
  refine (in36_is ep0 se sc a n c ls ep _ R3.out.row).mono ?_
  rintro r w4 ⟨a1, n1, c1, rfl, hrow, hown1, hb4⟩
  have D4 := Lib.hid (D3.out.later hb4)
  have R4 := Lib.hid (R3.out.new hb4 D3.out.lt hrow hown1)
  have HT : Hid (inT ⟨ep0, se, ls, sc⟩ ep = inT ⟨ep0, se, ls, sc⟩ ep) := rfl
  clear hrow hown1 hb4 D3 R3
  generalize HTe : inT ⟨ep0, se, ls, sc⟩ ep = T1 at HZ0 R4 HT ⊢
  obtain ⟨e1, s1, l1, sc1⟩ := T1
  have HTE := Lib.hid HTe
  dsimp only at HZ0 R4 ⊢
  have HZ := HZ0
  clear HTe HT HZ0
  have D6 := Lib.hid ((D4.out.setT (.int .i64 e1) (.string s1) (.slice a1 n1 c1) (.string sc1)).setN (.int .i64 e1) (.string s1) (.slice a1 n1 c1) (.string sc1))
  have R6 := Lib.hid ((R4.out.set4 HV.out w.heap.size (Nat.le_refl _) (by omega) (.int .i64 e1) (.string s1) (.slice a1 n1 c1) (.string sc1)).set4 HV.out (w.heap.size + 1 + 1) (by omega) (by omega) (.int .i64 e1) (.string s1) (.slice a1 n1 c1) (.string sc1))
  have o0 : w4.cell? ⟨w.heap.size + 1, 0, none⟩ = some (.int .u8 kd) := cell_of_heap D4.out.op 0
  have o1 : w4.cell? ⟨w.heap.size + 1, 1, none⟩ = some (.int .i64 num) := cell_of_heap D4.out.op 1
  have o2 : w4.cell? ⟨w.heap.size + 1, 2, none⟩ = some (.int .i64 ep) := cell_of_heap D4.out.op 2
  have o3 : w4.cell? ⟨w.heap.size + 1, 3, none⟩ = some (.string (cutU who 100)) := cell_of_heap D4.out.op 3
  have o4 : w4.cell? ⟨w.heap.size + 1, 4, none⟩ = some (.string (cutU text 3000)) := cell_of_heap D4.out.op 4
  have fo0 := frozen_of_heap D4.out.op 0
  have fo1 := frozen_of_heap D4.out.op 1
  have fo2 := frozen_of_heap D4.out.op 2
  have fo3 := frozen_of_heap D4.out.op 3
  have fo4 := frozen_of_heap D4.out.op 4
  have t0 : w4.cell? ⟨w.heap.size, 0, none⟩ = some (.int .i64 ep0) := cell_of_heap D4.out.t 0
  have t1 : w4.cell? ⟨w.heap.size, 1, none⟩ = some (.string se) := cell_of_heap D4.out.t 1
  have t2 : w4.cell? ⟨w.heap.size, 2, none⟩ = some (.slice a n c) := cell_of_heap D4.out.t 2
  have t3 : w4.cell? ⟨w.heap.size, 3, none⟩ = some (.string sc) := cell_of_heap D4.out.t 3
  have ft0 := frozen_of_heap D4.out.t 0
  have ft1 := frozen_of_heap D4.out.t 1
  have ft2 := frozen_of_heap D4.out.t 2
  have ft3 := frozen_of_heap D4.out.t 3
  have x0 : w4.cell? ⟨w.heap.size + 1 + 1, 0, none⟩ = some (.int .i64 0) := cell_of_heap D4.out.nx 0
  have x1 : w4.cell? ⟨w.heap.size + 1 + 1, 1, none⟩ = some (.string ⟨#[]⟩) := cell_of_heap D4.out.nx 1
  have x2 : w4.cell? ⟨w.heap.size + 1 + 1, 2, none⟩ = some (.slice none 0 0) := cell_of_heap D4.out.nx 2
  have x3 : w4.cell? ⟨w.heap.size + 1 + 1, 3, none⟩ = some (.string ⟨#[]⟩) := cell_of_heap D4.out.nx 3
  have fx0 := frozen_of_heap D4.out.nx 0
  have fx1 := frozen_of_heap D4.out.nx 1
  have fx2 := frozen_of_heap D4.out.nx 2
  have fx3 := frozen_of_heap D4.out.nx 3
  go_wp2_with fail
  clear o0 fo0 o1 fo1 o2 fo2 o3 fo3 o4 fo4 t0 ft0 t1 ft1 t2 ft2 t3 ft3 x0 fx0 x1 fx1 x2 fx2 x3 fx3 D4 R4
  generalize ((((((((w4).setCell ⟨w.heap.size, 0, none⟩ (.int .i64 e1)).setCell ⟨w.heap.size, 1, none⟩ (.string s1)).setCell ⟨w.heap.size, 2, none⟩ (.slice a1 n1 c1)).setCell ⟨w.heap.size, 3, none⟩ (.string sc1)).setCell ⟨w.heap.size + 1 + 1, 0, none⟩ (.int .i64 e1)).setCell ⟨w.heap.size + 1 + 1, 1, none⟩ (.string s1)).setCell ⟨w.heap.size + 1 + 1, 2, none⟩ (.slice a1 n1 c1)).setCell ⟨w.heap.size + 1 + 1, 3, none⟩ (.string sc1) = W6 at *
  refine (end36_any e1 s1 sc1 a1 n1 c1 l1 (cutU who 100) _ R6.out.row).mono ?_
  rintro r w7 ⟨a2, n2, c2, rfl, hrow, hown2, hb7⟩
  have D7 := Lib.hid (D6.out.later hb7)
  have R7 := Lib.hid (R6.out.new hb7 D6.out.lt hrow hown2)
  clear hrow hown2 hb7 D6 R6
  have HQ := Lib.hid (HU.out ⟨e1, s1, l1, sc1⟩)
  clear HU
  generalize opEnd (cutU who 100) ⟨e1, s1, l1, sc1⟩ = p at HQ R7 ⊢
  obtain ⟨⟨e2, s2, l2, sc2⟩, q⟩ := p
  dsimp only at R7 ⊢
  have D8 := Lib.hid (D7.out.setN (.int .i64 e2) (.string s2) (.slice a2 n2 c2) (.string sc2))
  have R8 := Lib.hid (R7.out.set4 HV.out (w.heap.size + 1 + 1) (by omega) (by omega) (.int .i64 e2) (.string s2) (.slice a2 n2 c2) (.string sc2))
  have x0 : w7.cell? ⟨w.heap.size + 1 + 1, 0, none⟩ = some (.int .i64 e1) := cell_of_heap D7.out.nx 0
  have x1 : w7.cell? ⟨w.heap.size + 1 + 1, 1, none⟩ = some (.string s1) := cell_of_heap D7.out.nx 1
  have x2 : w7.cell? ⟨w.heap.size + 1 + 1, 2, none⟩ = some (.slice a1 n1 c1) := cell_of_heap D7.out.nx 2
  have x3 : w7.cell? ⟨w.heap.size + 1 + 1, 3, none⟩ = some (.string sc1) := cell_of_heap D7.out.nx 3
  have fx0 := frozen_of_heap D7.out.nx 0
  have fx1 := frozen_of_heap D7.out.nx 1
  have fx2 := frozen_of_heap D7.out.nx 2
  have fx3 := frozen_of_heap D7.out.nx 3
  go_upto_region 18 with fail
  clear x0 fx0 x1 fx1 x2 fx2 x3 fx3 D7 R7
  generalize ((((w7).setCell ⟨w.heap.size + 1 + 1, 0, none⟩ (.int .i64 e2)).setCell ⟨w.heap.size + 1 + 1, 1, none⟩ (.string s2)).setCell ⟨w.heap.size + 1 + 1, 2, none⟩ (.slice a2 n2 c2)).setCell ⟨w.heap.size + 1 + 1, 3, none⟩ (.string sc2) = W8 at *
  have x0 : W8.cell? ⟨w.heap.size + 1 + 1, 0, none⟩ = some (.int .i64 e2) := cell_of_heap D8.out.nx 0
  have x1 : W8.cell? ⟨w.heap.size + 1 + 1, 1, none⟩ = some (.string s2) := cell_of_heap D8.out.nx 1
  have x2 : W8.cell? ⟨w.heap.size + 1 + 1, 2, none⟩ = some (.slice a2 n2 c2) := cell_of_heap D8.out.nx 2
  have x3 : W8.cell? ⟨w.heap.size + 1 + 1, 3, none⟩ = some (.string sc2) := cell_of_heap D8.out.nx 3
  have fx0 := frozen_of_heap D8.out.nx 0
  have fx1 := frozen_of_heap D8.out.nx 1
  have fx2 := frozen_of_heap D8.out.nx 2
  have fx3 := frozen_of_heap D8.out.nx 3
  have y0 : W8.cell? ⟨w.heap.size + 1 + 1 + 1, 0, none⟩ = some (.int .i64 0) := cell_of_heap D8.out.got 0
  have y1 : W8.cell? ⟨w.heap.size + 1 + 1 + 1, 1, none⟩ = some (.string ⟨#[]⟩) := cell_of_heap D8.out.got 1
  have y2 : W8.cell? ⟨w.heap.size + 1 + 1 + 1, 2, none⟩ = some (.slice none 0 0) := cell_of_heap D8.out.got 2
  have y3 : W8.cell? ⟨w.heap.size + 1 + 1 + 1, 3, none⟩ = some (.string ⟨#[]⟩) := cell_of_heap D8.out.got 3
  have fy0 := frozen_of_heap D8.out.got 0
  have fy1 := frozen_of_heap D8.out.got 1
  have fy2 := frozen_of_heap D8.out.got 2
  have fy3 := frozen_of_heap D8.out.got 3
  have A1 := Lib.hid (((D8.out.setN (.int .i64 e2) (.string s2) (.slice a2 n2 c2) (.string sc2)).setG (.int .i64 0) (.string ⟨#[]⟩) (.slice none 0 0) (.string ⟨#[]⟩)).later (Below.refl _ _).drew)
  have B1 := Lib.hid (((R8.out.set4 HV.out (w.heap.size + 1 + 1) (by omega) (by omega) (.int .i64 e2) (.string s2) (.slice a2 n2 c2) (.string sc2)).set4 HV.out (w.heap.size + 1 + 1 + 1) (by omega) (by omega) (.int .i64 0) (.string ⟨#[]⟩) (.slice none 0 0) (.string ⟨#[]⟩)).later (Below.refl _ _).drew)
  go_region
  all_goals
    go_wp2
    refine bodyPost_ret (v := .tuple #[.agg #[.int .i64 e2, .string s2, .slice a2 n2 c2, .string sc2], .int .i64 q, .string ⟨#[]⟩, .agg #[.int .i64 0, .string ⟨#[]⟩, .slice none 0 0, .string ⟨#[]⟩]]) (by simp [results, Tryz.results38, go_sem, x0, x1, x2, x3, y0, y1, y2, y3]) rfl ?_
    exact sam_fin (T := ⟨ep0, se, ls, sc⟩) HTE.out HQ.out.1 HQ.out.2.1 HQ.out.2.2 B1.out.row (RowK.nil _) B1.out.out A1.out.b
set_option maxRecDepth 100000 in
set_option maxHeartbeats 6400000 in
theorem same36_2 (ep0 : Int) (se sc : ByteArray) (a : Option Addr) (n c : Nat) (ls : List ByteArray) (kd : Nat) (num ep : Int) (who text : ByteArray) (w : World) (hs : RowK kStr w (.slice a n c) ls) (hown : ∀ k, (Value.slice a n c).ownBlock = some k → k < w.heap.size) (hsz : se.size ≤ 1000000 ∧ sc.size ≤ 1000000 ∧ ls.length ≤ 100000) (hkd : kd ≤ 255) (hw : who.size ≤ 9223372036854775807) (ht : text.size ≤ 9223372036854775807) (hj : kd % 8 = 2) :
    Calls Tryz.prog 38 #[.agg #[.int .i64 ep0, .string se, .slice a n c, .string sc], .agg #[.int .u8 kd, .int .i64 num, .int .i64 ep, .string who, .string text]] w (SamePost w (.slice a n c) ⟨ep0, se, ls, sc⟩ (shortU ⟨kd, num, ep, who, text⟩)) := by
  have D0 := Lib.hid (SU.start w #[.int .i64 ep0, .string se, .slice a n c, .string sc] #[.int .u8 kd, .int .i64 num, .int .i64 ep, .string who, .string text] #[.int .i64 0, .string ⟨#[]⟩, .slice none 0 0, .string ⟨#[]⟩] #[.int .i64 0, .string ⟨#[]⟩, .slice none 0 0, .string ⟨#[]⟩])
  have Hw := Lib.hid hw
  have Ht := Lib.hid ht
  have HZ0 := Lib.hid (inT_bounds (T := ⟨ep0, se, ls, sc⟩) (e := ep) hsz.1 hsz.2.1 hsz.2.2)
  have hj' : ((kd : Int)) % 8 = 2 := by omega
  have R0 : Hid (RU w w (.slice a n c) (.slice a n c) ls) := ⟨hs, fun k hk => .inl hk⟩
  have HV : Hid (∀ k, (Value.slice a n c).ownBlock = some k → k < w.heap.size) := hown
  have HU : Hid (∀ t, uOp (shortU ⟨kd, num, ep, who, text⟩) t = opAdd (cutU text 3000) t ∧ uLineT (shortU ⟨kd, num, ep, who, text⟩) t = ⟨#[]⟩ ∧ uGotT (shortU ⟨kd, num, ep, who, text⟩) t = zeroT) := fun t => by
    refine ⟨?_, if_neg (by unfold shortU; dsimp only; omega), if_neg (by unfold shortU; dsimp only; omega)⟩
    unfold uOp shortU
    simp [hj]
  clear hw ht hs hown hsz
  go_enter Tryz.func38, Tryz.ntmps38
  go_wp2_with fail
  generalize (((w.alloc (.cells #[.int .i64 ep0, .string se, .slice a n c, .string sc] 42)).alloc (.cells #[.int .u8 kd, .int .i64 num, .int .i64 ep, .string who, .string text] 23)).alloc (.cells #[.int .i64 0, .string ⟨#[]⟩, .slice none 0 0, .string ⟨#[]⟩] 42)).alloc (.cells #[.int .i64 0, .string ⟨#[]⟩, .slice none 0 0, .string ⟨#[]⟩] 42) = W0 at *
  refine (short36_any kd num ep who text _ Hw.out Ht.out).mono ?_
  rintro r w2 ⟨rfl, hb2⟩
  have D2 := Lib.hid (D0.out.later hb2)
  have D3 := Lib.hid (D2.out.setOp (.int .u8 kd) (.int .i64 num) (.int .i64 ep) (.string (cutU who 100)) (.string (cutU text 3000)))
  have R3 := Lib.hid (R0.out.later D3.out.b)
  clear hb2 D0 R0
  have o0 : w2.cell? ⟨w.heap.size + 1, 0, none⟩ = some (.int .u8 kd) := cell_of_heap D2.out.op 0
  have o1 : w2.cell? ⟨w.heap.size + 1, 1, none⟩ = some (.int .i64 num) := cell_of_heap D2.out.op 1
  have o2 : w2.cell? ⟨w.heap.size + 1, 2, none⟩ = some (.int .i64 ep) := cell_of_heap D2.out.op 2
  have o3 : w2.cell? ⟨w.heap.size + 1, 3, none⟩ = some (.string who) := cell_of_heap D2.out.op 3
  have o4 : w2.cell? ⟨w.heap.size + 1, 4, none⟩ = some (.string text) := cell_of_heap D2.out.op 4
  have fo0 := frozen_of_heap D2.out.op 0
  have fo1 := frozen_of_heap D2.out.op 1
  have fo2 := frozen_of_heap D2.out.op 2
  have fo3 := frozen_of_heap D2.out.op 3
  have fo4 := frozen_of_heap D2.out.op 4
  have t0 : w2.cell? ⟨w.heap.size, 0, none⟩ = some (.int .i64 ep0) := cell_of_heap D2.out.t 0
  have t1 : w2.cell? ⟨w.heap.size, 1, none⟩ = some (.string se) := cell_of_heap D2.out.t 1
  have t2 : w2.cell? ⟨w.heap.size, 2, none⟩ = some (.slice a n c) := cell_of_heap D2.out.t 2
  have t3 : w2.cell? ⟨w.heap.size, 3, none⟩ = some (.string sc) := cell_of_heap D2.out.t 3
  go_wp2_with fail
  clear o0 fo0 o1 fo1 o2 fo2 o3 fo3 o4 fo4 t0 t1 t2 t3 D2
  generalize (((((w2).setCell ⟨w.heap.size + 1, 0, none⟩ (.int .u8 kd)).setCell ⟨w.heap.size + 1, 1, none⟩ (.int .i64 num)).setCell ⟨w.heap.size + 1, 2, none⟩ (.int .i64 ep)).setCell ⟨w.heap.size + 1, 3, none⟩ (.string (cutU who 100))).setCell ⟨w.heap.size + 1, 4, none⟩ (.string (cutU text 3000)) = W3 at *
  refine (in36_is ep0 se sc a n c ls ep _ R3.out.row).mono ?_
  rintro r w4 ⟨a1, n1, c1, rfl, hrow, hown1, hb4⟩
  have D4 := Lib.hid (D3.out.later hb4)
  have R4 := Lib.hid (R3.out.new hb4 D3.out.lt hrow hown1)
  have HT : Hid (inT ⟨ep0, se, ls, sc⟩ ep = inT ⟨ep0, se, ls, sc⟩ ep) := rfl
  clear hrow hown1 hb4 D3 R3
  generalize HTe : inT ⟨ep0, se, ls, sc⟩ ep = T1 at HZ0 R4 HT ⊢
  obtain ⟨e1, s1, l1, sc1⟩ := T1
  have HTE := Lib.hid HTe
  dsimp only at HZ0 R4 ⊢
  have HZ := HZ0
  clear HTe HT HZ0
  have D6 := Lib.hid ((D4.out.setT (.int .i64 e1) (.string s1) (.slice a1 n1 c1) (.string sc1)).setN (.int .i64 e1) (.string s1) (.slice a1 n1 c1) (.string sc1))
  have R6 := Lib.hid ((R4.out.set4 HV.out w.heap.size (Nat.le_refl _) (by omega) (.int .i64 e1) (.string s1) (.slice a1 n1 c1) (.string sc1)).set4 HV.out (w.heap.size + 1 + 1) (by omega) (by omega) (.int .i64 e1) (.string s1) (.slice a1 n1 c1) (.string sc1))
  have o0 : w4.cell? ⟨w.heap.size + 1, 0, none⟩ = some (.int .u8 kd) := cell_of_heap D4.out.op 0
  have o1 : w4.cell? ⟨w.heap.size + 1, 1, none⟩ = some (.int .i64 num) := cell_of_heap D4.out.op 1
  have o2 : w4.cell? ⟨w.heap.size + 1, 2, none⟩ = some (.int .i64 ep) := cell_of_heap D4.out.op 2
  have o3 : w4.cell? ⟨w.heap.size + 1, 3, none⟩ = some (.string (cutU who 100)) := cell_of_heap D4.out.op 3
  have o4 : w4.cell? ⟨w.heap.size + 1, 4, none⟩ = some (.string (cutU text 3000)) := cell_of_heap D4.out.op 4
  have fo0 := frozen_of_heap D4.out.op 0
  have fo1 := frozen_of_heap D4.out.op 1
  have fo2 := frozen_of_heap D4.out.op 2
  have fo3 := frozen_of_heap D4.out.op 3
  have fo4 := frozen_of_heap D4.out.op 4
  have t0 : w4.cell? ⟨w.heap.size, 0, none⟩ = some (.int .i64 ep0) := cell_of_heap D4.out.t 0
  have t1 : w4.cell? ⟨w.heap.size, 1, none⟩ = some (.string se) := cell_of_heap D4.out.t 1
  have t2 : w4.cell? ⟨w.heap.size, 2, none⟩ = some (.slice a n c) := cell_of_heap D4.out.t 2
  have t3 : w4.cell? ⟨w.heap.size, 3, none⟩ = some (.string sc) := cell_of_heap D4.out.t 3
  have ft0 := frozen_of_heap D4.out.t 0
  have ft1 := frozen_of_heap D4.out.t 1
  have ft2 := frozen_of_heap D4.out.t 2
  have ft3 := frozen_of_heap D4.out.t 3
  have x0 : w4.cell? ⟨w.heap.size + 1 + 1, 0, none⟩ = some (.int .i64 0) := cell_of_heap D4.out.nx 0
  have x1 : w4.cell? ⟨w.heap.size + 1 + 1, 1, none⟩ = some (.string ⟨#[]⟩) := cell_of_heap D4.out.nx 1
  have x2 : w4.cell? ⟨w.heap.size + 1 + 1, 2, none⟩ = some (.slice none 0 0) := cell_of_heap D4.out.nx 2
  have x3 : w4.cell? ⟨w.heap.size + 1 + 1, 3, none⟩ = some (.string ⟨#[]⟩) := cell_of_heap D4.out.nx 3
  have fx0 := frozen_of_heap D4.out.nx 0
  have fx1 := frozen_of_heap D4.out.nx 1
  have fx2 := frozen_of_heap D4.out.nx 2
  have fx3 := frozen_of_heap D4.out.nx 3
  go_wp2_with fail
  clear o0 fo0 o1 fo1 o2 fo2 o3 fo3 o4 fo4 t0 ft0 t1 ft1 t2 ft2 t3 ft3 x0 fx0 x1 fx1 x2 fx2 x3 fx3 D4 R4
  generalize ((((((((w4).setCell ⟨w.heap.size, 0, none⟩ (.int .i64 e1)).setCell ⟨w.heap.size, 1, none⟩ (.string s1)).setCell ⟨w.heap.size, 2, none⟩ (.slice a1 n1 c1)).setCell ⟨w.heap.size, 3, none⟩ (.string sc1)).setCell ⟨w.heap.size + 1 + 1, 0, none⟩ (.int .i64 e1)).setCell ⟨w.heap.size + 1 + 1, 1, none⟩ (.string s1)).setCell ⟨w.heap.size + 1 + 1, 2, none⟩ (.slice a1 n1 c1)).setCell ⟨w.heap.size + 1 + 1, 3, none⟩ (.string sc1) = W6 at *
  refine (type36_any e1 s1 sc1 a1 n1 c1 l1 (cutU text 3000) _ R6.out.row (by have := cutU_size text 3000; omega) (Nat.le_trans HZ.out.2.1 (by decide)) (by rw [← R6.out.row.len]; exact HZ.out.2.2)).mono ?_
  rintro r w7 ⟨a2, n2, c2, rfl, hrow, hown2, hb7⟩
  have D7 := Lib.hid (D6.out.later hb7)
  have R7 := Lib.hid (R6.out.new hb7 D6.out.lt hrow hown2)
  clear hrow hown2 hb7 D6 R6
  have HQ := Lib.hid (HU.out ⟨e1, s1, l1, sc1⟩)
  clear HU
  generalize opAdd (cutU text 3000) ⟨e1, s1, l1, sc1⟩ = p at HQ R7 ⊢
  obtain ⟨⟨e2, s2, l2, sc2⟩, q⟩ := p
  dsimp only at R7 ⊢
  have D8 := Lib.hid (D7.out.setN (.int .i64 e2) (.string s2) (.slice a2 n2 c2) (.string sc2))
  have R8 := Lib.hid (R7.out.set4 HV.out (w.heap.size + 1 + 1) (by omega) (by omega) (.int .i64 e2) (.string s2) (.slice a2 n2 c2) (.string sc2))
  have x0 : w7.cell? ⟨w.heap.size + 1 + 1, 0, none⟩ = some (.int .i64 e1) := cell_of_heap D7.out.nx 0
  have x1 : w7.cell? ⟨w.heap.size + 1 + 1, 1, none⟩ = some (.string s1) := cell_of_heap D7.out.nx 1
  have x2 : w7.cell? ⟨w.heap.size + 1 + 1, 2, none⟩ = some (.slice a1 n1 c1) := cell_of_heap D7.out.nx 2
  have x3 : w7.cell? ⟨w.heap.size + 1 + 1, 3, none⟩ = some (.string sc1) := cell_of_heap D7.out.nx 3
  have fx0 := frozen_of_heap D7.out.nx 0
  have fx1 := frozen_of_heap D7.out.nx 1
  have fx2 := frozen_of_heap D7.out.nx 2
  have fx3 := frozen_of_heap D7.out.nx 3
  go_upto_region 18 with fail
  clear x0 fx0 x1 fx1 x2 fx2 x3 fx3 D7 R7
  generalize ((((w7).setCell ⟨w.heap.size + 1 + 1, 0, none⟩ (.int .i64 e2)).setCell ⟨w.heap.size + 1 + 1, 1, none⟩ (.string s2)).setCell ⟨w.heap.size + 1 + 1, 2, none⟩ (.slice a2 n2 c2)).setCell ⟨w.heap.size + 1 + 1, 3, none⟩ (.string sc2) = W8 at *
  have x0 : W8.cell? ⟨w.heap.size + 1 + 1, 0, none⟩ = some (.int .i64 e2) := cell_of_heap D8.out.nx 0
  have x1 : W8.cell? ⟨w.heap.size + 1 + 1, 1, none⟩ = some (.string s2) := cell_of_heap D8.out.nx 1
  have x2 : W8.cell? ⟨w.heap.size + 1 + 1, 2, none⟩ = some (.slice a2 n2 c2) := cell_of_heap D8.out.nx 2
  have x3 : W8.cell? ⟨w.heap.size + 1 + 1, 3, none⟩ = some (.string sc2) := cell_of_heap D8.out.nx 3
  have fx0 := frozen_of_heap D8.out.nx 0
  have fx1 := frozen_of_heap D8.out.nx 1
  have fx2 := frozen_of_heap D8.out.nx 2
  have fx3 := frozen_of_heap D8.out.nx 3
  have y0 : W8.cell? ⟨w.heap.size + 1 + 1 + 1, 0, none⟩ = some (.int .i64 0) := cell_of_heap D8.out.got 0
  have y1 : W8.cell? ⟨w.heap.size + 1 + 1 + 1, 1, none⟩ = some (.string ⟨#[]⟩) := cell_of_heap D8.out.got 1
  have y2 : W8.cell? ⟨w.heap.size + 1 + 1 + 1, 2, none⟩ = some (.slice none 0 0) := cell_of_heap D8.out.got 2
  have y3 : W8.cell? ⟨w.heap.size + 1 + 1 + 1, 3, none⟩ = some (.string ⟨#[]⟩) := cell_of_heap D8.out.got 3
  have fy0 := frozen_of_heap D8.out.got 0
  have fy1 := frozen_of_heap D8.out.got 1
  have fy2 := frozen_of_heap D8.out.got 2
  have fy3 := frozen_of_heap D8.out.got 3
  have A1 := Lib.hid (((D8.out.setN (.int .i64 e2) (.string s2) (.slice a2 n2 c2) (.string sc2)).setG (.int .i64 0) (.string ⟨#[]⟩) (.slice none 0 0) (.string ⟨#[]⟩)).later (Below.refl _ _).drew)
  have B1 := Lib.hid (((R8.out.set4 HV.out (w.heap.size + 1 + 1) (by omega) (by omega) (.int .i64 e2) (.string s2) (.slice a2 n2 c2) (.string sc2)).set4 HV.out (w.heap.size + 1 + 1 + 1) (by omega) (by omega) (.int .i64 0) (.string ⟨#[]⟩) (.slice none 0 0) (.string ⟨#[]⟩)).later (Below.refl _ _).drew)
  go_region
  all_goals
    go_wp2
    refine bodyPost_ret (v := .tuple #[.agg #[.int .i64 e2, .string s2, .slice a2 n2 c2, .string sc2], .int .i64 q, .string ⟨#[]⟩, .agg #[.int .i64 0, .string ⟨#[]⟩, .slice none 0 0, .string ⟨#[]⟩]]) (by simp [results, Tryz.results38, go_sem, x0, x1, x2, x3, y0, y1, y2, y3]) rfl ?_
    exact sam_fin (T := ⟨ep0, se, ls, sc⟩) HTE.out HQ.out.1 HQ.out.2.1 HQ.out.2.2 B1.out.row (RowK.nil _) B1.out.out A1.out.b
set_option maxRecDepth 100000 in
set_option maxHeartbeats 6400000 in
theorem same36_3 (ep0 : Int) (se sc : ByteArray) (a : Option Addr) (n c : Nat) (ls : List ByteArray) (kd : Nat) (num ep : Int) (who text : ByteArray) (w : World) (hs : RowK kStr w (.slice a n c) ls) (hown : ∀ k, (Value.slice a n c).ownBlock = some k → k < w.heap.size) (hsz : se.size ≤ 1000000 ∧ sc.size ≤ 1000000 ∧ ls.length ≤ 100000) (hkd : kd ≤ 255) (hw : who.size ≤ 9223372036854775807) (ht : text.size ≤ 9223372036854775807) (hj : kd % 8 = 3) :
    Calls Tryz.prog 38 #[.agg #[.int .i64 ep0, .string se, .slice a n c, .string sc], .agg #[.int .u8 kd, .int .i64 num, .int .i64 ep, .string who, .string text]] w (SamePost w (.slice a n c) ⟨ep0, se, ls, sc⟩ (shortU ⟨kd, num, ep, who, text⟩)) := by
  have D0 := Lib.hid (SU.start w #[.int .i64 ep0, .string se, .slice a n c, .string sc] #[.int .u8 kd, .int .i64 num, .int .i64 ep, .string who, .string text] #[.int .i64 0, .string ⟨#[]⟩, .slice none 0 0, .string ⟨#[]⟩] #[.int .i64 0, .string ⟨#[]⟩, .slice none 0 0, .string ⟨#[]⟩])
  have Hw := Lib.hid hw
  have Ht := Lib.hid ht
  have HZ0 := Lib.hid (inT_bounds (T := ⟨ep0, se, ls, sc⟩) (e := ep) hsz.1 hsz.2.1 hsz.2.2)
  have hj' : ((kd : Int)) % 8 = 3 := by omega
  have R0 : Hid (RU w w (.slice a n c) (.slice a n c) ls) := ⟨hs, fun k hk => .inl hk⟩
  have HV : Hid (∀ k, (Value.slice a n c).ownBlock = some k → k < w.heap.size) := hown
  have HU : Hid (∀ t, uOp (shortU ⟨kd, num, ep, who, text⟩) t = opAdd (cutU text 3000) t ∧ uLineT (shortU ⟨kd, num, ep, who, text⟩) t = ⟨#[]⟩ ∧ uGotT (shortU ⟨kd, num, ep, who, text⟩) t = zeroT) := fun t => by
    refine ⟨?_, if_neg (by unfold shortU; dsimp only; omega), if_neg (by unfold shortU; dsimp only; omega)⟩
    unfold uOp shortU
    simp [hj]
  clear hw ht hs hown hsz
  go_enter Tryz.func38, Tryz.ntmps38
  go_wp2_with fail
  generalize (((w.alloc (.cells #[.int .i64 ep0, .string se, .slice a n c, .string sc] 42)).alloc (.cells #[.int .u8 kd, .int .i64 num, .int .i64 ep, .string who, .string text] 23)).alloc (.cells #[.int .i64 0, .string ⟨#[]⟩, .slice none 0 0, .string ⟨#[]⟩] 42)).alloc (.cells #[.int .i64 0, .string ⟨#[]⟩, .slice none 0 0, .string ⟨#[]⟩] 42) = W0 at *
  refine (short36_any kd num ep who text _ Hw.out Ht.out).mono ?_
  rintro r w2 ⟨rfl, hb2⟩
  have D2 := Lib.hid (D0.out.later hb2)
  have D3 := Lib.hid (D2.out.setOp (.int .u8 kd) (.int .i64 num) (.int .i64 ep) (.string (cutU who 100)) (.string (cutU text 3000)))
  have R3 := Lib.hid (R0.out.later D3.out.b)
  clear hb2 D0 R0
  have o0 : w2.cell? ⟨w.heap.size + 1, 0, none⟩ = some (.int .u8 kd) := cell_of_heap D2.out.op 0
  have o1 : w2.cell? ⟨w.heap.size + 1, 1, none⟩ = some (.int .i64 num) := cell_of_heap D2.out.op 1
  have o2 : w2.cell? ⟨w.heap.size + 1, 2, none⟩ = some (.int .i64 ep) := cell_of_heap D2.out.op 2
  have o3 : w2.cell? ⟨w.heap.size + 1, 3, none⟩ = some (.string who) := cell_of_heap D2.out.op 3
  have o4 : w2.cell? ⟨w.heap.size + 1, 4, none⟩ = some (.string text) := cell_of_heap D2.out.op 4
  have fo0 := frozen_of_heap D2.out.op 0
  have fo1 := frozen_of_heap D2.out.op 1
  have fo2 := frozen_of_heap D2.out.op 2
  have fo3 := frozen_of_heap D2.out.op 3
  have fo4 := frozen_of_heap D2.out.op 4
  have t0 : w2.cell? ⟨w.heap.size, 0, none⟩ = some (.int .i64 ep0) := cell_of_heap D2.out.t 0
  have t1 : w2.cell? ⟨w.heap.size, 1, none⟩ = some (.string se) := cell_of_heap D2.out.t 1
  have t2 : w2.cell? ⟨w.heap.size, 2, none⟩ = some (.slice a n c) := cell_of_heap D2.out.t 2
  have t3 : w2.cell? ⟨w.heap.size, 3, none⟩ = some (.string sc) := cell_of_heap D2.out.t 3
  go_wp2_with fail
  clear o0 fo0 o1 fo1 o2 fo2 o3 fo3 o4 fo4 t0 t1 t2 t3 D2
  generalize (((((w2).setCell ⟨w.heap.size + 1, 0, none⟩ (.int .u8 kd)).setCell ⟨w.heap.size + 1, 1, none⟩ (.int .i64 num)).setCell ⟨w.heap.size + 1, 2, none⟩ (.int .i64 ep)).setCell ⟨w.heap.size + 1, 3, none⟩ (.string (cutU who 100))).setCell ⟨w.heap.size + 1, 4, none⟩ (.string (cutU text 3000)) = W3 at *
  refine (in36_is ep0 se sc a n c ls ep _ R3.out.row).mono ?_
  rintro r w4 ⟨a1, n1, c1, rfl, hrow, hown1, hb4⟩
  have D4 := Lib.hid (D3.out.later hb4)
  have R4 := Lib.hid (R3.out.new hb4 D3.out.lt hrow hown1)
  have HT : Hid (inT ⟨ep0, se, ls, sc⟩ ep = inT ⟨ep0, se, ls, sc⟩ ep) := rfl
  clear hrow hown1 hb4 D3 R3
  generalize HTe : inT ⟨ep0, se, ls, sc⟩ ep = T1 at HZ0 R4 HT ⊢
  obtain ⟨e1, s1, l1, sc1⟩ := T1
  have HTE := Lib.hid HTe
  dsimp only at HZ0 R4 ⊢
  have HZ := HZ0
  clear HTe HT HZ0
  have D6 := Lib.hid ((D4.out.setT (.int .i64 e1) (.string s1) (.slice a1 n1 c1) (.string sc1)).setN (.int .i64 e1) (.string s1) (.slice a1 n1 c1) (.string sc1))
  have R6 := Lib.hid ((R4.out.set4 HV.out w.heap.size (Nat.le_refl _) (by omega) (.int .i64 e1) (.string s1) (.slice a1 n1 c1) (.string sc1)).set4 HV.out (w.heap.size + 1 + 1) (by omega) (by omega) (.int .i64 e1) (.string s1) (.slice a1 n1 c1) (.string sc1))
  have o0 : w4.cell? ⟨w.heap.size + 1, 0, none⟩ = some (.int .u8 kd) := cell_of_heap D4.out.op 0
  have o1 : w4.cell? ⟨w.heap.size + 1, 1, none⟩ = some (.int .i64 num) := cell_of_heap D4.out.op 1
  have o2 : w4.cell? ⟨w.heap.size + 1, 2, none⟩ = some (.int .i64 ep) := cell_of_heap D4.out.op 2
  have o3 : w4.cell? ⟨w.heap.size + 1, 3, none⟩ = some (.string (cutU who 100)) := cell_of_heap D4.out.op 3
  have o4 : w4.cell? ⟨w.heap.size + 1, 4, none⟩ = some (.string (cutU text 3000)) := cell_of_heap D4.out.op 4
  have fo0 := frozen_of_heap D4.out.op 0
  have fo1 := frozen_of_heap D4.out.op 1
  have fo2 := frozen_of_heap D4.out.op 2
  have fo3 := frozen_of_heap D4.out.op 3
  have fo4 := frozen_of_heap D4.out.op 4
  have t0 : w4.cell? ⟨w.heap.size, 0, none⟩ = some (.int .i64 ep0) := cell_of_heap D4.out.t 0
  have t1 : w4.cell? ⟨w.heap.size, 1, none⟩ = some (.string se) := cell_of_heap D4.out.t 1
  have t2 : w4.cell? ⟨w.heap.size, 2, none⟩ = some (.slice a n c) := cell_of_heap D4.out.t 2
  have t3 : w4.cell? ⟨w.heap.size, 3, none⟩ = some (.string sc) := cell_of_heap D4.out.t 3
  have ft0 := frozen_of_heap D4.out.t 0
  have ft1 := frozen_of_heap D4.out.t 1
  have ft2 := frozen_of_heap D4.out.t 2
  have ft3 := frozen_of_heap D4.out.t 3
  have x0 : w4.cell? ⟨w.heap.size + 1 + 1, 0, none⟩ = some (.int .i64 0) := cell_of_heap D4.out.nx 0
  have x1 : w4.cell? ⟨w.heap.size + 1 + 1, 1, none⟩ = some (.string ⟨#[]⟩) := cell_of_heap D4.out.nx 1
  have x2 : w4.cell? ⟨w.heap.size + 1 + 1, 2, none⟩ = some (.slice none 0 0) := cell_of_heap D4.out.nx 2
  have x3 : w4.cell? ⟨w.heap.size + 1 + 1, 3, none⟩ = some (.string ⟨#[]⟩) := cell_of_heap D4.out.nx 3
  have fx0 := frozen_of_heap D4.out.nx 0
  have fx1 := frozen_of_heap D4.out.nx 1
  have fx2 := frozen_of_heap D4.out.nx 2
  have fx3 := frozen_of_heap D4.out.nx 3
  go_wp2_with fail
  clear o0 fo0 o1 fo1 o2 fo2 o3 fo3 o4 fo4 t0 ft0 t1 ft1 t2 ft2 t3 ft3 x0 fx0 x1 fx1 x2 fx2 x3 fx3 D4 R4
  generalize ((((((((w4).setCell ⟨w.heap.size, 0, none⟩ (.int .i64 e1)).setCell ⟨w.heap.size, 1, none⟩ (.string s1)).setCell ⟨w.heap.size, 2, none⟩ (.slice a1 n1 c1)).setCell ⟨w.heap.size, 3, none⟩ (.string sc1)).setCell ⟨w.heap.size + 1 + 1, 0, none⟩ (.int .i64 e1)).setCell ⟨w.heap.size + 1 + 1, 1, none⟩ (.string s1)).setCell ⟨w.heap.size + 1 + 1, 2, none⟩ (.slice a1 n1 c1)).setCell ⟨w.heap.size + 1 + 1, 3, none⟩ (.string sc1) = W6 at *
  refine (type36_any e1 s1 sc1 a1 n1 c1 l1 (cutU text 3000) _ R6.out.row (by have := cutU_size text 3000; omega) (Nat.le_trans HZ.out.2.1 (by decide)) (by rw [← R6.out.row.len]; exact HZ.out.2.2)).mono ?_
  rintro r w7 ⟨a2, n2, c2, rfl, hrow, hown2, hb7⟩
  have D7 := Lib.hid (D6.out.later hb7)
  have R7 := Lib.hid (R6.out.new hb7 D6.out.lt hrow hown2)
  clear hrow hown2 hb7 D6 R6
  have HQ := Lib.hid (HU.out ⟨e1, s1, l1, sc1⟩)
  clear HU
  generalize opAdd (cutU text 3000) ⟨e1, s1, l1, sc1⟩ = p at HQ R7 ⊢
  obtain ⟨⟨e2, s2, l2, sc2⟩, q⟩ := p
  dsimp only at R7 ⊢
  have D8 := Lib.hid (D7.out.setN (.int .i64 e2) (.string s2) (.slice a2 n2 c2) (.string sc2))
  have R8 := Lib.hid (R7.out.set4 HV.out (w.heap.size + 1 + 1) (by omega) (by omega) (.int .i64 e2) (.string s2) (.slice a2 n2 c2) (.string sc2))
  have x0 : w7.cell? ⟨w.heap.size + 1 + 1, 0, none⟩ = some (.int .i64 e1) := cell_of_heap D7.out.nx 0
  have x1 : w7.cell? ⟨w.heap.size + 1 + 1, 1, none⟩ = some (.string s1) := cell_of_heap D7.out.nx 1
  have x2 : w7.cell? ⟨w.heap.size + 1 + 1, 2, none⟩ = some (.slice a1 n1 c1) := cell_of_heap D7.out.nx 2
  have x3 : w7.cell? ⟨w.heap.size + 1 + 1, 3, none⟩ = some (.string sc1) := cell_of_heap D7.out.nx 3
  have fx0 := frozen_of_heap D7.out.nx 0
  have fx1 := frozen_of_heap D7.out.nx 1
  have fx2 := frozen_of_heap D7.out.nx 2
  have fx3 := frozen_of_heap D7.out.nx 3
  go_upto_region 18 with fail
  clear x0 fx0 x1 fx1 x2 fx2 x3 fx3 D7 R7
  generalize ((((w7).setCell ⟨w.heap.size + 1 + 1, 0, none⟩ (.int .i64 e2)).setCell ⟨w.heap.size + 1 + 1, 1, none⟩ (.string s2)).setCell ⟨w.heap.size + 1 + 1, 2, none⟩ (.slice a2 n2 c2)).setCell ⟨w.heap.size + 1 + 1, 3, none⟩ (.string sc2) = W8 at *
  have x0 : W8.cell? ⟨w.heap.size + 1 + 1, 0, none⟩ = some (.int .i64 e2) := cell_of_heap D8.out.nx 0
  have x1 : W8.cell? ⟨w.heap.size + 1 + 1, 1, none⟩ = some (.string s2) := cell_of_heap D8.out.nx 1
  have x2 : W8.cell? ⟨w.heap.size + 1 + 1, 2, none⟩ = some (.slice a2 n2 c2) := cell_of_heap D8.out.nx 2
  have x3 : W8.cell? ⟨w.heap.size + 1 + 1, 3, none⟩ = some (.string sc2) := cell_of_heap D8.out.nx 3
  have fx0 := frozen_of_heap D8.out.nx 0
  have fx1 := frozen_of_heap D8.out.nx 1
  have fx2 := frozen_of_heap D8.out.nx 2
  have fx3 := frozen_of_heap D8.out.nx 3
  have y0 : W8.cell? ⟨w.heap.size + 1 + 1 + 1, 0, none⟩ = some (.int .i64 0) := cell_of_heap D8.out.got 0
  have y1 : W8.cell? ⟨w.heap.size + 1 + 1 + 1, 1, none⟩ = some (.string ⟨#[]⟩) := cell_of_heap D8.out.got 1
  have y2 : W8.cell? ⟨w.heap.size + 1 + 1 + 1, 2, none⟩ = some (.slice none 0 0) := cell_of_heap D8.out.got 2
  have y3 : W8.cell? ⟨w.heap.size + 1 + 1 + 1, 3, none⟩ = some (.string ⟨#[]⟩) := cell_of_heap D8.out.got 3
  have fy0 := frozen_of_heap D8.out.got 0
  have fy1 := frozen_of_heap D8.out.got 1
  have fy2 := frozen_of_heap D8.out.got 2
  have fy3 := frozen_of_heap D8.out.got 3
  have A1 := Lib.hid (((D8.out.setN (.int .i64 e2) (.string s2) (.slice a2 n2 c2) (.string sc2)).setG (.int .i64 0) (.string ⟨#[]⟩) (.slice none 0 0) (.string ⟨#[]⟩)).later (Below.refl _ _).drew)
  have B1 := Lib.hid (((R8.out.set4 HV.out (w.heap.size + 1 + 1) (by omega) (by omega) (.int .i64 e2) (.string s2) (.slice a2 n2 c2) (.string sc2)).set4 HV.out (w.heap.size + 1 + 1 + 1) (by omega) (by omega) (.int .i64 0) (.string ⟨#[]⟩) (.slice none 0 0) (.string ⟨#[]⟩)).later (Below.refl _ _).drew)
  go_region
  all_goals
    go_wp2
    refine bodyPost_ret (v := .tuple #[.agg #[.int .i64 e2, .string s2, .slice a2 n2 c2, .string sc2], .int .i64 q, .string ⟨#[]⟩, .agg #[.int .i64 0, .string ⟨#[]⟩, .slice none 0 0, .string ⟨#[]⟩]]) (by simp [results, Tryz.results38, go_sem, x0, x1, x2, x3, y0, y1, y2, y3]) rfl ?_
    exact sam_fin (T := ⟨ep0, se, ls, sc⟩) HTE.out HQ.out.1 HQ.out.2.1 HQ.out.2.2 B1.out.row (RowK.nil _) B1.out.out A1.out.b
set_option maxRecDepth 100000 in
set_option maxHeartbeats 6400000 in
theorem same36_4 (ep0 : Int) (se sc : ByteArray) (a : Option Addr) (n c : Nat) (ls : List ByteArray) (kd : Nat) (num ep : Int) (who text : ByteArray) (w : World) (hs : RowK kStr w (.slice a n c) ls) (hown : ∀ k, (Value.slice a n c).ownBlock = some k → k < w.heap.size) (hsz : se.size ≤ 1000000 ∧ sc.size ≤ 1000000 ∧ ls.length ≤ 100000) (hkd : kd ≤ 255) (hw : who.size ≤ 9223372036854775807) (ht : text.size ≤ 9223372036854775807) (hj : kd % 8 = 4) :
    Calls Tryz.prog 38 #[.agg #[.int .i64 ep0, .string se, .slice a n c, .string sc], .agg #[.int .u8 kd, .int .i64 num, .int .i64 ep, .string who, .string text]] w (SamePost w (.slice a n c) ⟨ep0, se, ls, sc⟩ (shortU ⟨kd, num, ep, who, text⟩)) := by
  have D0 := Lib.hid (SU.start w #[.int .i64 ep0, .string se, .slice a n c, .string sc] #[.int .u8 kd, .int .i64 num, .int .i64 ep, .string who, .string text] #[.int .i64 0, .string ⟨#[]⟩, .slice none 0 0, .string ⟨#[]⟩] #[.int .i64 0, .string ⟨#[]⟩, .slice none 0 0, .string ⟨#[]⟩])
  have Hw := Lib.hid hw
  have Ht := Lib.hid ht
  have HZ0 := Lib.hid (inT_bounds (T := ⟨ep0, se, ls, sc⟩) (e := ep) hsz.1 hsz.2.1 hsz.2.2)
  have hj' : ((kd : Int)) % 8 = 4 := by omega
  have R0 : Hid (RU w w (.slice a n c) (.slice a n c) ls) := ⟨hs, fun k hk => .inl hk⟩
  have HV : Hid (∀ k, (Value.slice a n c).ownBlock = some k → k < w.heap.size) := hown
  have HU : Hid (∀ t, uOp (shortU ⟨kd, num, ep, who, text⟩) t = opTake (cutU who 100) t ∧ uLineT (shortU ⟨kd, num, ep, who, text⟩) t = readL (cutU who 100) t ∧ uGotT (shortU ⟨kd, num, ep, who, text⟩) t = zeroT) := fun t => by
    refine ⟨?_, if_pos (by unfold shortU; dsimp only; omega), if_neg (by unfold shortU; dsimp only; omega)⟩
    unfold uOp shortU
    simp [hj]
  clear hw ht hs hown hsz
  go_enter Tryz.func38, Tryz.ntmps38
  go_wp2_with fail
  generalize (((w.alloc (.cells #[.int .i64 ep0, .string se, .slice a n c, .string sc] 42)).alloc (.cells #[.int .u8 kd, .int .i64 num, .int .i64 ep, .string who, .string text] 23)).alloc (.cells #[.int .i64 0, .string ⟨#[]⟩, .slice none 0 0, .string ⟨#[]⟩] 42)).alloc (.cells #[.int .i64 0, .string ⟨#[]⟩, .slice none 0 0, .string ⟨#[]⟩] 42) = W0 at *
  refine (short36_any kd num ep who text _ Hw.out Ht.out).mono ?_
  rintro r w2 ⟨rfl, hb2⟩
  have D2 := Lib.hid (D0.out.later hb2)
  have D3 := Lib.hid (D2.out.setOp (.int .u8 kd) (.int .i64 num) (.int .i64 ep) (.string (cutU who 100)) (.string (cutU text 3000)))
  have R3 := Lib.hid (R0.out.later D3.out.b)
  clear hb2 D0 R0
  have o0 : w2.cell? ⟨w.heap.size + 1, 0, none⟩ = some (.int .u8 kd) := cell_of_heap D2.out.op 0
  have o1 : w2.cell? ⟨w.heap.size + 1, 1, none⟩ = some (.int .i64 num) := cell_of_heap D2.out.op 1
  have o2 : w2.cell? ⟨w.heap.size + 1, 2, none⟩ = some (.int .i64 ep) := cell_of_heap D2.out.op 2
  have o3 : w2.cell? ⟨w.heap.size + 1, 3, none⟩ = some (.string who) := cell_of_heap D2.out.op 3
  have o4 : w2.cell? ⟨w.heap.size + 1, 4, none⟩ = some (.string text) := cell_of_heap D2.out.op 4
  have fo0 := frozen_of_heap D2.out.op 0
  have fo1 := frozen_of_heap D2.out.op 1
  have fo2 := frozen_of_heap D2.out.op 2
  have fo3 := frozen_of_heap D2.out.op 3
  have fo4 := frozen_of_heap D2.out.op 4
  have t0 : w2.cell? ⟨w.heap.size, 0, none⟩ = some (.int .i64 ep0) := cell_of_heap D2.out.t 0
  have t1 : w2.cell? ⟨w.heap.size, 1, none⟩ = some (.string se) := cell_of_heap D2.out.t 1
  have t2 : w2.cell? ⟨w.heap.size, 2, none⟩ = some (.slice a n c) := cell_of_heap D2.out.t 2
  have t3 : w2.cell? ⟨w.heap.size, 3, none⟩ = some (.string sc) := cell_of_heap D2.out.t 3
  go_wp2_with fail
  clear o0 fo0 o1 fo1 o2 fo2 o3 fo3 o4 fo4 t0 t1 t2 t3 D2
  generalize (((((w2).setCell ⟨w.heap.size + 1, 0, none⟩ (.int .u8 kd)).setCell ⟨w.heap.size + 1, 1, none⟩ (.int .i64 num)).setCell ⟨w.heap.size + 1, 2, none⟩ (.int .i64 ep)).setCell ⟨w.heap.size + 1, 3, none⟩ (.string (cutU who 100))).setCell ⟨w.heap.size + 1, 4, none⟩ (.string (cutU text 3000)) = W3 at *
  refine (in36_is ep0 se sc a n c ls ep _ R3.out.row).mono ?_
  rintro r w4 ⟨a1, n1, c1, rfl, hrow, hown1, hb4⟩
  have D4 := Lib.hid (D3.out.later hb4)
  have R4 := Lib.hid (R3.out.new hb4 D3.out.lt hrow hown1)
  have HT : Hid (inT ⟨ep0, se, ls, sc⟩ ep = inT ⟨ep0, se, ls, sc⟩ ep) := rfl
  clear hrow hown1 hb4 D3 R3
  generalize HTe : inT ⟨ep0, se, ls, sc⟩ ep = T1 at HZ0 R4 HT ⊢
  obtain ⟨e1, s1, l1, sc1⟩ := T1
  have HTE := Lib.hid HTe
  dsimp only at HZ0 R4 ⊢
  have HZ := HZ0
  clear HTe HT HZ0
  have D6 := Lib.hid ((D4.out.setT (.int .i64 e1) (.string s1) (.slice a1 n1 c1) (.string sc1)).setN (.int .i64 e1) (.string s1) (.slice a1 n1 c1) (.string sc1))
  have R6 := Lib.hid ((R4.out.set4 HV.out w.heap.size (Nat.le_refl _) (by omega) (.int .i64 e1) (.string s1) (.slice a1 n1 c1) (.string sc1)).set4 HV.out (w.heap.size + 1 + 1) (by omega) (by omega) (.int .i64 e1) (.string s1) (.slice a1 n1 c1) (.string sc1))
  have o0 : w4.cell? ⟨w.heap.size + 1, 0, none⟩ = some (.int .u8 kd) := cell_of_heap D4.out.op 0
  have o1 : w4.cell? ⟨w.heap.size + 1, 1, none⟩ = some (.int .i64 num) := cell_of_heap D4.out.op 1
  have o2 : w4.cell? ⟨w.heap.size + 1, 2, none⟩ = some (.int .i64 ep) := cell_of_heap D4.out.op 2
  have o3 : w4.cell? ⟨w.heap.size + 1, 3, none⟩ = some (.string (cutU who 100)) := cell_of_heap D4.out.op 3
  have o4 : w4.cell? ⟨w.heap.size + 1, 4, none⟩ = some (.string (cutU text 3000)) := cell_of_heap D4.out.op 4
  have fo0 := frozen_of_heap D4.out.op 0
  have fo1 := frozen_of_heap D4.out.op 1
  have fo2 := frozen_of_heap D4.out.op 2
  have fo3 := frozen_of_heap D4.out.op 3
  have fo4 := frozen_of_heap D4.out.op 4
  have t0 : w4.cell? ⟨w.heap.size, 0, none⟩ = some (.int .i64 ep0) := cell_of_heap D4.out.t 0
  have t1 : w4.cell? ⟨w.heap.size, 1, none⟩ = some (.string se) := cell_of_heap D4.out.t 1
  have t2 : w4.cell? ⟨w.heap.size, 2, none⟩ = some (.slice a n c) := cell_of_heap D4.out.t 2
  have t3 : w4.cell? ⟨w.heap.size, 3, none⟩ = some (.string sc) := cell_of_heap D4.out.t 3
  have ft0 := frozen_of_heap D4.out.t 0
  have ft1 := frozen_of_heap D4.out.t 1
  have ft2 := frozen_of_heap D4.out.t 2
  have ft3 := frozen_of_heap D4.out.t 3
  have x0 : w4.cell? ⟨w.heap.size + 1 + 1, 0, none⟩ = some (.int .i64 0) := cell_of_heap D4.out.nx 0
  have x1 : w4.cell? ⟨w.heap.size + 1 + 1, 1, none⟩ = some (.string ⟨#[]⟩) := cell_of_heap D4.out.nx 1
  have x2 : w4.cell? ⟨w.heap.size + 1 + 1, 2, none⟩ = some (.slice none 0 0) := cell_of_heap D4.out.nx 2
  have x3 : w4.cell? ⟨w.heap.size + 1 + 1, 3, none⟩ = some (.string ⟨#[]⟩) := cell_of_heap D4.out.nx 3
  have fx0 := frozen_of_heap D4.out.nx 0
  have fx1 := frozen_of_heap D4.out.nx 1
  have fx2 := frozen_of_heap D4.out.nx 2
  have fx3 := frozen_of_heap D4.out.nx 3
  go_wp2_with fail
  clear o0 fo0 o1 fo1 o2 fo2 o3 fo3 o4 fo4 t0 ft0 t1 ft1 t2 ft2 t3 ft3 x0 fx0 x1 fx1 x2 fx2 x3 fx3 D4 R4
  generalize ((((((((w4).setCell ⟨w.heap.size, 0, none⟩ (.int .i64 e1)).setCell ⟨w.heap.size, 1, none⟩ (.string s1)).setCell ⟨w.heap.size, 2, none⟩ (.slice a1 n1 c1)).setCell ⟨w.heap.size, 3, none⟩ (.string sc1)).setCell ⟨w.heap.size + 1 + 1, 0, none⟩ (.int .i64 e1)).setCell ⟨w.heap.size + 1 + 1, 1, none⟩ (.string s1)).setCell ⟨w.heap.size + 1 + 1, 2, none⟩ (.slice a1 n1 c1)).setCell ⟨w.heap.size + 1 + 1, 3, none⟩ (.string sc1) = W6 at *
  refine (read36_any e1 s1 sc1 a1 n1 c1 l1 (cutU who 100) _ R6.out.row (by have := cutU_size who 100; omega) (Nat.le_trans HZ.out.1 (by decide))).mono ?_
  rintro r w7 ⟨a2, n2, c2, rfl, hrow, hown2, hb7⟩
  have D7 := Lib.hid (D6.out.later hb7)
  have R7 := Lib.hid (R6.out.new hb7 D6.out.lt hrow hown2)
  clear hrow hown2 hb7 D6 R6
  have HQ := Lib.hid (HU.out ⟨e1, s1, l1, sc1⟩)
  clear HU
  generalize readL (cutU who 100) ⟨e1, s1, l1, sc1⟩ = ln at *
  generalize opTake (cutU who 100) ⟨e1, s1, l1, sc1⟩ = p at HQ R7 ⊢
  obtain ⟨⟨e2, s2, l2, sc2⟩, q⟩ := p
  dsimp only at R7 ⊢
  have D8 := Lib.hid (D7.out.setN (.int .i64 e2) (.string s2) (.slice a2 n2 c2) (.string sc2))
  have R8 := Lib.hid (R7.out.set4 HV.out (w.heap.size + 1 + 1) (by omega) (by omega) (.int .i64 e2) (.string s2) (.slice a2 n2 c2) (.string sc2))
  have x0 : w7.cell? ⟨w.heap.size + 1 + 1, 0, none⟩ = some (.int .i64 e1) := cell_of_heap D7.out.nx 0
  have x1 : w7.cell? ⟨w.heap.size + 1 + 1, 1, none⟩ = some (.string s1) := cell_of_heap D7.out.nx 1
  have x2 : w7.cell? ⟨w.heap.size + 1 + 1, 2, none⟩ = some (.slice a1 n1 c1) := cell_of_heap D7.out.nx 2
  have x3 : w7.cell? ⟨w.heap.size + 1 + 1, 3, none⟩ = some (.string sc1) := cell_of_heap D7.out.nx 3
  have fx0 := frozen_of_heap D7.out.nx 0
  have fx1 := frozen_of_heap D7.out.nx 1
  have fx2 := frozen_of_heap D7.out.nx 2
  have fx3 := frozen_of_heap D7.out.nx 3
  go_upto_region 18 with fail
  clear x0 fx0 x1 fx1 x2 fx2 x3 fx3 D7 R7
  generalize ((((w7).setCell ⟨w.heap.size + 1 + 1, 0, none⟩ (.int .i64 e2)).setCell ⟨w.heap.size + 1 + 1, 1, none⟩ (.string s2)).setCell ⟨w.heap.size + 1 + 1, 2, none⟩ (.slice a2 n2 c2)).setCell ⟨w.heap.size + 1 + 1, 3, none⟩ (.string sc2) = W8 at *
  have x0 : W8.cell? ⟨w.heap.size + 1 + 1, 0, none⟩ = some (.int .i64 e2) := cell_of_heap D8.out.nx 0
  have x1 : W8.cell? ⟨w.heap.size + 1 + 1, 1, none⟩ = some (.string s2) := cell_of_heap D8.out.nx 1
  have x2 : W8.cell? ⟨w.heap.size + 1 + 1, 2, none⟩ = some (.slice a2 n2 c2) := cell_of_heap D8.out.nx 2
  have x3 : W8.cell? ⟨w.heap.size + 1 + 1, 3, none⟩ = some (.string sc2) := cell_of_heap D8.out.nx 3
  have fx0 := frozen_of_heap D8.out.nx 0
  have fx1 := frozen_of_heap D8.out.nx 1
  have fx2 := frozen_of_heap D8.out.nx 2
  have fx3 := frozen_of_heap D8.out.nx 3
  have y0 : W8.cell? ⟨w.heap.size + 1 + 1 + 1, 0, none⟩ = some (.int .i64 0) := cell_of_heap D8.out.got 0
  have y1 : W8.cell? ⟨w.heap.size + 1 + 1 + 1, 1, none⟩ = some (.string ⟨#[]⟩) := cell_of_heap D8.out.got 1
  have y2 : W8.cell? ⟨w.heap.size + 1 + 1 + 1, 2, none⟩ = some (.slice none 0 0) := cell_of_heap D8.out.got 2
  have y3 : W8.cell? ⟨w.heap.size + 1 + 1 + 1, 3, none⟩ = some (.string ⟨#[]⟩) := cell_of_heap D8.out.got 3
  have fy0 := frozen_of_heap D8.out.got 0
  have fy1 := frozen_of_heap D8.out.got 1
  have fy2 := frozen_of_heap D8.out.got 2
  have fy3 := frozen_of_heap D8.out.got 3
  have A1 := Lib.hid (((D8.out.setN (.int .i64 e2) (.string s2) (.slice a2 n2 c2) (.string sc2)).setG (.int .i64 0) (.string ⟨#[]⟩) (.slice none 0 0) (.string ⟨#[]⟩)).later (Below.refl _ _).drew)
  have B1 := Lib.hid (((R8.out.set4 HV.out (w.heap.size + 1 + 1) (by omega) (by omega) (.int .i64 e2) (.string s2) (.slice a2 n2 c2) (.string sc2)).set4 HV.out (w.heap.size + 1 + 1 + 1) (by omega) (by omega) (.int .i64 0) (.string ⟨#[]⟩) (.slice none 0 0) (.string ⟨#[]⟩)).later (Below.refl _ _).drew)
  go_region
  all_goals
    go_wp2
    refine bodyPost_ret (v := .tuple #[.agg #[.int .i64 e2, .string s2, .slice a2 n2 c2, .string sc2], .int .i64 q, .string ln, .agg #[.int .i64 0, .string ⟨#[]⟩, .slice none 0 0, .string ⟨#[]⟩]]) (by simp [results, Tryz.results38, go_sem, x0, x1, x2, x3, y0, y1, y2, y3]) rfl ?_
    exact sam_fin (T := ⟨ep0, se, ls, sc⟩) HTE.out HQ.out.1 HQ.out.2.1 HQ.out.2.2 B1.out.row (RowK.nil _) B1.out.out A1.out.b
set_option maxRecDepth 100000 in
set_option maxHeartbeats 6400000 in
theorem same36_5 (ep0 : Int) (se sc : ByteArray) (a : Option Addr) (n c : Nat) (ls : List ByteArray) (kd : Nat) (num ep : Int) (who text : ByteArray) (w : World) (hs : RowK kStr w (.slice a n c) ls) (hown : ∀ k, (Value.slice a n c).ownBlock = some k → k < w.heap.size) (hsz : se.size ≤ 1000000 ∧ sc.size ≤ 1000000 ∧ ls.length ≤ 100000) (hkd : kd ≤ 255) (hw : who.size ≤ 9223372036854775807) (ht : text.size ≤ 9223372036854775807) (hj : kd % 8 = 5) :
    Calls Tryz.prog 38 #[.agg #[.int .i64 ep0, .string se, .slice a n c, .string sc], .agg #[.int .u8 kd, .int .i64 num, .int .i64 ep, .string who, .string text]] w (SamePost w (.slice a n c) ⟨ep0, se, ls, sc⟩ (shortU ⟨kd, num, ep, who, text⟩)) := by
  have D0 := Lib.hid (SU.start w #[.int .i64 ep0, .string se, .slice a n c, .string sc] #[.int .u8 kd, .int .i64 num, .int .i64 ep, .string who, .string text] #[.int .i64 0, .string ⟨#[]⟩, .slice none 0 0, .string ⟨#[]⟩] #[.int .i64 0, .string ⟨#[]⟩, .slice none 0 0, .string ⟨#[]⟩])
  have Hw := Lib.hid hw
  have Ht := Lib.hid ht
  have HZ0 := Lib.hid (inT_bounds (T := ⟨ep0, se, ls, sc⟩) (e := ep) hsz.1 hsz.2.1 hsz.2.2)
  have hj' : ((kd : Int)) % 8 = 5 := by omega
  have R0 : Hid (RU w w (.slice a n c) (.slice a n c) ls) := ⟨hs, fun k hk => .inl hk⟩
  have HV : Hid (∀ k, (Value.slice a n c).ownBlock = some k → k < w.heap.size) := hown
  have HU : Hid (∀ t, uOp (shortU ⟨kd, num, ep, who, text⟩) t = opTake (cutU who 100) t ∧ uLineT (shortU ⟨kd, num, ep, who, text⟩) t = readL (cutU who 100) t ∧ uGotT (shortU ⟨kd, num, ep, who, text⟩) t = zeroT) := fun t => by
    refine ⟨?_, if_pos (by unfold shortU; dsimp only; omega), if_neg (by unfold shortU; dsimp only; omega)⟩
    unfold uOp shortU
    simp [hj]
  clear hw ht hs hown hsz
  go_enter Tryz.func38, Tryz.ntmps38
  go_wp2_with fail
  generalize (((w.alloc (.cells #[.int .i64 ep0, .string se, .slice a n c, .string sc] 42)).alloc (.cells #[.int .u8 kd, .int .i64 num, .int .i64 ep, .string who, .string text] 23)).alloc (.cells #[.int .i64 0, .string ⟨#[]⟩, .slice none 0 0, .string ⟨#[]⟩] 42)).alloc (.cells #[.int .i64 0, .string ⟨#[]⟩, .slice none 0 0, .string ⟨#[]⟩] 42) = W0 at *
  refine (short36_any kd num ep who text _ Hw.out Ht.out).mono ?_
  rintro r w2 ⟨rfl, hb2⟩
  have D2 := Lib.hid (D0.out.later hb2)
  have D3 := Lib.hid (D2.out.setOp (.int .u8 kd) (.int .i64 num) (.int .i64 ep) (.string (cutU who 100)) (.string (cutU text 3000)))
  have R3 := Lib.hid (R0.out.later D3.out.b)
  clear hb2 D0 R0
  have o0 : w2.cell? ⟨w.heap.size + 1, 0, none⟩ = some (.int .u8 kd) := cell_of_heap D2.out.op 0
  have o1 : w2.cell? ⟨w.heap.size + 1, 1, none⟩ = some (.int .i64 num) := cell_of_heap D2.out.op 1
  have o2 : w2.cell? ⟨w.heap.size + 1, 2, none⟩ = some (.int .i64 ep) := cell_of_heap D2.out.op 2
  have o3 : w2.cell? ⟨w.heap.size + 1, 3, none⟩ = some (.string who) := cell_of_heap D2.out.op 3
  have o4 : w2.cell? ⟨w.heap.size + 1, 4, none⟩ = some (.string text) := cell_of_heap D2.out.op 4
  have fo0 := frozen_of_heap D2.out.op 0
  have fo1 := frozen_of_heap D2.out.op 1
  have fo2 := frozen_of_heap D2.out.op 2
  have fo3 := frozen_of_heap D2.out.op 3
  have fo4 := frozen_of_heap D2.out.op 4
  have t0 : w2.cell? ⟨w.heap.size, 0, none⟩ = some (.int .i64 ep0) := cell_of_heap D2.out.t 0
  have t1 : w2.cell? ⟨w.heap.size, 1, none⟩ = some (.string se) := cell_of_heap D2.out.t 1
  have t2 : w2.cell? ⟨w.heap.size, 2, none⟩ = some (.slice a n c) := cell_of_heap D2.out.t 2
  have t3 : w2.cell? ⟨w.heap.size, 3, none⟩ = some (.string sc) := cell_of_heap D2.out.t 3
  go_wp2_with fail
  clear o0 fo0 o1 fo1 o2 fo2 o3 fo3 o4 fo4 t0 t1 t2 t3 D2
  generalize (((((w2).setCell ⟨w.heap.size + 1, 0, none⟩ (.int .u8 kd)).setCell ⟨w.heap.size + 1, 1, none⟩ (.int .i64 num)).setCell ⟨w.heap.size + 1, 2, none⟩ (.int .i64 ep)).setCell ⟨w.heap.size + 1, 3, none⟩ (.string (cutU who 100))).setCell ⟨w.heap.size + 1, 4, none⟩ (.string (cutU text 3000)) = W3 at *
  refine (in36_is ep0 se sc a n c ls ep _ R3.out.row).mono ?_
  rintro r w4 ⟨a1, n1, c1, rfl, hrow, hown1, hb4⟩
  have D4 := Lib.hid (D3.out.later hb4)
  have R4 := Lib.hid (R3.out.new hb4 D3.out.lt hrow hown1)
  have HT : Hid (inT ⟨ep0, se, ls, sc⟩ ep = inT ⟨ep0, se, ls, sc⟩ ep) := rfl
  clear hrow hown1 hb4 D3 R3
  generalize HTe : inT ⟨ep0, se, ls, sc⟩ ep = T1 at HZ0 R4 HT ⊢
  obtain ⟨e1, s1, l1, sc1⟩ := T1
  have HTE := Lib.hid HTe
  dsimp only at HZ0 R4 ⊢
  have HZ := HZ0
  clear HTe HT HZ0
  have D6 := Lib.hid ((D4.out.setT (.int .i64 e1) (.string s1) (.slice a1 n1 c1) (.string sc1)).setN (.int .i64 e1) (.string s1) (.slice a1 n1 c1) (.string sc1))
  have R6 := Lib.hid ((R4.out.set4 HV.out w.heap.size (Nat.le_refl _) (by omega) (.int .i64 e1) (.string s1) (.slice a1 n1 c1) (.string sc1)).set4 HV.out (w.heap.size + 1 + 1) (by omega) (by omega) (.int .i64 e1) (.string s1) (.slice a1 n1 c1) (.string sc1))
  have o0 : w4.cell? ⟨w.heap.size + 1, 0, none⟩ = some (.int .u8 kd) := cell_of_heap D4.out.op 0
  have o1 : w4.cell? ⟨w.heap.size + 1, 1, none⟩ = some (.int .i64 num) := cell_of_heap D4.out.op 1
  have o2 : w4.cell? ⟨w.heap.size + 1, 2, none⟩ = some (.int .i64 ep) := cell_of_heap D4.out.op 2
  have o3 : w4.cell? ⟨w.heap.size + 1, 3, none⟩ = some (.string (cutU who 100)) := cell_of_heap D4.out.op 3
  have o4 : w4.cell? ⟨w.heap.size + 1, 4, none⟩ = some (.string (cutU text 3000)) := cell_of_heap D4.out.op 4
  have fo0 := frozen_of_heap D4.out.op 0
  have fo1 := frozen_of_heap D4.out.op 1
  have fo2 := frozen_of_heap D4.out.op 2
  have fo3 := frozen_of_heap D4.out.op 3
  have fo4 := frozen_of_heap D4.out.op 4
  have t0 : w4.cell? ⟨w.heap.size, 0, none⟩ = some (.int .i64 ep0) := cell_of_heap D4.out.t 0
  have t1 : w4.cell? ⟨w.heap.size, 1, none⟩ = some (.string se) := cell_of_heap D4.out.t 1
  have t2 : w4.cell? ⟨w.heap.size, 2, none⟩ = some (.slice a n c) := cell_of_heap D4.out.t 2
  have t3 : w4.cell? ⟨w.heap.size, 3, none⟩ = some (.string sc) := cell_of_heap D4.out.t 3
  have ft0 := frozen_of_heap D4.out.t 0
  have ft1 := frozen_of_heap D4.out.t 1
  have ft2 := frozen_of_heap D4.out.t 2
  have ft3 := frozen_of_heap D4.out.t 3
  have x0 : w4.cell? ⟨w.heap.size + 1 + 1, 0, none⟩ = some (.int .i64 0) := cell_of_heap D4.out.nx 0
  have x1 : w4.cell? ⟨w.heap.size + 1 + 1, 1, none⟩ = some (.string ⟨#[]⟩) := cell_of_heap D4.out.nx 1
  have x2 : w4.cell? ⟨w.heap.size + 1 + 1, 2, none⟩ = some (.slice none 0 0) := cell_of_heap D4.out.nx 2
  have x3 : w4.cell? ⟨w.heap.size + 1 + 1, 3, none⟩ = some (.string ⟨#[]⟩) := cell_of_heap D4.out.nx 3
  have fx0 := frozen_of_heap D4.out.nx 0
  have fx1 := frozen_of_heap D4.out.nx 1
  have fx2 := frozen_of_heap D4.out.nx 2
  have fx3 := frozen_of_heap D4.out.nx 3
  go_wp2_with fail
  clear o0 fo0 o1 fo1 o2 fo2 o3 fo3 o4 fo4 t0 ft0 t1 ft1 t2 ft2 t3 ft3 x0 fx0 x1 fx1 x2 fx2 x3 fx3 D4 R4
  generalize ((((((((w4).setCell ⟨w.heap.size, 0, none⟩ (.int .i64 e1)).setCell ⟨w.heap.size, 1, none⟩ (.string s1)).setCell ⟨w.heap.size, 2, none⟩ (.slice a1 n1 c1)).setCell ⟨w.heap.size, 3, none⟩ (.string sc1)).setCell ⟨w.heap.size + 1 + 1, 0, none⟩ (.int .i64 e1)).setCell ⟨w.heap.size + 1 + 1, 1, none⟩ (.string s1)).setCell ⟨w.heap.size + 1 + 1, 2, none⟩ (.slice a1 n1 c1)).setCell ⟨w.heap.size + 1 + 1, 3, none⟩ (.string sc1) = W6 at *
  refine (read36_any e1 s1 sc1 a1 n1 c1 l1 (cutU who 100) _ R6.out.row (by have := cutU_size who 100; omega) (Nat.le_trans HZ.out.1 (by decide))).mono ?_
  rintro r w7 ⟨a2, n2, c2, rfl, hrow, hown2, hb7⟩
  have D7 := Lib.hid (D6.out.later hb7)
  have R7 := Lib.hid (R6.out.new hb7 D6.out.lt hrow hown2)
  clear hrow hown2 hb7 D6 R6
  have HQ := Lib.hid (HU.out ⟨e1, s1, l1, sc1⟩)
  clear HU
  generalize readL (cutU who 100) ⟨e1, s1, l1, sc1⟩ = ln at *
  generalize opTake (cutU who 100) ⟨e1, s1, l1, sc1⟩ = p at HQ R7 ⊢
  obtain ⟨⟨e2, s2, l2, sc2⟩, q⟩ := p
  dsimp only at R7 ⊢
  have D8 := Lib.hid (D7.out.setN (.int .i64 e2) (.string s2) (.slice a2 n2 c2) (.string sc2))
  have R8 := Lib.hid (R7.out.set4 HV.out (w.heap.size + 1 + 1) (by omega) (by omega) (.int .i64 e2) (.string s2) (.slice a2 n2 c2) (.string sc2))
  have x0 : w7.cell? ⟨w.heap.size + 1 + 1, 0, none⟩ = some (.int .i64 e1) := cell_of_heap D7.out.nx 0
  have x1 : w7.cell? ⟨w.heap.size + 1 + 1, 1, none⟩ = some (.string s1) := cell_of_heap D7.out.nx 1
  have x2 : w7.cell? ⟨w.heap.size + 1 + 1, 2, none⟩ = some (.slice a1 n1 c1) := cell_of_heap D7.out.nx 2
  have x3 : w7.cell? ⟨w.heap.size + 1 + 1, 3, none⟩ = some (.string sc1) := cell_of_heap D7.out.nx 3
  have fx0 := frozen_of_heap D7.out.nx 0
  have fx1 := frozen_of_heap D7.out.nx 1
  have fx2 := frozen_of_heap D7.out.nx 2
  have fx3 := frozen_of_heap D7.out.nx 3
  go_upto_region 18 with fail
  clear x0 fx0 x1 fx1 x2 fx2 x3 fx3 D7 R7
  generalize ((((w7).setCell ⟨w.heap.size + 1 + 1, 0, none⟩ (.int .i64 e2)).setCell ⟨w.heap.size + 1 + 1, 1, none⟩ (.string s2)).setCell ⟨w.heap.size + 1 + 1, 2, none⟩ (.slice a2 n2 c2)).setCell ⟨w.heap.size + 1 + 1, 3, none⟩ (.string sc2) = W8 at *
  have x0 : W8.cell? ⟨w.heap.size + 1 + 1, 0, none⟩ = some (.int .i64 e2) := cell_of_heap D8.out.nx 0
  have x1 : W8.cell? ⟨w.heap.size + 1 + 1, 1, none⟩ = some (.string s2) := cell_of_heap D8.out.nx 1
  have x2 : W8.cell? ⟨w.heap.size + 1 + 1, 2, none⟩ = some (.slice a2 n2 c2) := cell_of_heap D8.out.nx 2
  have x3 : W8.cell? ⟨w.heap.size + 1 + 1, 3, none⟩ = some (.string sc2) := cell_of_heap D8.out.nx 3
  have fx0 := frozen_of_heap D8.out.nx 0
  have fx1 := frozen_of_heap D8.out.nx 1
  have fx2 := frozen_of_heap D8.out.nx 2
  have fx3 := frozen_of_heap D8.out.nx 3
  have y0 : W8.cell? ⟨w.heap.size + 1 + 1 + 1, 0, none⟩ = some (.int .i64 0) := cell_of_heap D8.out.got 0
  have y1 : W8.cell? ⟨w.heap.size + 1 + 1 + 1, 1, none⟩ = some (.string ⟨#[]⟩) := cell_of_heap D8.out.got 1
  have y2 : W8.cell? ⟨w.heap.size + 1 + 1 + 1, 2, none⟩ = some (.slice none 0 0) := cell_of_heap D8.out.got 2
  have y3 : W8.cell? ⟨w.heap.size + 1 + 1 + 1, 3, none⟩ = some (.string ⟨#[]⟩) := cell_of_heap D8.out.got 3
  have fy0 := frozen_of_heap D8.out.got 0
  have fy1 := frozen_of_heap D8.out.got 1
  have fy2 := frozen_of_heap D8.out.got 2
  have fy3 := frozen_of_heap D8.out.got 3
  have A1 := Lib.hid (((D8.out.setN (.int .i64 e2) (.string s2) (.slice a2 n2 c2) (.string sc2)).setG (.int .i64 0) (.string ⟨#[]⟩) (.slice none 0 0) (.string ⟨#[]⟩)).later (Below.refl _ _).drew)
  have B1 := Lib.hid (((R8.out.set4 HV.out (w.heap.size + 1 + 1) (by omega) (by omega) (.int .i64 e2) (.string s2) (.slice a2 n2 c2) (.string sc2)).set4 HV.out (w.heap.size + 1 + 1 + 1) (by omega) (by omega) (.int .i64 0) (.string ⟨#[]⟩) (.slice none 0 0) (.string ⟨#[]⟩)).later (Below.refl _ _).drew)
  go_region
  all_goals
    go_wp2
    refine bodyPost_ret (v := .tuple #[.agg #[.int .i64 e2, .string s2, .slice a2 n2 c2, .string sc2], .int .i64 q, .string ln, .agg #[.int .i64 0, .string ⟨#[]⟩, .slice none 0 0, .string ⟨#[]⟩]]) (by simp [results, Tryz.results38, go_sem, x0, x1, x2, x3, y0, y1, y2, y3]) rfl ?_
    exact sam_fin (T := ⟨ep0, se, ls, sc⟩) HTE.out HQ.out.1 HQ.out.2.1 HQ.out.2.2 B1.out.row (RowK.nil _) B1.out.out A1.out.b
set_option maxRecDepth 100000 in
set_option maxHeartbeats 6400000 in
theorem same36_6 (ep0 : Int) (se sc : ByteArray) (a : Option Addr) (n c : Nat) (ls : List ByteArray) (kd : Nat) (num ep : Int) (who text : ByteArray) (w : World) (hs : RowK kStr w (.slice a n c) ls) (hown : ∀ k, (Value.slice a n c).ownBlock = some k → k < w.heap.size) (hsz : se.size ≤ 1000000 ∧ sc.size ≤ 1000000 ∧ ls.length ≤ 100000) (hkd : kd ≤ 255) (hw : who.size ≤ 9223372036854775807) (ht : text.size ≤ 9223372036854775807) (hj : kd % 8 = 6) :
    Calls Tryz.prog 38 #[.agg #[.int .i64 ep0, .string se, .slice a n c, .string sc], .agg #[.int .u8 kd, .int .i64 num, .int .i64 ep, .string who, .string text]] w (SamePost w (.slice a n c) ⟨ep0, se, ls, sc⟩ (shortU ⟨kd, num, ep, who, text⟩)) := by
  have D0 := Lib.hid (SU.start w #[.int .i64 ep0, .string se, .slice a n c, .string sc] #[.int .u8 kd, .int .i64 num, .int .i64 ep, .string who, .string text] #[.int .i64 0, .string ⟨#[]⟩, .slice none 0 0, .string ⟨#[]⟩] #[.int .i64 0, .string ⟨#[]⟩, .slice none 0 0, .string ⟨#[]⟩])
  have Hw := Lib.hid hw
  have Ht := Lib.hid ht
  have HZ0 := Lib.hid (inT_bounds (T := ⟨ep0, se, ls, sc⟩) (e := ep) hsz.1 hsz.2.1 hsz.2.2)
  have hj' : ((kd : Int)) % 8 = 6 := by omega
  have R0 : Hid (RU w w (.slice a n c) (.slice a n c) ls) := ⟨hs, fun k hk => .inl hk⟩
  have HV : Hid (∀ k, (Value.slice a n c).ownBlock = some k → k < w.heap.size) := hown
  have HU : Hid (∀ t, uOp (shortU ⟨kd, num, ep, who, text⟩) t = opShow (cutU text 3000) t ∧ uLineT (shortU ⟨kd, num, ep, who, text⟩) t = ⟨#[]⟩ ∧ uGotT (shortU ⟨kd, num, ep, who, text⟩) t = zeroT) := fun t => by
    refine ⟨?_, if_neg (by unfold shortU; dsimp only; omega), if_neg (by unfold shortU; dsimp only; omega)⟩
    unfold uOp shortU
    simp [hj]
  clear hw ht hs hown hsz
  go_enter Tryz.func38, Tryz.ntmps38
  go_wp2_with fail
  generalize (((w.alloc (.cells #[.int .i64 ep0, .string se, .slice a n c, .string sc] 42)).alloc (.cells #[.int .u8 kd, .int .i64 num, .int .i64 ep, .string who, .string text] 23)).alloc (.cells #[.int .i64 0, .string ⟨#[]⟩, .slice none 0 0, .string ⟨#[]⟩] 42)).alloc (.cells #[.int .i64 0, .string ⟨#[]⟩, .slice none 0 0, .string ⟨#[]⟩] 42) = W0 at *
  refine (short36_any kd num ep who text _ Hw.out Ht.out).mono ?_
  rintro r w2 ⟨rfl, hb2⟩
  have D2 := Lib.hid (D0.out.later hb2)
  have D3 := Lib.hid (D2.out.setOp (.int .u8 kd) (.int .i64 num) (.int .i64 ep) (.string (cutU who 100)) (.string (cutU text 3000)))
  have R3 := Lib.hid (R0.out.later D3.out.b)
  clear hb2 D0 R0
  have o0 : w2.cell? ⟨w.heap.size + 1, 0, none⟩ = some (.int .u8 kd) := cell_of_heap D2.out.op 0
  have o1 : w2.cell? ⟨w.heap.size + 1, 1, none⟩ = some (.int .i64 num) := cell_of_heap D2.out.op 1
  have o2 : w2.cell? ⟨w.heap.size + 1, 2, none⟩ = some (.int .i64 ep) := cell_of_heap D2.out.op 2
  have o3 : w2.cell? ⟨w.heap.size + 1, 3, none⟩ = some (.string who) := cell_of_heap D2.out.op 3
  have o4 : w2.cell? ⟨w.heap.size + 1, 4, none⟩ = some (.string text) := cell_of_heap D2.out.op 4
  have fo0 := frozen_of_heap D2.out.op 0
  have fo1 := frozen_of_heap D2.out.op 1
  have fo2 := frozen_of_heap D2.out.op 2
  have fo3 := frozen_of_heap D2.out.op 3
  have fo4 := frozen_of_heap D2.out.op 4
  have t0 : w2.cell? ⟨w.heap.size, 0, none⟩ = some (.int .i64 ep0) := cell_of_heap D2.out.t 0
  have t1 : w2.cell? ⟨w.heap.size, 1, none⟩ = some (.string se) := cell_of_heap D2.out.t 1
  have t2 : w2.cell? ⟨w.heap.size, 2, none⟩ = some (.slice a n c) := cell_of_heap D2.out.t 2
  have t3 : w2.cell? ⟨w.heap.size, 3, none⟩ = some (.string sc) := cell_of_heap D2.out.t 3
  go_wp2_with fail
  clear o0 fo0 o1 fo1 o2 fo2 o3 fo3 o4 fo4 t0 t1 t2 t3 D2
  generalize (((((w2).setCell ⟨w.heap.size + 1, 0, none⟩ (.int .u8 kd)).setCell ⟨w.heap.size + 1, 1, none⟩ (.int .i64 num)).setCell ⟨w.heap.size + 1, 2, none⟩ (.int .i64 ep)).setCell ⟨w.heap.size + 1, 3, none⟩ (.string (cutU who 100))).setCell ⟨w.heap.size + 1, 4, none⟩ (.string (cutU text 3000)) = W3 at *
  refine (in36_is ep0 se sc a n c ls ep _ R3.out.row).mono ?_
  rintro r w4 ⟨a1, n1, c1, rfl, hrow, hown1, hb4⟩
  have D4 := Lib.hid (D3.out.later hb4)
  have R4 := Lib.hid (R3.out.new hb4 D3.out.lt hrow hown1)
  have HT : Hid (inT ⟨ep0, se, ls, sc⟩ ep = inT ⟨ep0, se, ls, sc⟩ ep) := rfl
  clear hrow hown1 hb4 D3 R3
  generalize HTe : inT ⟨ep0, se, ls, sc⟩ ep = T1 at HZ0 R4 HT ⊢
  obtain ⟨e1, s1, l1, sc1⟩ := T1
  have HTE := Lib.hid HTe
  dsimp only at HZ0 R4 ⊢
  have HZ := HZ0
  clear HTe HT HZ0
  have D6 := Lib.hid ((D4.out.setT (.int .i64 e1) (.string s1) (.slice a1 n1 c1) (.string sc1)).setN (.int .i64 e1) (.string s1) (.slice a1 n1 c1) (.string sc1))
  have R6 := Lib.hid ((R4.out.set4 HV.out w.heap.size (Nat.le_refl _) (by omega) (.int .i64 e1) (.string s1) (.slice a1 n1 c1) (.string sc1)).set4 HV.out (w.heap.size + 1 + 1) (by omega) (by omega) (.int .i64 e1) (.string s1) (.slice a1 n1 c1) (.string sc1))
  have o0 : w4.cell? ⟨w.heap.size + 1, 0, none⟩ = some (.int .u8 kd) := cell_of_heap D4.out.op 0
  have o1 : w4.cell? ⟨w.heap.size + 1, 1, none⟩ = some (.int .i64 num) := cell_of_heap D4.out.op 1
  have o2 : w4.cell? ⟨w.heap.size + 1, 2, none⟩ = some (.int .i64 ep) := cell_of_heap D4.out.op 2
  have o3 : w4.cell? ⟨w.heap.size + 1, 3, none⟩ = some (.string (cutU who 100)) := cell_of_heap D4.out.op 3
  have o4 : w4.cell? ⟨w.heap.size + 1, 4, none⟩ = some (.string (cutU text 3000)) := cell_of_heap D4.out.op 4
  have fo0 := frozen_of_heap D4.out.op 0
  have fo1 := frozen_of_heap D4.out.op 1
  have fo2 := frozen_of_heap D4.out.op 2
  have fo3 := frozen_of_heap D4.out.op 3
  have fo4 := frozen_of_heap D4.out.op 4
  have t0 : w4.cell? ⟨w.heap.size, 0, none⟩ = some (.int .i64 ep0) := cell_of_heap D4.out.t 0
  have t1 : w4.cell? ⟨w.heap.size, 1, none⟩ = some (.string se) := cell_of_heap D4.out.t 1
  have t2 : w4.cell? ⟨w.heap.size, 2, none⟩ = some (.slice a n c) := cell_of_heap D4.out.t 2
  have t3 : w4.cell? ⟨w.heap.size, 3, none⟩ = some (.string sc) := cell_of_heap D4.out.t 3
  have ft0 := frozen_of_heap D4.out.t 0
  have ft1 := frozen_of_heap D4.out.t 1
  have ft2 := frozen_of_heap D4.out.t 2
  have ft3 := frozen_of_heap D4.out.t 3
  have x0 : w4.cell? ⟨w.heap.size + 1 + 1, 0, none⟩ = some (.int .i64 0) := cell_of_heap D4.out.nx 0
  have x1 : w4.cell? ⟨w.heap.size + 1 + 1, 1, none⟩ = some (.string ⟨#[]⟩) := cell_of_heap D4.out.nx 1
  have x2 : w4.cell? ⟨w.heap.size + 1 + 1, 2, none⟩ = some (.slice none 0 0) := cell_of_heap D4.out.nx 2
  have x3 : w4.cell? ⟨w.heap.size + 1 + 1, 3, none⟩ = some (.string ⟨#[]⟩) := cell_of_heap D4.out.nx 3
  have fx0 := frozen_of_heap D4.out.nx 0
  have fx1 := frozen_of_heap D4.out.nx 1
  have fx2 := frozen_of_heap D4.out.nx 2
  have fx3 := frozen_of_heap D4.out.nx 3
  go_wp2_with fail
  clear o0 fo0 o1 fo1 o2 fo2 o3 fo3 o4 fo4 t0 ft0 t1 ft1 t2 ft2 t3 ft3 x0 fx0 x1 fx1 x2 fx2 x3 fx3 D4 R4
  generalize ((((((((w4).setCell ⟨w.heap.size, 0, none⟩ (.int .i64 e1)).setCell ⟨w.heap.size, 1, none⟩ (.string s1)).setCell ⟨w.heap.size, 2, none⟩ (.slice a1 n1 c1)).setCell ⟨w.heap.size, 3, none⟩ (.string sc1)).setCell ⟨w.heap.size + 1 + 1, 0, none⟩ (.int .i64 e1)).setCell ⟨w.heap.size + 1 + 1, 1, none⟩ (.string s1)).setCell ⟨w.heap.size + 1 + 1, 2, none⟩ (.slice a1 n1 c1)).setCell ⟨w.heap.size + 1 + 1, 3, none⟩ (.string sc1) = W6 at *
  refine (show36_any e1 s1 sc1 a1 n1 c1 l1 (cutU text 3000) _ R6.out.row (by have := cutU_size text 3000; omega) (Nat.le_trans HZ.out.2.1 (by decide))).mono ?_
  rintro r w7 ⟨a2, n2, c2, rfl, hrow, hown2, hb7⟩
  have D7 := Lib.hid (D6.out.later hb7)
  have R7 := Lib.hid (R6.out.new hb7 D6.out.lt hrow hown2)
  clear hrow hown2 hb7 D6 R6
  have HQ := Lib.hid (HU.out ⟨e1, s1, l1, sc1⟩)
  clear HU
  generalize opShow (cutU text 3000) ⟨e1, s1, l1, sc1⟩ = p at HQ R7 ⊢
  obtain ⟨⟨e2, s2, l2, sc2⟩, q⟩ := p
  dsimp only at R7 ⊢
  have D8 := Lib.hid (D7.out.setN (.int .i64 e2) (.string s2) (.slice a2 n2 c2) (.string sc2))
  have R8 := Lib.hid (R7.out.set4 HV.out (w.heap.size + 1 + 1) (by omega) (by omega) (.int .i64 e2) (.string s2) (.slice a2 n2 c2) (.string sc2))
  have x0 : w7.cell? ⟨w.heap.size + 1 + 1, 0, none⟩ = some (.int .i64 e1) := cell_of_heap D7.out.nx 0
  have x1 : w7.cell? ⟨w.heap.size + 1 + 1, 1, none⟩ = some (.string s1) := cell_of_heap D7.out.nx 1
  have x2 : w7.cell? ⟨w.heap.size + 1 + 1, 2, none⟩ = some (.slice a1 n1 c1) := cell_of_heap D7.out.nx 2
  have x3 : w7.cell? ⟨w.heap.size + 1 + 1, 3, none⟩ = some (.string sc1) := cell_of_heap D7.out.nx 3
  have fx0 := frozen_of_heap D7.out.nx 0
  have fx1 := frozen_of_heap D7.out.nx 1
  have fx2 := frozen_of_heap D7.out.nx 2
  have fx3 := frozen_of_heap D7.out.nx 3
  go_upto_region 18 with fail
  clear x0 fx0 x1 fx1 x2 fx2 x3 fx3 D7 R7
  generalize ((((w7).setCell ⟨w.heap.size + 1 + 1, 0, none⟩ (.int .i64 e2)).setCell ⟨w.heap.size + 1 + 1, 1, none⟩ (.string s2)).setCell ⟨w.heap.size + 1 + 1, 2, none⟩ (.slice a2 n2 c2)).setCell ⟨w.heap.size + 1 + 1, 3, none⟩ (.string sc2) = W8 at *
  have x0 : W8.cell? ⟨w.heap.size + 1 + 1, 0, none⟩ = some (.int .i64 e2) := cell_of_heap D8.out.nx 0
  have x1 : W8.cell? ⟨w.heap.size + 1 + 1, 1, none⟩ = some (.string s2) := cell_of_heap D8.out.nx 1
  have x2 : W8.cell? ⟨w.heap.size + 1 + 1, 2, none⟩ = some (.slice a2 n2 c2) := cell_of_heap D8.out.nx 2
  have x3 : W8.cell? ⟨w.heap.size + 1 + 1, 3, none⟩ = some (.string sc2) := cell_of_heap D8.out.nx 3
  have fx0 := frozen_of_heap D8.out.nx 0
  have fx1 := frozen_of_heap D8.out.nx 1
  have fx2 := frozen_of_heap D8.out.nx 2
  have fx3 := frozen_of_heap D8.out.nx 3
  have y0 : W8.cell? ⟨w.heap.size + 1 + 1 + 1, 0, none⟩ = some (.int .i64 0) := cell_of_heap D8.out.got 0
  have y1 : W8.cell? ⟨w.heap.size + 1 + 1 + 1, 1, none⟩ = some (.string ⟨#[]⟩) := cell_of_heap D8.out.got 1
  have y2 : W8.cell? ⟨w.heap.size + 1 + 1 + 1, 2, none⟩ = some (.slice none 0 0) := cell_of_heap D8.out.got 2
  have y3 : W8.cell? ⟨w.heap.size + 1 + 1 + 1, 3, none⟩ = some (.string ⟨#[]⟩) := cell_of_heap D8.out.got 3
  have fy0 := frozen_of_heap D8.out.got 0
  have fy1 := frozen_of_heap D8.out.got 1
  have fy2 := frozen_of_heap D8.out.got 2
  have fy3 := frozen_of_heap D8.out.got 3
  have A1 := Lib.hid (((D8.out.setN (.int .i64 e2) (.string s2) (.slice a2 n2 c2) (.string sc2)).setG (.int .i64 0) (.string ⟨#[]⟩) (.slice none 0 0) (.string ⟨#[]⟩)).later (Below.refl _ _).drew)
  have B1 := Lib.hid (((R8.out.set4 HV.out (w.heap.size + 1 + 1) (by omega) (by omega) (.int .i64 e2) (.string s2) (.slice a2 n2 c2) (.string sc2)).set4 HV.out (w.heap.size + 1 + 1 + 1) (by omega) (by omega) (.int .i64 0) (.string ⟨#[]⟩) (.slice none 0 0) (.string ⟨#[]⟩)).later (Below.refl _ _).drew)
  go_region
  all_goals
    go_wp2
    refine bodyPost_ret (v := .tuple #[.agg #[.int .i64 e2, .string s2, .slice a2 n2 c2, .string sc2], .int .i64 q, .string ⟨#[]⟩, .agg #[.int .i64 0, .string ⟨#[]⟩, .slice none 0 0, .string ⟨#[]⟩]]) (by simp [results, Tryz.results38, go_sem, x0, x1, x2, x3, y0, y1, y2, y3]) rfl ?_
    exact sam_fin (T := ⟨ep0, se, ls, sc⟩) HTE.out HQ.out.1 HQ.out.2.1 HQ.out.2.2 B1.out.row (RowK.nil _) B1.out.out A1.out.b
set_option maxRecDepth 100000 in
set_option maxHeartbeats 6400000 in
theorem same36_7 (ep0 : Int) (se sc : ByteArray) (a : Option Addr) (n c : Nat) (ls : List ByteArray) (kd : Nat) (num ep : Int) (who text : ByteArray) (w : World) (hs : RowK kStr w (.slice a n c) ls) (hown : ∀ k, (Value.slice a n c).ownBlock = some k → k < w.heap.size) (hsz : se.size ≤ 1000000 ∧ sc.size ≤ 1000000 ∧ ls.length ≤ 100000) (hkd : kd ≤ 255) (hw : who.size ≤ 9223372036854775807) (ht : text.size ≤ 9223372036854775807) (hj : kd % 8 = 7) :
    Calls Tryz.prog 38 #[.agg #[.int .i64 ep0, .string se, .slice a n c, .string sc], .agg #[.int .u8 kd, .int .i64 num, .int .i64 ep, .string who, .string text]] w (SamePost w (.slice a n c) ⟨ep0, se, ls, sc⟩ (shortU ⟨kd, num, ep, who, text⟩)) := by
  have D0 := Lib.hid (SU.start w #[.int .i64 ep0, .string se, .slice a n c, .string sc] #[.int .u8 kd, .int .i64 num, .int .i64 ep, .string who, .string text] #[.int .i64 0, .string ⟨#[]⟩, .slice none 0 0, .string ⟨#[]⟩] #[.int .i64 0, .string ⟨#[]⟩, .slice none 0 0, .string ⟨#[]⟩])
  have Hw := Lib.hid hw
  have Ht := Lib.hid ht
  have HZ0 := Lib.hid (inT_bounds (T := ⟨ep0, se, ls, sc⟩) (e := ep) hsz.1 hsz.2.1 hsz.2.2)
  have hj' : ((kd : Int)) % 8 = 7 := by omega
  have R0 : Hid (RU w w (.slice a n c) (.slice a n c) ls) := ⟨hs, fun k hk => .inl hk⟩
  have HV : Hid (∀ k, (Value.slice a n c).ownBlock = some k → k < w.heap.size) := hown
  have HU : Hid (∀ t, uOp (shortU ⟨kd, num, ep, who, text⟩) t = (t, 0) ∧ uLineT (shortU ⟨kd, num, ep, who, text⟩) t = ⟨#[]⟩ ∧ uGotT (shortU ⟨kd, num, ep, who, text⟩) t = t) := fun t => by
    refine ⟨?_, if_neg (by unfold shortU; dsimp only; omega), if_pos (by unfold shortU; dsimp only; omega)⟩
    unfold uOp shortU
    simp [hj]
  clear hw ht hs hown hsz
  go_enter Tryz.func38, Tryz.ntmps38
  go_wp2_with fail
  generalize (((w.alloc (.cells #[.int .i64 ep0, .string se, .slice a n c, .string sc] 42)).alloc (.cells #[.int .u8 kd, .int .i64 num, .int .i64 ep, .string who, .string text] 23)).alloc (.cells #[.int .i64 0, .string ⟨#[]⟩, .slice none 0 0, .string ⟨#[]⟩] 42)).alloc (.cells #[.int .i64 0, .string ⟨#[]⟩, .slice none 0 0, .string ⟨#[]⟩] 42) = W0 at *
  refine (short36_any kd num ep who text _ Hw.out Ht.out).mono ?_
  rintro r w2 ⟨rfl, hb2⟩
  have D2 := Lib.hid (D0.out.later hb2)
  have D3 := Lib.hid (D2.out.setOp (.int .u8 kd) (.int .i64 num) (.int .i64 ep) (.string (cutU who 100)) (.string (cutU text 3000)))
  have R3 := Lib.hid (R0.out.later D3.out.b)
  clear hb2 D0 R0
  have o0 : w2.cell? ⟨w.heap.size + 1, 0, none⟩ = some (.int .u8 kd) := cell_of_heap D2.out.op 0
  have o1 : w2.cell? ⟨w.heap.size + 1, 1, none⟩ = some (.int .i64 num) := cell_of_heap D2.out.op 1
  have o2 : w2.cell? ⟨w.heap.size + 1, 2, none⟩ = some (.int .i64 ep) := cell_of_heap D2.out.op 2
  have o3 : w2.cell? ⟨w.heap.size + 1, 3, none⟩ = some (.string who) := cell_of_heap D2.out.op 3
  have o4 : w2.cell? ⟨w.heap.size + 1, 4, none⟩ = some (.string text) := cell_of_heap D2.out.op 4
  have fo0 := frozen_of_heap D2.out.op 0
  have fo1 := frozen_of_heap D2.out.op 1
  have fo2 := frozen_of_heap D2.out.op 2
  have fo3 := frozen_of_heap D2.out.op 3
  have fo4 := frozen_of_heap D2.out.op 4
  have t0 : w2.cell? ⟨w.heap.size, 0, none⟩ = some (.int .i64 ep0) := cell_of_heap D2.out.t 0
  have t1 : w2.cell? ⟨w.heap.size, 1, none⟩ = some (.string se) := cell_of_heap D2.out.t 1
  have t2 : w2.cell? ⟨w.heap.size, 2, none⟩ = some (.slice a n c) := cell_of_heap D2.out.t 2
  have t3 : w2.cell? ⟨w.heap.size, 3, none⟩ = some (.string sc) := cell_of_heap D2.out.t 3
  go_wp2_with fail
  clear o0 fo0 o1 fo1 o2 fo2 o3 fo3 o4 fo4 t0 t1 t2 t3 D2
  generalize (((((w2).setCell ⟨w.heap.size + 1, 0, none⟩ (.int .u8 kd)).setCell ⟨w.heap.size + 1, 1, none⟩ (.int .i64 num)).setCell ⟨w.heap.size + 1, 2, none⟩ (.int .i64 ep)).setCell ⟨w.heap.size + 1, 3, none⟩ (.string (cutU who 100))).setCell ⟨w.heap.size + 1, 4, none⟩ (.string (cutU text 3000)) = W3 at *
  refine (in36_is ep0 se sc a n c ls ep _ R3.out.row).mono ?_
  rintro r w4 ⟨a1, n1, c1, rfl, hrow, hown1, hb4⟩
  have D4 := Lib.hid (D3.out.later hb4)
  have R4 := Lib.hid (R3.out.new hb4 D3.out.lt hrow hown1)
  have HT : Hid (inT ⟨ep0, se, ls, sc⟩ ep = inT ⟨ep0, se, ls, sc⟩ ep) := rfl
  clear hrow hown1 hb4 D3 R3
  generalize HTe : inT ⟨ep0, se, ls, sc⟩ ep = T1 at HZ0 R4 HT ⊢
  obtain ⟨e1, s1, l1, sc1⟩ := T1
  have HTE := Lib.hid HTe
  dsimp only at HZ0 R4 ⊢
  have HZ := HZ0
  clear HTe HT HZ0
  have D6 := Lib.hid ((D4.out.setT (.int .i64 e1) (.string s1) (.slice a1 n1 c1) (.string sc1)).setN (.int .i64 e1) (.string s1) (.slice a1 n1 c1) (.string sc1))
  have R6 := Lib.hid ((R4.out.set4 HV.out w.heap.size (Nat.le_refl _) (by omega) (.int .i64 e1) (.string s1) (.slice a1 n1 c1) (.string sc1)).set4 HV.out (w.heap.size + 1 + 1) (by omega) (by omega) (.int .i64 e1) (.string s1) (.slice a1 n1 c1) (.string sc1))
  have o0 : w4.cell? ⟨w.heap.size + 1, 0, none⟩ = some (.int .u8 kd) := cell_of_heap D4.out.op 0
  have o1 : w4.cell? ⟨w.heap.size + 1, 1, none⟩ = some (.int .i64 num) := cell_of_heap D4.out.op 1
  have o2 : w4.cell? ⟨w.heap.size + 1, 2, none⟩ = some (.int .i64 ep) := cell_of_heap D4.out.op 2
  have o3 : w4.cell? ⟨w.heap.size + 1, 3, none⟩ = some (.string (cutU who 100)) := cell_of_heap D4.out.op 3
  have o4 : w4.cell? ⟨w.heap.size + 1, 4, none⟩ = some (.string (cutU text 3000)) := cell_of_heap D4.out.op 4
  have fo0 := frozen_of_heap D4.out.op 0
  have fo1 := frozen_of_heap D4.out.op 1
  have fo2 := frozen_of_heap D4.out.op 2
  have fo3 := frozen_of_heap D4.out.op 3
  have fo4 := frozen_of_heap D4.out.op 4
  have t0 : w4.cell? ⟨w.heap.size, 0, none⟩ = some (.int .i64 ep0) := cell_of_heap D4.out.t 0
  have t1 : w4.cell? ⟨w.heap.size, 1, none⟩ = some (.string se) := cell_of_heap D4.out.t 1
  have t2 : w4.cell? ⟨w.heap.size, 2, none⟩ = some (.slice a n c) := cell_of_heap D4.out.t 2
  have t3 : w4.cell? ⟨w.heap.size, 3, none⟩ = some (.string sc) := cell_of_heap D4.out.t 3
  have ft0 := frozen_of_heap D4.out.t 0
  have ft1 := frozen_of_heap D4.out.t 1
  have ft2 := frozen_of_heap D4.out.t 2
  have ft3 := frozen_of_heap D4.out.t 3
  have x0 : w4.cell? ⟨w.heap.size + 1 + 1, 0, none⟩ = some (.int .i64 0) := cell_of_heap D4.out.nx 0
  have x1 : w4.cell? ⟨w.heap.size + 1 + 1, 1, none⟩ = some (.string ⟨#[]⟩) := cell_of_heap D4.out.nx 1
  have x2 : w4.cell? ⟨w.heap.size + 1 + 1, 2, none⟩ = some (.slice none 0 0) := cell_of_heap D4.out.nx 2
  have x3 : w4.cell? ⟨w.heap.size + 1 + 1, 3, none⟩ = some (.string ⟨#[]⟩) := cell_of_heap D4.out.nx 3
  have fx0 := frozen_of_heap D4.out.nx 0
  have fx1 := frozen_of_heap D4.out.nx 1
  have fx2 := frozen_of_heap D4.out.nx 2
  have fx3 := frozen_of_heap D4.out.nx 3
  have y0 : w4.cell? ⟨w.heap.size + 1 + 1 + 1, 0, none⟩ = some (.int .i64 0) := cell_of_heap D4.out.got 0
  have y1 : w4.cell? ⟨w.heap.size + 1 + 1 + 1, 1, none⟩ = some (.string ⟨#[]⟩) := cell_of_heap D4.out.got 1
  have y2 : w4.cell? ⟨w.heap.size + 1 + 1 + 1, 2, none⟩ = some (.slice none 0 0) := cell_of_heap D4.out.got 2
  have y3 : w4.cell? ⟨w.heap.size + 1 + 1 + 1, 3, none⟩ = some (.string ⟨#[]⟩) := cell_of_heap D4.out.got 3
  have fy0 := frozen_of_heap D4.out.got 0
  have fy1 := frozen_of_heap D4.out.got 1
  have fy2 := frozen_of_heap D4.out.got 2
  have fy3 := frozen_of_heap D4.out.got 3
  have D8 := Lib.hid (D6.out.setG (.int .i64 e1) (.string s1) (.slice a1 n1 c1) (.string sc1))
  have R8 := Lib.hid (R6.out.set4 HV.out (w.heap.size + 1 + 1 + 1) (by omega) (by omega) (.int .i64 e1) (.string s1) (.slice a1 n1 c1) (.string sc1))
  go_upto_region 18 with fail
  clear o0 fo0 o1 fo1 o2 fo2 o3 fo3 o4 fo4 t0 ft0 t1 ft1 t2 ft2 t3 ft3 x0 fx0 x1 fx1 x2 fx2 x3 fx3 y0 fy0 y1 fy1 y2 fy2 y3 fy3 D4 D6 R4 R6
  generalize ((((((((((((w4).setCell ⟨w.heap.size, 0, none⟩ (.int .i64 e1)).setCell ⟨w.heap.size, 1, none⟩ (.string s1)).setCell ⟨w.heap.size, 2, none⟩ (.slice a1 n1 c1)).setCell ⟨w.heap.size, 3, none⟩ (.string sc1)).setCell ⟨w.heap.size + 1 + 1, 0, none⟩ (.int .i64 e1)).setCell ⟨w.heap.size + 1 + 1, 1, none⟩ (.string s1)).setCell ⟨w.heap.size + 1 + 1, 2, none⟩ (.slice a1 n1 c1)).setCell ⟨w.heap.size + 1 + 1, 3, none⟩ (.string sc1)).setCell ⟨w.heap.size + 1 + 1 + 1, 0, none⟩ (.int .i64 e1)).setCell ⟨w.heap.size + 1 + 1 + 1, 1, none⟩ (.string s1)).setCell ⟨w.heap.size + 1 + 1 + 1, 2, none⟩ (.slice a1 n1 c1)).setCell ⟨w.heap.size + 1 + 1 + 1, 3, none⟩ (.string sc1) = W8 at *
  have x0 : W8.cell? ⟨w.heap.size + 1 + 1, 0, none⟩ = some (.int .i64 e1) := cell_of_heap D8.out.nx 0
  have x1 : W8.cell? ⟨w.heap.size + 1 + 1, 1, none⟩ = some (.string s1) := cell_of_heap D8.out.nx 1
  have x2 : W8.cell? ⟨w.heap.size + 1 + 1, 2, none⟩ = some (.slice a1 n1 c1) := cell_of_heap D8.out.nx 2
  have x3 : W8.cell? ⟨w.heap.size + 1 + 1, 3, none⟩ = some (.string sc1) := cell_of_heap D8.out.nx 3
  have fx0 := frozen_of_heap D8.out.nx 0
  have fx1 := frozen_of_heap D8.out.nx 1
  have fx2 := frozen_of_heap D8.out.nx 2
  have fx3 := frozen_of_heap D8.out.nx 3
  have y0 : W8.cell? ⟨w.heap.size + 1 + 1 + 1, 0, none⟩ = some (.int .i64 e1) := cell_of_heap D8.out.got 0
  have y1 : W8.cell? ⟨w.heap.size + 1 + 1 + 1, 1, none⟩ = some (.string s1) := cell_of_heap D8.out.got 1
  have y2 : W8.cell? ⟨w.heap.size + 1 + 1 + 1, 2, none⟩ = some (.slice a1 n1 c1) := cell_of_heap D8.out.got 2
  have y3 : W8.cell? ⟨w.heap.size + 1 + 1 + 1, 3, none⟩ = some (.string sc1) := cell_of_heap D8.out.got 3
  have fy0 := frozen_of_heap D8.out.got 0
  have fy1 := frozen_of_heap D8.out.got 1
  have fy2 := frozen_of_heap D8.out.got 2
  have fy3 := frozen_of_heap D8.out.got 3
  have A1 := Lib.hid (((D8.out.setN (.int .i64 e1) (.string s1) (.slice a1 n1 c1) (.string sc1)).setG (.int .i64 e1) (.string s1) (.slice a1 n1 c1) (.string sc1)).later (Below.refl _ _).drew)
  have B1 := Lib.hid (((R8.out.set4 HV.out (w.heap.size + 1 + 1) (by omega) (by omega) (.int .i64 e1) (.string s1) (.slice a1 n1 c1) (.string sc1)).set4 HV.out (w.heap.size + 1 + 1 + 1) (by omega) (by omega) (.int .i64 e1) (.string s1) (.slice a1 n1 c1) (.string sc1)).later (Below.refl _ _).drew)
  go_region
  all_goals
    go_wp2
    refine bodyPost_ret (v := .tuple #[.agg #[.int .i64 e1, .string s1, .slice a1 n1 c1, .string sc1], .int .i64 0, .string ⟨#[]⟩, .agg #[.int .i64 e1, .string s1, .slice a1 n1 c1, .string sc1]]) (by simp [results, Tryz.results38, go_sem, x0, x1, x2, x3, y0, y1, y2, y3]) rfl ?_
    exact sam_fin (T := ⟨ep0, se, ls, sc⟩) HTE.out (HU.out _).1 (HU.out _).2.1 (HU.out _).2.2 B1.out.row B1.out.row B1.out.out A1.out.b
theorem same36_any (ep0 : Int) (se sc : ByteArray) (a : Option Addr) (n c : Nat) (ls : List ByteArray) (o : OpU) (w : World) (hs : RowK kStr w (.slice a n c) ls) (hown : ∀ k, (Value.slice a n c).ownBlock = some k → k < w.heap.size) (hsz : se.size ≤ 1000000 ∧ sc.size ≤ 1000000 ∧ ls.length ≤ 100000) (hkd : o.kd ≤ 255) (hw : o.who.size ≤ 9223372036854775807) (ht : o.text.size ≤ 9223372036854775807) :
    Calls Tryz.prog 38 #[.agg #[.int .i64 ep0, .string se, .slice a n c, .string sc], opuV o] w (SamePost w (.slice a n c) ⟨ep0, se, ls, sc⟩ (shortU o)) := by
  obtain ⟨kd, num, ep, who, text⟩ := o
  dsimp only at hkd hw ht
  have h : kd % 8 = 0 ∨ kd % 8 = 1 ∨ kd % 8 = 2 ∨ kd % 8 = 3 ∨ kd % 8 = 4 ∨ kd % 8 = 5 ∨ kd % 8 = 6 ∨ kd % 8 = 7 := by omega
  rcases h with h | h | h | h | h | h | h | h
  · exact same36_0 ep0 se sc a n c ls kd num ep who text w hs hown hsz hkd hw ht h
  · exact same36_1 ep0 se sc a n c ls kd num ep who text w hs hown hsz hkd hw ht h
  · exact same36_2 ep0 se sc a n c ls kd num ep who text w hs hown hsz hkd hw ht h
  · exact same36_3 ep0 se sc a n c ls kd num ep who text w hs hown hsz hkd hw ht h
  · exact same36_4 ep0 se sc a n c ls kd num ep who text w hs hown hsz hkd hw ht h
  · exact same36_5 ep0 se sc a n c ls kd num ep who text w hs hown hsz hkd hw ht h
  · exact same36_6 ep0 se sc a n c ls kd num ep who text w hs hown hsz hkd hw ht h
  · exact same36_7 ep0 se sc a n c ls kd num ep who text w hs hown hsz hkd hw ht h
end Go.Proofs.YtfobmfenjdiimaaGreatDoor

namespace Go.Proofs.YtfobmfenjdiimaaGreatDoor
open Go.RowKit

theorem run_checkKey_int (w : World) (em : Bool) (a : Int) : (Instr.checkKey em 10000 3 (.int .i64 a)).run Tryz.prog w = .ok () w := Go.MapKept.run_checkKey Tryz.underlying3 (by simp [Go.MapKept.IsKey]) em 9999
theorem run_stays_int (w : World) (a : Int) : (Instr.keyThatStays (.int .i64 a) (.int .i64 a)).run Tryz.prog w = .ok (.int .i64 a) w := by
  simp [Instr.keyThatStays, Instr.sameBits]
/-! ### Association lists -/
section
variable {α : Type}
def iGet (l : List (Int × α)) (n : Int) : Option α := match l with
  | [] => none
  | p :: r => if n = p.1 then some p.2 else iGet r n
def iSet (l : List (Int × α)) (n : Int) (x : α) : List (Int × α) := match l with
  | [] => [(n, x)]
  | p :: r => if n = p.1 then (n, x) :: r else p :: iSet r n x
def iAt (l : List (Int × α)) (n : Int) : Option Nat := match l with
  | [] => none
  | p :: r => if n = p.1 then some 0 else (iAt r n).map (· + 1)

/-- The block m is a map that holds l. -/
def MapZ (enc : α → Value) (w : World) (m : Nat) (l : List (Int × α)) : Prop :=
  ∃ es clock, w.heap[m]? = some (.map es clock) ∧ es.toList.map (fun e => (e.key, e.val)) = l.map (fun p => (.int .i64 p.1, enc p.2)) ∧ Stamps es clock

theorem findNow_int (enc : α → Value) (n : Int) (es : List MapEntry) (l : List (Int × α)) (h : es.map (fun e => (e.key, e.val)) = l.map (fun p => (.int .i64 p.1, enc p.2))) (i : Nat) :
    Instr.findNow (.int .i64) (.int .i64 n) es i = some ((iAt l n).map fun j => (i + j, ((iGet l n).map enc).getD (.bool false))) := by
  induction es generalizing l i with
  | nil =>
    cases l with
    | nil => simp [Instr.findNow, iAt]
    | cons p r => simp at h
  | cons e es ih =>
    cases l with
    | nil => simp at h
    | cons p r =>
      simp only [List.map_cons, List.cons.injEq, Prod.mk.injEq] at h
      obtain ⟨⟨hk, hv⟩, hr⟩ := h
      simp only [Instr.findNow, hk, Instr.sameNow, if_true]
      by_cases he : n = p.1
      · simp [he, iAt, iGet, hv]
      · have hb : (n == p.1) = false := beq_eq_false_iff_ne.2 he
        simp only [hb, ih r hr (i + 1), iAt, iGet, he, if_false]
        cases iAt r n <;> simp
        omega
theorem iAt_none {l : List (Int × α)} {n : Int} (h : iAt l n = none) : iGet l n = none ∧ ∀ x, iSet l n x = l ++ [(n, x)] := by
  induction l with
  | nil => simp [iGet, iSet]
  | cons p r ih =>
    simp only [iAt] at h
    by_cases he : n = p.1
    · simp [he] at h
    · simp only [he, if_false, Option.map_eq_none_iff] at h
      have := ih h
      simp [iGet, iSet, he, this]
theorem iAt_some {l : List (Int × α)} {n : Int} {j : Nat} (h : iAt l n = some j) : (∃ x, iGet l n = some x) ∧ (∃ p, l[j]? = some p ∧ p.1 = n) ∧ ∀ x, iSet l n x = l.set j (n, x) := by
  induction l generalizing j with
  | nil => simp [iAt] at h
  | cons p r ih =>
    simp only [iAt] at h
    by_cases he : n = p.1
    · simp [he] at h
      subst h
      simp [iGet, iSet, he]
    · simp only [he, if_false, Option.map_eq_some_iff] at h
      obtain ⟨k, hk, rfl⟩ := h
      obtain ⟨h1, h2, h3⟩ := ih hk
      simp [iGet, iSet, he, h1, h2, h3]

theorem run_findKey_int (enc : α → Value) (w : World) (n : Int) (es : List MapEntry) (l : List (Int × α)) (h : es.map (fun e => (e.key, e.val)) = l.map (fun p => (.int .i64 p.1, enc p.2))) :
    (Instr.findKey 3 (.int .i64 n) es).run Tryz.prog w = .ok ((iAt l n).map fun j => (j, ((iGet l n).map enc).getD (.bool false))) w := by
  refine Go.MapKept.run_findKey Tryz.underlying3 ?_
  rw [findNow_int enc n es l h 0]
  simp

/-- A look-up with ok. -/
theorem run_lookup_int (enc : α → Value) (w : World) (t e : TypeId) (ht : Tryz.prog.underlying t = some (.map 3 e)) (z : Value) (hz : (zeroValue e).run Tryz.prog w = .ok z w) (m : Nat) (l : List (Int × α)) (h : MapZ enc w m l) (n : Int) :
    (Instr.lookup t (.map (some m)) (.int .i64 n) true).run Tryz.prog w = .ok (.tuple #[((iGet l n).map enc).getD z, .bool (iGet l n).isSome]) w := by
  obtain ⟨es, clock, hb, hl, _⟩ := h
  have hg : (getObj m).run Tryz.prog w = .ok (.map es clock) w := by simp [getObj, Sem.run, hb]
  have hf := run_findKey_int enc w n es.toList l hl
  simp only [Instr.lookup, Sem.run_bind, run_underlying ht, Result.andThen_ok, hg, Sem.run_pure, run_checkKey_int, hf]
  cases h1 : iAt l n with
  | none => simp [(iAt_none h1).1, hz]
  | some j =>
    obtain ⟨⟨x, hx⟩, _⟩ := iAt_some h1
    simp [hx]

/-- A look-up without ok. -/
theorem run_lookup1_int (enc : α → Value) (w : World) (t e : TypeId) (ht : Tryz.prog.underlying t = some (.map 3 e)) (z : Value) (hz : (zeroValue e).run Tryz.prog w = .ok z w) (m : Nat) (l : List (Int × α)) (h : MapZ enc w m l) (n : Int) :
    (Instr.lookup t (.map (some m)) (.int .i64 n) false).run Tryz.prog w = .ok (((iGet l n).map enc).getD z) w := by
  obtain ⟨es, clock, hb, hl, _⟩ := h
  have hg : (getObj m).run Tryz.prog w = .ok (.map es clock) w := by simp [getObj, Sem.run, hb]
  have hf := run_findKey_int enc w n es.toList l hl
  simp only [Instr.lookup, Sem.run_bind, run_underlying ht, Result.andThen_ok, hg, Sem.run_pure, run_checkKey_int, hf]
  cases h1 : iAt l n with
  | none => simp [(iAt_none h1).1, hz]
  | some j =>
    obtain ⟨⟨x, hx⟩, _⟩ := iAt_some h1
    simp [hx]

/-- A store. -/
theorem run_mapUpdate_int (enc : α → Value) (w : World) (t e : TypeId) (ht : Tryz.prog.underlying t = some (.map 3 e)) (m : Nat) (l : List (Int × α)) (h : MapZ enc w m l) (n : Int) (x : α) :
    ∃ w', (Instr.mapUpdate t (.map (some m)) (.int .i64 n) (enc x)).run Tryz.prog w = .ok () w' ∧ MapZ enc w' m (iSet l n x) ∧ w.grownBy w' (some m) := by
  obtain ⟨es, clock, hb, hl, hst⟩ := h
  have hg : (getObj m).run Tryz.prog w = .ok (.map es clock) w := by simp [getObj, Sem.run, hb]
  have hs : ∀ o, (setObj m o).run Tryz.prog w = .ok () { w with heap := w.heap.setIfInBounds m o } := fun o => by simp [setObj, Sem.run, hb]
  have hf := run_findKey_int enc w n es.toList l hl
  have hlt := lt_of_heap hb
  have grown : ∀ o, w.grownBy { w with heap := w.heap.setIfInBounds m o } (some m) := fun o => ⟨rfl, rfl, rfl, by simp, fun k _ hk => by
    show (w.heap.setIfInBounds m o)[k]? = _
    rw [Array.getElem?_setIfInBounds_ne (fun e => hk (by rw [e]))]⟩
  have hnew : ∀ o, ({ w with heap := w.heap.setIfInBounds m o } : World).heap[m]? = some o := fun o => by
    show (w.heap.setIfInBounds m o)[m]? = _
    simp [hlt]
  cases h1 : iAt l n with
  | none =>
    rw [h1] at hf
    refine ⟨_, by simp only [Instr.mapUpdate, Sem.run_bind, run_underlying ht, Result.andThen_ok, hg, run_checkKey_int, hf, Option.map_none]; exact hs _, ⟨_, _, hnew _, ?_, hst.push (.int .i64 n) (enc x)⟩, grown _⟩
    rw [(iAt_none h1).2]
    simp [hl]
  | some j =>
    obtain ⟨_, ⟨p, hp, hpn⟩, hset⟩ := iAt_some h1
    rw [h1] at hf
    have hkey : ((es[j]?).map (·.key)).getD (.int .i64 n) = .int .i64 n := by
      have h2 : (es.toList.map (fun e => (e.key, e.val)))[j]? = some (.int .i64 p.1, enc p.2) := by rw [hl]; simp [hp]
      simp at h2
      obtain ⟨e', he', hk', _⟩ := h2
      simp [he', hk', hpn]
    refine ⟨_, by simp only [Instr.mapUpdate, Sem.run_bind, run_underlying ht, Result.andThen_ok, hg, run_checkKey_int, hf, Option.map_some, hkey, run_stays_int]; exact hs _, ⟨_, _, hnew _, ?_, ?_⟩, grown _⟩
    case refine_2 => exact hst.modify _ _ (fun _ => rfl)
    rw [hset]
    refine List.ext_getElem? fun i => ?_
    have hi := congrArg (fun L => L[i]?) hl
    simp only [List.getElem?_map, Array.getElem?_toList] at hi ⊢
    rw [Array.getElem?_modify, List.getElem?_set]
    by_cases hij : j = i
    · subst hij
      have hj : j < l.length := (List.getElem?_eq_some_iff.1 hp).1
      rw [if_pos rfl, if_pos rfl, if_pos hj]
      rw [hp] at hi
      cases he : es[j]? with
      | none => rw [he] at hi; simp at hi
      | some e0 => simp
    · rw [if_neg hij, if_neg hij]
      exact hi
end

end Go.Proofs.YtfobmfenjdiimaaGreatDoor

namespace Go.Proofs.YtfobmfenjdiimaaGreatDoor

theorem avGet_oneT {V V' : AV} {c : ChangeT} (hb : V'.base = V.base) (hc : V'.calls = V.calls ++ [c]) (n : NameT) : avGet V' n = if n = c.name then (c.value, !c.absent) else avGet V n := by
  unfold avGet
  rw [hb, hc, lastCall_snoc]
  by_cases h : n = c.name
  · rw [if_pos h, if_pos h]
  · rw [if_neg h, if_neg h]
theorem ofTerm_inj {a c : Int} (h : ofTerm a = ofTerm c) : a = c := by
  injection h
/-- A view whose terminals are known. -/
structure RelU (V : AV) (f : Int → Option TermT) (k : Nat) : Prop where
  has : ∀ n, HasT V n (f n)
  len : V.calls.length ≤ k
def updU (f : Int → Option TermT) (n : Int) (x : TermT) : Int → Option TermT := fun m => if m = n then some x else f m
theorem hasT_same {V V' : AV} (h : ∀ n, avGet V' (ofTerm n) = avGet V (ofTerm n)) {n : Int} {o : Option TermT} (hh : HasT V n o) : HasT V' n o := by
  cases o with
  | none => show (avGet V' (ofTerm n)).2 = false; rw [h]; exact hh
  | some t => exact ⟨(h n).trans hh.1, hh.2⟩
theorem hasT_seen {V : AV} {n e m : Int} {o : Option TermT} (h : HasT V m o) : HasT (tSeen V n e) m o := hasT_same (fun k => (tGet_seen V n e k 0).2) h
theorem seen_range {V : AV} {n e : Int} (h : inRange n e = false) : tSeen V n e = V := if_pos h
theorem u_change {V : AV} {n e : Int} {o : Option TermT} {op : TermT → TermT × Nat} (h : HasT V n o) (hr : inRange n e = true) (hg : GoodOp op) :
    (tChange op V n e).2 = (op (inT (o.getD zeroT) e)).2 ∧ ((op (inT (o.getD zeroT) e)).2 ≠ 0 → (tChange op V n e).1 = tSeen V n e) ∧
    ((op (inT (o.getD zeroT) e)).2 = 0 → (tChange op V n e).1.base = V.base ∧ (tChange op V n e).1.calls = V.calls ++ [⟨ofTerm n, strOf (encB (op (inT (o.getD zeroT) e)).1), false⟩] ∧ checkT (op (inT (o.getD zeroT) e)).1 = 0) := by
  obtain ⟨h1, h2⟩ := hasT_get h hr
  generalize inT (o.getD zeroT) e = t at *
  by_cases h0 : (op t).2 = 0
  · obtain ⟨h3, h4, h5⟩ := hg t h2 (checkT_small h2) h0
    have he : encT (op t).1 = (strOf (encB (op t).1), 0) := by simp [encT, h3]
    have : tChange op V n e = (⟨(tSeen V n e).base, (tSeen V n e).reads, (tSeen V n e).calls ++ [⟨ofTerm n, strOf (encB (op t).1), false⟩]⟩, 0) := by simp [tChange, h1, h0, he]
    rw [this]
    refine ⟨h0.symm, fun h => absurd h0 h, fun _ => ⟨?_, ?_, h3⟩⟩
    · exact tSeen_base _ _ _
    · show (tSeen V n e).calls ++ _ = _
      rw [tSeen_calls]
  · have : tChange op V n e = (tSeen V n e, (op t).2) := by simp [tChange, h1, h0]
    rw [this]
    exact ⟨rfl, fun _ => rfl, fun h => absurd h h0⟩
theorem seen_calls {V : AV} {n e : Int} : (tSeen V n e).calls = V.calls := tSeen_calls _ _ _
theorem u_bad {V : AV} {o : OpU} (hr : inRange o.num o.ep = false) : uE V o = 2 ∧ uV V o = V := by
  have h1 : tGet V o.num o.ep = (zeroT, 2) := if_pos hr
  have h2 := seen_range (V := V) hr
  have h3 : tChange (uOp o) V o.num o.ep = (V, 2) := by unfold tChange; rw [if_pos (by rw [h1]; exact (by decide : (2 : Nat) ≠ 0)), h1, h2]
  unfold uE uV
  split
  · rw [h3]; exact ⟨rfl, rfl⟩
  · rw [h1, h2]; exact ⟨rfl, rfl⟩
theorem uCh_true {o : OpU} (h : uCh o = true) : o.kd % 8 < 7 ∧ ¬ (o.kd % 8 = 6 ∧ o.text.size = 0) := by
  unfold uCh at h
  rw [Bool.and_eq_true, Bool.not_eq_true', Bool.and_eq_false_iff] at h
  refine ⟨of_decide_eq_true h.1, fun h2 => ?_⟩
  rcases h.2 with h3 | h3
  · exact of_decide_eq_false h3 h2.1
  · exact of_decide_eq_false h3 h2.2
theorem uCh_false {o : OpU} (h : uCh o = false) : o.kd % 8 = 7 ∨ (o.kd % 8 = 6 ∧ o.text.size = 0) := by
  unfold uCh at h
  rw [Bool.and_eq_false_iff, Bool.not_eq_false', Bool.and_eq_true] at h
  rcases h with h | h
  · have := of_decide_eq_false h
    exact .inl (by omega)
  · exact .inr ⟨of_decide_eq_true h.1, of_decide_eq_true h.2⟩
theorem uOp_none {o : OpU} (h : uCh o = false) (t : TermT) : (uOp o t).2 = 0 := by
  rcases uCh_false h with h | ⟨h, h2⟩
  · unfold uOp; simp [h]
  · unfold uOp opShow; simp [h, h2]
/-- A step that is in range. -/
theorem u_step {V : AV} {f : Int → Option TermT} {k : Nat} {o : OpU} (h : RelU V f k) (hw : o.who.size ≤ 1000) (hr : inRange o.num o.ep = true) :
    uE V o = (uOp o (inT ((f o.num).getD zeroT) o.ep)).2 ∧ uLine V o = uLineT o (inT ((f o.num).getD zeroT) o.ep) ∧ uGot V o = uGotT o (inT ((f o.num).getD zeroT) o.ep) ∧
    ((uOp o (inT ((f o.num).getD zeroT) o.ep)).2 ≠ 0 → (uV V o).calls = V.calls) ∧
    ((uOp o (inT ((f o.num).getD zeroT) o.ep)).2 = 0 → uCh o = true → RelU (uV V o) (updU f o.num (uOp o (inT ((f o.num).getD zeroT) o.ep)).1) (k + 1)) ∧
    (¬ ((uOp o (inT ((f o.num).getD zeroT) o.ep)).2 = 0 ∧ uCh o = true) → RelU (uV V o) f (k + 1)) := by
  have hh := h.has o.num
  obtain ⟨g1, g2⟩ := hasT_get hh hr
  obtain ⟨c1, c2, c3⟩ := u_change hh hr (uOp_good o hw)
  have hrd : uLine V o = uLineT o (inT ((f o.num).getD zeroT) o.ep) := by
    unfold uLine uLineT
    by_cases h4 : o.kd % 8 = 4 ∨ o.kd % 8 = 5
    · rw [if_pos h4, if_pos h4]
      obtain ⟨d1, -, -⟩ := u_change hh hr (good_take o.who)
      unfold tRead readL
      dsimp only
      rw [d1, g1]
    · rw [if_neg h4, if_neg h4]
  have hgt : uGot V o = uGotT o (inT ((f o.num).getD zeroT) o.ep) := by
    unfold uGot uGotT
    rw [g1]
  generalize inT ((f o.num).getD zeroT) o.ep = t at *
  have hseen : RelU (tSeen V o.num o.ep) f (k + 1) := ⟨fun n => hasT_seen (h.has n), by rw [seen_calls]; exact Nat.le_succ_of_le h.len⟩
  unfold uE uV
  cases hc : uCh o with
  | true =>
    rw [if_pos rfl, if_pos rfl]
    refine ⟨c1, hrd, hgt, fun h0 => by rw [c2 h0, seen_calls], fun h0 _ => ?_, fun h0 => ?_⟩
    · obtain ⟨e1, e2, e3⟩ := c3 h0
      refine ⟨fun n => ?_, by rw [e2]; simp; exact h.len⟩
      unfold updU
      by_cases hn : n = o.num
      · rw [if_pos hn]
        refine ⟨?_, e3⟩
        rw [avGet_oneT e1 e2, if_pos (by rw [hn])]
        rfl
      · rw [if_neg hn]
        have h5 : avGet (tChange (uOp o) V o.num o.ep).1 (ofTerm n) = avGet V (ofTerm n) := by
          rw [avGet_oneT e1 e2, if_neg (fun h => hn (ofTerm_inj h))]
        have h6 := h.has n
        revert h6
        cases f n with
        | none => exact fun h6 => (congrArg Prod.snd h5).trans h6
        | some t' => exact fun h6 => ⟨h5.trans h6.1, h6.2⟩
    · have h1 : (uOp o t).2 ≠ 0 := fun h1 => h0 ⟨h1, rfl⟩
      rw [c2 h1]
      exact hseen
  | false =>
    rw [if_neg (fun h => nomatch h), if_neg (fun h => nomatch h)]
    have h0 := uOp_none hc t
    exact ⟨by rw [g1, h0], hrd, hgt, fun h => absurd h0 h, fun _ h => absurd h (by decide), fun _ => hseen⟩
/-- The number and the epoch as the law tests them. -/
theorem inRange_iff {n e : Int} : inRange n e = true ↔ (1 ≤ n ∧ n ≤ 99 ∧ 0 ≤ e ∧ e ≤ 1073741824) := by
  unfold inRange epochB
  simp
  omega
theorem relU_empty : RelU ⟨fun _ => none, [], []⟩ (fun _ => none) 0 := ⟨fun _ => rfl, Nat.le_refl _⟩
/-- A terminal and where its row lies. -/
structure TRow where
  t : TermT
  a : Option Addr
  n : Nat
  c : Nat
def encR (x : TRow) : Value := .agg #[.int .i64 x.t.epoch, .string x.t.session, .slice x.a x.n x.c, .string x.t.screen]
def zeroR : TRow := ⟨zeroT, none, 0, 0⟩
def funR (l : List (Int × TRow)) (n : Int) : Option TermT := (iGet l n).map TRow.t
theorem iGet_set {α : Type} (l : List (Int × α)) (n m : Int) (x : α) : iGet (iSet l n x) m = if m = n then some x else iGet l m := by
  induction l with
  | nil => simp [iSet, iGet]
  | cons p r ih =>
    unfold iSet
    by_cases h : n = p.1
    · rw [if_pos h]
      unfold iGet
      by_cases h2 : m = n
      · rw [if_pos h2, if_pos h2]
      · rw [if_neg h2, if_neg h2, if_neg (by rw [← h]; exact h2)]
    · rw [if_neg h]
      unfold iGet
      by_cases h2 : m = p.1
      · rw [if_pos h2, if_pos h2, if_neg (by rw [h2]; exact fun e => h e.symm)]
      · rw [if_neg h2, if_neg h2]
        exact ih
theorem funR_set (l : List (Int × TRow)) (n : Int) (x : TRow) : funR (iSet l n x) = updU (funR l) n x.t := by
  funext m
  unfold funR updU
  rw [iGet_set]
  split <;> rfl
theorem mem_iSet {α : Type} {l : List (Int × α)} {n : Int} {x : α} {p : Int × α} (h : p ∈ iSet l n x) : p = (n, x) ∨ p ∈ l := by
  induction l with
  | nil => simp [iSet] at h; exact .inl h
  | cons q r ih =>
    unfold iSet at h
    split at h
    · rcases List.mem_cons.1 h with h | h
      · exact .inl h
      · exact .inr (List.mem_cons_of_mem _ h)
    · rcases List.mem_cons.1 h with h | h
      · exact .inr (by rw [h]; simp)
      · exact (ih h).imp id (List.mem_cons_of_mem _)
theorem iGet_mem {α : Type} {l : List (Int × α)} {n : Int} {x : α} (h : iGet l n = some x) : (n, x) ∈ l := by
  induction l with
  | nil => cases h
  | cons q r ih =>
    unfold iGet at h
    split at h
    · rename_i e
      injection h with h
      rw [e, ← h]
      simp
    · exact List.mem_cons_of_mem _ (ih h)
end Go.Proofs.YtfobmfenjdiimaaGreatDoor
