/- Law 31: DescriptorTouches. (printed by wip/gen_dscto.py) -/
import Derived.Test.YtfchfjipkggnkaaGreatDoorDscAf
import Derived.Test.YtfchfjipkggnkaaGreatDoorDscU
import Derived.Test.YtfchfjipkggnkaaGreatDoorRdsE
import Derived.Test.YtfchfjipkggnkaaGreatDoorNeqC
import Derived.Deep.RegionHeld3
import Derived.Laws.AppendOwnNone
namespace Go.Proofs.YtfchfjipkggnkaaGreatDoor
open Go.RowKit
attribute [local go_sem ↓] Go.wp_at_zero Go.wp_at_succ
attribute [local go_sem ↓] run_neq_name

theorem run_len_chg (w : World) (a : Option Addr) (n c : Nat) : (Builtin.len_ #[58] 3 #[.slice a n c]).run Tryz.prog w = .ok (.int .i64 n) w := run_len_slice (P := Tryz.prog) (w := w) 58 3 a n c (by kernel_rfl)
attribute [local go_sem ↓] run_len_chg
theorem monoK {md : Region.Mode} {ops : Array Oper} {Q : Exit → Act → World → Prop} {S : World → Prop} (k i : Nat) (s : ByteArray) {fuel : Nat} {li : Array Bool} {a : Act} {w : World} (h : wpAnyH Tryz.prog md ops Q (fun W => S W ∧ W.cell? ⟨k, i, none⟩ = some (.string s)) fuel li a w) : wpAnyH Tryz.prog md ops Q S fuel li a w := wpAnyH_monoN (fun _ h => h.1) _ _ _ _ h
theorem new_nm (u : World) : Below u.heap.size u (u.alloc (.cells #[.int .i64 0, .string ⟨#[]⟩, .int .i64 0, .int .i64 0, .string ⟨#[]⟩] 56)) ∧ Hid (RowIs (u.alloc (.cells #[.int .i64 0, .string ⟨#[]⟩, .int .i64 0, .int .i64 0, .string ⟨#[]⟩] 56)) u.heap.size 56 [.int .i64 0, .string ⟨#[]⟩, .int .i64 0, .int .i64 0, .string ⟨#[]⟩]) := ⟨(Below.refl _ _).alloc (Nat.le_refl _) _, new_row u 56 [.int .i64 0, .string ⟨#[]⟩, .int .i64 0, .int .i64 0, .string ⟨#[]⟩]⟩
theorem ex_nm (u : World) : ∃ u', u.alloc (.cells #[.int .i64 0, .string ⟨#[]⟩, .int .i64 0, .int .i64 0, .string ⟨#[]⟩] 56) = u' := ⟨_, rfl⟩
theorem name_cells {u : World} {p : Nat} {a b c d e : Value} (h : RowIs u p 56 [a, b, c, d, e]) : u.cell? ⟨p, 0, none⟩ = some a ∧ u.cell? ⟨p, 1, none⟩ = some b ∧ u.cell? ⟨p, 2, none⟩ = some c ∧ u.cell? ⟨p, 3, none⟩ = some d ∧ u.cell? ⟨p, 4, none⟩ = some e ∧ u.frozen? ⟨p, 0, none⟩ = false ∧ u.frozen? ⟨p, 1, none⟩ = false ∧ u.frozen? ⟨p, 2, none⟩ = false ∧ u.frozen? ⟨p, 3, none⟩ = false ∧ u.frozen? ⟨p, 4, none⟩ = false := ⟨h.cell rfl, h.cell rfl, h.cell rfl, h.cell rfl, h.cell rfl, h.free 0, h.free 1, h.free 2, h.free 3, h.free 4⟩
theorem grown_five (u : World) (p : Nat) (a b c d e : Value) : u.grownBy (((((u.setCell ⟨p, 0, none⟩ a).setCell ⟨p, 1, none⟩ b).setCell ⟨p, 2, none⟩ c).setCell ⟨p, 3, none⟩ d).setCell ⟨p, 4, none⟩ e) (some p) := grown_trans (grown_trans (grown_trans (grown_trans (grown_setCell _ _ _ _) (grown_setCell _ _ _ _)) (grown_setCell _ _ _ _)) (grown_setCell _ _ _ _)) (grown_setCell _ _ _ _)
theorem row_five {u : World} {p : Nat} {x0 x1 x2 x3 x4 : Value} (h : RowIs u p 56 [x0, x1, x2, x3, x4]) (a b c d e : Value) : RowIs (((((u.setCell ⟨p, 0, none⟩ a).setCell ⟨p, 1, none⟩ b).setCell ⟨p, 2, none⟩ c).setCell ⟨p, 3, none⟩ d).setCell ⟨p, 4, none⟩ e) p 56 [a, b, c, d, e] := ((((h.set 0 a).set 1 b).set 2 c).set 3 d).set 4 e
theorem cellB {w w' : World} {x i : Nat} {v : Value} (h : w.cell? ⟨x, i, none⟩ = some v) (hb : Below w.heap.size w w') : w'.cell? ⟨x, i, none⟩ = some v := ((bcell hb).1 x i (World.block_lt_of_cell? w _ h)).trans h
theorem cellG {w w' : World} {x i p : Nat} {v : Value} (h : w.cell? ⟨x, i, none⟩ = some v) (hg : w.grownBy w' (some p)) (hne : some x ≠ some p) : w'.cell? ⟨x, i, none⟩ = some v := (World.cell?_of_block (a := ⟨x, i, none⟩) (hg.block x (World.block_lt_of_cell? w _ h) hne)).trans h
theorem c2B {w w' : World} {x1 i1 x2 i2 : Nat} {v1 v2 : Value} (h : w.cell? ⟨x1, i1, none⟩ = some v1 ∧ w.cell? ⟨x2, i2, none⟩ = some v2) (hb : Below w.heap.size w w') : w'.cell? ⟨x1, i1, none⟩ = some v1 ∧ w'.cell? ⟨x2, i2, none⟩ = some v2 := ⟨cellB h.1 hb, cellB h.2 hb⟩
theorem c3B {w w' : World} {x1 i1 x2 i2 x3 i3 : Nat} {v1 v2 v3 : Value} (h : (w.cell? ⟨x1, i1, none⟩ = some v1 ∧ w.cell? ⟨x2, i2, none⟩ = some v2) ∧ w.cell? ⟨x3, i3, none⟩ = some v3) (hb : Below w.heap.size w w') : (w'.cell? ⟨x1, i1, none⟩ = some v1 ∧ w'.cell? ⟨x2, i2, none⟩ = some v2) ∧ w'.cell? ⟨x3, i3, none⟩ = some v3 := ⟨c2B h.1 hb, cellB h.2 hb⟩
theorem c4B {w w' : World} {x1 i1 x2 i2 x3 i3 x4 i4 : Nat} {v1 v2 v3 v4 : Value} (h : ((w.cell? ⟨x1, i1, none⟩ = some v1 ∧ w.cell? ⟨x2, i2, none⟩ = some v2) ∧ w.cell? ⟨x3, i3, none⟩ = some v3) ∧ w.cell? ⟨x4, i4, none⟩ = some v4) (hb : Below w.heap.size w w') : ((w'.cell? ⟨x1, i1, none⟩ = some v1 ∧ w'.cell? ⟨x2, i2, none⟩ = some v2) ∧ w'.cell? ⟨x3, i3, none⟩ = some v3) ∧ w'.cell? ⟨x4, i4, none⟩ = some v4 := ⟨c3B h.1 hb, cellB h.2 hb⟩
theorem lastCall_inD {cs : List ChangeT} {n : NameT} {c : ChangeT} (h : lastCall cs n = some c) : c ∈ cs := by
  induction cs with
  | nil => cases h
  | cons d cs ih =>
    unfold lastCall at h
    split at h
    · rename_i e he
      cases h
      exact List.mem_cons_of_mem _ (ih he)
    · split at h
      · cases h; exact List.mem_cons_self
      · cases h
theorem writes_inD {cs : List ChangeT} {c : ChangeT} (h : c ∈ writesU cs) : c ∈ cs := lastCall_inD (writes_mem.1 h)
theorem QM.rdkD {w0 w : World} {b M : Nat} {V : AV} {G : Nat → Prop} (s : QM w0 w b M V G) : ReadsOk V.reads := by
  obtain ⟨⟨h, hv, _⟩, _⟩ := s
  exact hv.rdk
theorem two_namesD {l : List NameT} {x y : NameT} (hn : l.Nodup) (h : ∀ n ∈ l, n = x ∨ n = y) : l.length ≤ 2 := by
  match l, hn, h with
  | [], _, _ => simp
  | [_], _, _ => simp
  | [_, _], _, _ => simp
  | a :: b :: c :: r, hn, h =>
    exfalso
    simp only [List.nodup_cons, List.mem_cons, not_or] at hn
    obtain ⟨⟨h1, h2, _⟩, ⟨h3, _⟩, _⟩ := hn
    have ha := h a (by simp)
    have hb := h b (by simp)
    have hc := h c (by simp)
    rcases ha with rfl | rfl <;> rcases hb with rfl | rfl <;> rcases hc with rfl | rfl <;> simp_all
theorem touch_plain (o : OpD) (f : NameT → Option ByteArray) : (∀ p ∈ ((pTree o).run ⟨f, [], []⟩).1.reads, NamesD o p.1) ∧ (∀ c ∈ ((pTree o).run ⟨f, [], []⟩).1.calls, NamesD o c.name) ∧ ((pTree o).run ⟨f, [], []⟩).1.calls.length ≤ 1 := by
  have h := (pTree o).run_touch ⟨f, [], []⟩ (pTree_in o) (by simp) (by simp)
  have h2 := pTree_len1 o ⟨f, [], []⟩
  exact ⟨h.1, h.2, h2⟩
theorem touch_names {V : AV} {P : NameT → Prop} {x y : NameT} (hxy : ∀ n, P n → n = x ∨ n = y) (hr : ReadsOk V.reads) (h1 : ∀ p ∈ V.reads, P p.1) (h2 : ∀ c ∈ V.calls, P c.name) (h3 : V.calls.length ≤ 1) : V.reads.length ≤ 2 ∧ ∀ c1 c2 : List ChangeT, c1.Perm (V.reads.map Prod.snd) → c2.Perm (writesU V.calls) → (∀ c ∈ c1 ++ c2, P c.name) ∧ c1.length ≤ 2 ∧ c2.length ≤ 1 := by
  have hL : V.reads.length ≤ 2 := by
    rw [← List.length_map (f := Prod.fst)]
    refine two_namesD (x := x) (y := y) hr.1 (fun n hn => ?_)
    obtain ⟨p, hp, rfl⟩ := List.mem_map.1 hn
    exact hxy _ (h1 p hp)
  refine ⟨hL, fun c1 c2 p1 p2 => ⟨fun c hc => ?_, ?_, ?_⟩⟩
  · rcases List.mem_append.1 hc with h | h
    · obtain ⟨p, hp, rfl⟩ := List.mem_map.1 (p1.mem_iff.1 h)
      rw [(hr.2 p hp).1]
      exact h1 p hp
    · exact h2 c (writes_inD (p2.mem_iff.1 h))
  · rw [p1.length_eq, List.length_map]
    exact hL
  · rw [p2.length_eq]
    have hz : writesU V.calls = [] ∨ ∃ c, V.calls = [c] := by
      match hq : V.calls, h3 with
      | [], _ => exact .inl rfl
      | [c], _ => exact .inr ⟨c, rfl⟩
      | _ :: _ :: _, h => simp at h
    rcases hz with hz | ⟨c, hz⟩
    · rw [hz]; simp
    · rw [hz]; exact Nat.le_refl 1
theorem ownC_later {base : Nat} {w w' : World} {v : Value} {cs : List ChangeT} (h : OwnC base w v cs) (hb : Below w.heap.size w w') : OwnC base w' v cs := by
  obtain ⟨h1, h2⟩ := h
  refine ⟨h1, ?_⟩
  rcases h2 with h2 | ⟨g, cap, cur, hv, hg, hh, r⟩
  · exact .inl h2
  · exact .inr ⟨g, cap, cur, hv, hg, (hb.block g (lt_of_heap hh)).trans hh, r⟩
theorem own_ne {base : Nat} {w : World} {v : Value} {cs : List ChangeT} (h : OwnC base w v cs) {k : Nat} (hk : k < base) : some k ≠ v.ownBlock := fun e => by
  rcases h.2 with ⟨hv, _⟩ | ⟨g, cap, cur, hv, hg, _⟩
  · rw [hv] at e; cases e
  · rw [hv] at e
    have hkg : k = g := by simpa [Value.ownBlock] using e
    omega
theorem rowC_later {w w' : World} {v : Value} {cs : List ChangeT} (h : RowC w v cs) (hb : Below w.heap.size w w') : RowC w' v cs := h.later hb
theorem rowC_cells {w : World} {a : Option Addr} {n cap : Nat} {cs : List ChangeT} (h : RowC w (.slice a n cap) cs) {i : Nat} {c : ChangeT} (hi : cs[i]? = some c) : ∃ g, a = some ⟨g, 0, none⟩ ∧ n = cs.length ∧
    w.cell? ⟨g, i * 7, none⟩ = some (.int .i64 c.name.kind) ∧ w.cell? ⟨g, i * 7 + 1, none⟩ = some (.string c.name.owner) ∧ w.cell? ⟨g, i * 7 + 2, none⟩ = some (.int .i64 c.name.number) ∧ w.cell? ⟨g, i * 7 + 3, none⟩ = some (.int .i64 c.name.index) ∧ w.cell? ⟨g, i * 7 + 4, none⟩ = some (.string c.name.text) ∧
    w.cell? ⟨g, i * 7 + 5, none⟩ = some (.string c.value) ∧ w.cell? ⟨g, i * 7 + 6, none⟩ = some (.bool c.absent) := by
  obtain ⟨a', cap', hv, hc⟩ := h
  cases hv
  obtain ⟨g, rfl, hg⟩ := hc i c hi
  exact ⟨g, rfl, rfl, hg 0 _ rfl, hg 1 _ rfl, hg 2 _ rfl, hg 3 _ rfl, hg 4 _ rfl, hg 5 _ rfl, hg 6 _ rfl⟩
theorem flat_appD (a c : List ChangeT) : (a ++ c).flatMap changeCells = a.flatMap changeCells ++ c.flatMap changeCells := List.flatMap_append
theorem own_appD {base : Nat} {w : World} {v : Value} {cs1 cs2 : List ChangeT} (h : w.ownsRow base 61 7 v (cs1.length + cs2.length) (cs1.flatMap changeCells ++ cs2.flatMap changeCells)) : OwnC base w v (cs1 ++ cs2) := by
  unfold OwnC
  rw [List.length_append, flat_appD]
  exact h

set_option maxRecDepth 100000 in
/-- append of a row of changes onto an own row of changes. -/
theorem wpList_append_rowsD {ops : Array Oper} {rest : List Oper} {o : Oper} {a : Act} {Q : Exit → Act → World → Prop} (hgd : o.guard = none) (s x : Operand)
    (ho : o.op = .call { callee := .builtin .append, args := #[s, x], argTypes := #[58, 58] }) {w : World} (base : Nat) (v1 v2 : Value) (cs1 cs2 : List ChangeT) (hs : a.eval s = v1) (hown : OwnC base w v1 cs1)
    (hx : a.eval x = v2) (hr : RowC w v2 cs2) (hno : NilOr v2) (hlen : cs1.length + cs2.length ≤ 1000000) (hbase : base ≤ w.heap.size)
    (h : ∀ v' w', OwnC base w' v' (cs1 ++ cs2) → w.grownBy w' v1.ownBlock → wpList Tryz.prog ops Q rest (a.put o.dst v') w') : wpList Tryz.prog ops Q (o :: rest) a w := by
  obtain ⟨i0, hi, hz0, hz1, hz2⟩ := info_parts Tryz.infoChange
  obtain ⟨a2, cap, rfl, hc⟩ := hr
  rcases hno with hv | ⟨g2, n2, cap2, hv⟩
  · have h0 : cs2.length = 0 := by injection hv
    obtain rfl : cs2 = [] := List.eq_nil_of_length_eq_zero h0
    rw [hv] at hx
    refine wpList_append_own_none hgd s x _ ho base _ i0 7 Tryz.underlying58 hi v1 cs1.length (cs1.flatMap changeCells) hs hown hx ?_
    exact h v1 w (by simpa using hown) (grown_refl _ _)
  · have ha : a2 = some ⟨g2, 0, none⟩ := by injection hv
    subst ha
    refine wpList_append_own w hgd s x _ ho base _ i0 changeZ 7 80 Tryz.underlying58 hi hz0 hz1 hz2 rfl (by decide) v1 cs1.length (cs1.flatMap changeCells) hs hown ⟨g2, 0, none⟩ cs2.length cap (cs2.flatMap changeCells) hx (flat_len cs2) ?_ ?_ (by unfold maxLen; omega) (by omega) hbase ?_
    · intro j u hj
      have hlt : j < cs2.length * 7 := by rw [← flat_len]; exact (List.getElem?_eq_some_iff.1 hj).1
      have hi7 : j / 7 < cs2.length := by omega
      obtain ⟨g, hg, hcell⟩ := hc (j / 7) cs2[j / 7] (List.getElem?_eq_getElem hi7)
      cases hg
      have hjl : j % 7 < (changeCells cs2[j / 7]).length := Nat.mod_lt _ (by decide)
      have hfl := flat_get cs2 (j / 7) (j % 7) _ (List.getElem?_eq_getElem hi7) (Nat.mod_lt _ (by decide)) (List.getElem?_eq_getElem hjl)
      rw [show j / 7 * 7 + j % 7 = j by omega, hj] at hfl
      have := hcell (j % 7) _ (List.getElem?_eq_getElem hjl)
      rw [show j / 7 * 7 + j % 7 = j by omega, ← hfl] at this
      have e : (⟨g2, 0, none⟩ : Addr).add j = ⟨g2, j, none⟩ := by
        unfold Addr.add
        split
        · rename_i h; subst h; rfl
        · simp
      rw [e]
      exact this
    · intro u hu
      obtain ⟨c, _, hc⟩ := List.mem_flatMap.1 hu
      simp [changeCells] at hc
      rcases hc with rfl | rfl | rfl | rfl | rfl | rfl | rfl <;> rfl
    · intro v' w' h1 h2 _
      exact h v' w' (own_appD h1) h2


set_option linter.unusedSimpArgs false in
set_option maxRecDepth 100000 in
set_option maxHeartbeats 25600000 in
theorem dtouches_any (a : Option Addr) (n c : Nat) (fo : Nat → OpD) (kd who tw : Nat) (fd nn okd : Int) (omak : ByteArray) (obn onum ooff : Int) (ord owr oap : Bool) (hbd : kd ≤ 255 ∧ who ≤ 255 ∧ tw ≤ 255 ∧ (-9223372036854775808 ≤ nn ∧ nn ≤ 9223372036854775807) ∧ omak.size ≤ 9223372036854775807) (w : World) (hu : Usages w) (hn : n ≤ 9223372036854775807) (hl : OpSlD w a n fo) : Calls Tryz.prog 5 #[.slice a n c, .agg #[.int .u8 kd, .int .u8 who, .int .u8 tw, .int .i64 fd, .int .i64 nn, .int .i64 okd, .string omak, .int .i64 obn, .int .i64 onum, .int .i64 ooff, .bool ord, .bool owr, .bool oap]] w fun r w' => r = .returned (.bool true) ∧ Below w.heap.size w w' := by
  have hb0 : Below w.heap.size w (w.alloc (.cells #[.int .u8 kd, .int .u8 who, .int .u8 tw, .int .i64 fd, .int .i64 nn, .int .i64 okd, .string omak, .int .i64 obn, .int .i64 onum, .int .i64 ooff, .bool ord, .bool owr, .bool oap] 49)) := (Below.refl _ _).alloc (Nat.le_refl _) _
  have HA := Lib.hid (after_any31 a n c fo (w.alloc (.cells #[.int .u8 kd, .int .u8 who, .int .u8 tw, .int .i64 fd, .int .i64 nn, .int .i64 okd, .string omak, .int .i64 obn, .int .i64 onum, .int .i64 ooff, .bool ord, .bool owr, .bool oap] 49)) (hu.below hb0 hu.pos) hn (hl.later hb0))
  have B0 : Hid (RowIs (w.alloc (.cells #[.int .u8 kd, .int .u8 who, .int .u8 tw, .int .i64 fd, .int .i64 nn, .int .i64 okd, .string omak, .int .i64 obn, .int .i64 onum, .int .i64 ooff, .bool ord, .bool owr, .bool oap] 49)) w.heap.size 49 [.int .u8 kd, .int .u8 who, .int .u8 tw, .int .i64 fd, .int .i64 nn, .int .i64 okd, .string omak, .int .i64 obn, .int .i64 onum, .int .i64 ooff, .bool ord, .bool owr, .bool oap]) := new_row w 49 [.int .u8 kd, .int .u8 who, .int .u8 tw, .int .i64 fd, .int .i64 nn, .int .i64 okd, .string omak, .int .i64 obn, .int .i64 onum, .int .i64 ooff, .bool ord, .bool owr, .bool oap]
  have Hp : Hid (0 < w.heap.size) := hu.pos
  have HB0 := Lib.hid hb0
  have Hbd := Lib.hid hbd
  clear hu hn hl hb0 hbd
  go_enter Tryz.func5, Tryz.ntmps5
  go_wp2_with fail
  obtain ⟨wa, hwa⟩ : ∃ wa, w.alloc (.cells #[.int .u8 kd, .int .u8 who, .int .u8 tw, .int .i64 fd, .int .i64 nn, .int .i64 okd, .string omak, .int .i64 obn, .int .i64 onum, .int .i64 ooff, .bool ord, .bool owr, .bool oap] 49) = wa := ⟨_, rfl⟩
  rw [hwa] at HA B0 HB0 ⊢
  clear hwa
  refine HA.out.mono ?_
  rintro r w1 ⟨sp, m, f, rfl, hI⟩
  have B1 := Lib.hid (B0.out.later hI.low)
  have HI1 := Lib.hid hI
  have HKn := Lib.hid (known31_any w1 hI.us)
  clear hI HA B0
  go_wp2_with fail
  refine HKn.out.mono ?_
  rintro r w2 ⟨rfl, hb⟩
  have HI2 := Lib.hid (HI1.out.later hb)
  have B2 := Lib.hid (B1.out.later hb)
  clear hb HI1 HKn B1
  have b5 := B2.out.cell (i := 5) rfl
  have b6 := B2.out.cell (i := 6) rfl
  have b7 := B2.out.cell (i := 7) rfl
  have b8 := B2.out.cell (i := 8) rfl
  have b9 := B2.out.cell (i := 9) rfl
  have b10 := B2.out.cell (i := 10) rfl
  have b11 := B2.out.cell (i := 11) rfl
  have b12 := B2.out.cell (i := 12) rfl
  go_wp2_with fail
  refine (cut31_any okd omak obn onum ooff ord owr oap _ Hbd.out.2.2.2.2).mono ?_
  obtain ⟨m2, hm2⟩ : ∃ m2, cutB omak 80 = m2 := ⟨_, rfl⟩
  rw [hm2]
  have Hm2 : Hid (m2.size ≤ 70368744177664) := by show _ ≤ _; rw [← hm2]; exact Nat.le_trans (cutB_size _ _) (by decide)
  clear hm2
  rintro r w4' ⟨rfl, hb⟩
  obtain ⟨w4, hw4⟩ : ∃ w4, w4' = w4 := ⟨_, rfl⟩
  rw [hw4] at hb ⊢
  clear b5 b6 b7 b8 b9 b10 b11 b12 hw4
  have HI4 := Lib.hid (HI2.out.later hb)
  have B4 := Lib.hid (B2.out.later hb)
  clear hb HI2 B2
  have b5 := B4.out.cell (i := 5) rfl
  have b6 := B4.out.cell (i := 6) rfl
  have b7 := B4.out.cell (i := 7) rfl
  have b8 := B4.out.cell (i := 8) rfl
  have b9 := B4.out.cell (i := 9) rfl
  have b10 := B4.out.cell (i := 10) rfl
  have b11 := B4.out.cell (i := 11) rfl
  have b12 := B4.out.cell (i := 12) rfl
  have q5 := B4.out.free 5
  have q6 := B4.out.free 6
  have q7 := B4.out.free 7
  have q8 := B4.out.free 8
  have q9 := B4.out.free 9
  have q10 := B4.out.free 10
  have q11 := B4.out.free 11
  have q12 := B4.out.free 12
  have hg : w4.grownBy ((((((((w4.setCell ⟨w.heap.size, 5, none⟩ (.int .i64 okd)).setCell ⟨w.heap.size, 6, none⟩ (.string m2)).setCell ⟨w.heap.size, 7, none⟩ (.int .i64 obn)).setCell ⟨w.heap.size, 8, none⟩ (.int .i64 onum)).setCell ⟨w.heap.size, 9, none⟩ (.int .i64 ooff)).setCell ⟨w.heap.size, 10, none⟩ (.bool ord)).setCell ⟨w.heap.size, 11, none⟩ (.bool owr)).setCell ⟨w.heap.size, 12, none⟩ (.bool oap)) (some w.heap.size) := grown_set8 _ _ _ _ _ _ _ _ _ _ _ _ _ _ _ _ _ _
  have B5 : Hid (RowIs ((((((((w4.setCell ⟨w.heap.size, 5, none⟩ (.int .i64 okd)).setCell ⟨w.heap.size, 6, none⟩ (.string m2)).setCell ⟨w.heap.size, 7, none⟩ (.int .i64 obn)).setCell ⟨w.heap.size, 8, none⟩ (.int .i64 onum)).setCell ⟨w.heap.size, 9, none⟩ (.int .i64 ooff)).setCell ⟨w.heap.size, 10, none⟩ (.bool ord)).setCell ⟨w.heap.size, 11, none⟩ (.bool owr)).setCell ⟨w.heap.size, 12, none⟩ (.bool oap)) w.heap.size 49 [.int .u8 kd, .int .u8 who, .int .u8 tw, .int .i64 fd, .int .i64 nn, .int .i64 okd, .string m2, .int .i64 obn, .int .i64 onum, .int .i64 ooff, .bool ord, .bool owr, .bool oap]) := (((((((B4.out.set 5 _).set 6 _).set 7 _).set 8 _).set 9 _).set 10 _).set 11 _).set 12 _
  have HS5 : Hid (BaseN 30 (((((((((w4.setCell ⟨w.heap.size, 5, none⟩ (.int .i64 okd)).setCell ⟨w.heap.size, 6, none⟩ (.string m2)).setCell ⟨w.heap.size, 7, none⟩ (.int .i64 obn)).setCell ⟨w.heap.size, 8, none⟩ (.int .i64 onum)).setCell ⟨w.heap.size, 9, none⟩ (.int .i64 ooff)).setCell ⟨w.heap.size, 10, none⟩ (.bool ord)).setCell ⟨w.heap.size, 11, none⟩ (.bool owr)).setCell ⟨w.heap.size, 12, none⟩ (.bool oap))).heap.size ((((((((w4.setCell ⟨w.heap.size, 5, none⟩ (.int .i64 okd)).setCell ⟨w.heap.size, 6, none⟩ (.string m2)).setCell ⟨w.heap.size, 7, none⟩ (.int .i64 obn)).setCell ⟨w.heap.size, 8, none⟩ (.int .i64 onum)).setCell ⟨w.heap.size, 9, none⟩ (.int .i64 ooff)).setCell ⟨w.heap.size, 10, none⟩ (.bool ord)).setCell ⟨w.heap.size, 11, none⟩ (.bool owr)).setCell ⟨w.heap.size, 12, none⟩ (.bool oap)) sp f) := (HI4.out.base.box B4.out apart_O hg).up hg.size
  have HU5 : Hid (Usages ((((((((w4.setCell ⟨w.heap.size, 5, none⟩ (.int .i64 okd)).setCell ⟨w.heap.size, 6, none⟩ (.string m2)).setCell ⟨w.heap.size, 7, none⟩ (.int .i64 obn)).setCell ⟨w.heap.size, 8, none⟩ (.int .i64 onum)).setCell ⟨w.heap.size, 9, none⟩ (.int .i64 ooff)).setCell ⟨w.heap.size, 10, none⟩ (.bool ord)).setCell ⟨w.heap.size, 11, none⟩ (.bool owr)).setCell ⟨w.heap.size, 12, none⟩ (.bool oap))) := HI4.out.us.below (below_box (B := 1) hg (by have := Hp.out; omega) B4.out.lt) (by decide)
  have HW5 : Hid (Below w.heap.size w ((((((((w4.setCell ⟨w.heap.size, 5, none⟩ (.int .i64 okd)).setCell ⟨w.heap.size, 6, none⟩ (.string m2)).setCell ⟨w.heap.size, 7, none⟩ (.int .i64 obn)).setCell ⟨w.heap.size, 8, none⟩ (.int .i64 onum)).setCell ⟨w.heap.size, 9, none⟩ (.int .i64 ooff)).setCell ⟨w.heap.size, 10, none⟩ (.bool ord)).setCell ⟨w.heap.size, 11, none⟩ (.bool owr)).setCell ⟨w.heap.size, 12, none⟩ (.bool oap))) := (HB0.out.trans (HI4.out.low.mono HB0.out.size)).trans (below_box (B := w.heap.size) hg (Nat.le_refl _) B4.out.lt)
  clear hg
  go_upto_region 5 with fail
  clear b5 b6 b7 b8 b9 b10 b11 b12 q5 q6 q7 q8 q9 q10 q11 q12
  obtain ⟨w5, hw5⟩ : ∃ w5, ((((((((w4.setCell ⟨w.heap.size, 5, none⟩ (.int .i64 okd)).setCell ⟨w.heap.size, 6, none⟩ (.string m2)).setCell ⟨w.heap.size, 7, none⟩ (.int .i64 obn)).setCell ⟨w.heap.size, 8, none⟩ (.int .i64 onum)).setCell ⟨w.heap.size, 9, none⟩ (.int .i64 ooff)).setCell ⟨w.heap.size, 10, none⟩ (.bool ord)).setCell ⟨w.heap.size, 11, none⟩ (.bool owr)).setCell ⟨w.heap.size, 12, none⟩ (.bool oap)) = w5 := ⟨_, rfl⟩
  rw [hw5] at B5 HS5 HU5 HW5 ⊢
  clear hw5 HI4 B4
  go_wp2_with fail
  refine (qmNew (w0 := w5) HU5.out (Below.refl _ _) HS5.out).mono ?_
  rintro r w6 ⟨rfl, s6, -⟩
  have B6 := Lib.hid (B5.out.later s6.below)
  have S6 := Lib.hid s6
  obtain ⟨b, hb⟩ : ∃ b, w5.heap.size + 2 = b := ⟨_, rfl⟩
  rw [hb] at S6 ⊢
  clear hb s6 HS5 HU5
  have b0 := B6.out.cell (i := 0) rfl
  have b1 := B6.out.cell (i := 1) rfl
  have b2 := B6.out.cell (i := 2) rfl
  have b3 := B6.out.cell (i := 3) rfl
  have b4 := B6.out.cell (i := 4) rfl
  have b5 := B6.out.cell (i := 5) rfl
  have b6 := B6.out.cell (i := 6) rfl
  have b7 := B6.out.cell (i := 7) rfl
  have b8 := B6.out.cell (i := 8) rfl
  have b9 := B6.out.cell (i := 9) rfl
  have b10 := B6.out.cell (i := 10) rfl
  have b11 := B6.out.cell (i := 11) rfl
  have b12 := B6.out.cell (i := 12) rfl
  have hrs := touch_plain ⟨kd, who, tw, fd, nn, ⟨okd, m2, obn, onum, ooff, ord, owr, oap⟩⟩ f
  have HP := Lib.hid (qdPerform S6.out kd who tw fd nn okd m2 obn onum ooff ord owr oap (by have := Hbd.out.1; omega) (by have := Hbd.out.2.1; omega) (by have := Hbd.out.2.2.1; omega) Hbd.out.2.2.2.1 Hm2.out (show (0 : Nat) < 1000000 by decide))
  obtain ⟨⟨V9, rr⟩, hp⟩ : ∃ p, (pTree ⟨kd, who, tw, fd, nn, ⟨okd, m2, obn, onum, ooff, ord, owr, oap⟩⟩).run ⟨f, [], []⟩ = p := ⟨_, rfl⟩
  rw [hp] at hrs HP
  dsimp only at hrs HP
  clear hp
  have Hrs := Lib.hid hrs
  clear hrs
  go_wp2_with fail
  refine HP.out.mono ?_
  rintro r w7 ⟨rfl, s7, -⟩
  have B7 := Lib.hid (B5.out.later s7.below)
  have S7 := Lib.hid s7
  clear s7 HP S6 B6 B5 b0 b1 b2 b3 b4 b5 b6 b7 b8 b9 b10 b11 b12
  go_upto_region 7 with fail
  obtain ⟨j, hj⟩ : ∃ j : Nat, who % 4 = j := ⟨_, rfl⟩
  obtain ⟨i, hi⟩ : ∃ i : Nat, tw % 4 = i := ⟨_, rfl⟩
  obtain ⟨na, hna⟩ : ∃ x, nmD j = x := ⟨_, rfl⟩
  obtain ⟨nb, hnb⟩ : ∃ x, nmD i = x := ⟨_, rfl⟩
  have HJ : Hid (who % 4 = j ∧ j < 4 ∧ nmD j = na) := ⟨hj, by omega, hna⟩
  have HI : Hid (tw % 4 = i ∧ i < 4 ∧ nmD i = nb) := ⟨hi, by omega, hnb⟩
  have htm : (who : Int).tmod 4 = (j : Int) := by rw [Int.tmod_eq_emod_of_nonneg (by omega)]; omega
  have htm2 : (tw : Int).tmod 4 = (i : Int) := by rw [Int.tmod_eq_emod_of_nonneg (by omega)]; omega
  have j0 : (0 : Int) ≤ (j : Int) := by omega
  have j1 : (j : Int) < 4 := by omega
  have i0 : (0 : Int) ≤ (i : Int) := by omega
  have i1 : (i : Int) < 4 := by omega
  clear hj hi hna hnb
  go_cut [9, 10] (fun v9 v10 wx => ∃ p r, v9 = .pointer (some ⟨p, 0, none⟩) ∧ v10 = .pointer (some ⟨r, 0, none⟩) ∧ Hid (RowIs wx p 56 [.int .i64 4, .string na, .int .i64 0, .int .i64 0, .string ⟨#[]⟩]) ∧ Hid (RowIs wx r 56 [.int .i64 4, .string nb, .int .i64 0, .int .i64 0, .string ⟨#[]⟩]) ∧ Hid (QM w5 wx b 30 V9 (fun _ => False)) ∧ Hid (RowIs wx w.heap.size 49 [.int .u8 kd, .int .u8 who, .int .u8 tw, .int .i64 fd, .int .i64 nn, .int .i64 okd, .string m2, .int .i64 obn, .int .i64 onum, .int .i64 ooff, .bool ord, .bool owr, .bool oap]))
  case first =>
   refine wp_region_held_drew (S := (fun W => (W.cell? ⟨w.heap.size, 1, none⟩ = some (.int .u8 who)) ∧ W.cell? ⟨w.heap.size, 2, none⟩ = some (.int .u8 tw))) (by kernel_rfl) (⟨(B7.out.later (Below.refl _ _).drew).cell rfl, (B7.out.later (Below.refl _ _).drew).cell rfl⟩) (fun hH0 => ?_)
   have Q0 := Lib.hid ((S7.out.qi0 (Below.refl _ _)).drew)
   have X0 := Lib.hid (B7.out.later (Below.refl _ _).drew)
   obtain ⟨u0, hu0⟩ : ∃ u0, w7.drew = u0 := ⟨_, rfl⟩
   rw [hu0] at Q0 X0 hH0 ⊢
   clear hu0
   refine wpAnyH_take (i := 1) (v := ?_) rfl (by kernel_rfl) (by kernel_rfl) (by kernel_rfl) (fun _ _ _ h => h) (Or.inl ⟨by rfl, ?_⟩) (by assumption) ?_
   rotate_left
   · (intro wx hSw; (try dsimp only at hSw); go_simp <;> with_reducible rfl)
   try simp only [Act.put, List.setIfInBounds_toArray, List.set_cons_zero, List.set_cons_succ, List.getElem_toArray, List.getElem_cons_zero, List.getElem_cons_succ]
   refine wpAnyH_take (i := 8) (v := ?_) rfl (by kernel_rfl) (by kernel_rfl) (by kernel_rfl) (fun _ _ _ h => h) (Or.inl ⟨by rfl, ?_⟩) (by assumption) ?_
   rotate_left
   · (intro wx hSw; (try dsimp only at hSw); go_simp <;> with_reducible rfl)
   try simp only [Act.put, List.setIfInBounds_toArray, List.set_cons_zero, List.set_cons_succ, List.getElem_toArray, List.getElem_cons_zero, List.getElem_cons_succ]
   refine wpAnyH_take (i := 2) (v := ?_) rfl (by kernel_rfl) (by kernel_rfl) (by kernel_rfl) (fun _ _ _ h => h) (Or.inl ⟨by rfl, ?_⟩) (by assumption) ?_
   rotate_left
   · (intro wx hSw; (try dsimp only at hSw); go_simp <;> with_reducible rfl)
   try simp only [Act.put, List.setIfInBounds_toArray, List.set_cons_zero, List.set_cons_succ, List.getElem_toArray, List.getElem_cons_zero, List.getElem_cons_succ]
   refine wpAnyH_take (i := 9) (v := ?_) rfl (by kernel_rfl) (by kernel_rfl) (by kernel_rfl) (fun _ _ _ h => h) (Or.inl ⟨by rfl, ?_⟩) (by assumption) ?_
   rotate_left
   · (intro wx hSw; (try dsimp only at hSw); go_simp <;> with_reducible rfl)
   try simp only [Act.put, List.setIfInBounds_toArray, List.set_cons_zero, List.set_cons_succ, List.getElem_toArray, List.getElem_cons_zero, List.getElem_cons_succ]
   refine wpAnyH_take (i := 3) (v := ?_) rfl (by kernel_rfl) (by kernel_rfl) (by kernel_rfl) (fun _ _ _ h => h) (Or.inl ⟨by rfl, ?_⟩) (by assumption) ?_
   rotate_left
   · (intro wx hSw; (try dsimp only at hSw); go_simp <;> with_reducible rfl)
   try simp only [Act.put, List.setIfInBounds_toArray, List.set_cons_zero, List.set_cons_succ, List.getElem_toArray, List.getElem_cons_zero, List.getElem_cons_succ]
   refine wpAnyH_take (i := 10) (v := ?_) rfl (by kernel_rfl) (by kernel_rfl) (by kernel_rfl) (fun _ _ _ h => h) (Or.inl ⟨by rfl, ?_⟩) (by assumption) ?_
   rotate_left
   · (intro wx hSw; (try dsimp only at hSw); go_simp <;> with_reducible rfl)
   try simp only [Act.put, List.setIfInBounds_toArray, List.set_cons_zero, List.set_cons_succ, List.getElem_toArray, List.getElem_cons_zero, List.getElem_cons_succ]
   refine wpAnyH_ready (rs := [0, 14, 15]) (by kernel_rfl) (by simp) ?_
   refine AllReadyH.cons rfl (fun K hK => ?_) ?_
   go_simp
   go_at_call 11
   (with_reducible refine (names31_any _).mono ?_)
   rintro r u1 ⟨rfl, hb, hn⟩
   obtain ⟨ka, hkx⟩ : ∃ k, u0.heap.size = k := ⟨_, rfl⟩
   rw [hkx] at hn ⊢
   have hc := hn.cell (nmCells_at HJ.out.2.1)
   rw [HJ.out.2.2] at hc
   have Q1 := Lib.hid (Q0.out.later hb)
   have X1 := Lib.hid (X0.out.later hb)
   clear Q0 X0
   go_wp2_with fail
   refine hK.out _ _ (c2B hH0 hb) (fun hH1 => ?_)
   clear hb hn hkx hK K hH0
   try simp only [Act.put, List.setIfInBounds_toArray, List.set_cons_zero, List.set_cons_succ, List.getElem_toArray, List.getElem_cons_zero, List.getElem_cons_succ]
   refine monoK ka j na ?_
   have hH1 := And.intro hH1 hc
   clear hc
   refine wpAnyH_take (i := 4) (v := ?_) rfl (by kernel_rfl) (by kernel_rfl) (by kernel_rfl) (fun _ _ _ h => h) (Or.inl ⟨by rfl, ?_⟩) (by assumption) ?_
   rotate_left
   · (intro wx hSw; (try dsimp only at hSw); go_simp <;> with_reducible rfl)
   try simp only [Act.put, List.setIfInBounds_toArray, List.set_cons_zero, List.set_cons_succ, List.getElem_toArray, List.getElem_cons_zero, List.getElem_cons_succ]
   refine wpAnyH_take (i := 5) (v := ?_) rfl (by kernel_rfl) (by kernel_rfl) (by kernel_rfl) (fun _ _ _ h => h) (Or.inl ⟨by rfl, ?_⟩) (by assumption) ?_
   rotate_left
   · (intro wx hSw; (try dsimp only at hSw); go_simp <;> with_reducible rfl)
   try simp only [Act.put, List.setIfInBounds_toArray, List.set_cons_zero, List.set_cons_succ, List.getElem_toArray, List.getElem_cons_zero, List.getElem_cons_succ]
   refine wpAnyH_ready (rs := [6, 14, 15]) (by kernel_rfl) (by simp) ?_
   refine AllReadyH.cons rfl (fun K hK => ?_) ?_
   go_simp
   go_at_call 16
   (with_reducible refine (ofTab_any _ _).mono ?_)
   rintro r u2 ⟨rfl, hb⟩
   have Q2 := Lib.hid (Q1.out.later hb)
   have X2 := Lib.hid (X1.out.later hb)
   clear Q1 X1
   go_wp2_with fail
   refine hK.out _ _ (c3B hH1 hb) (fun hH2 => ?_)
   clear hK K hH1 hb
   try simp only [Act.put, List.setIfInBounds_toArray, List.set_cons_zero, List.set_cons_succ, List.getElem_toArray, List.getElem_cons_zero, List.getElem_cons_succ]
   refine wpAnyH_ready (rs := [7, 14, 15]) (by kernel_rfl) (by simp) ?_
   refine AllReadyH.cons rfl (fun K hK => ?_) ?_
   go_simp
   go_at_call 11
   (with_reducible refine (names31_any _).mono ?_)
   rintro r u3 ⟨rfl, hb, hn⟩
   obtain ⟨kb, hkx⟩ : ∃ k, u2.heap.size = k := ⟨_, rfl⟩
   rw [hkx] at hn ⊢
   have hc := hn.cell (nmCells_at HI.out.2.1)
   rw [HI.out.2.2] at hc
   have Q3 := Lib.hid (Q2.out.later hb)
   have X3 := Lib.hid (X2.out.later hb)
   clear Q2 X2
   go_wp2_with fail
   refine hK.out _ _ (c3B hH2 hb) (fun hH3 => ?_)
   clear hb hn hkx hK K hH2
   try simp only [Act.put, List.setIfInBounds_toArray, List.set_cons_zero, List.set_cons_succ, List.getElem_toArray, List.getElem_cons_zero, List.getElem_cons_succ]
   refine monoK kb i nb ?_
   have hH3 := And.intro hH3 hc
   clear hc
   refine wpAnyH_take (i := 11) (v := ?_) rfl (by kernel_rfl) (by kernel_rfl) (by kernel_rfl) (fun _ _ _ h => h) (Or.inl ⟨by rfl, ?_⟩) (by assumption) ?_
   rotate_left
   · (intro wx hSw; (try dsimp only at hSw); go_simp <;> with_reducible rfl)
   try simp only [Act.put, List.setIfInBounds_toArray, List.set_cons_zero, List.set_cons_succ, List.getElem_toArray, List.getElem_cons_zero, List.getElem_cons_succ]
   refine wpAnyH_take (i := 12) (v := ?_) rfl (by kernel_rfl) (by kernel_rfl) (by kernel_rfl) (fun _ _ _ h => h) (Or.inl ⟨by rfl, ?_⟩) (by assumption) ?_
   rotate_left
   · (intro wx hSw; (try dsimp only at hSw); go_simp <;> with_reducible rfl)
   try simp only [Act.put, List.setIfInBounds_toArray, List.set_cons_zero, List.set_cons_succ, List.getElem_toArray, List.getElem_cons_zero, List.getElem_cons_succ]
   refine wpAnyH_ready (rs := [13, 14, 15]) (by kernel_rfl) (by simp) ?_
   refine AllReadyH.cons rfl (fun K hK => ?_) ?_
   go_simp
   go_at_call 16
   (with_reducible refine (ofTab_any _ _).mono ?_)
   rintro r u4 ⟨rfl, hb⟩
   have Q4 := Lib.hid (Q3.out.later hb)
   have X4 := Lib.hid (X3.out.later hb)
   clear Q3 X3
   go_wp2_with fail
   refine hK.out _ _ (c4B hH3 hb) (fun hH4 => ?_)
   clear hK K hH3 hb
   try simp only [Act.put, List.setIfInBounds_toArray, List.set_cons_zero, List.set_cons_succ, List.getElem_toArray, List.getElem_cons_zero, List.getElem_cons_succ]
   refine wpAnyH_ready (rs := [14, 15]) (by kernel_rfl) (by simp) ?_
   refine AllReadyH.cons rfl (fun K hK => ?_) ?_
   obtain ⟨hb, P5⟩ := new_nm u4
   have Q5 := Lib.hid (Q4.out.more (E' := (fun k : Nat => k = u4.heap.size)) hb (fun k hk => by subst hk; exact .inr (by simp)))
   have X5 := Lib.hid (X4.out.later hb)
   have hltPX := Lib.hid X4.out.lt
   have hltPka := Lib.hid (World.block_lt_of_cell? _ _ hH4.1.2)
   have hltPkb := Lib.hid (World.block_lt_of_cell? _ _ hH4.2)
   go_simp
   refine hK.out _ _ (c4B hH4 hb) (fun hH5 => ?_)
   clear hK K hH4 hb Q4 X4
   try simp only [Act.put, List.setIfInBounds_toArray, List.set_cons_zero, List.set_cons_succ, List.getElem_toArray, List.getElem_cons_zero, List.getElem_cons_succ]
   obtain ⟨u5, hu5⟩ := ex_nm u4
   obtain ⟨p, hp⟩ : ∃ p, u4.heap.size = p := ⟨_, rfl⟩
   rw [hp] at Q5 P5 hltPX hltPka hltPkb ⊢
   rw [hu5] at Q5 X5 hH5 P5 ⊢
   clear hp hu5
   refine wpAnyH_ready (rs := [15]) (by kernel_rfl) (by simp) ?_
   refine AllReadyH.cons rfl (fun K hK => ?_) AllReadyH.nil
   obtain ⟨hb, R6⟩ := new_nm u5
   have Q6 := Lib.hid (Q5.out.more (E' := (fun k : Nat => k = p ∨ k = u5.heap.size)) hb (fun k hk => by exact hk.elim (fun h => .inl h) (fun h => .inr (by subst h; simp))))
   have X6 := Lib.hid (X5.out.later hb)
   have P6 := Lib.hid (P5.out.later hb)
   have hltRX := Lib.hid X5.out.lt
   have hltRP := Lib.hid P5.out.lt
   have hltRka := Lib.hid (World.block_lt_of_cell? _ _ hH5.1.2)
   have hltRkb := Lib.hid (World.block_lt_of_cell? _ _ hH5.2)
   go_simp
   refine hK.out _ _ (c4B hH5 hb) (fun hH6 => ?_)
   clear hK K hH5 hb Q5 X5 P5
   try simp only [Act.put, List.setIfInBounds_toArray, List.set_cons_zero, List.set_cons_succ, List.getElem_toArray, List.getElem_cons_zero, List.getElem_cons_succ]
   obtain ⟨u6, hu6⟩ := ex_nm u5
   obtain ⟨r, hr⟩ : ∃ r, u5.heap.size = r := ⟨_, rfl⟩
   rw [hr] at Q6 R6 hltRX hltRP hltRka hltRkb ⊢
   rw [hu6] at Q6 X6 hH6 P6 R6 ⊢
   clear hr hu6
   rotate_left
   refine AllReadyH.cons rfl (fun K hK => ?_) AllReadyH.nil
   obtain ⟨hb, R5⟩ := new_nm u4
   have Q5 := Lib.hid (Q4.out.more (E' := (fun k : Nat => k = u4.heap.size)) hb (fun k hk => by subst hk; exact .inr (by simp)))
   have X5 := Lib.hid (X4.out.later hb)
   have hltRX := Lib.hid X4.out.lt
   have hltRka := Lib.hid (World.block_lt_of_cell? _ _ hH4.1.2)
   have hltRkb := Lib.hid (World.block_lt_of_cell? _ _ hH4.2)
   go_simp
   refine hK.out _ _ (c4B hH4 hb) (fun hH5 => ?_)
   clear hK K hH4 hb Q4 X4
   try simp only [Act.put, List.setIfInBounds_toArray, List.set_cons_zero, List.set_cons_succ, List.getElem_toArray, List.getElem_cons_zero, List.getElem_cons_succ]
   obtain ⟨u5, hu5⟩ := ex_nm u4
   obtain ⟨r, hr⟩ : ∃ r, u4.heap.size = r := ⟨_, rfl⟩
   rw [hr] at Q5 R5 hltRX hltRka hltRkb ⊢
   rw [hu5] at Q5 X5 hH5 R5 ⊢
   clear hr hu5
   refine wpAnyH_ready (rs := [14]) (by kernel_rfl) (by simp) ?_
   refine AllReadyH.cons rfl (fun K hK => ?_) AllReadyH.nil
   obtain ⟨hb, P6⟩ := new_nm u5
   have Q6 := Lib.hid (Q5.out.more (E' := (fun k : Nat => k = r ∨ k = u5.heap.size)) hb (fun k hk => by exact hk.elim (fun h => .inl h) (fun h => .inr (by subst h; simp))))
   have X6 := Lib.hid (X5.out.later hb)
   have R6 := Lib.hid (R5.out.later hb)
   have hltPX := Lib.hid X5.out.lt
   have hltPR := Lib.hid R5.out.lt
   have hltPka := Lib.hid (World.block_lt_of_cell? _ _ hH5.1.2)
   have hltPkb := Lib.hid (World.block_lt_of_cell? _ _ hH5.2)
   go_simp
   refine hK.out _ _ (c4B hH5 hb) (fun hH6 => ?_)
   clear hK K hH5 hb Q5 X5 R5
   try simp only [Act.put, List.setIfInBounds_toArray, List.set_cons_zero, List.set_cons_succ, List.getElem_toArray, List.getElem_cons_zero, List.getElem_cons_succ]
   obtain ⟨u6, hu6⟩ := ex_nm u5
   obtain ⟨p, hp⟩ : ∃ p, u5.heap.size = p := ⟨_, rfl⟩
   rw [hp] at Q6 P6 hltPX hltPR hltPka hltPkb ⊢
   rw [hu6] at Q6 X6 hH6 R6 P6 ⊢
   clear hp hu6
   rotate_left
   refine AllReadyH.cons rfl (fun K hK => ?_) ?_
   obtain ⟨hb, P4⟩ := new_nm u3
   have Q4 := Lib.hid (Q3.out.more (E' := (fun k : Nat => k = u3.heap.size)) hb (fun k hk => by subst hk; exact .inr (by simp)))
   have X4 := Lib.hid (X3.out.later hb)
   have hltPX := Lib.hid X3.out.lt
   have hltPka := Lib.hid (World.block_lt_of_cell? _ _ hH3.1.2)
   have hltPkb := Lib.hid (World.block_lt_of_cell? _ _ hH3.2)
   go_simp
   refine hK.out _ _ (c4B hH3 hb) (fun hH4 => ?_)
   clear hK K hH3 hb Q3 X3
   try simp only [Act.put, List.setIfInBounds_toArray, List.set_cons_zero, List.set_cons_succ, List.getElem_toArray, List.getElem_cons_zero, List.getElem_cons_succ]
   obtain ⟨u4, hu4⟩ := ex_nm u3
   obtain ⟨p, hp⟩ : ∃ p, u3.heap.size = p := ⟨_, rfl⟩
   rw [hp] at Q4 P4 hltPX hltPka hltPkb ⊢
   rw [hu4] at Q4 X4 hH4 P4 ⊢
   clear hp hu4
   refine wpAnyH_ready (rs := [13, 15]) (by kernel_rfl) (by simp) ?_
   refine AllReadyH.cons rfl (fun K hK => ?_) ?_
   go_simp
   go_at_call 16
   (with_reducible refine (ofTab_any _ _).mono ?_)
   rintro r u5 ⟨rfl, hb⟩
   have Q5 := Lib.hid (Q4.out.later hb)
   have X5 := Lib.hid (X4.out.later hb)
   have P5 := Lib.hid (P4.out.later hb)
   clear Q4 X4 P4
   go_wp2_with fail
   refine hK.out _ _ (c4B hH4 hb) (fun hH5 => ?_)
   clear hK K hH4 hb
   try simp only [Act.put, List.setIfInBounds_toArray, List.set_cons_zero, List.set_cons_succ, List.getElem_toArray, List.getElem_cons_zero, List.getElem_cons_succ]
   refine wpAnyH_ready (rs := [15]) (by kernel_rfl) (by simp) ?_
   refine AllReadyH.cons rfl (fun K hK => ?_) AllReadyH.nil
   obtain ⟨hb, R6⟩ := new_nm u5
   have Q6 := Lib.hid (Q5.out.more (E' := (fun k : Nat => k = p ∨ k = u5.heap.size)) hb (fun k hk => by exact hk.elim (fun h => .inl h) (fun h => .inr (by subst h; simp))))
   have X6 := Lib.hid (X5.out.later hb)
   have P6 := Lib.hid (P5.out.later hb)
   have hltRX := Lib.hid X5.out.lt
   have hltRP := Lib.hid P5.out.lt
   have hltRka := Lib.hid (World.block_lt_of_cell? _ _ hH5.1.2)
   have hltRkb := Lib.hid (World.block_lt_of_cell? _ _ hH5.2)
   go_simp
   refine hK.out _ _ (c4B hH5 hb) (fun hH6 => ?_)
   clear hK K hH5 hb Q5 X5 P5
   try simp only [Act.put, List.setIfInBounds_toArray, List.set_cons_zero, List.set_cons_succ, List.getElem_toArray, List.getElem_cons_zero, List.getElem_cons_succ]
   obtain ⟨u6, hu6⟩ := ex_nm u5
   obtain ⟨r, hr⟩ : ∃ r, u5.heap.size = r := ⟨_, rfl⟩
   rw [hr] at Q6 R6 hltRX hltRP hltRka hltRkb ⊢
   rw [hu6] at Q6 X6 hH6 P6 R6 ⊢
   clear hr hu6
   rotate_left
   refine AllReadyH.cons rfl (fun K hK => ?_) AllReadyH.nil
   obtain ⟨hb, R5⟩ := new_nm u4
   have Q5 := Lib.hid (Q4.out.more (E' := (fun k : Nat => k = p ∨ k = u4.heap.size)) hb (fun k hk => by exact hk.elim (fun h => .inl h) (fun h => .inr (by subst h; simp))))
   have X5 := Lib.hid (X4.out.later hb)
   have P5 := Lib.hid (P4.out.later hb)
   have hltRX := Lib.hid X4.out.lt
   have hltRP := Lib.hid P4.out.lt
   have hltRka := Lib.hid (World.block_lt_of_cell? _ _ hH4.1.2)
   have hltRkb := Lib.hid (World.block_lt_of_cell? _ _ hH4.2)
   go_simp
   refine hK.out _ _ (c4B hH4 hb) (fun hH5 => ?_)
   clear hK K hH4 hb Q4 X4 P4
   try simp only [Act.put, List.setIfInBounds_toArray, List.set_cons_zero, List.set_cons_succ, List.getElem_toArray, List.getElem_cons_zero, List.getElem_cons_succ]
   obtain ⟨u5, hu5⟩ := ex_nm u4
   obtain ⟨r, hr⟩ : ∃ r, u4.heap.size = r := ⟨_, rfl⟩
   rw [hr] at Q5 R5 hltRX hltRP hltRka hltRkb ⊢
   rw [hu5] at Q5 X5 hH5 P5 R5 ⊢
   clear hr hu5
   refine wpAnyH_ready (rs := [13]) (by kernel_rfl) (by simp) ?_
   refine AllReadyH.cons rfl (fun K hK => ?_) AllReadyH.nil
   go_simp
   go_at_call 16
   (with_reducible refine (ofTab_any _ _).mono ?_)
   rintro r u6 ⟨rfl, hb⟩
   have Q6 := Lib.hid (Q5.out.later hb)
   have X6 := Lib.hid (X5.out.later hb)
   have P6 := Lib.hid (P5.out.later hb)
   have R6 := Lib.hid (R5.out.later hb)
   clear Q5 X5 P5 R5
   go_wp2_with fail
   refine hK.out _ _ (c4B hH5 hb) (fun hH6 => ?_)
   clear hK K hH5 hb
   try simp only [Act.put, List.setIfInBounds_toArray, List.set_cons_zero, List.set_cons_succ, List.getElem_toArray, List.getElem_cons_zero, List.getElem_cons_succ]
   rotate_left
   refine AllReadyH.cons rfl (fun K hK => ?_) AllReadyH.nil
   obtain ⟨hb, R4⟩ := new_nm u3
   have Q4 := Lib.hid (Q3.out.more (E' := (fun k : Nat => k = u3.heap.size)) hb (fun k hk => by subst hk; exact .inr (by simp)))
   have X4 := Lib.hid (X3.out.later hb)
   have hltRX := Lib.hid X3.out.lt
   have hltRka := Lib.hid (World.block_lt_of_cell? _ _ hH3.1.2)
   have hltRkb := Lib.hid (World.block_lt_of_cell? _ _ hH3.2)
   go_simp
   refine hK.out _ _ (c4B hH3 hb) (fun hH4 => ?_)
   clear hK K hH3 hb Q3 X3
   try simp only [Act.put, List.setIfInBounds_toArray, List.set_cons_zero, List.set_cons_succ, List.getElem_toArray, List.getElem_cons_zero, List.getElem_cons_succ]
   obtain ⟨u4, hu4⟩ := ex_nm u3
   obtain ⟨r, hr⟩ : ∃ r, u3.heap.size = r := ⟨_, rfl⟩
   rw [hr] at Q4 R4 hltRX hltRka hltRkb ⊢
   rw [hu4] at Q4 X4 hH4 R4 ⊢
   clear hr hu4
   refine wpAnyH_ready (rs := [13, 14]) (by kernel_rfl) (by simp) ?_
   refine AllReadyH.cons rfl (fun K hK => ?_) ?_
   go_simp
   go_at_call 16
   (with_reducible refine (ofTab_any _ _).mono ?_)
   rintro r u5 ⟨rfl, hb⟩
   have Q5 := Lib.hid (Q4.out.later hb)
   have X5 := Lib.hid (X4.out.later hb)
   have R5 := Lib.hid (R4.out.later hb)
   clear Q4 X4 R4
   go_wp2_with fail
   refine hK.out _ _ (c4B hH4 hb) (fun hH5 => ?_)
   clear hK K hH4 hb
   try simp only [Act.put, List.setIfInBounds_toArray, List.set_cons_zero, List.set_cons_succ, List.getElem_toArray, List.getElem_cons_zero, List.getElem_cons_succ]
   refine wpAnyH_ready (rs := [14]) (by kernel_rfl) (by simp) ?_
   refine AllReadyH.cons rfl (fun K hK => ?_) AllReadyH.nil
   obtain ⟨hb, P6⟩ := new_nm u5
   have Q6 := Lib.hid (Q5.out.more (E' := (fun k : Nat => k = r ∨ k = u5.heap.size)) hb (fun k hk => by exact hk.elim (fun h => .inl h) (fun h => .inr (by subst h; simp))))
   have X6 := Lib.hid (X5.out.later hb)
   have R6 := Lib.hid (R5.out.later hb)
   have hltPX := Lib.hid X5.out.lt
   have hltPR := Lib.hid R5.out.lt
   have hltPka := Lib.hid (World.block_lt_of_cell? _ _ hH5.1.2)
   have hltPkb := Lib.hid (World.block_lt_of_cell? _ _ hH5.2)
   go_simp
   refine hK.out _ _ (c4B hH5 hb) (fun hH6 => ?_)
   clear hK K hH5 hb Q5 X5 R5
   try simp only [Act.put, List.setIfInBounds_toArray, List.set_cons_zero, List.set_cons_succ, List.getElem_toArray, List.getElem_cons_zero, List.getElem_cons_succ]
   obtain ⟨u6, hu6⟩ := ex_nm u5
   obtain ⟨p, hp⟩ : ∃ p, u5.heap.size = p := ⟨_, rfl⟩
   rw [hp] at Q6 P6 hltPX hltPR hltPka hltPkb ⊢
   rw [hu6] at Q6 X6 hH6 R6 P6 ⊢
   clear hp hu6
   rotate_left
   refine AllReadyH.cons rfl (fun K hK => ?_) AllReadyH.nil
   obtain ⟨hb, P5⟩ := new_nm u4
   have Q5 := Lib.hid (Q4.out.more (E' := (fun k : Nat => k = r ∨ k = u4.heap.size)) hb (fun k hk => by exact hk.elim (fun h => .inl h) (fun h => .inr (by subst h; simp))))
   have X5 := Lib.hid (X4.out.later hb)
   have R5 := Lib.hid (R4.out.later hb)
   have hltPX := Lib.hid X4.out.lt
   have hltPR := Lib.hid R4.out.lt
   have hltPka := Lib.hid (World.block_lt_of_cell? _ _ hH4.1.2)
   have hltPkb := Lib.hid (World.block_lt_of_cell? _ _ hH4.2)
   go_simp
   refine hK.out _ _ (c4B hH4 hb) (fun hH5 => ?_)
   clear hK K hH4 hb Q4 X4 R4
   try simp only [Act.put, List.setIfInBounds_toArray, List.set_cons_zero, List.set_cons_succ, List.getElem_toArray, List.getElem_cons_zero, List.getElem_cons_succ]
   obtain ⟨u5, hu5⟩ := ex_nm u4
   obtain ⟨p, hp⟩ : ∃ p, u4.heap.size = p := ⟨_, rfl⟩
   rw [hp] at Q5 P5 hltPX hltPR hltPka hltPkb ⊢
   rw [hu5] at Q5 X5 hH5 R5 P5 ⊢
   clear hp hu5
   refine wpAnyH_ready (rs := [13]) (by kernel_rfl) (by simp) ?_
   refine AllReadyH.cons rfl (fun K hK => ?_) AllReadyH.nil
   go_simp
   go_at_call 16
   (with_reducible refine (ofTab_any _ _).mono ?_)
   rintro r u6 ⟨rfl, hb⟩
   have Q6 := Lib.hid (Q5.out.later hb)
   have X6 := Lib.hid (X5.out.later hb)
   have R6 := Lib.hid (R5.out.later hb)
   have P6 := Lib.hid (P5.out.later hb)
   clear Q5 X5 R5 P5
   go_wp2_with fail
   refine hK.out _ _ (c4B hH5 hb) (fun hH6 => ?_)
   clear hK K hH5 hb
   try simp only [Act.put, List.setIfInBounds_toArray, List.set_cons_zero, List.set_cons_succ, List.getElem_toArray, List.getElem_cons_zero, List.getElem_cons_succ]
   rotate_left
   refine AllReadyH.cons rfl (fun K hK => ?_) ?_
   obtain ⟨hb, P3⟩ := new_nm u2
   have Q3 := Lib.hid (Q2.out.more (E' := (fun k : Nat => k = u2.heap.size)) hb (fun k hk => by subst hk; exact .inr (by simp)))
   have X3 := Lib.hid (X2.out.later hb)
   have hltPX := Lib.hid X2.out.lt
   have hltPka := Lib.hid (World.block_lt_of_cell? _ _ hH2.2)
   go_simp
   refine hK.out _ _ (c3B hH2 hb) (fun hH3 => ?_)
   clear hK K hH2 hb Q2 X2
   try simp only [Act.put, List.setIfInBounds_toArray, List.set_cons_zero, List.set_cons_succ, List.getElem_toArray, List.getElem_cons_zero, List.getElem_cons_succ]
   obtain ⟨u3, hu3⟩ := ex_nm u2
   obtain ⟨p, hp⟩ : ∃ p, u2.heap.size = p := ⟨_, rfl⟩
   rw [hp] at Q3 P3 hltPX hltPka ⊢
   rw [hu3] at Q3 X3 hH3 P3 ⊢
   clear hp hu3
   refine wpAnyH_ready (rs := [7, 15]) (by kernel_rfl) (by simp) ?_
   refine AllReadyH.cons rfl (fun K hK => ?_) ?_
   go_simp
   go_at_call 11
   (with_reducible refine (names31_any _).mono ?_)
   rintro r u4 ⟨rfl, hb, hn⟩
   have ltP := P3.out.lt
   obtain ⟨kb, hkx⟩ : ∃ k, u3.heap.size = k := ⟨_, rfl⟩
   rw [hkx] at hn ltP ⊢
   have hln7P := Lib.hid ltP
   have hc := hn.cell (nmCells_at HI.out.2.1)
   rw [HI.out.2.2] at hc
   have Q4 := Lib.hid (Q3.out.later hb)
   have X4 := Lib.hid (X3.out.later hb)
   have P4 := Lib.hid (P3.out.later hb)
   clear Q3 X3 P3
   go_wp2_with fail
   refine hK.out _ _ (c3B hH3 hb) (fun hH4 => ?_)
   clear hb hn hkx hK K hH3 ltP
   try simp only [Act.put, List.setIfInBounds_toArray, List.set_cons_zero, List.set_cons_succ, List.getElem_toArray, List.getElem_cons_zero, List.getElem_cons_succ]
   refine monoK kb i nb ?_
   have hH4 := And.intro hH4 hc
   clear hc
   refine wpAnyH_take (i := 11) (v := ?_) rfl (by kernel_rfl) (by kernel_rfl) (by kernel_rfl) (fun _ _ _ h => h) (Or.inl ⟨by rfl, ?_⟩) (by assumption) ?_
   rotate_left
   · (intro wx hSw; (try dsimp only at hSw); go_simp <;> with_reducible rfl)
   try simp only [Act.put, List.setIfInBounds_toArray, List.set_cons_zero, List.set_cons_succ, List.getElem_toArray, List.getElem_cons_zero, List.getElem_cons_succ]
   refine wpAnyH_take (i := 12) (v := ?_) rfl (by kernel_rfl) (by kernel_rfl) (by kernel_rfl) (fun _ _ _ h => h) (Or.inl ⟨by rfl, ?_⟩) (by assumption) ?_
   rotate_left
   · (intro wx hSw; (try dsimp only at hSw); go_simp <;> with_reducible rfl)
   try simp only [Act.put, List.setIfInBounds_toArray, List.set_cons_zero, List.set_cons_succ, List.getElem_toArray, List.getElem_cons_zero, List.getElem_cons_succ]
   refine wpAnyH_ready (rs := [13, 15]) (by kernel_rfl) (by simp) ?_
   refine AllReadyH.cons rfl (fun K hK => ?_) ?_
   go_simp
   go_at_call 16
   (with_reducible refine (ofTab_any _ _).mono ?_)
   rintro r u5 ⟨rfl, hb⟩
   have Q5 := Lib.hid (Q4.out.later hb)
   have X5 := Lib.hid (X4.out.later hb)
   have P5 := Lib.hid (P4.out.later hb)
   clear Q4 X4 P4
   go_wp2_with fail
   refine hK.out _ _ (c4B hH4 hb) (fun hH5 => ?_)
   clear hK K hH4 hb
   try simp only [Act.put, List.setIfInBounds_toArray, List.set_cons_zero, List.set_cons_succ, List.getElem_toArray, List.getElem_cons_zero, List.getElem_cons_succ]
   refine wpAnyH_ready (rs := [15]) (by kernel_rfl) (by simp) ?_
   refine AllReadyH.cons rfl (fun K hK => ?_) AllReadyH.nil
   obtain ⟨hb, R6⟩ := new_nm u5
   have Q6 := Lib.hid (Q5.out.more (E' := (fun k : Nat => k = p ∨ k = u5.heap.size)) hb (fun k hk => by exact hk.elim (fun h => .inl h) (fun h => .inr (by subst h; simp))))
   have X6 := Lib.hid (X5.out.later hb)
   have P6 := Lib.hid (P5.out.later hb)
   have hltRX := Lib.hid X5.out.lt
   have hltRP := Lib.hid P5.out.lt
   have hltRka := Lib.hid (World.block_lt_of_cell? _ _ hH5.1.2)
   have hltRkb := Lib.hid (World.block_lt_of_cell? _ _ hH5.2)
   go_simp
   refine hK.out _ _ (c4B hH5 hb) (fun hH6 => ?_)
   clear hK K hH5 hb Q5 X5 P5
   try simp only [Act.put, List.setIfInBounds_toArray, List.set_cons_zero, List.set_cons_succ, List.getElem_toArray, List.getElem_cons_zero, List.getElem_cons_succ]
   obtain ⟨u6, hu6⟩ := ex_nm u5
   obtain ⟨r, hr⟩ : ∃ r, u5.heap.size = r := ⟨_, rfl⟩
   rw [hr] at Q6 R6 hltRX hltRP hltRka hltRkb ⊢
   rw [hu6] at Q6 X6 hH6 P6 R6 ⊢
   clear hr hu6
   rotate_left
   refine AllReadyH.cons rfl (fun K hK => ?_) AllReadyH.nil
   obtain ⟨hb, R5⟩ := new_nm u4
   have Q5 := Lib.hid (Q4.out.more (E' := (fun k : Nat => k = p ∨ k = u4.heap.size)) hb (fun k hk => by exact hk.elim (fun h => .inl h) (fun h => .inr (by subst h; simp))))
   have X5 := Lib.hid (X4.out.later hb)
   have P5 := Lib.hid (P4.out.later hb)
   have hltRX := Lib.hid X4.out.lt
   have hltRP := Lib.hid P4.out.lt
   have hltRka := Lib.hid (World.block_lt_of_cell? _ _ hH4.1.2)
   have hltRkb := Lib.hid (World.block_lt_of_cell? _ _ hH4.2)
   go_simp
   refine hK.out _ _ (c4B hH4 hb) (fun hH5 => ?_)
   clear hK K hH4 hb Q4 X4 P4
   try simp only [Act.put, List.setIfInBounds_toArray, List.set_cons_zero, List.set_cons_succ, List.getElem_toArray, List.getElem_cons_zero, List.getElem_cons_succ]
   obtain ⟨u5, hu5⟩ := ex_nm u4
   obtain ⟨r, hr⟩ : ∃ r, u4.heap.size = r := ⟨_, rfl⟩
   rw [hr] at Q5 R5 hltRX hltRP hltRka hltRkb ⊢
   rw [hu5] at Q5 X5 hH5 P5 R5 ⊢
   clear hr hu5
   refine wpAnyH_ready (rs := [13]) (by kernel_rfl) (by simp) ?_
   refine AllReadyH.cons rfl (fun K hK => ?_) AllReadyH.nil
   go_simp
   go_at_call 16
   (with_reducible refine (ofTab_any _ _).mono ?_)
   rintro r u6 ⟨rfl, hb⟩
   have Q6 := Lib.hid (Q5.out.later hb)
   have X6 := Lib.hid (X5.out.later hb)
   have P6 := Lib.hid (P5.out.later hb)
   have R6 := Lib.hid (R5.out.later hb)
   clear Q5 X5 P5 R5
   go_wp2_with fail
   refine hK.out _ _ (c4B hH5 hb) (fun hH6 => ?_)
   clear hK K hH5 hb
   try simp only [Act.put, List.setIfInBounds_toArray, List.set_cons_zero, List.set_cons_succ, List.getElem_toArray, List.getElem_cons_zero, List.getElem_cons_succ]
   rotate_left
   refine AllReadyH.cons rfl (fun K hK => ?_) AllReadyH.nil
   obtain ⟨hb, R4⟩ := new_nm u3
   have Q4 := Lib.hid (Q3.out.more (E' := (fun k : Nat => k = p ∨ k = u3.heap.size)) hb (fun k hk => by exact hk.elim (fun h => .inl h) (fun h => .inr (by subst h; simp))))
   have X4 := Lib.hid (X3.out.later hb)
   have P4 := Lib.hid (P3.out.later hb)
   have hltRX := Lib.hid X3.out.lt
   have hltRP := Lib.hid P3.out.lt
   have hltRka := Lib.hid (World.block_lt_of_cell? _ _ hH3.2)
   go_simp
   refine hK.out _ _ (c3B hH3 hb) (fun hH4 => ?_)
   clear hK K hH3 hb Q3 X3 P3
   try simp only [Act.put, List.setIfInBounds_toArray, List.set_cons_zero, List.set_cons_succ, List.getElem_toArray, List.getElem_cons_zero, List.getElem_cons_succ]
   obtain ⟨u4, hu4⟩ := ex_nm u3
   obtain ⟨r, hr⟩ : ∃ r, u3.heap.size = r := ⟨_, rfl⟩
   rw [hr] at Q4 R4 hltRX hltRP hltRka ⊢
   rw [hu4] at Q4 X4 hH4 P4 R4 ⊢
   clear hr hu4
   refine wpAnyH_ready (rs := [7]) (by kernel_rfl) (by simp) ?_
   refine AllReadyH.cons rfl (fun K hK => ?_) AllReadyH.nil
   go_simp
   go_at_call 11
   (with_reducible refine (names31_any _).mono ?_)
   rintro r u5 ⟨rfl, hb, hn⟩
   have ltP := P4.out.lt
   have ltR := R4.out.lt
   obtain ⟨kb, hkx⟩ : ∃ k, u4.heap.size = k := ⟨_, rfl⟩
   rw [hkx] at hn ltP ltR ⊢
   have hln7P := Lib.hid ltP
   have hln7R := Lib.hid ltR
   have hc := hn.cell (nmCells_at HI.out.2.1)
   rw [HI.out.2.2] at hc
   have Q5 := Lib.hid (Q4.out.later hb)
   have X5 := Lib.hid (X4.out.later hb)
   have P5 := Lib.hid (P4.out.later hb)
   have R5 := Lib.hid (R4.out.later hb)
   clear Q4 X4 P4 R4
   go_wp2_with fail
   refine hK.out _ _ (c3B hH4 hb) (fun hH5 => ?_)
   clear hb hn hkx hK K hH4 ltP ltR
   try simp only [Act.put, List.setIfInBounds_toArray, List.set_cons_zero, List.set_cons_succ, List.getElem_toArray, List.getElem_cons_zero, List.getElem_cons_succ]
   refine monoK kb i nb ?_
   have hH5 := And.intro hH5 hc
   clear hc
   refine wpAnyH_take (i := 11) (v := ?_) rfl (by kernel_rfl) (by kernel_rfl) (by kernel_rfl) (fun _ _ _ h => h) (Or.inl ⟨by rfl, ?_⟩) (by assumption) ?_
   rotate_left
   · (intro wx hSw; (try dsimp only at hSw); go_simp <;> with_reducible rfl)
   try simp only [Act.put, List.setIfInBounds_toArray, List.set_cons_zero, List.set_cons_succ, List.getElem_toArray, List.getElem_cons_zero, List.getElem_cons_succ]
   refine wpAnyH_take (i := 12) (v := ?_) rfl (by kernel_rfl) (by kernel_rfl) (by kernel_rfl) (fun _ _ _ h => h) (Or.inl ⟨by rfl, ?_⟩) (by assumption) ?_
   rotate_left
   · (intro wx hSw; (try dsimp only at hSw); go_simp <;> with_reducible rfl)
   try simp only [Act.put, List.setIfInBounds_toArray, List.set_cons_zero, List.set_cons_succ, List.getElem_toArray, List.getElem_cons_zero, List.getElem_cons_succ]
   refine wpAnyH_ready (rs := [13]) (by kernel_rfl) (by simp) ?_
   refine AllReadyH.cons rfl (fun K hK => ?_) AllReadyH.nil
   go_simp
   go_at_call 16
   (with_reducible refine (ofTab_any _ _).mono ?_)
   rintro r u6 ⟨rfl, hb⟩
   have Q6 := Lib.hid (Q5.out.later hb)
   have X6 := Lib.hid (X5.out.later hb)
   have P6 := Lib.hid (P5.out.later hb)
   have R6 := Lib.hid (R5.out.later hb)
   clear Q5 X5 P5 R5
   go_wp2_with fail
   refine hK.out _ _ (c4B hH5 hb) (fun hH6 => ?_)
   clear hK K hH5 hb
   try simp only [Act.put, List.setIfInBounds_toArray, List.set_cons_zero, List.set_cons_succ, List.getElem_toArray, List.getElem_cons_zero, List.getElem_cons_succ]
   rotate_left
   refine AllReadyH.cons rfl (fun K hK => ?_) AllReadyH.nil
   obtain ⟨hb, R3⟩ := new_nm u2
   have Q3 := Lib.hid (Q2.out.more (E' := (fun k : Nat => k = u2.heap.size)) hb (fun k hk => by subst hk; exact .inr (by simp)))
   have X3 := Lib.hid (X2.out.later hb)
   have hltRX := Lib.hid X2.out.lt
   have hltRka := Lib.hid (World.block_lt_of_cell? _ _ hH2.2)
   go_simp
   refine hK.out _ _ (c3B hH2 hb) (fun hH3 => ?_)
   clear hK K hH2 hb Q2 X2
   try simp only [Act.put, List.setIfInBounds_toArray, List.set_cons_zero, List.set_cons_succ, List.getElem_toArray, List.getElem_cons_zero, List.getElem_cons_succ]
   obtain ⟨u3, hu3⟩ := ex_nm u2
   obtain ⟨r, hr⟩ : ∃ r, u2.heap.size = r := ⟨_, rfl⟩
   rw [hr] at Q3 R3 hltRX hltRka ⊢
   rw [hu3] at Q3 X3 hH3 R3 ⊢
   clear hr hu3
   refine wpAnyH_ready (rs := [7, 14]) (by kernel_rfl) (by simp) ?_
   refine AllReadyH.cons rfl (fun K hK => ?_) ?_
   go_simp
   go_at_call 11
   (with_reducible refine (names31_any _).mono ?_)
   rintro r u4 ⟨rfl, hb, hn⟩
   have ltR := R3.out.lt
   obtain ⟨kb, hkx⟩ : ∃ k, u3.heap.size = k := ⟨_, rfl⟩
   rw [hkx] at hn ltR ⊢
   have hln7R := Lib.hid ltR
   have hc := hn.cell (nmCells_at HI.out.2.1)
   rw [HI.out.2.2] at hc
   have Q4 := Lib.hid (Q3.out.later hb)
   have X4 := Lib.hid (X3.out.later hb)
   have R4 := Lib.hid (R3.out.later hb)
   clear Q3 X3 R3
   go_wp2_with fail
   refine hK.out _ _ (c3B hH3 hb) (fun hH4 => ?_)
   clear hb hn hkx hK K hH3 ltR
   try simp only [Act.put, List.setIfInBounds_toArray, List.set_cons_zero, List.set_cons_succ, List.getElem_toArray, List.getElem_cons_zero, List.getElem_cons_succ]
   refine monoK kb i nb ?_
   have hH4 := And.intro hH4 hc
   clear hc
   refine wpAnyH_take (i := 11) (v := ?_) rfl (by kernel_rfl) (by kernel_rfl) (by kernel_rfl) (fun _ _ _ h => h) (Or.inl ⟨by rfl, ?_⟩) (by assumption) ?_
   rotate_left
   · (intro wx hSw; (try dsimp only at hSw); go_simp <;> with_reducible rfl)
   try simp only [Act.put, List.setIfInBounds_toArray, List.set_cons_zero, List.set_cons_succ, List.getElem_toArray, List.getElem_cons_zero, List.getElem_cons_succ]
   refine wpAnyH_take (i := 12) (v := ?_) rfl (by kernel_rfl) (by kernel_rfl) (by kernel_rfl) (fun _ _ _ h => h) (Or.inl ⟨by rfl, ?_⟩) (by assumption) ?_
   rotate_left
   · (intro wx hSw; (try dsimp only at hSw); go_simp <;> with_reducible rfl)
   try simp only [Act.put, List.setIfInBounds_toArray, List.set_cons_zero, List.set_cons_succ, List.getElem_toArray, List.getElem_cons_zero, List.getElem_cons_succ]
   refine wpAnyH_ready (rs := [13, 14]) (by kernel_rfl) (by simp) ?_
   refine AllReadyH.cons rfl (fun K hK => ?_) ?_
   go_simp
   go_at_call 16
   (with_reducible refine (ofTab_any _ _).mono ?_)
   rintro r u5 ⟨rfl, hb⟩
   have Q5 := Lib.hid (Q4.out.later hb)
   have X5 := Lib.hid (X4.out.later hb)
   have R5 := Lib.hid (R4.out.later hb)
   clear Q4 X4 R4
   go_wp2_with fail
   refine hK.out _ _ (c4B hH4 hb) (fun hH5 => ?_)
   clear hK K hH4 hb
   try simp only [Act.put, List.setIfInBounds_toArray, List.set_cons_zero, List.set_cons_succ, List.getElem_toArray, List.getElem_cons_zero, List.getElem_cons_succ]
   refine wpAnyH_ready (rs := [14]) (by kernel_rfl) (by simp) ?_
   refine AllReadyH.cons rfl (fun K hK => ?_) AllReadyH.nil
   obtain ⟨hb, P6⟩ := new_nm u5
   have Q6 := Lib.hid (Q5.out.more (E' := (fun k : Nat => k = r ∨ k = u5.heap.size)) hb (fun k hk => by exact hk.elim (fun h => .inl h) (fun h => .inr (by subst h; simp))))
   have X6 := Lib.hid (X5.out.later hb)
   have R6 := Lib.hid (R5.out.later hb)
   have hltPX := Lib.hid X5.out.lt
   have hltPR := Lib.hid R5.out.lt
   have hltPka := Lib.hid (World.block_lt_of_cell? _ _ hH5.1.2)
   have hltPkb := Lib.hid (World.block_lt_of_cell? _ _ hH5.2)
   go_simp
   refine hK.out _ _ (c4B hH5 hb) (fun hH6 => ?_)
   clear hK K hH5 hb Q5 X5 R5
   try simp only [Act.put, List.setIfInBounds_toArray, List.set_cons_zero, List.set_cons_succ, List.getElem_toArray, List.getElem_cons_zero, List.getElem_cons_succ]
   obtain ⟨u6, hu6⟩ := ex_nm u5
   obtain ⟨p, hp⟩ : ∃ p, u5.heap.size = p := ⟨_, rfl⟩
   rw [hp] at Q6 P6 hltPX hltPR hltPka hltPkb ⊢
   rw [hu6] at Q6 X6 hH6 R6 P6 ⊢
   clear hp hu6
   rotate_left
   refine AllReadyH.cons rfl (fun K hK => ?_) AllReadyH.nil
   obtain ⟨hb, P5⟩ := new_nm u4
   have Q5 := Lib.hid (Q4.out.more (E' := (fun k : Nat => k = r ∨ k = u4.heap.size)) hb (fun k hk => by exact hk.elim (fun h => .inl h) (fun h => .inr (by subst h; simp))))
   have X5 := Lib.hid (X4.out.later hb)
   have R5 := Lib.hid (R4.out.later hb)
   have hltPX := Lib.hid X4.out.lt
   have hltPR := Lib.hid R4.out.lt
   have hltPka := Lib.hid (World.block_lt_of_cell? _ _ hH4.1.2)
   have hltPkb := Lib.hid (World.block_lt_of_cell? _ _ hH4.2)
   go_simp
   refine hK.out _ _ (c4B hH4 hb) (fun hH5 => ?_)
   clear hK K hH4 hb Q4 X4 R4
   try simp only [Act.put, List.setIfInBounds_toArray, List.set_cons_zero, List.set_cons_succ, List.getElem_toArray, List.getElem_cons_zero, List.getElem_cons_succ]
   obtain ⟨u5, hu5⟩ := ex_nm u4
   obtain ⟨p, hp⟩ : ∃ p, u4.heap.size = p := ⟨_, rfl⟩
   rw [hp] at Q5 P5 hltPX hltPR hltPka hltPkb ⊢
   rw [hu5] at Q5 X5 hH5 R5 P5 ⊢
   clear hp hu5
   refine wpAnyH_ready (rs := [13]) (by kernel_rfl) (by simp) ?_
   refine AllReadyH.cons rfl (fun K hK => ?_) AllReadyH.nil
   go_simp
   go_at_call 16
   (with_reducible refine (ofTab_any _ _).mono ?_)
   rintro r u6 ⟨rfl, hb⟩
   have Q6 := Lib.hid (Q5.out.later hb)
   have X6 := Lib.hid (X5.out.later hb)
   have R6 := Lib.hid (R5.out.later hb)
   have P6 := Lib.hid (P5.out.later hb)
   clear Q5 X5 R5 P5
   go_wp2_with fail
   refine hK.out _ _ (c4B hH5 hb) (fun hH6 => ?_)
   clear hK K hH5 hb
   try simp only [Act.put, List.setIfInBounds_toArray, List.set_cons_zero, List.set_cons_succ, List.getElem_toArray, List.getElem_cons_zero, List.getElem_cons_succ]
   rotate_left
   refine AllReadyH.cons rfl (fun K hK => ?_) AllReadyH.nil
   obtain ⟨hb, P4⟩ := new_nm u3
   have Q4 := Lib.hid (Q3.out.more (E' := (fun k : Nat => k = r ∨ k = u3.heap.size)) hb (fun k hk => by exact hk.elim (fun h => .inl h) (fun h => .inr (by subst h; simp))))
   have X4 := Lib.hid (X3.out.later hb)
   have R4 := Lib.hid (R3.out.later hb)
   have hltPX := Lib.hid X3.out.lt
   have hltPR := Lib.hid R3.out.lt
   have hltPka := Lib.hid (World.block_lt_of_cell? _ _ hH3.2)
   go_simp
   refine hK.out _ _ (c3B hH3 hb) (fun hH4 => ?_)
   clear hK K hH3 hb Q3 X3 R3
   try simp only [Act.put, List.setIfInBounds_toArray, List.set_cons_zero, List.set_cons_succ, List.getElem_toArray, List.getElem_cons_zero, List.getElem_cons_succ]
   obtain ⟨u4, hu4⟩ := ex_nm u3
   obtain ⟨p, hp⟩ : ∃ p, u3.heap.size = p := ⟨_, rfl⟩
   rw [hp] at Q4 P4 hltPX hltPR hltPka ⊢
   rw [hu4] at Q4 X4 hH4 R4 P4 ⊢
   clear hp hu4
   refine wpAnyH_ready (rs := [7]) (by kernel_rfl) (by simp) ?_
   refine AllReadyH.cons rfl (fun K hK => ?_) AllReadyH.nil
   go_simp
   go_at_call 11
   (with_reducible refine (names31_any _).mono ?_)
   rintro r u5 ⟨rfl, hb, hn⟩
   have ltR := R4.out.lt
   have ltP := P4.out.lt
   obtain ⟨kb, hkx⟩ : ∃ k, u4.heap.size = k := ⟨_, rfl⟩
   rw [hkx] at hn ltR ltP ⊢
   have hln7R := Lib.hid ltR
   have hln7P := Lib.hid ltP
   have hc := hn.cell (nmCells_at HI.out.2.1)
   rw [HI.out.2.2] at hc
   have Q5 := Lib.hid (Q4.out.later hb)
   have X5 := Lib.hid (X4.out.later hb)
   have R5 := Lib.hid (R4.out.later hb)
   have P5 := Lib.hid (P4.out.later hb)
   clear Q4 X4 R4 P4
   go_wp2_with fail
   refine hK.out _ _ (c3B hH4 hb) (fun hH5 => ?_)
   clear hb hn hkx hK K hH4 ltR ltP
   try simp only [Act.put, List.setIfInBounds_toArray, List.set_cons_zero, List.set_cons_succ, List.getElem_toArray, List.getElem_cons_zero, List.getElem_cons_succ]
   refine monoK kb i nb ?_
   have hH5 := And.intro hH5 hc
   clear hc
   refine wpAnyH_take (i := 11) (v := ?_) rfl (by kernel_rfl) (by kernel_rfl) (by kernel_rfl) (fun _ _ _ h => h) (Or.inl ⟨by rfl, ?_⟩) (by assumption) ?_
   rotate_left
   · (intro wx hSw; (try dsimp only at hSw); go_simp <;> with_reducible rfl)
   try simp only [Act.put, List.setIfInBounds_toArray, List.set_cons_zero, List.set_cons_succ, List.getElem_toArray, List.getElem_cons_zero, List.getElem_cons_succ]
   refine wpAnyH_take (i := 12) (v := ?_) rfl (by kernel_rfl) (by kernel_rfl) (by kernel_rfl) (fun _ _ _ h => h) (Or.inl ⟨by rfl, ?_⟩) (by assumption) ?_
   rotate_left
   · (intro wx hSw; (try dsimp only at hSw); go_simp <;> with_reducible rfl)
   try simp only [Act.put, List.setIfInBounds_toArray, List.set_cons_zero, List.set_cons_succ, List.getElem_toArray, List.getElem_cons_zero, List.getElem_cons_succ]
   refine wpAnyH_ready (rs := [13]) (by kernel_rfl) (by simp) ?_
   refine AllReadyH.cons rfl (fun K hK => ?_) AllReadyH.nil
   go_simp
   go_at_call 16
   (with_reducible refine (ofTab_any _ _).mono ?_)
   rintro r u6 ⟨rfl, hb⟩
   have Q6 := Lib.hid (Q5.out.later hb)
   have X6 := Lib.hid (X5.out.later hb)
   have R6 := Lib.hid (R5.out.later hb)
   have P6 := Lib.hid (P5.out.later hb)
   clear Q5 X5 R5 P5
   go_wp2_with fail
   refine hK.out _ _ (c4B hH5 hb) (fun hH6 => ?_)
   clear hK K hH5 hb
   try simp only [Act.put, List.setIfInBounds_toArray, List.set_cons_zero, List.set_cons_succ, List.getElem_toArray, List.getElem_cons_zero, List.getElem_cons_succ]
   rotate_left
   refine AllReadyH.cons rfl (fun K hK => ?_) ?_
   obtain ⟨hb, P2⟩ := new_nm u1
   have Q2 := Lib.hid (Q1.out.more (E' := (fun k : Nat => k = u1.heap.size)) hb (fun k hk => by subst hk; exact .inr (by simp)))
   have X2 := Lib.hid (X1.out.later hb)
   have hltPX := Lib.hid X1.out.lt
   have hltPka := Lib.hid (World.block_lt_of_cell? _ _ hH1.2)
   go_simp
   refine hK.out _ _ (c3B hH1 hb) (fun hH2 => ?_)
   clear hK K hH1 hb Q1 X1
   try simp only [Act.put, List.setIfInBounds_toArray, List.set_cons_zero, List.set_cons_succ, List.getElem_toArray, List.getElem_cons_zero, List.getElem_cons_succ]
   obtain ⟨u2, hu2⟩ := ex_nm u1
   obtain ⟨p, hp⟩ : ∃ p, u1.heap.size = p := ⟨_, rfl⟩
   rw [hp] at Q2 P2 hltPX hltPka ⊢
   rw [hu2] at Q2 X2 hH2 P2 ⊢
   clear hp hu2
   refine wpAnyH_ready (rs := [6, 15]) (by kernel_rfl) (by simp) ?_
   refine AllReadyH.cons rfl (fun K hK => ?_) ?_
   go_simp
   go_at_call 16
   (with_reducible refine (ofTab_any _ _).mono ?_)
   rintro r u3 ⟨rfl, hb⟩
   have Q3 := Lib.hid (Q2.out.later hb)
   have X3 := Lib.hid (X2.out.later hb)
   have P3 := Lib.hid (P2.out.later hb)
   clear Q2 X2 P2
   go_wp2_with fail
   refine hK.out _ _ (c3B hH2 hb) (fun hH3 => ?_)
   clear hK K hH2 hb
   try simp only [Act.put, List.setIfInBounds_toArray, List.set_cons_zero, List.set_cons_succ, List.getElem_toArray, List.getElem_cons_zero, List.getElem_cons_succ]
   refine wpAnyH_ready (rs := [7, 15]) (by kernel_rfl) (by simp) ?_
   refine AllReadyH.cons rfl (fun K hK => ?_) ?_
   go_simp
   go_at_call 11
   (with_reducible refine (names31_any _).mono ?_)
   rintro r u4 ⟨rfl, hb, hn⟩
   have ltP := P3.out.lt
   obtain ⟨kb, hkx⟩ : ∃ k, u3.heap.size = k := ⟨_, rfl⟩
   rw [hkx] at hn ltP ⊢
   have hln7P := Lib.hid ltP
   have hc := hn.cell (nmCells_at HI.out.2.1)
   rw [HI.out.2.2] at hc
   have Q4 := Lib.hid (Q3.out.later hb)
   have X4 := Lib.hid (X3.out.later hb)
   have P4 := Lib.hid (P3.out.later hb)
   clear Q3 X3 P3
   go_wp2_with fail
   refine hK.out _ _ (c3B hH3 hb) (fun hH4 => ?_)
   clear hb hn hkx hK K hH3 ltP
   try simp only [Act.put, List.setIfInBounds_toArray, List.set_cons_zero, List.set_cons_succ, List.getElem_toArray, List.getElem_cons_zero, List.getElem_cons_succ]
   refine monoK kb i nb ?_
   have hH4 := And.intro hH4 hc
   clear hc
   refine wpAnyH_take (i := 11) (v := ?_) rfl (by kernel_rfl) (by kernel_rfl) (by kernel_rfl) (fun _ _ _ h => h) (Or.inl ⟨by rfl, ?_⟩) (by assumption) ?_
   rotate_left
   · (intro wx hSw; (try dsimp only at hSw); go_simp <;> with_reducible rfl)
   try simp only [Act.put, List.setIfInBounds_toArray, List.set_cons_zero, List.set_cons_succ, List.getElem_toArray, List.getElem_cons_zero, List.getElem_cons_succ]
   refine wpAnyH_take (i := 12) (v := ?_) rfl (by kernel_rfl) (by kernel_rfl) (by kernel_rfl) (fun _ _ _ h => h) (Or.inl ⟨by rfl, ?_⟩) (by assumption) ?_
   rotate_left
   · (intro wx hSw; (try dsimp only at hSw); go_simp <;> with_reducible rfl)
   try simp only [Act.put, List.setIfInBounds_toArray, List.set_cons_zero, List.set_cons_succ, List.getElem_toArray, List.getElem_cons_zero, List.getElem_cons_succ]
   refine wpAnyH_ready (rs := [13, 15]) (by kernel_rfl) (by simp) ?_
   refine AllReadyH.cons rfl (fun K hK => ?_) ?_
   go_simp
   go_at_call 16
   (with_reducible refine (ofTab_any _ _).mono ?_)
   rintro r u5 ⟨rfl, hb⟩
   have Q5 := Lib.hid (Q4.out.later hb)
   have X5 := Lib.hid (X4.out.later hb)
   have P5 := Lib.hid (P4.out.later hb)
   clear Q4 X4 P4
   go_wp2_with fail
   refine hK.out _ _ (c4B hH4 hb) (fun hH5 => ?_)
   clear hK K hH4 hb
   try simp only [Act.put, List.setIfInBounds_toArray, List.set_cons_zero, List.set_cons_succ, List.getElem_toArray, List.getElem_cons_zero, List.getElem_cons_succ]
   refine wpAnyH_ready (rs := [15]) (by kernel_rfl) (by simp) ?_
   refine AllReadyH.cons rfl (fun K hK => ?_) AllReadyH.nil
   obtain ⟨hb, R6⟩ := new_nm u5
   have Q6 := Lib.hid (Q5.out.more (E' := (fun k : Nat => k = p ∨ k = u5.heap.size)) hb (fun k hk => by exact hk.elim (fun h => .inl h) (fun h => .inr (by subst h; simp))))
   have X6 := Lib.hid (X5.out.later hb)
   have P6 := Lib.hid (P5.out.later hb)
   have hltRX := Lib.hid X5.out.lt
   have hltRP := Lib.hid P5.out.lt
   have hltRka := Lib.hid (World.block_lt_of_cell? _ _ hH5.1.2)
   have hltRkb := Lib.hid (World.block_lt_of_cell? _ _ hH5.2)
   go_simp
   refine hK.out _ _ (c4B hH5 hb) (fun hH6 => ?_)
   clear hK K hH5 hb Q5 X5 P5
   try simp only [Act.put, List.setIfInBounds_toArray, List.set_cons_zero, List.set_cons_succ, List.getElem_toArray, List.getElem_cons_zero, List.getElem_cons_succ]
   obtain ⟨u6, hu6⟩ := ex_nm u5
   obtain ⟨r, hr⟩ : ∃ r, u5.heap.size = r := ⟨_, rfl⟩
   rw [hr] at Q6 R6 hltRX hltRP hltRka hltRkb ⊢
   rw [hu6] at Q6 X6 hH6 P6 R6 ⊢
   clear hr hu6
   rotate_left
   refine AllReadyH.cons rfl (fun K hK => ?_) AllReadyH.nil
   obtain ⟨hb, R5⟩ := new_nm u4
   have Q5 := Lib.hid (Q4.out.more (E' := (fun k : Nat => k = p ∨ k = u4.heap.size)) hb (fun k hk => by exact hk.elim (fun h => .inl h) (fun h => .inr (by subst h; simp))))
   have X5 := Lib.hid (X4.out.later hb)
   have P5 := Lib.hid (P4.out.later hb)
   have hltRX := Lib.hid X4.out.lt
   have hltRP := Lib.hid P4.out.lt
   have hltRka := Lib.hid (World.block_lt_of_cell? _ _ hH4.1.2)
   have hltRkb := Lib.hid (World.block_lt_of_cell? _ _ hH4.2)
   go_simp
   refine hK.out _ _ (c4B hH4 hb) (fun hH5 => ?_)
   clear hK K hH4 hb Q4 X4 P4
   try simp only [Act.put, List.setIfInBounds_toArray, List.set_cons_zero, List.set_cons_succ, List.getElem_toArray, List.getElem_cons_zero, List.getElem_cons_succ]
   obtain ⟨u5, hu5⟩ := ex_nm u4
   obtain ⟨r, hr⟩ : ∃ r, u4.heap.size = r := ⟨_, rfl⟩
   rw [hr] at Q5 R5 hltRX hltRP hltRka hltRkb ⊢
   rw [hu5] at Q5 X5 hH5 P5 R5 ⊢
   clear hr hu5
   refine wpAnyH_ready (rs := [13]) (by kernel_rfl) (by simp) ?_
   refine AllReadyH.cons rfl (fun K hK => ?_) AllReadyH.nil
   go_simp
   go_at_call 16
   (with_reducible refine (ofTab_any _ _).mono ?_)
   rintro r u6 ⟨rfl, hb⟩
   have Q6 := Lib.hid (Q5.out.later hb)
   have X6 := Lib.hid (X5.out.later hb)
   have P6 := Lib.hid (P5.out.later hb)
   have R6 := Lib.hid (R5.out.later hb)
   clear Q5 X5 P5 R5
   go_wp2_with fail
   refine hK.out _ _ (c4B hH5 hb) (fun hH6 => ?_)
   clear hK K hH5 hb
   try simp only [Act.put, List.setIfInBounds_toArray, List.set_cons_zero, List.set_cons_succ, List.getElem_toArray, List.getElem_cons_zero, List.getElem_cons_succ]
   rotate_left
   refine AllReadyH.cons rfl (fun K hK => ?_) AllReadyH.nil
   obtain ⟨hb, R4⟩ := new_nm u3
   have Q4 := Lib.hid (Q3.out.more (E' := (fun k : Nat => k = p ∨ k = u3.heap.size)) hb (fun k hk => by exact hk.elim (fun h => .inl h) (fun h => .inr (by subst h; simp))))
   have X4 := Lib.hid (X3.out.later hb)
   have P4 := Lib.hid (P3.out.later hb)
   have hltRX := Lib.hid X3.out.lt
   have hltRP := Lib.hid P3.out.lt
   have hltRka := Lib.hid (World.block_lt_of_cell? _ _ hH3.2)
   go_simp
   refine hK.out _ _ (c3B hH3 hb) (fun hH4 => ?_)
   clear hK K hH3 hb Q3 X3 P3
   try simp only [Act.put, List.setIfInBounds_toArray, List.set_cons_zero, List.set_cons_succ, List.getElem_toArray, List.getElem_cons_zero, List.getElem_cons_succ]
   obtain ⟨u4, hu4⟩ := ex_nm u3
   obtain ⟨r, hr⟩ : ∃ r, u3.heap.size = r := ⟨_, rfl⟩
   rw [hr] at Q4 R4 hltRX hltRP hltRka ⊢
   rw [hu4] at Q4 X4 hH4 P4 R4 ⊢
   clear hr hu4
   refine wpAnyH_ready (rs := [7]) (by kernel_rfl) (by simp) ?_
   refine AllReadyH.cons rfl (fun K hK => ?_) AllReadyH.nil
   go_simp
   go_at_call 11
   (with_reducible refine (names31_any _).mono ?_)
   rintro r u5 ⟨rfl, hb, hn⟩
   have ltP := P4.out.lt
   have ltR := R4.out.lt
   obtain ⟨kb, hkx⟩ : ∃ k, u4.heap.size = k := ⟨_, rfl⟩
   rw [hkx] at hn ltP ltR ⊢
   have hln7P := Lib.hid ltP
   have hln7R := Lib.hid ltR
   have hc := hn.cell (nmCells_at HI.out.2.1)
   rw [HI.out.2.2] at hc
   have Q5 := Lib.hid (Q4.out.later hb)
   have X5 := Lib.hid (X4.out.later hb)
   have P5 := Lib.hid (P4.out.later hb)
   have R5 := Lib.hid (R4.out.later hb)
   clear Q4 X4 P4 R4
   go_wp2_with fail
   refine hK.out _ _ (c3B hH4 hb) (fun hH5 => ?_)
   clear hb hn hkx hK K hH4 ltP ltR
   try simp only [Act.put, List.setIfInBounds_toArray, List.set_cons_zero, List.set_cons_succ, List.getElem_toArray, List.getElem_cons_zero, List.getElem_cons_succ]
   refine monoK kb i nb ?_
   have hH5 := And.intro hH5 hc
   clear hc
   refine wpAnyH_take (i := 11) (v := ?_) rfl (by kernel_rfl) (by kernel_rfl) (by kernel_rfl) (fun _ _ _ h => h) (Or.inl ⟨by rfl, ?_⟩) (by assumption) ?_
   rotate_left
   · (intro wx hSw; (try dsimp only at hSw); go_simp <;> with_reducible rfl)
   try simp only [Act.put, List.setIfInBounds_toArray, List.set_cons_zero, List.set_cons_succ, List.getElem_toArray, List.getElem_cons_zero, List.getElem_cons_succ]
   refine wpAnyH_take (i := 12) (v := ?_) rfl (by kernel_rfl) (by kernel_rfl) (by kernel_rfl) (fun _ _ _ h => h) (Or.inl ⟨by rfl, ?_⟩) (by assumption) ?_
   rotate_left
   · (intro wx hSw; (try dsimp only at hSw); go_simp <;> with_reducible rfl)
   try simp only [Act.put, List.setIfInBounds_toArray, List.set_cons_zero, List.set_cons_succ, List.getElem_toArray, List.getElem_cons_zero, List.getElem_cons_succ]
   refine wpAnyH_ready (rs := [13]) (by kernel_rfl) (by simp) ?_
   refine AllReadyH.cons rfl (fun K hK => ?_) AllReadyH.nil
   go_simp
   go_at_call 16
   (with_reducible refine (ofTab_any _ _).mono ?_)
   rintro r u6 ⟨rfl, hb⟩
   have Q6 := Lib.hid (Q5.out.later hb)
   have X6 := Lib.hid (X5.out.later hb)
   have P6 := Lib.hid (P5.out.later hb)
   have R6 := Lib.hid (R5.out.later hb)
   clear Q5 X5 P5 R5
   go_wp2_with fail
   refine hK.out _ _ (c4B hH5 hb) (fun hH6 => ?_)
   clear hK K hH5 hb
   try simp only [Act.put, List.setIfInBounds_toArray, List.set_cons_zero, List.set_cons_succ, List.getElem_toArray, List.getElem_cons_zero, List.getElem_cons_succ]
   rotate_left
   refine AllReadyH.cons rfl (fun K hK => ?_) AllReadyH.nil
   obtain ⟨hb, R3⟩ := new_nm u2
   have Q3 := Lib.hid (Q2.out.more (E' := (fun k : Nat => k = p ∨ k = u2.heap.size)) hb (fun k hk => by exact hk.elim (fun h => .inl h) (fun h => .inr (by subst h; simp))))
   have X3 := Lib.hid (X2.out.later hb)
   have P3 := Lib.hid (P2.out.later hb)
   have hltRX := Lib.hid X2.out.lt
   have hltRP := Lib.hid P2.out.lt
   have hltRka := Lib.hid (World.block_lt_of_cell? _ _ hH2.2)
   go_simp
   refine hK.out _ _ (c3B hH2 hb) (fun hH3 => ?_)
   clear hK K hH2 hb Q2 X2 P2
   try simp only [Act.put, List.setIfInBounds_toArray, List.set_cons_zero, List.set_cons_succ, List.getElem_toArray, List.getElem_cons_zero, List.getElem_cons_succ]
   obtain ⟨u3, hu3⟩ := ex_nm u2
   obtain ⟨r, hr⟩ : ∃ r, u2.heap.size = r := ⟨_, rfl⟩
   rw [hr] at Q3 R3 hltRX hltRP hltRka ⊢
   rw [hu3] at Q3 X3 hH3 P3 R3 ⊢
   clear hr hu3
   refine wpAnyH_ready (rs := [6]) (by kernel_rfl) (by simp) ?_
   refine AllReadyH.cons rfl (fun K hK => ?_) AllReadyH.nil
   go_simp
   go_at_call 16
   (with_reducible refine (ofTab_any _ _).mono ?_)
   rintro r u4 ⟨rfl, hb⟩
   have Q4 := Lib.hid (Q3.out.later hb)
   have X4 := Lib.hid (X3.out.later hb)
   have P4 := Lib.hid (P3.out.later hb)
   have R4 := Lib.hid (R3.out.later hb)
   clear Q3 X3 P3 R3
   go_wp2_with fail
   refine hK.out _ _ (c3B hH3 hb) (fun hH4 => ?_)
   clear hK K hH3 hb
   try simp only [Act.put, List.setIfInBounds_toArray, List.set_cons_zero, List.set_cons_succ, List.getElem_toArray, List.getElem_cons_zero, List.getElem_cons_succ]
   refine wpAnyH_ready (rs := [7]) (by kernel_rfl) (by simp) ?_
   refine AllReadyH.cons rfl (fun K hK => ?_) AllReadyH.nil
   go_simp
   go_at_call 11
   (with_reducible refine (names31_any _).mono ?_)
   rintro r u5 ⟨rfl, hb, hn⟩
   have ltP := P4.out.lt
   have ltR := R4.out.lt
   obtain ⟨kb, hkx⟩ : ∃ k, u4.heap.size = k := ⟨_, rfl⟩
   rw [hkx] at hn ltP ltR ⊢
   have hln7P := Lib.hid ltP
   have hln7R := Lib.hid ltR
   have hc := hn.cell (nmCells_at HI.out.2.1)
   rw [HI.out.2.2] at hc
   have Q5 := Lib.hid (Q4.out.later hb)
   have X5 := Lib.hid (X4.out.later hb)
   have P5 := Lib.hid (P4.out.later hb)
   have R5 := Lib.hid (R4.out.later hb)
   clear Q4 X4 P4 R4
   go_wp2_with fail
   refine hK.out _ _ (c3B hH4 hb) (fun hH5 => ?_)
   clear hb hn hkx hK K hH4 ltP ltR
   try simp only [Act.put, List.setIfInBounds_toArray, List.set_cons_zero, List.set_cons_succ, List.getElem_toArray, List.getElem_cons_zero, List.getElem_cons_succ]
   refine monoK kb i nb ?_
   have hH5 := And.intro hH5 hc
   clear hc
   refine wpAnyH_take (i := 11) (v := ?_) rfl (by kernel_rfl) (by kernel_rfl) (by kernel_rfl) (fun _ _ _ h => h) (Or.inl ⟨by rfl, ?_⟩) (by assumption) ?_
   rotate_left
   · (intro wx hSw; (try dsimp only at hSw); go_simp <;> with_reducible rfl)
   try simp only [Act.put, List.setIfInBounds_toArray, List.set_cons_zero, List.set_cons_succ, List.getElem_toArray, List.getElem_cons_zero, List.getElem_cons_succ]
   refine wpAnyH_take (i := 12) (v := ?_) rfl (by kernel_rfl) (by kernel_rfl) (by kernel_rfl) (fun _ _ _ h => h) (Or.inl ⟨by rfl, ?_⟩) (by assumption) ?_
   rotate_left
   · (intro wx hSw; (try dsimp only at hSw); go_simp <;> with_reducible rfl)
   try simp only [Act.put, List.setIfInBounds_toArray, List.set_cons_zero, List.set_cons_succ, List.getElem_toArray, List.getElem_cons_zero, List.getElem_cons_succ]
   refine wpAnyH_ready (rs := [13]) (by kernel_rfl) (by simp) ?_
   refine AllReadyH.cons rfl (fun K hK => ?_) AllReadyH.nil
   go_simp
   go_at_call 16
   (with_reducible refine (ofTab_any _ _).mono ?_)
   rintro r u6 ⟨rfl, hb⟩
   have Q6 := Lib.hid (Q5.out.later hb)
   have X6 := Lib.hid (X5.out.later hb)
   have P6 := Lib.hid (P5.out.later hb)
   have R6 := Lib.hid (R5.out.later hb)
   clear Q5 X5 P5 R5
   go_wp2_with fail
   refine hK.out _ _ (c4B hH5 hb) (fun hH6 => ?_)
   clear hK K hH5 hb
   try simp only [Act.put, List.setIfInBounds_toArray, List.set_cons_zero, List.set_cons_succ, List.getElem_toArray, List.getElem_cons_zero, List.getElem_cons_succ]
   rotate_left
   refine AllReadyH.cons rfl (fun K hK => ?_) AllReadyH.nil
   obtain ⟨hb, R2⟩ := new_nm u1
   have Q2 := Lib.hid (Q1.out.more (E' := (fun k : Nat => k = u1.heap.size)) hb (fun k hk => by subst hk; exact .inr (by simp)))
   have X2 := Lib.hid (X1.out.later hb)
   have hltRX := Lib.hid X1.out.lt
   have hltRka := Lib.hid (World.block_lt_of_cell? _ _ hH1.2)
   go_simp
   refine hK.out _ _ (c3B hH1 hb) (fun hH2 => ?_)
   clear hK K hH1 hb Q1 X1
   try simp only [Act.put, List.setIfInBounds_toArray, List.set_cons_zero, List.set_cons_succ, List.getElem_toArray, List.getElem_cons_zero, List.getElem_cons_succ]
   obtain ⟨u2, hu2⟩ := ex_nm u1
   obtain ⟨r, hr⟩ : ∃ r, u1.heap.size = r := ⟨_, rfl⟩
   rw [hr] at Q2 R2 hltRX hltRka ⊢
   rw [hu2] at Q2 X2 hH2 R2 ⊢
   clear hr hu2
   refine wpAnyH_ready (rs := [6, 14]) (by kernel_rfl) (by simp) ?_
   refine AllReadyH.cons rfl (fun K hK => ?_) ?_
   go_simp
   go_at_call 16
   (with_reducible refine (ofTab_any _ _).mono ?_)
   rintro r u3 ⟨rfl, hb⟩
   have Q3 := Lib.hid (Q2.out.later hb)
   have X3 := Lib.hid (X2.out.later hb)
   have R3 := Lib.hid (R2.out.later hb)
   clear Q2 X2 R2
   go_wp2_with fail
   refine hK.out _ _ (c3B hH2 hb) (fun hH3 => ?_)
   clear hK K hH2 hb
   try simp only [Act.put, List.setIfInBounds_toArray, List.set_cons_zero, List.set_cons_succ, List.getElem_toArray, List.getElem_cons_zero, List.getElem_cons_succ]
   refine wpAnyH_ready (rs := [7, 14]) (by kernel_rfl) (by simp) ?_
   refine AllReadyH.cons rfl (fun K hK => ?_) ?_
   go_simp
   go_at_call 11
   (with_reducible refine (names31_any _).mono ?_)
   rintro r u4 ⟨rfl, hb, hn⟩
   have ltR := R3.out.lt
   obtain ⟨kb, hkx⟩ : ∃ k, u3.heap.size = k := ⟨_, rfl⟩
   rw [hkx] at hn ltR ⊢
   have hln7R := Lib.hid ltR
   have hc := hn.cell (nmCells_at HI.out.2.1)
   rw [HI.out.2.2] at hc
   have Q4 := Lib.hid (Q3.out.later hb)
   have X4 := Lib.hid (X3.out.later hb)
   have R4 := Lib.hid (R3.out.later hb)
   clear Q3 X3 R3
   go_wp2_with fail
   refine hK.out _ _ (c3B hH3 hb) (fun hH4 => ?_)
   clear hb hn hkx hK K hH3 ltR
   try simp only [Act.put, List.setIfInBounds_toArray, List.set_cons_zero, List.set_cons_succ, List.getElem_toArray, List.getElem_cons_zero, List.getElem_cons_succ]
   refine monoK kb i nb ?_
   have hH4 := And.intro hH4 hc
   clear hc
   refine wpAnyH_take (i := 11) (v := ?_) rfl (by kernel_rfl) (by kernel_rfl) (by kernel_rfl) (fun _ _ _ h => h) (Or.inl ⟨by rfl, ?_⟩) (by assumption) ?_
   rotate_left
   · (intro wx hSw; (try dsimp only at hSw); go_simp <;> with_reducible rfl)
   try simp only [Act.put, List.setIfInBounds_toArray, List.set_cons_zero, List.set_cons_succ, List.getElem_toArray, List.getElem_cons_zero, List.getElem_cons_succ]
   refine wpAnyH_take (i := 12) (v := ?_) rfl (by kernel_rfl) (by kernel_rfl) (by kernel_rfl) (fun _ _ _ h => h) (Or.inl ⟨by rfl, ?_⟩) (by assumption) ?_
   rotate_left
   · (intro wx hSw; (try dsimp only at hSw); go_simp <;> with_reducible rfl)
   try simp only [Act.put, List.setIfInBounds_toArray, List.set_cons_zero, List.set_cons_succ, List.getElem_toArray, List.getElem_cons_zero, List.getElem_cons_succ]
   refine wpAnyH_ready (rs := [13, 14]) (by kernel_rfl) (by simp) ?_
   refine AllReadyH.cons rfl (fun K hK => ?_) ?_
   go_simp
   go_at_call 16
   (with_reducible refine (ofTab_any _ _).mono ?_)
   rintro r u5 ⟨rfl, hb⟩
   have Q5 := Lib.hid (Q4.out.later hb)
   have X5 := Lib.hid (X4.out.later hb)
   have R5 := Lib.hid (R4.out.later hb)
   clear Q4 X4 R4
   go_wp2_with fail
   refine hK.out _ _ (c4B hH4 hb) (fun hH5 => ?_)
   clear hK K hH4 hb
   try simp only [Act.put, List.setIfInBounds_toArray, List.set_cons_zero, List.set_cons_succ, List.getElem_toArray, List.getElem_cons_zero, List.getElem_cons_succ]
   refine wpAnyH_ready (rs := [14]) (by kernel_rfl) (by simp) ?_
   refine AllReadyH.cons rfl (fun K hK => ?_) AllReadyH.nil
   obtain ⟨hb, P6⟩ := new_nm u5
   have Q6 := Lib.hid (Q5.out.more (E' := (fun k : Nat => k = r ∨ k = u5.heap.size)) hb (fun k hk => by exact hk.elim (fun h => .inl h) (fun h => .inr (by subst h; simp))))
   have X6 := Lib.hid (X5.out.later hb)
   have R6 := Lib.hid (R5.out.later hb)
   have hltPX := Lib.hid X5.out.lt
   have hltPR := Lib.hid R5.out.lt
   have hltPka := Lib.hid (World.block_lt_of_cell? _ _ hH5.1.2)
   have hltPkb := Lib.hid (World.block_lt_of_cell? _ _ hH5.2)
   go_simp
   refine hK.out _ _ (c4B hH5 hb) (fun hH6 => ?_)
   clear hK K hH5 hb Q5 X5 R5
   try simp only [Act.put, List.setIfInBounds_toArray, List.set_cons_zero, List.set_cons_succ, List.getElem_toArray, List.getElem_cons_zero, List.getElem_cons_succ]
   obtain ⟨u6, hu6⟩ := ex_nm u5
   obtain ⟨p, hp⟩ : ∃ p, u5.heap.size = p := ⟨_, rfl⟩
   rw [hp] at Q6 P6 hltPX hltPR hltPka hltPkb ⊢
   rw [hu6] at Q6 X6 hH6 R6 P6 ⊢
   clear hp hu6
   rotate_left
   refine AllReadyH.cons rfl (fun K hK => ?_) AllReadyH.nil
   obtain ⟨hb, P5⟩ := new_nm u4
   have Q5 := Lib.hid (Q4.out.more (E' := (fun k : Nat => k = r ∨ k = u4.heap.size)) hb (fun k hk => by exact hk.elim (fun h => .inl h) (fun h => .inr (by subst h; simp))))
   have X5 := Lib.hid (X4.out.later hb)
   have R5 := Lib.hid (R4.out.later hb)
   have hltPX := Lib.hid X4.out.lt
   have hltPR := Lib.hid R4.out.lt
   have hltPka := Lib.hid (World.block_lt_of_cell? _ _ hH4.1.2)
   have hltPkb := Lib.hid (World.block_lt_of_cell? _ _ hH4.2)
   go_simp
   refine hK.out _ _ (c4B hH4 hb) (fun hH5 => ?_)
   clear hK K hH4 hb Q4 X4 R4
   try simp only [Act.put, List.setIfInBounds_toArray, List.set_cons_zero, List.set_cons_succ, List.getElem_toArray, List.getElem_cons_zero, List.getElem_cons_succ]
   obtain ⟨u5, hu5⟩ := ex_nm u4
   obtain ⟨p, hp⟩ : ∃ p, u4.heap.size = p := ⟨_, rfl⟩
   rw [hp] at Q5 P5 hltPX hltPR hltPka hltPkb ⊢
   rw [hu5] at Q5 X5 hH5 R5 P5 ⊢
   clear hp hu5
   refine wpAnyH_ready (rs := [13]) (by kernel_rfl) (by simp) ?_
   refine AllReadyH.cons rfl (fun K hK => ?_) AllReadyH.nil
   go_simp
   go_at_call 16
   (with_reducible refine (ofTab_any _ _).mono ?_)
   rintro r u6 ⟨rfl, hb⟩
   have Q6 := Lib.hid (Q5.out.later hb)
   have X6 := Lib.hid (X5.out.later hb)
   have R6 := Lib.hid (R5.out.later hb)
   have P6 := Lib.hid (P5.out.later hb)
   clear Q5 X5 R5 P5
   go_wp2_with fail
   refine hK.out _ _ (c4B hH5 hb) (fun hH6 => ?_)
   clear hK K hH5 hb
   try simp only [Act.put, List.setIfInBounds_toArray, List.set_cons_zero, List.set_cons_succ, List.getElem_toArray, List.getElem_cons_zero, List.getElem_cons_succ]
   rotate_left
   refine AllReadyH.cons rfl (fun K hK => ?_) AllReadyH.nil
   obtain ⟨hb, P4⟩ := new_nm u3
   have Q4 := Lib.hid (Q3.out.more (E' := (fun k : Nat => k = r ∨ k = u3.heap.size)) hb (fun k hk => by exact hk.elim (fun h => .inl h) (fun h => .inr (by subst h; simp))))
   have X4 := Lib.hid (X3.out.later hb)
   have R4 := Lib.hid (R3.out.later hb)
   have hltPX := Lib.hid X3.out.lt
   have hltPR := Lib.hid R3.out.lt
   have hltPka := Lib.hid (World.block_lt_of_cell? _ _ hH3.2)
   go_simp
   refine hK.out _ _ (c3B hH3 hb) (fun hH4 => ?_)
   clear hK K hH3 hb Q3 X3 R3
   try simp only [Act.put, List.setIfInBounds_toArray, List.set_cons_zero, List.set_cons_succ, List.getElem_toArray, List.getElem_cons_zero, List.getElem_cons_succ]
   obtain ⟨u4, hu4⟩ := ex_nm u3
   obtain ⟨p, hp⟩ : ∃ p, u3.heap.size = p := ⟨_, rfl⟩
   rw [hp] at Q4 P4 hltPX hltPR hltPka ⊢
   rw [hu4] at Q4 X4 hH4 R4 P4 ⊢
   clear hp hu4
   refine wpAnyH_ready (rs := [7]) (by kernel_rfl) (by simp) ?_
   refine AllReadyH.cons rfl (fun K hK => ?_) AllReadyH.nil
   go_simp
   go_at_call 11
   (with_reducible refine (names31_any _).mono ?_)
   rintro r u5 ⟨rfl, hb, hn⟩
   have ltR := R4.out.lt
   have ltP := P4.out.lt
   obtain ⟨kb, hkx⟩ : ∃ k, u4.heap.size = k := ⟨_, rfl⟩
   rw [hkx] at hn ltR ltP ⊢
   have hln7R := Lib.hid ltR
   have hln7P := Lib.hid ltP
   have hc := hn.cell (nmCells_at HI.out.2.1)
   rw [HI.out.2.2] at hc
   have Q5 := Lib.hid (Q4.out.later hb)
   have X5 := Lib.hid (X4.out.later hb)
   have R5 := Lib.hid (R4.out.later hb)
   have P5 := Lib.hid (P4.out.later hb)
   clear Q4 X4 R4 P4
   go_wp2_with fail
   refine hK.out _ _ (c3B hH4 hb) (fun hH5 => ?_)
   clear hb hn hkx hK K hH4 ltR ltP
   try simp only [Act.put, List.setIfInBounds_toArray, List.set_cons_zero, List.set_cons_succ, List.getElem_toArray, List.getElem_cons_zero, List.getElem_cons_succ]
   refine monoK kb i nb ?_
   have hH5 := And.intro hH5 hc
   clear hc
   refine wpAnyH_take (i := 11) (v := ?_) rfl (by kernel_rfl) (by kernel_rfl) (by kernel_rfl) (fun _ _ _ h => h) (Or.inl ⟨by rfl, ?_⟩) (by assumption) ?_
   rotate_left
   · (intro wx hSw; (try dsimp only at hSw); go_simp <;> with_reducible rfl)
   try simp only [Act.put, List.setIfInBounds_toArray, List.set_cons_zero, List.set_cons_succ, List.getElem_toArray, List.getElem_cons_zero, List.getElem_cons_succ]
   refine wpAnyH_take (i := 12) (v := ?_) rfl (by kernel_rfl) (by kernel_rfl) (by kernel_rfl) (fun _ _ _ h => h) (Or.inl ⟨by rfl, ?_⟩) (by assumption) ?_
   rotate_left
   · (intro wx hSw; (try dsimp only at hSw); go_simp <;> with_reducible rfl)
   try simp only [Act.put, List.setIfInBounds_toArray, List.set_cons_zero, List.set_cons_succ, List.getElem_toArray, List.getElem_cons_zero, List.getElem_cons_succ]
   refine wpAnyH_ready (rs := [13]) (by kernel_rfl) (by simp) ?_
   refine AllReadyH.cons rfl (fun K hK => ?_) AllReadyH.nil
   go_simp
   go_at_call 16
   (with_reducible refine (ofTab_any _ _).mono ?_)
   rintro r u6 ⟨rfl, hb⟩
   have Q6 := Lib.hid (Q5.out.later hb)
   have X6 := Lib.hid (X5.out.later hb)
   have R6 := Lib.hid (R5.out.later hb)
   have P6 := Lib.hid (P5.out.later hb)
   clear Q5 X5 R5 P5
   go_wp2_with fail
   refine hK.out _ _ (c4B hH5 hb) (fun hH6 => ?_)
   clear hK K hH5 hb
   try simp only [Act.put, List.setIfInBounds_toArray, List.set_cons_zero, List.set_cons_succ, List.getElem_toArray, List.getElem_cons_zero, List.getElem_cons_succ]
   rotate_left
   refine AllReadyH.cons rfl (fun K hK => ?_) AllReadyH.nil
   obtain ⟨hb, P3⟩ := new_nm u2
   have Q3 := Lib.hid (Q2.out.more (E' := (fun k : Nat => k = r ∨ k = u2.heap.size)) hb (fun k hk => by exact hk.elim (fun h => .inl h) (fun h => .inr (by subst h; simp))))
   have X3 := Lib.hid (X2.out.later hb)
   have R3 := Lib.hid (R2.out.later hb)
   have hltPX := Lib.hid X2.out.lt
   have hltPR := Lib.hid R2.out.lt
   have hltPka := Lib.hid (World.block_lt_of_cell? _ _ hH2.2)
   go_simp
   refine hK.out _ _ (c3B hH2 hb) (fun hH3 => ?_)
   clear hK K hH2 hb Q2 X2 R2
   try simp only [Act.put, List.setIfInBounds_toArray, List.set_cons_zero, List.set_cons_succ, List.getElem_toArray, List.getElem_cons_zero, List.getElem_cons_succ]
   obtain ⟨u3, hu3⟩ := ex_nm u2
   obtain ⟨p, hp⟩ : ∃ p, u2.heap.size = p := ⟨_, rfl⟩
   rw [hp] at Q3 P3 hltPX hltPR hltPka ⊢
   rw [hu3] at Q3 X3 hH3 R3 P3 ⊢
   clear hp hu3
   refine wpAnyH_ready (rs := [6]) (by kernel_rfl) (by simp) ?_
   refine AllReadyH.cons rfl (fun K hK => ?_) AllReadyH.nil
   go_simp
   go_at_call 16
   (with_reducible refine (ofTab_any _ _).mono ?_)
   rintro r u4 ⟨rfl, hb⟩
   have Q4 := Lib.hid (Q3.out.later hb)
   have X4 := Lib.hid (X3.out.later hb)
   have R4 := Lib.hid (R3.out.later hb)
   have P4 := Lib.hid (P3.out.later hb)
   clear Q3 X3 R3 P3
   go_wp2_with fail
   refine hK.out _ _ (c3B hH3 hb) (fun hH4 => ?_)
   clear hK K hH3 hb
   try simp only [Act.put, List.setIfInBounds_toArray, List.set_cons_zero, List.set_cons_succ, List.getElem_toArray, List.getElem_cons_zero, List.getElem_cons_succ]
   refine wpAnyH_ready (rs := [7]) (by kernel_rfl) (by simp) ?_
   refine AllReadyH.cons rfl (fun K hK => ?_) AllReadyH.nil
   go_simp
   go_at_call 11
   (with_reducible refine (names31_any _).mono ?_)
   rintro r u5 ⟨rfl, hb, hn⟩
   have ltR := R4.out.lt
   have ltP := P4.out.lt
   obtain ⟨kb, hkx⟩ : ∃ k, u4.heap.size = k := ⟨_, rfl⟩
   rw [hkx] at hn ltR ltP ⊢
   have hln7R := Lib.hid ltR
   have hln7P := Lib.hid ltP
   have hc := hn.cell (nmCells_at HI.out.2.1)
   rw [HI.out.2.2] at hc
   have Q5 := Lib.hid (Q4.out.later hb)
   have X5 := Lib.hid (X4.out.later hb)
   have R5 := Lib.hid (R4.out.later hb)
   have P5 := Lib.hid (P4.out.later hb)
   clear Q4 X4 R4 P4
   go_wp2_with fail
   refine hK.out _ _ (c3B hH4 hb) (fun hH5 => ?_)
   clear hb hn hkx hK K hH4 ltR ltP
   try simp only [Act.put, List.setIfInBounds_toArray, List.set_cons_zero, List.set_cons_succ, List.getElem_toArray, List.getElem_cons_zero, List.getElem_cons_succ]
   refine monoK kb i nb ?_
   have hH5 := And.intro hH5 hc
   clear hc
   refine wpAnyH_take (i := 11) (v := ?_) rfl (by kernel_rfl) (by kernel_rfl) (by kernel_rfl) (fun _ _ _ h => h) (Or.inl ⟨by rfl, ?_⟩) (by assumption) ?_
   rotate_left
   · (intro wx hSw; (try dsimp only at hSw); go_simp <;> with_reducible rfl)
   try simp only [Act.put, List.setIfInBounds_toArray, List.set_cons_zero, List.set_cons_succ, List.getElem_toArray, List.getElem_cons_zero, List.getElem_cons_succ]
   refine wpAnyH_take (i := 12) (v := ?_) rfl (by kernel_rfl) (by kernel_rfl) (by kernel_rfl) (fun _ _ _ h => h) (Or.inl ⟨by rfl, ?_⟩) (by assumption) ?_
   rotate_left
   · (intro wx hSw; (try dsimp only at hSw); go_simp <;> with_reducible rfl)
   try simp only [Act.put, List.setIfInBounds_toArray, List.set_cons_zero, List.set_cons_succ, List.getElem_toArray, List.getElem_cons_zero, List.getElem_cons_succ]
   refine wpAnyH_ready (rs := [13]) (by kernel_rfl) (by simp) ?_
   refine AllReadyH.cons rfl (fun K hK => ?_) AllReadyH.nil
   go_simp
   go_at_call 16
   (with_reducible refine (ofTab_any _ _).mono ?_)
   rintro r u6 ⟨rfl, hb⟩
   have Q6 := Lib.hid (Q5.out.later hb)
   have X6 := Lib.hid (X5.out.later hb)
   have R6 := Lib.hid (R5.out.later hb)
   have P6 := Lib.hid (P5.out.later hb)
   clear Q5 X5 R5 P5
   go_wp2_with fail
   refine hK.out _ _ (c4B hH5 hb) (fun hH6 => ?_)
   clear hK K hH5 hb
   try simp only [Act.put, List.setIfInBounds_toArray, List.set_cons_zero, List.set_cons_succ, List.getElem_toArray, List.getElem_cons_zero, List.getElem_cons_succ]
   rotate_left
   refine AllReadyH.cons rfl (fun K hK => ?_) ?_
   obtain ⟨hb, P1⟩ := new_nm u0
   have Q1 := Lib.hid (Q0.out.more (E' := (fun k : Nat => k = u0.heap.size)) hb (fun k hk => by subst hk; exact .inr (by simp)))
   have X1 := Lib.hid (X0.out.later hb)
   have hltPX := Lib.hid X0.out.lt
   go_simp
   refine hK.out _ _ (c2B hH0 hb) (fun hH1 => ?_)
   clear hK K hH0 hb Q0 X0
   try simp only [Act.put, List.setIfInBounds_toArray, List.set_cons_zero, List.set_cons_succ, List.getElem_toArray, List.getElem_cons_zero, List.getElem_cons_succ]
   obtain ⟨u1, hu1⟩ := ex_nm u0
   obtain ⟨p, hp⟩ : ∃ p, u0.heap.size = p := ⟨_, rfl⟩
   rw [hp] at Q1 P1 hltPX ⊢
   rw [hu1] at Q1 X1 hH1 P1 ⊢
   clear hp hu1
   refine wpAnyH_ready (rs := [0, 15]) (by kernel_rfl) (by simp) ?_
   refine AllReadyH.cons rfl (fun K hK => ?_) ?_
   go_simp
   go_at_call 11
   (with_reducible refine (names31_any _).mono ?_)
   rintro r u2 ⟨rfl, hb, hn⟩
   have ltP := P1.out.lt
   obtain ⟨ka, hkx⟩ : ∃ k, u1.heap.size = k := ⟨_, rfl⟩
   rw [hkx] at hn ltP ⊢
   have hln0P := Lib.hid ltP
   have hc := hn.cell (nmCells_at HJ.out.2.1)
   rw [HJ.out.2.2] at hc
   have Q2 := Lib.hid (Q1.out.later hb)
   have X2 := Lib.hid (X1.out.later hb)
   have P2 := Lib.hid (P1.out.later hb)
   clear Q1 X1 P1
   go_wp2_with fail
   refine hK.out _ _ (c2B hH1 hb) (fun hH2 => ?_)
   clear hb hn hkx hK K hH1 ltP
   try simp only [Act.put, List.setIfInBounds_toArray, List.set_cons_zero, List.set_cons_succ, List.getElem_toArray, List.getElem_cons_zero, List.getElem_cons_succ]
   refine monoK ka j na ?_
   have hH2 := And.intro hH2 hc
   clear hc
   refine wpAnyH_take (i := 4) (v := ?_) rfl (by kernel_rfl) (by kernel_rfl) (by kernel_rfl) (fun _ _ _ h => h) (Or.inl ⟨by rfl, ?_⟩) (by assumption) ?_
   rotate_left
   · (intro wx hSw; (try dsimp only at hSw); go_simp <;> with_reducible rfl)
   try simp only [Act.put, List.setIfInBounds_toArray, List.set_cons_zero, List.set_cons_succ, List.getElem_toArray, List.getElem_cons_zero, List.getElem_cons_succ]
   refine wpAnyH_take (i := 5) (v := ?_) rfl (by kernel_rfl) (by kernel_rfl) (by kernel_rfl) (fun _ _ _ h => h) (Or.inl ⟨by rfl, ?_⟩) (by assumption) ?_
   rotate_left
   · (intro wx hSw; (try dsimp only at hSw); go_simp <;> with_reducible rfl)
   try simp only [Act.put, List.setIfInBounds_toArray, List.set_cons_zero, List.set_cons_succ, List.getElem_toArray, List.getElem_cons_zero, List.getElem_cons_succ]
   refine wpAnyH_ready (rs := [6, 15]) (by kernel_rfl) (by simp) ?_
   refine AllReadyH.cons rfl (fun K hK => ?_) ?_
   go_simp
   go_at_call 16
   (with_reducible refine (ofTab_any _ _).mono ?_)
   rintro r u3 ⟨rfl, hb⟩
   have Q3 := Lib.hid (Q2.out.later hb)
   have X3 := Lib.hid (X2.out.later hb)
   have P3 := Lib.hid (P2.out.later hb)
   clear Q2 X2 P2
   go_wp2_with fail
   refine hK.out _ _ (c3B hH2 hb) (fun hH3 => ?_)
   clear hK K hH2 hb
   try simp only [Act.put, List.setIfInBounds_toArray, List.set_cons_zero, List.set_cons_succ, List.getElem_toArray, List.getElem_cons_zero, List.getElem_cons_succ]
   refine wpAnyH_ready (rs := [7, 15]) (by kernel_rfl) (by simp) ?_
   refine AllReadyH.cons rfl (fun K hK => ?_) ?_
   go_simp
   go_at_call 11
   (with_reducible refine (names31_any _).mono ?_)
   rintro r u4 ⟨rfl, hb, hn⟩
   have ltP := P3.out.lt
   obtain ⟨kb, hkx⟩ : ∃ k, u3.heap.size = k := ⟨_, rfl⟩
   rw [hkx] at hn ltP ⊢
   have hln7P := Lib.hid ltP
   have hc := hn.cell (nmCells_at HI.out.2.1)
   rw [HI.out.2.2] at hc
   have Q4 := Lib.hid (Q3.out.later hb)
   have X4 := Lib.hid (X3.out.later hb)
   have P4 := Lib.hid (P3.out.later hb)
   clear Q3 X3 P3
   go_wp2_with fail
   refine hK.out _ _ (c3B hH3 hb) (fun hH4 => ?_)
   clear hb hn hkx hK K hH3 ltP
   try simp only [Act.put, List.setIfInBounds_toArray, List.set_cons_zero, List.set_cons_succ, List.getElem_toArray, List.getElem_cons_zero, List.getElem_cons_succ]
   refine monoK kb i nb ?_
   have hH4 := And.intro hH4 hc
   clear hc
   refine wpAnyH_take (i := 11) (v := ?_) rfl (by kernel_rfl) (by kernel_rfl) (by kernel_rfl) (fun _ _ _ h => h) (Or.inl ⟨by rfl, ?_⟩) (by assumption) ?_
   rotate_left
   · (intro wx hSw; (try dsimp only at hSw); go_simp <;> with_reducible rfl)
   try simp only [Act.put, List.setIfInBounds_toArray, List.set_cons_zero, List.set_cons_succ, List.getElem_toArray, List.getElem_cons_zero, List.getElem_cons_succ]
   refine wpAnyH_take (i := 12) (v := ?_) rfl (by kernel_rfl) (by kernel_rfl) (by kernel_rfl) (fun _ _ _ h => h) (Or.inl ⟨by rfl, ?_⟩) (by assumption) ?_
   rotate_left
   · (intro wx hSw; (try dsimp only at hSw); go_simp <;> with_reducible rfl)
   try simp only [Act.put, List.setIfInBounds_toArray, List.set_cons_zero, List.set_cons_succ, List.getElem_toArray, List.getElem_cons_zero, List.getElem_cons_succ]
   refine wpAnyH_ready (rs := [13, 15]) (by kernel_rfl) (by simp) ?_
   refine AllReadyH.cons rfl (fun K hK => ?_) ?_
   go_simp
   go_at_call 16
   (with_reducible refine (ofTab_any _ _).mono ?_)
   rintro r u5 ⟨rfl, hb⟩
   have Q5 := Lib.hid (Q4.out.later hb)
   have X5 := Lib.hid (X4.out.later hb)
   have P5 := Lib.hid (P4.out.later hb)
   clear Q4 X4 P4
   go_wp2_with fail
   refine hK.out _ _ (c4B hH4 hb) (fun hH5 => ?_)
   clear hK K hH4 hb
   try simp only [Act.put, List.setIfInBounds_toArray, List.set_cons_zero, List.set_cons_succ, List.getElem_toArray, List.getElem_cons_zero, List.getElem_cons_succ]
   refine wpAnyH_ready (rs := [15]) (by kernel_rfl) (by simp) ?_
   refine AllReadyH.cons rfl (fun K hK => ?_) AllReadyH.nil
   obtain ⟨hb, R6⟩ := new_nm u5
   have Q6 := Lib.hid (Q5.out.more (E' := (fun k : Nat => k = p ∨ k = u5.heap.size)) hb (fun k hk => by exact hk.elim (fun h => .inl h) (fun h => .inr (by subst h; simp))))
   have X6 := Lib.hid (X5.out.later hb)
   have P6 := Lib.hid (P5.out.later hb)
   have hltRX := Lib.hid X5.out.lt
   have hltRP := Lib.hid P5.out.lt
   have hltRka := Lib.hid (World.block_lt_of_cell? _ _ hH5.1.2)
   have hltRkb := Lib.hid (World.block_lt_of_cell? _ _ hH5.2)
   go_simp
   refine hK.out _ _ (c4B hH5 hb) (fun hH6 => ?_)
   clear hK K hH5 hb Q5 X5 P5
   try simp only [Act.put, List.setIfInBounds_toArray, List.set_cons_zero, List.set_cons_succ, List.getElem_toArray, List.getElem_cons_zero, List.getElem_cons_succ]
   obtain ⟨u6, hu6⟩ := ex_nm u5
   obtain ⟨r, hr⟩ : ∃ r, u5.heap.size = r := ⟨_, rfl⟩
   rw [hr] at Q6 R6 hltRX hltRP hltRka hltRkb ⊢
   rw [hu6] at Q6 X6 hH6 P6 R6 ⊢
   clear hr hu6
   rotate_left
   refine AllReadyH.cons rfl (fun K hK => ?_) AllReadyH.nil
   obtain ⟨hb, R5⟩ := new_nm u4
   have Q5 := Lib.hid (Q4.out.more (E' := (fun k : Nat => k = p ∨ k = u4.heap.size)) hb (fun k hk => by exact hk.elim (fun h => .inl h) (fun h => .inr (by subst h; simp))))
   have X5 := Lib.hid (X4.out.later hb)
   have P5 := Lib.hid (P4.out.later hb)
   have hltRX := Lib.hid X4.out.lt
   have hltRP := Lib.hid P4.out.lt
   have hltRka := Lib.hid (World.block_lt_of_cell? _ _ hH4.1.2)
   have hltRkb := Lib.hid (World.block_lt_of_cell? _ _ hH4.2)
   go_simp
   refine hK.out _ _ (c4B hH4 hb) (fun hH5 => ?_)
   clear hK K hH4 hb Q4 X4 P4
   try simp only [Act.put, List.setIfInBounds_toArray, List.set_cons_zero, List.set_cons_succ, List.getElem_toArray, List.getElem_cons_zero, List.getElem_cons_succ]
   obtain ⟨u5, hu5⟩ := ex_nm u4
   obtain ⟨r, hr⟩ : ∃ r, u4.heap.size = r := ⟨_, rfl⟩
   rw [hr] at Q5 R5 hltRX hltRP hltRka hltRkb ⊢
   rw [hu5] at Q5 X5 hH5 P5 R5 ⊢
   clear hr hu5
   refine wpAnyH_ready (rs := [13]) (by kernel_rfl) (by simp) ?_
   refine AllReadyH.cons rfl (fun K hK => ?_) AllReadyH.nil
   go_simp
   go_at_call 16
   (with_reducible refine (ofTab_any _ _).mono ?_)
   rintro r u6 ⟨rfl, hb⟩
   have Q6 := Lib.hid (Q5.out.later hb)
   have X6 := Lib.hid (X5.out.later hb)
   have P6 := Lib.hid (P5.out.later hb)
   have R6 := Lib.hid (R5.out.later hb)
   clear Q5 X5 P5 R5
   go_wp2_with fail
   refine hK.out _ _ (c4B hH5 hb) (fun hH6 => ?_)
   clear hK K hH5 hb
   try simp only [Act.put, List.setIfInBounds_toArray, List.set_cons_zero, List.set_cons_succ, List.getElem_toArray, List.getElem_cons_zero, List.getElem_cons_succ]
   rotate_left
   refine AllReadyH.cons rfl (fun K hK => ?_) AllReadyH.nil
   obtain ⟨hb, R4⟩ := new_nm u3
   have Q4 := Lib.hid (Q3.out.more (E' := (fun k : Nat => k = p ∨ k = u3.heap.size)) hb (fun k hk => by exact hk.elim (fun h => .inl h) (fun h => .inr (by subst h; simp))))
   have X4 := Lib.hid (X3.out.later hb)
   have P4 := Lib.hid (P3.out.later hb)
   have hltRX := Lib.hid X3.out.lt
   have hltRP := Lib.hid P3.out.lt
   have hltRka := Lib.hid (World.block_lt_of_cell? _ _ hH3.2)
   go_simp
   refine hK.out _ _ (c3B hH3 hb) (fun hH4 => ?_)
   clear hK K hH3 hb Q3 X3 P3
   try simp only [Act.put, List.setIfInBounds_toArray, List.set_cons_zero, List.set_cons_succ, List.getElem_toArray, List.getElem_cons_zero, List.getElem_cons_succ]
   obtain ⟨u4, hu4⟩ := ex_nm u3
   obtain ⟨r, hr⟩ : ∃ r, u3.heap.size = r := ⟨_, rfl⟩
   rw [hr] at Q4 R4 hltRX hltRP hltRka ⊢
   rw [hu4] at Q4 X4 hH4 P4 R4 ⊢
   clear hr hu4
   refine wpAnyH_ready (rs := [7]) (by kernel_rfl) (by simp) ?_
   refine AllReadyH.cons rfl (fun K hK => ?_) AllReadyH.nil
   go_simp
   go_at_call 11
   (with_reducible refine (names31_any _).mono ?_)
   rintro r u5 ⟨rfl, hb, hn⟩
   have ltP := P4.out.lt
   have ltR := R4.out.lt
   obtain ⟨kb, hkx⟩ : ∃ k, u4.heap.size = k := ⟨_, rfl⟩
   rw [hkx] at hn ltP ltR ⊢
   have hln7P := Lib.hid ltP
   have hln7R := Lib.hid ltR
   have hc := hn.cell (nmCells_at HI.out.2.1)
   rw [HI.out.2.2] at hc
   have Q5 := Lib.hid (Q4.out.later hb)
   have X5 := Lib.hid (X4.out.later hb)
   have P5 := Lib.hid (P4.out.later hb)
   have R5 := Lib.hid (R4.out.later hb)
   clear Q4 X4 P4 R4
   go_wp2_with fail
   refine hK.out _ _ (c3B hH4 hb) (fun hH5 => ?_)
   clear hb hn hkx hK K hH4 ltP ltR
   try simp only [Act.put, List.setIfInBounds_toArray, List.set_cons_zero, List.set_cons_succ, List.getElem_toArray, List.getElem_cons_zero, List.getElem_cons_succ]
   refine monoK kb i nb ?_
   have hH5 := And.intro hH5 hc
   clear hc
   refine wpAnyH_take (i := 11) (v := ?_) rfl (by kernel_rfl) (by kernel_rfl) (by kernel_rfl) (fun _ _ _ h => h) (Or.inl ⟨by rfl, ?_⟩) (by assumption) ?_
   rotate_left
   · (intro wx hSw; (try dsimp only at hSw); go_simp <;> with_reducible rfl)
   try simp only [Act.put, List.setIfInBounds_toArray, List.set_cons_zero, List.set_cons_succ, List.getElem_toArray, List.getElem_cons_zero, List.getElem_cons_succ]
   refine wpAnyH_take (i := 12) (v := ?_) rfl (by kernel_rfl) (by kernel_rfl) (by kernel_rfl) (fun _ _ _ h => h) (Or.inl ⟨by rfl, ?_⟩) (by assumption) ?_
   rotate_left
   · (intro wx hSw; (try dsimp only at hSw); go_simp <;> with_reducible rfl)
   try simp only [Act.put, List.setIfInBounds_toArray, List.set_cons_zero, List.set_cons_succ, List.getElem_toArray, List.getElem_cons_zero, List.getElem_cons_succ]
   refine wpAnyH_ready (rs := [13]) (by kernel_rfl) (by simp) ?_
   refine AllReadyH.cons rfl (fun K hK => ?_) AllReadyH.nil
   go_simp
   go_at_call 16
   (with_reducible refine (ofTab_any _ _).mono ?_)
   rintro r u6 ⟨rfl, hb⟩
   have Q6 := Lib.hid (Q5.out.later hb)
   have X6 := Lib.hid (X5.out.later hb)
   have P6 := Lib.hid (P5.out.later hb)
   have R6 := Lib.hid (R5.out.later hb)
   clear Q5 X5 P5 R5
   go_wp2_with fail
   refine hK.out _ _ (c4B hH5 hb) (fun hH6 => ?_)
   clear hK K hH5 hb
   try simp only [Act.put, List.setIfInBounds_toArray, List.set_cons_zero, List.set_cons_succ, List.getElem_toArray, List.getElem_cons_zero, List.getElem_cons_succ]
   rotate_left
   refine AllReadyH.cons rfl (fun K hK => ?_) AllReadyH.nil
   obtain ⟨hb, R3⟩ := new_nm u2
   have Q3 := Lib.hid (Q2.out.more (E' := (fun k : Nat => k = p ∨ k = u2.heap.size)) hb (fun k hk => by exact hk.elim (fun h => .inl h) (fun h => .inr (by subst h; simp))))
   have X3 := Lib.hid (X2.out.later hb)
   have P3 := Lib.hid (P2.out.later hb)
   have hltRX := Lib.hid X2.out.lt
   have hltRP := Lib.hid P2.out.lt
   have hltRka := Lib.hid (World.block_lt_of_cell? _ _ hH2.2)
   go_simp
   refine hK.out _ _ (c3B hH2 hb) (fun hH3 => ?_)
   clear hK K hH2 hb Q2 X2 P2
   try simp only [Act.put, List.setIfInBounds_toArray, List.set_cons_zero, List.set_cons_succ, List.getElem_toArray, List.getElem_cons_zero, List.getElem_cons_succ]
   obtain ⟨u3, hu3⟩ := ex_nm u2
   obtain ⟨r, hr⟩ : ∃ r, u2.heap.size = r := ⟨_, rfl⟩
   rw [hr] at Q3 R3 hltRX hltRP hltRka ⊢
   rw [hu3] at Q3 X3 hH3 P3 R3 ⊢
   clear hr hu3
   refine wpAnyH_ready (rs := [6]) (by kernel_rfl) (by simp) ?_
   refine AllReadyH.cons rfl (fun K hK => ?_) AllReadyH.nil
   go_simp
   go_at_call 16
   (with_reducible refine (ofTab_any _ _).mono ?_)
   rintro r u4 ⟨rfl, hb⟩
   have Q4 := Lib.hid (Q3.out.later hb)
   have X4 := Lib.hid (X3.out.later hb)
   have P4 := Lib.hid (P3.out.later hb)
   have R4 := Lib.hid (R3.out.later hb)
   clear Q3 X3 P3 R3
   go_wp2_with fail
   refine hK.out _ _ (c3B hH3 hb) (fun hH4 => ?_)
   clear hK K hH3 hb
   try simp only [Act.put, List.setIfInBounds_toArray, List.set_cons_zero, List.set_cons_succ, List.getElem_toArray, List.getElem_cons_zero, List.getElem_cons_succ]
   refine wpAnyH_ready (rs := [7]) (by kernel_rfl) (by simp) ?_
   refine AllReadyH.cons rfl (fun K hK => ?_) AllReadyH.nil
   go_simp
   go_at_call 11
   (with_reducible refine (names31_any _).mono ?_)
   rintro r u5 ⟨rfl, hb, hn⟩
   have ltP := P4.out.lt
   have ltR := R4.out.lt
   obtain ⟨kb, hkx⟩ : ∃ k, u4.heap.size = k := ⟨_, rfl⟩
   rw [hkx] at hn ltP ltR ⊢
   have hln7P := Lib.hid ltP
   have hln7R := Lib.hid ltR
   have hc := hn.cell (nmCells_at HI.out.2.1)
   rw [HI.out.2.2] at hc
   have Q5 := Lib.hid (Q4.out.later hb)
   have X5 := Lib.hid (X4.out.later hb)
   have P5 := Lib.hid (P4.out.later hb)
   have R5 := Lib.hid (R4.out.later hb)
   clear Q4 X4 P4 R4
   go_wp2_with fail
   refine hK.out _ _ (c3B hH4 hb) (fun hH5 => ?_)
   clear hb hn hkx hK K hH4 ltP ltR
   try simp only [Act.put, List.setIfInBounds_toArray, List.set_cons_zero, List.set_cons_succ, List.getElem_toArray, List.getElem_cons_zero, List.getElem_cons_succ]
   refine monoK kb i nb ?_
   have hH5 := And.intro hH5 hc
   clear hc
   refine wpAnyH_take (i := 11) (v := ?_) rfl (by kernel_rfl) (by kernel_rfl) (by kernel_rfl) (fun _ _ _ h => h) (Or.inl ⟨by rfl, ?_⟩) (by assumption) ?_
   rotate_left
   · (intro wx hSw; (try dsimp only at hSw); go_simp <;> with_reducible rfl)
   try simp only [Act.put, List.setIfInBounds_toArray, List.set_cons_zero, List.set_cons_succ, List.getElem_toArray, List.getElem_cons_zero, List.getElem_cons_succ]
   refine wpAnyH_take (i := 12) (v := ?_) rfl (by kernel_rfl) (by kernel_rfl) (by kernel_rfl) (fun _ _ _ h => h) (Or.inl ⟨by rfl, ?_⟩) (by assumption) ?_
   rotate_left
   · (intro wx hSw; (try dsimp only at hSw); go_simp <;> with_reducible rfl)
   try simp only [Act.put, List.setIfInBounds_toArray, List.set_cons_zero, List.set_cons_succ, List.getElem_toArray, List.getElem_cons_zero, List.getElem_cons_succ]
   refine wpAnyH_ready (rs := [13]) (by kernel_rfl) (by simp) ?_
   refine AllReadyH.cons rfl (fun K hK => ?_) AllReadyH.nil
   go_simp
   go_at_call 16
   (with_reducible refine (ofTab_any _ _).mono ?_)
   rintro r u6 ⟨rfl, hb⟩
   have Q6 := Lib.hid (Q5.out.later hb)
   have X6 := Lib.hid (X5.out.later hb)
   have P6 := Lib.hid (P5.out.later hb)
   have R6 := Lib.hid (R5.out.later hb)
   clear Q5 X5 P5 R5
   go_wp2_with fail
   refine hK.out _ _ (c4B hH5 hb) (fun hH6 => ?_)
   clear hK K hH5 hb
   try simp only [Act.put, List.setIfInBounds_toArray, List.set_cons_zero, List.set_cons_succ, List.getElem_toArray, List.getElem_cons_zero, List.getElem_cons_succ]
   rotate_left
   refine AllReadyH.cons rfl (fun K hK => ?_) AllReadyH.nil
   obtain ⟨hb, R2⟩ := new_nm u1
   have Q2 := Lib.hid (Q1.out.more (E' := (fun k : Nat => k = p ∨ k = u1.heap.size)) hb (fun k hk => by exact hk.elim (fun h => .inl h) (fun h => .inr (by subst h; simp))))
   have X2 := Lib.hid (X1.out.later hb)
   have P2 := Lib.hid (P1.out.later hb)
   have hltRX := Lib.hid X1.out.lt
   have hltRP := Lib.hid P1.out.lt
   go_simp
   refine hK.out _ _ (c2B hH1 hb) (fun hH2 => ?_)
   clear hK K hH1 hb Q1 X1 P1
   try simp only [Act.put, List.setIfInBounds_toArray, List.set_cons_zero, List.set_cons_succ, List.getElem_toArray, List.getElem_cons_zero, List.getElem_cons_succ]
   obtain ⟨u2, hu2⟩ := ex_nm u1
   obtain ⟨r, hr⟩ : ∃ r, u1.heap.size = r := ⟨_, rfl⟩
   rw [hr] at Q2 R2 hltRX hltRP ⊢
   rw [hu2] at Q2 X2 hH2 P2 R2 ⊢
   clear hr hu2
   refine wpAnyH_ready (rs := [0]) (by kernel_rfl) (by simp) ?_
   refine AllReadyH.cons rfl (fun K hK => ?_) AllReadyH.nil
   go_simp
   go_at_call 11
   (with_reducible refine (names31_any _).mono ?_)
   rintro r u3 ⟨rfl, hb, hn⟩
   have ltP := P2.out.lt
   have ltR := R2.out.lt
   obtain ⟨ka, hkx⟩ : ∃ k, u2.heap.size = k := ⟨_, rfl⟩
   rw [hkx] at hn ltP ltR ⊢
   have hln0P := Lib.hid ltP
   have hln0R := Lib.hid ltR
   have hc := hn.cell (nmCells_at HJ.out.2.1)
   rw [HJ.out.2.2] at hc
   have Q3 := Lib.hid (Q2.out.later hb)
   have X3 := Lib.hid (X2.out.later hb)
   have P3 := Lib.hid (P2.out.later hb)
   have R3 := Lib.hid (R2.out.later hb)
   clear Q2 X2 P2 R2
   go_wp2_with fail
   refine hK.out _ _ (c2B hH2 hb) (fun hH3 => ?_)
   clear hb hn hkx hK K hH2 ltP ltR
   try simp only [Act.put, List.setIfInBounds_toArray, List.set_cons_zero, List.set_cons_succ, List.getElem_toArray, List.getElem_cons_zero, List.getElem_cons_succ]
   refine monoK ka j na ?_
   have hH3 := And.intro hH3 hc
   clear hc
   refine wpAnyH_take (i := 4) (v := ?_) rfl (by kernel_rfl) (by kernel_rfl) (by kernel_rfl) (fun _ _ _ h => h) (Or.inl ⟨by rfl, ?_⟩) (by assumption) ?_
   rotate_left
   · (intro wx hSw; (try dsimp only at hSw); go_simp <;> with_reducible rfl)
   try simp only [Act.put, List.setIfInBounds_toArray, List.set_cons_zero, List.set_cons_succ, List.getElem_toArray, List.getElem_cons_zero, List.getElem_cons_succ]
   refine wpAnyH_take (i := 5) (v := ?_) rfl (by kernel_rfl) (by kernel_rfl) (by kernel_rfl) (fun _ _ _ h => h) (Or.inl ⟨by rfl, ?_⟩) (by assumption) ?_
   rotate_left
   · (intro wx hSw; (try dsimp only at hSw); go_simp <;> with_reducible rfl)
   try simp only [Act.put, List.setIfInBounds_toArray, List.set_cons_zero, List.set_cons_succ, List.getElem_toArray, List.getElem_cons_zero, List.getElem_cons_succ]
   refine wpAnyH_ready (rs := [6]) (by kernel_rfl) (by simp) ?_
   refine AllReadyH.cons rfl (fun K hK => ?_) AllReadyH.nil
   go_simp
   go_at_call 16
   (with_reducible refine (ofTab_any _ _).mono ?_)
   rintro r u4 ⟨rfl, hb⟩
   have Q4 := Lib.hid (Q3.out.later hb)
   have X4 := Lib.hid (X3.out.later hb)
   have P4 := Lib.hid (P3.out.later hb)
   have R4 := Lib.hid (R3.out.later hb)
   clear Q3 X3 P3 R3
   go_wp2_with fail
   refine hK.out _ _ (c3B hH3 hb) (fun hH4 => ?_)
   clear hK K hH3 hb
   try simp only [Act.put, List.setIfInBounds_toArray, List.set_cons_zero, List.set_cons_succ, List.getElem_toArray, List.getElem_cons_zero, List.getElem_cons_succ]
   refine wpAnyH_ready (rs := [7]) (by kernel_rfl) (by simp) ?_
   refine AllReadyH.cons rfl (fun K hK => ?_) AllReadyH.nil
   go_simp
   go_at_call 11
   (with_reducible refine (names31_any _).mono ?_)
   rintro r u5 ⟨rfl, hb, hn⟩
   have ltP := P4.out.lt
   have ltR := R4.out.lt
   obtain ⟨kb, hkx⟩ : ∃ k, u4.heap.size = k := ⟨_, rfl⟩
   rw [hkx] at hn ltP ltR ⊢
   have hln7P := Lib.hid ltP
   have hln7R := Lib.hid ltR
   have hc := hn.cell (nmCells_at HI.out.2.1)
   rw [HI.out.2.2] at hc
   have Q5 := Lib.hid (Q4.out.later hb)
   have X5 := Lib.hid (X4.out.later hb)
   have P5 := Lib.hid (P4.out.later hb)
   have R5 := Lib.hid (R4.out.later hb)
   clear Q4 X4 P4 R4
   go_wp2_with fail
   refine hK.out _ _ (c3B hH4 hb) (fun hH5 => ?_)
   clear hb hn hkx hK K hH4 ltP ltR
   try simp only [Act.put, List.setIfInBounds_toArray, List.set_cons_zero, List.set_cons_succ, List.getElem_toArray, List.getElem_cons_zero, List.getElem_cons_succ]
   refine monoK kb i nb ?_
   have hH5 := And.intro hH5 hc
   clear hc
   refine wpAnyH_take (i := 11) (v := ?_) rfl (by kernel_rfl) (by kernel_rfl) (by kernel_rfl) (fun _ _ _ h => h) (Or.inl ⟨by rfl, ?_⟩) (by assumption) ?_
   rotate_left
   · (intro wx hSw; (try dsimp only at hSw); go_simp <;> with_reducible rfl)
   try simp only [Act.put, List.setIfInBounds_toArray, List.set_cons_zero, List.set_cons_succ, List.getElem_toArray, List.getElem_cons_zero, List.getElem_cons_succ]
   refine wpAnyH_take (i := 12) (v := ?_) rfl (by kernel_rfl) (by kernel_rfl) (by kernel_rfl) (fun _ _ _ h => h) (Or.inl ⟨by rfl, ?_⟩) (by assumption) ?_
   rotate_left
   · (intro wx hSw; (try dsimp only at hSw); go_simp <;> with_reducible rfl)
   try simp only [Act.put, List.setIfInBounds_toArray, List.set_cons_zero, List.set_cons_succ, List.getElem_toArray, List.getElem_cons_zero, List.getElem_cons_succ]
   refine wpAnyH_ready (rs := [13]) (by kernel_rfl) (by simp) ?_
   refine AllReadyH.cons rfl (fun K hK => ?_) AllReadyH.nil
   go_simp
   go_at_call 16
   (with_reducible refine (ofTab_any _ _).mono ?_)
   rintro r u6 ⟨rfl, hb⟩
   have Q6 := Lib.hid (Q5.out.later hb)
   have X6 := Lib.hid (X5.out.later hb)
   have P6 := Lib.hid (P5.out.later hb)
   have R6 := Lib.hid (R5.out.later hb)
   clear Q5 X5 P5 R5
   go_wp2_with fail
   refine hK.out _ _ (c4B hH5 hb) (fun hH6 => ?_)
   clear hK K hH5 hb
   try simp only [Act.put, List.setIfInBounds_toArray, List.set_cons_zero, List.set_cons_succ, List.getElem_toArray, List.getElem_cons_zero, List.getElem_cons_succ]
   rotate_left
   refine AllReadyH.cons rfl (fun K hK => ?_) AllReadyH.nil
   obtain ⟨hb, R1⟩ := new_nm u0
   have Q1 := Lib.hid (Q0.out.more (E' := (fun k : Nat => k = u0.heap.size)) hb (fun k hk => by subst hk; exact .inr (by simp)))
   have X1 := Lib.hid (X0.out.later hb)
   have hltRX := Lib.hid X0.out.lt
   go_simp
   refine hK.out _ _ (c2B hH0 hb) (fun hH1 => ?_)
   clear hK K hH0 hb Q0 X0
   try simp only [Act.put, List.setIfInBounds_toArray, List.set_cons_zero, List.set_cons_succ, List.getElem_toArray, List.getElem_cons_zero, List.getElem_cons_succ]
   obtain ⟨u1, hu1⟩ := ex_nm u0
   obtain ⟨r, hr⟩ : ∃ r, u0.heap.size = r := ⟨_, rfl⟩
   rw [hr] at Q1 R1 hltRX ⊢
   rw [hu1] at Q1 X1 hH1 R1 ⊢
   clear hr hu1
   refine wpAnyH_ready (rs := [0, 14]) (by kernel_rfl) (by simp) ?_
   refine AllReadyH.cons rfl (fun K hK => ?_) ?_
   go_simp
   go_at_call 11
   (with_reducible refine (names31_any _).mono ?_)
   rintro r u2 ⟨rfl, hb, hn⟩
   have ltR := R1.out.lt
   obtain ⟨ka, hkx⟩ : ∃ k, u1.heap.size = k := ⟨_, rfl⟩
   rw [hkx] at hn ltR ⊢
   have hln0R := Lib.hid ltR
   have hc := hn.cell (nmCells_at HJ.out.2.1)
   rw [HJ.out.2.2] at hc
   have Q2 := Lib.hid (Q1.out.later hb)
   have X2 := Lib.hid (X1.out.later hb)
   have R2 := Lib.hid (R1.out.later hb)
   clear Q1 X1 R1
   go_wp2_with fail
   refine hK.out _ _ (c2B hH1 hb) (fun hH2 => ?_)
   clear hb hn hkx hK K hH1 ltR
   try simp only [Act.put, List.setIfInBounds_toArray, List.set_cons_zero, List.set_cons_succ, List.getElem_toArray, List.getElem_cons_zero, List.getElem_cons_succ]
   refine monoK ka j na ?_
   have hH2 := And.intro hH2 hc
   clear hc
   refine wpAnyH_take (i := 4) (v := ?_) rfl (by kernel_rfl) (by kernel_rfl) (by kernel_rfl) (fun _ _ _ h => h) (Or.inl ⟨by rfl, ?_⟩) (by assumption) ?_
   rotate_left
   · (intro wx hSw; (try dsimp only at hSw); go_simp <;> with_reducible rfl)
   try simp only [Act.put, List.setIfInBounds_toArray, List.set_cons_zero, List.set_cons_succ, List.getElem_toArray, List.getElem_cons_zero, List.getElem_cons_succ]
   refine wpAnyH_take (i := 5) (v := ?_) rfl (by kernel_rfl) (by kernel_rfl) (by kernel_rfl) (fun _ _ _ h => h) (Or.inl ⟨by rfl, ?_⟩) (by assumption) ?_
   rotate_left
   · (intro wx hSw; (try dsimp only at hSw); go_simp <;> with_reducible rfl)
   try simp only [Act.put, List.setIfInBounds_toArray, List.set_cons_zero, List.set_cons_succ, List.getElem_toArray, List.getElem_cons_zero, List.getElem_cons_succ]
   refine wpAnyH_ready (rs := [6, 14]) (by kernel_rfl) (by simp) ?_
   refine AllReadyH.cons rfl (fun K hK => ?_) ?_
   go_simp
   go_at_call 16
   (with_reducible refine (ofTab_any _ _).mono ?_)
   rintro r u3 ⟨rfl, hb⟩
   have Q3 := Lib.hid (Q2.out.later hb)
   have X3 := Lib.hid (X2.out.later hb)
   have R3 := Lib.hid (R2.out.later hb)
   clear Q2 X2 R2
   go_wp2_with fail
   refine hK.out _ _ (c3B hH2 hb) (fun hH3 => ?_)
   clear hK K hH2 hb
   try simp only [Act.put, List.setIfInBounds_toArray, List.set_cons_zero, List.set_cons_succ, List.getElem_toArray, List.getElem_cons_zero, List.getElem_cons_succ]
   refine wpAnyH_ready (rs := [7, 14]) (by kernel_rfl) (by simp) ?_
   refine AllReadyH.cons rfl (fun K hK => ?_) ?_
   go_simp
   go_at_call 11
   (with_reducible refine (names31_any _).mono ?_)
   rintro r u4 ⟨rfl, hb, hn⟩
   have ltR := R3.out.lt
   obtain ⟨kb, hkx⟩ : ∃ k, u3.heap.size = k := ⟨_, rfl⟩
   rw [hkx] at hn ltR ⊢
   have hln7R := Lib.hid ltR
   have hc := hn.cell (nmCells_at HI.out.2.1)
   rw [HI.out.2.2] at hc
   have Q4 := Lib.hid (Q3.out.later hb)
   have X4 := Lib.hid (X3.out.later hb)
   have R4 := Lib.hid (R3.out.later hb)
   clear Q3 X3 R3
   go_wp2_with fail
   refine hK.out _ _ (c3B hH3 hb) (fun hH4 => ?_)
   clear hb hn hkx hK K hH3 ltR
   try simp only [Act.put, List.setIfInBounds_toArray, List.set_cons_zero, List.set_cons_succ, List.getElem_toArray, List.getElem_cons_zero, List.getElem_cons_succ]
   refine monoK kb i nb ?_
   have hH4 := And.intro hH4 hc
   clear hc
   refine wpAnyH_take (i := 11) (v := ?_) rfl (by kernel_rfl) (by kernel_rfl) (by kernel_rfl) (fun _ _ _ h => h) (Or.inl ⟨by rfl, ?_⟩) (by assumption) ?_
   rotate_left
   · (intro wx hSw; (try dsimp only at hSw); go_simp <;> with_reducible rfl)
   try simp only [Act.put, List.setIfInBounds_toArray, List.set_cons_zero, List.set_cons_succ, List.getElem_toArray, List.getElem_cons_zero, List.getElem_cons_succ]
   refine wpAnyH_take (i := 12) (v := ?_) rfl (by kernel_rfl) (by kernel_rfl) (by kernel_rfl) (fun _ _ _ h => h) (Or.inl ⟨by rfl, ?_⟩) (by assumption) ?_
   rotate_left
   · (intro wx hSw; (try dsimp only at hSw); go_simp <;> with_reducible rfl)
   try simp only [Act.put, List.setIfInBounds_toArray, List.set_cons_zero, List.set_cons_succ, List.getElem_toArray, List.getElem_cons_zero, List.getElem_cons_succ]
   refine wpAnyH_ready (rs := [13, 14]) (by kernel_rfl) (by simp) ?_
   refine AllReadyH.cons rfl (fun K hK => ?_) ?_
   go_simp
   go_at_call 16
   (with_reducible refine (ofTab_any _ _).mono ?_)
   rintro r u5 ⟨rfl, hb⟩
   have Q5 := Lib.hid (Q4.out.later hb)
   have X5 := Lib.hid (X4.out.later hb)
   have R5 := Lib.hid (R4.out.later hb)
   clear Q4 X4 R4
   go_wp2_with fail
   refine hK.out _ _ (c4B hH4 hb) (fun hH5 => ?_)
   clear hK K hH4 hb
   try simp only [Act.put, List.setIfInBounds_toArray, List.set_cons_zero, List.set_cons_succ, List.getElem_toArray, List.getElem_cons_zero, List.getElem_cons_succ]
   refine wpAnyH_ready (rs := [14]) (by kernel_rfl) (by simp) ?_
   refine AllReadyH.cons rfl (fun K hK => ?_) AllReadyH.nil
   obtain ⟨hb, P6⟩ := new_nm u5
   have Q6 := Lib.hid (Q5.out.more (E' := (fun k : Nat => k = r ∨ k = u5.heap.size)) hb (fun k hk => by exact hk.elim (fun h => .inl h) (fun h => .inr (by subst h; simp))))
   have X6 := Lib.hid (X5.out.later hb)
   have R6 := Lib.hid (R5.out.later hb)
   have hltPX := Lib.hid X5.out.lt
   have hltPR := Lib.hid R5.out.lt
   have hltPka := Lib.hid (World.block_lt_of_cell? _ _ hH5.1.2)
   have hltPkb := Lib.hid (World.block_lt_of_cell? _ _ hH5.2)
   go_simp
   refine hK.out _ _ (c4B hH5 hb) (fun hH6 => ?_)
   clear hK K hH5 hb Q5 X5 R5
   try simp only [Act.put, List.setIfInBounds_toArray, List.set_cons_zero, List.set_cons_succ, List.getElem_toArray, List.getElem_cons_zero, List.getElem_cons_succ]
   obtain ⟨u6, hu6⟩ := ex_nm u5
   obtain ⟨p, hp⟩ : ∃ p, u5.heap.size = p := ⟨_, rfl⟩
   rw [hp] at Q6 P6 hltPX hltPR hltPka hltPkb ⊢
   rw [hu6] at Q6 X6 hH6 R6 P6 ⊢
   clear hp hu6
   rotate_left
   refine AllReadyH.cons rfl (fun K hK => ?_) AllReadyH.nil
   obtain ⟨hb, P5⟩ := new_nm u4
   have Q5 := Lib.hid (Q4.out.more (E' := (fun k : Nat => k = r ∨ k = u4.heap.size)) hb (fun k hk => by exact hk.elim (fun h => .inl h) (fun h => .inr (by subst h; simp))))
   have X5 := Lib.hid (X4.out.later hb)
   have R5 := Lib.hid (R4.out.later hb)
   have hltPX := Lib.hid X4.out.lt
   have hltPR := Lib.hid R4.out.lt
   have hltPka := Lib.hid (World.block_lt_of_cell? _ _ hH4.1.2)
   have hltPkb := Lib.hid (World.block_lt_of_cell? _ _ hH4.2)
   go_simp
   refine hK.out _ _ (c4B hH4 hb) (fun hH5 => ?_)
   clear hK K hH4 hb Q4 X4 R4
   try simp only [Act.put, List.setIfInBounds_toArray, List.set_cons_zero, List.set_cons_succ, List.getElem_toArray, List.getElem_cons_zero, List.getElem_cons_succ]
   obtain ⟨u5, hu5⟩ := ex_nm u4
   obtain ⟨p, hp⟩ : ∃ p, u4.heap.size = p := ⟨_, rfl⟩
   rw [hp] at Q5 P5 hltPX hltPR hltPka hltPkb ⊢
   rw [hu5] at Q5 X5 hH5 R5 P5 ⊢
   clear hp hu5
   refine wpAnyH_ready (rs := [13]) (by kernel_rfl) (by simp) ?_
   refine AllReadyH.cons rfl (fun K hK => ?_) AllReadyH.nil
   go_simp
   go_at_call 16
   (with_reducible refine (ofTab_any _ _).mono ?_)
   rintro r u6 ⟨rfl, hb⟩
   have Q6 := Lib.hid (Q5.out.later hb)
   have X6 := Lib.hid (X5.out.later hb)
   have R6 := Lib.hid (R5.out.later hb)
   have P6 := Lib.hid (P5.out.later hb)
   clear Q5 X5 R5 P5
   go_wp2_with fail
   refine hK.out _ _ (c4B hH5 hb) (fun hH6 => ?_)
   clear hK K hH5 hb
   try simp only [Act.put, List.setIfInBounds_toArray, List.set_cons_zero, List.set_cons_succ, List.getElem_toArray, List.getElem_cons_zero, List.getElem_cons_succ]
   rotate_left
   refine AllReadyH.cons rfl (fun K hK => ?_) AllReadyH.nil
   obtain ⟨hb, P4⟩ := new_nm u3
   have Q4 := Lib.hid (Q3.out.more (E' := (fun k : Nat => k = r ∨ k = u3.heap.size)) hb (fun k hk => by exact hk.elim (fun h => .inl h) (fun h => .inr (by subst h; simp))))
   have X4 := Lib.hid (X3.out.later hb)
   have R4 := Lib.hid (R3.out.later hb)
   have hltPX := Lib.hid X3.out.lt
   have hltPR := Lib.hid R3.out.lt
   have hltPka := Lib.hid (World.block_lt_of_cell? _ _ hH3.2)
   go_simp
   refine hK.out _ _ (c3B hH3 hb) (fun hH4 => ?_)
   clear hK K hH3 hb Q3 X3 R3
   try simp only [Act.put, List.setIfInBounds_toArray, List.set_cons_zero, List.set_cons_succ, List.getElem_toArray, List.getElem_cons_zero, List.getElem_cons_succ]
   obtain ⟨u4, hu4⟩ := ex_nm u3
   obtain ⟨p, hp⟩ : ∃ p, u3.heap.size = p := ⟨_, rfl⟩
   rw [hp] at Q4 P4 hltPX hltPR hltPka ⊢
   rw [hu4] at Q4 X4 hH4 R4 P4 ⊢
   clear hp hu4
   refine wpAnyH_ready (rs := [7]) (by kernel_rfl) (by simp) ?_
   refine AllReadyH.cons rfl (fun K hK => ?_) AllReadyH.nil
   go_simp
   go_at_call 11
   (with_reducible refine (names31_any _).mono ?_)
   rintro r u5 ⟨rfl, hb, hn⟩
   have ltR := R4.out.lt
   have ltP := P4.out.lt
   obtain ⟨kb, hkx⟩ : ∃ k, u4.heap.size = k := ⟨_, rfl⟩
   rw [hkx] at hn ltR ltP ⊢
   have hln7R := Lib.hid ltR
   have hln7P := Lib.hid ltP
   have hc := hn.cell (nmCells_at HI.out.2.1)
   rw [HI.out.2.2] at hc
   have Q5 := Lib.hid (Q4.out.later hb)
   have X5 := Lib.hid (X4.out.later hb)
   have R5 := Lib.hid (R4.out.later hb)
   have P5 := Lib.hid (P4.out.later hb)
   clear Q4 X4 R4 P4
   go_wp2_with fail
   refine hK.out _ _ (c3B hH4 hb) (fun hH5 => ?_)
   clear hb hn hkx hK K hH4 ltR ltP
   try simp only [Act.put, List.setIfInBounds_toArray, List.set_cons_zero, List.set_cons_succ, List.getElem_toArray, List.getElem_cons_zero, List.getElem_cons_succ]
   refine monoK kb i nb ?_
   have hH5 := And.intro hH5 hc
   clear hc
   refine wpAnyH_take (i := 11) (v := ?_) rfl (by kernel_rfl) (by kernel_rfl) (by kernel_rfl) (fun _ _ _ h => h) (Or.inl ⟨by rfl, ?_⟩) (by assumption) ?_
   rotate_left
   · (intro wx hSw; (try dsimp only at hSw); go_simp <;> with_reducible rfl)
   try simp only [Act.put, List.setIfInBounds_toArray, List.set_cons_zero, List.set_cons_succ, List.getElem_toArray, List.getElem_cons_zero, List.getElem_cons_succ]
   refine wpAnyH_take (i := 12) (v := ?_) rfl (by kernel_rfl) (by kernel_rfl) (by kernel_rfl) (fun _ _ _ h => h) (Or.inl ⟨by rfl, ?_⟩) (by assumption) ?_
   rotate_left
   · (intro wx hSw; (try dsimp only at hSw); go_simp <;> with_reducible rfl)
   try simp only [Act.put, List.setIfInBounds_toArray, List.set_cons_zero, List.set_cons_succ, List.getElem_toArray, List.getElem_cons_zero, List.getElem_cons_succ]
   refine wpAnyH_ready (rs := [13]) (by kernel_rfl) (by simp) ?_
   refine AllReadyH.cons rfl (fun K hK => ?_) AllReadyH.nil
   go_simp
   go_at_call 16
   (with_reducible refine (ofTab_any _ _).mono ?_)
   rintro r u6 ⟨rfl, hb⟩
   have Q6 := Lib.hid (Q5.out.later hb)
   have X6 := Lib.hid (X5.out.later hb)
   have R6 := Lib.hid (R5.out.later hb)
   have P6 := Lib.hid (P5.out.later hb)
   clear Q5 X5 R5 P5
   go_wp2_with fail
   refine hK.out _ _ (c4B hH5 hb) (fun hH6 => ?_)
   clear hK K hH5 hb
   try simp only [Act.put, List.setIfInBounds_toArray, List.set_cons_zero, List.set_cons_succ, List.getElem_toArray, List.getElem_cons_zero, List.getElem_cons_succ]
   rotate_left
   refine AllReadyH.cons rfl (fun K hK => ?_) AllReadyH.nil
   obtain ⟨hb, P3⟩ := new_nm u2
   have Q3 := Lib.hid (Q2.out.more (E' := (fun k : Nat => k = r ∨ k = u2.heap.size)) hb (fun k hk => by exact hk.elim (fun h => .inl h) (fun h => .inr (by subst h; simp))))
   have X3 := Lib.hid (X2.out.later hb)
   have R3 := Lib.hid (R2.out.later hb)
   have hltPX := Lib.hid X2.out.lt
   have hltPR := Lib.hid R2.out.lt
   have hltPka := Lib.hid (World.block_lt_of_cell? _ _ hH2.2)
   go_simp
   refine hK.out _ _ (c3B hH2 hb) (fun hH3 => ?_)
   clear hK K hH2 hb Q2 X2 R2
   try simp only [Act.put, List.setIfInBounds_toArray, List.set_cons_zero, List.set_cons_succ, List.getElem_toArray, List.getElem_cons_zero, List.getElem_cons_succ]
   obtain ⟨u3, hu3⟩ := ex_nm u2
   obtain ⟨p, hp⟩ : ∃ p, u2.heap.size = p := ⟨_, rfl⟩
   rw [hp] at Q3 P3 hltPX hltPR hltPka ⊢
   rw [hu3] at Q3 X3 hH3 R3 P3 ⊢
   clear hp hu3
   refine wpAnyH_ready (rs := [6]) (by kernel_rfl) (by simp) ?_
   refine AllReadyH.cons rfl (fun K hK => ?_) AllReadyH.nil
   go_simp
   go_at_call 16
   (with_reducible refine (ofTab_any _ _).mono ?_)
   rintro r u4 ⟨rfl, hb⟩
   have Q4 := Lib.hid (Q3.out.later hb)
   have X4 := Lib.hid (X3.out.later hb)
   have R4 := Lib.hid (R3.out.later hb)
   have P4 := Lib.hid (P3.out.later hb)
   clear Q3 X3 R3 P3
   go_wp2_with fail
   refine hK.out _ _ (c3B hH3 hb) (fun hH4 => ?_)
   clear hK K hH3 hb
   try simp only [Act.put, List.setIfInBounds_toArray, List.set_cons_zero, List.set_cons_succ, List.getElem_toArray, List.getElem_cons_zero, List.getElem_cons_succ]
   refine wpAnyH_ready (rs := [7]) (by kernel_rfl) (by simp) ?_
   refine AllReadyH.cons rfl (fun K hK => ?_) AllReadyH.nil
   go_simp
   go_at_call 11
   (with_reducible refine (names31_any _).mono ?_)
   rintro r u5 ⟨rfl, hb, hn⟩
   have ltR := R4.out.lt
   have ltP := P4.out.lt
   obtain ⟨kb, hkx⟩ : ∃ k, u4.heap.size = k := ⟨_, rfl⟩
   rw [hkx] at hn ltR ltP ⊢
   have hln7R := Lib.hid ltR
   have hln7P := Lib.hid ltP
   have hc := hn.cell (nmCells_at HI.out.2.1)
   rw [HI.out.2.2] at hc
   have Q5 := Lib.hid (Q4.out.later hb)
   have X5 := Lib.hid (X4.out.later hb)
   have R5 := Lib.hid (R4.out.later hb)
   have P5 := Lib.hid (P4.out.later hb)
   clear Q4 X4 R4 P4
   go_wp2_with fail
   refine hK.out _ _ (c3B hH4 hb) (fun hH5 => ?_)
   clear hb hn hkx hK K hH4 ltR ltP
   try simp only [Act.put, List.setIfInBounds_toArray, List.set_cons_zero, List.set_cons_succ, List.getElem_toArray, List.getElem_cons_zero, List.getElem_cons_succ]
   refine monoK kb i nb ?_
   have hH5 := And.intro hH5 hc
   clear hc
   refine wpAnyH_take (i := 11) (v := ?_) rfl (by kernel_rfl) (by kernel_rfl) (by kernel_rfl) (fun _ _ _ h => h) (Or.inl ⟨by rfl, ?_⟩) (by assumption) ?_
   rotate_left
   · (intro wx hSw; (try dsimp only at hSw); go_simp <;> with_reducible rfl)
   try simp only [Act.put, List.setIfInBounds_toArray, List.set_cons_zero, List.set_cons_succ, List.getElem_toArray, List.getElem_cons_zero, List.getElem_cons_succ]
   refine wpAnyH_take (i := 12) (v := ?_) rfl (by kernel_rfl) (by kernel_rfl) (by kernel_rfl) (fun _ _ _ h => h) (Or.inl ⟨by rfl, ?_⟩) (by assumption) ?_
   rotate_left
   · (intro wx hSw; (try dsimp only at hSw); go_simp <;> with_reducible rfl)
   try simp only [Act.put, List.setIfInBounds_toArray, List.set_cons_zero, List.set_cons_succ, List.getElem_toArray, List.getElem_cons_zero, List.getElem_cons_succ]
   refine wpAnyH_ready (rs := [13]) (by kernel_rfl) (by simp) ?_
   refine AllReadyH.cons rfl (fun K hK => ?_) AllReadyH.nil
   go_simp
   go_at_call 16
   (with_reducible refine (ofTab_any _ _).mono ?_)
   rintro r u6 ⟨rfl, hb⟩
   have Q6 := Lib.hid (Q5.out.later hb)
   have X6 := Lib.hid (X5.out.later hb)
   have R6 := Lib.hid (R5.out.later hb)
   have P6 := Lib.hid (P5.out.later hb)
   clear Q5 X5 R5 P5
   go_wp2_with fail
   refine hK.out _ _ (c4B hH5 hb) (fun hH6 => ?_)
   clear hK K hH5 hb
   try simp only [Act.put, List.setIfInBounds_toArray, List.set_cons_zero, List.set_cons_succ, List.getElem_toArray, List.getElem_cons_zero, List.getElem_cons_succ]
   rotate_left
   refine AllReadyH.cons rfl (fun K hK => ?_) AllReadyH.nil
   obtain ⟨hb, P2⟩ := new_nm u1
   have Q2 := Lib.hid (Q1.out.more (E' := (fun k : Nat => k = r ∨ k = u1.heap.size)) hb (fun k hk => by exact hk.elim (fun h => .inl h) (fun h => .inr (by subst h; simp))))
   have X2 := Lib.hid (X1.out.later hb)
   have R2 := Lib.hid (R1.out.later hb)
   have hltPX := Lib.hid X1.out.lt
   have hltPR := Lib.hid R1.out.lt
   go_simp
   refine hK.out _ _ (c2B hH1 hb) (fun hH2 => ?_)
   clear hK K hH1 hb Q1 X1 R1
   try simp only [Act.put, List.setIfInBounds_toArray, List.set_cons_zero, List.set_cons_succ, List.getElem_toArray, List.getElem_cons_zero, List.getElem_cons_succ]
   obtain ⟨u2, hu2⟩ := ex_nm u1
   obtain ⟨p, hp⟩ : ∃ p, u1.heap.size = p := ⟨_, rfl⟩
   rw [hp] at Q2 P2 hltPX hltPR ⊢
   rw [hu2] at Q2 X2 hH2 R2 P2 ⊢
   clear hp hu2
   refine wpAnyH_ready (rs := [0]) (by kernel_rfl) (by simp) ?_
   refine AllReadyH.cons rfl (fun K hK => ?_) AllReadyH.nil
   go_simp
   go_at_call 11
   (with_reducible refine (names31_any _).mono ?_)
   rintro r u3 ⟨rfl, hb, hn⟩
   have ltR := R2.out.lt
   have ltP := P2.out.lt
   obtain ⟨ka, hkx⟩ : ∃ k, u2.heap.size = k := ⟨_, rfl⟩
   rw [hkx] at hn ltR ltP ⊢
   have hln0R := Lib.hid ltR
   have hln0P := Lib.hid ltP
   have hc := hn.cell (nmCells_at HJ.out.2.1)
   rw [HJ.out.2.2] at hc
   have Q3 := Lib.hid (Q2.out.later hb)
   have X3 := Lib.hid (X2.out.later hb)
   have R3 := Lib.hid (R2.out.later hb)
   have P3 := Lib.hid (P2.out.later hb)
   clear Q2 X2 R2 P2
   go_wp2_with fail
   refine hK.out _ _ (c2B hH2 hb) (fun hH3 => ?_)
   clear hb hn hkx hK K hH2 ltR ltP
   try simp only [Act.put, List.setIfInBounds_toArray, List.set_cons_zero, List.set_cons_succ, List.getElem_toArray, List.getElem_cons_zero, List.getElem_cons_succ]
   refine monoK ka j na ?_
   have hH3 := And.intro hH3 hc
   clear hc
   refine wpAnyH_take (i := 4) (v := ?_) rfl (by kernel_rfl) (by kernel_rfl) (by kernel_rfl) (fun _ _ _ h => h) (Or.inl ⟨by rfl, ?_⟩) (by assumption) ?_
   rotate_left
   · (intro wx hSw; (try dsimp only at hSw); go_simp <;> with_reducible rfl)
   try simp only [Act.put, List.setIfInBounds_toArray, List.set_cons_zero, List.set_cons_succ, List.getElem_toArray, List.getElem_cons_zero, List.getElem_cons_succ]
   refine wpAnyH_take (i := 5) (v := ?_) rfl (by kernel_rfl) (by kernel_rfl) (by kernel_rfl) (fun _ _ _ h => h) (Or.inl ⟨by rfl, ?_⟩) (by assumption) ?_
   rotate_left
   · (intro wx hSw; (try dsimp only at hSw); go_simp <;> with_reducible rfl)
   try simp only [Act.put, List.setIfInBounds_toArray, List.set_cons_zero, List.set_cons_succ, List.getElem_toArray, List.getElem_cons_zero, List.getElem_cons_succ]
   refine wpAnyH_ready (rs := [6]) (by kernel_rfl) (by simp) ?_
   refine AllReadyH.cons rfl (fun K hK => ?_) AllReadyH.nil
   go_simp
   go_at_call 16
   (with_reducible refine (ofTab_any _ _).mono ?_)
   rintro r u4 ⟨rfl, hb⟩
   have Q4 := Lib.hid (Q3.out.later hb)
   have X4 := Lib.hid (X3.out.later hb)
   have R4 := Lib.hid (R3.out.later hb)
   have P4 := Lib.hid (P3.out.later hb)
   clear Q3 X3 R3 P3
   go_wp2_with fail
   refine hK.out _ _ (c3B hH3 hb) (fun hH4 => ?_)
   clear hK K hH3 hb
   try simp only [Act.put, List.setIfInBounds_toArray, List.set_cons_zero, List.set_cons_succ, List.getElem_toArray, List.getElem_cons_zero, List.getElem_cons_succ]
   refine wpAnyH_ready (rs := [7]) (by kernel_rfl) (by simp) ?_
   refine AllReadyH.cons rfl (fun K hK => ?_) AllReadyH.nil
   go_simp
   go_at_call 11
   (with_reducible refine (names31_any _).mono ?_)
   rintro r u5 ⟨rfl, hb, hn⟩
   have ltR := R4.out.lt
   have ltP := P4.out.lt
   obtain ⟨kb, hkx⟩ : ∃ k, u4.heap.size = k := ⟨_, rfl⟩
   rw [hkx] at hn ltR ltP ⊢
   have hln7R := Lib.hid ltR
   have hln7P := Lib.hid ltP
   have hc := hn.cell (nmCells_at HI.out.2.1)
   rw [HI.out.2.2] at hc
   have Q5 := Lib.hid (Q4.out.later hb)
   have X5 := Lib.hid (X4.out.later hb)
   have R5 := Lib.hid (R4.out.later hb)
   have P5 := Lib.hid (P4.out.later hb)
   clear Q4 X4 R4 P4
   go_wp2_with fail
   refine hK.out _ _ (c3B hH4 hb) (fun hH5 => ?_)
   clear hb hn hkx hK K hH4 ltR ltP
   try simp only [Act.put, List.setIfInBounds_toArray, List.set_cons_zero, List.set_cons_succ, List.getElem_toArray, List.getElem_cons_zero, List.getElem_cons_succ]
   refine monoK kb i nb ?_
   have hH5 := And.intro hH5 hc
   clear hc
   refine wpAnyH_take (i := 11) (v := ?_) rfl (by kernel_rfl) (by kernel_rfl) (by kernel_rfl) (fun _ _ _ h => h) (Or.inl ⟨by rfl, ?_⟩) (by assumption) ?_
   rotate_left
   · (intro wx hSw; (try dsimp only at hSw); go_simp <;> with_reducible rfl)
   try simp only [Act.put, List.setIfInBounds_toArray, List.set_cons_zero, List.set_cons_succ, List.getElem_toArray, List.getElem_cons_zero, List.getElem_cons_succ]
   refine wpAnyH_take (i := 12) (v := ?_) rfl (by kernel_rfl) (by kernel_rfl) (by kernel_rfl) (fun _ _ _ h => h) (Or.inl ⟨by rfl, ?_⟩) (by assumption) ?_
   rotate_left
   · (intro wx hSw; (try dsimp only at hSw); go_simp <;> with_reducible rfl)
   try simp only [Act.put, List.setIfInBounds_toArray, List.set_cons_zero, List.set_cons_succ, List.getElem_toArray, List.getElem_cons_zero, List.getElem_cons_succ]
   refine wpAnyH_ready (rs := [13]) (by kernel_rfl) (by simp) ?_
   refine AllReadyH.cons rfl (fun K hK => ?_) AllReadyH.nil
   go_simp
   go_at_call 16
   (with_reducible refine (ofTab_any _ _).mono ?_)
   rintro r u6 ⟨rfl, hb⟩
   have Q6 := Lib.hid (Q5.out.later hb)
   have X6 := Lib.hid (X5.out.later hb)
   have R6 := Lib.hid (R5.out.later hb)
   have P6 := Lib.hid (P5.out.later hb)
   clear Q5 X5 R5 P5
   go_wp2_with fail
   refine hK.out _ _ (c4B hH5 hb) (fun hH6 => ?_)
   clear hK K hH5 hb
   try simp only [Act.put, List.setIfInBounds_toArray, List.set_cons_zero, List.set_cons_succ, List.getElem_toArray, List.getElem_cons_zero, List.getElem_cons_succ]
   rotate_left
   all_goals
     refine wpAnyH_ready (rs := [16]) (by kernel_rfl) (by simp) ?_
     refine AllReadyH.cons rfl (fun K hK => ?_) AllReadyH.nil
     have hl0 := hltPX.out
     have hl1 := hltRX.out
     have hx0 := World.block_lt_of_cell? _ _ hH6.1.2
     have hx1 := World.block_lt_of_cell? _ _ hH6.2
     try have hy0 := hltPR.out
     try have hy1 := hltRP.out
     try have hy2 := hltPka.out
     try have hy3 := hltPkb.out
     try have hy4 := hltRka.out
     try have hy5 := hltRkb.out
     try have hy6 := hln0P.out
     try have hy7 := hln0R.out
     try have hy8 := hln7P.out
     try have hy9 := hln7R.out
     have NEP : Hid (p ≠ w.heap.size ∧ p ≠ r ∧ p ≠ ka ∧ p ≠ kb) := by refine ⟨?_, ?_, ?_, ?_⟩ <;> omega
     have NER : Hid (r ≠ w.heap.size ∧ r ≠ p ∧ r ≠ ka ∧ r ≠ kb) := by refine ⟨?_, ?_, ?_, ?_⟩ <;> omega
     clear hl0 hl1 hx0 hx1
     try clear hy0
     try clear hy1
     try clear hy2
     try clear hy3
     try clear hy4
     try clear hy5
     try clear hy6
     try clear hy7
     try clear hy8
     try clear hy9
     obtain ⟨c0, c1, c2, c3, c4, q0, q1, q2, q3, q4⟩ := name_cells P6.out
     have hg := grown_five u6 p (.int .i64 4) (.string na) (.int .i64 0) (.int .i64 0) (.string ⟨#[]⟩)
     have P7 := Lib.hid (row_five P6.out (.int .i64 4) (.string na) (.int .i64 0) (.int .i64 0) (.string ⟨#[]⟩))
     have Q7 := Lib.hid (Q6.out.grown p (by first | exact .inl rfl | exact .inr rfl) hg)
     have hn1 := NEP.out
     have X7 := Lib.hid (X6.out.kept (hg.block _ X6.out.lt (by simp; omega)))
     have R7 := Lib.hid (R6.out.kept (hg.block _ R6.out.lt (by simp; omega)))
     go_simp
     refine hK.out _ _ ⟨⟨⟨cellG hH6.1.1.1 hg (by simp; omega), cellG hH6.1.1.2 hg (by simp; omega)⟩, cellG hH6.1.2 hg (by simp; omega)⟩, cellG hH6.2 hg (by simp; omega)⟩ (fun hH7 => ?_)
     clear hK K hH6 hg hn1 Q6 X6 P6 R6 c0 q0 c1 q1 c2 q2 c3 q3 c4 q4
     obtain ⟨u7, hu7⟩ : ∃ u7, (((((u6.setCell ⟨p, 0, none⟩ (.int .i64 4)).setCell ⟨p, 1, none⟩ (.string na)).setCell ⟨p, 2, none⟩ (.int .i64 0)).setCell ⟨p, 3, none⟩ (.int .i64 0)).setCell ⟨p, 4, none⟩ (.string ⟨#[]⟩)) = u7 := ⟨_, rfl⟩
     rw [hu7] at Q7 X7 P7 R7 hH7 ⊢
     clear hu7
     refine wpAnyH_ready (rs := [17]) (by kernel_rfl) (by simp) ?_
     refine AllReadyH.cons rfl (fun K hK => ?_) AllReadyH.nil
     obtain ⟨c0, c1, c2, c3, c4, q0, q1, q2, q3, q4⟩ := name_cells R7.out
     have hg := grown_five u7 r (.int .i64 4) (.string nb) (.int .i64 0) (.int .i64 0) (.string ⟨#[]⟩)
     have R8 := Lib.hid (row_five R7.out (.int .i64 4) (.string nb) (.int .i64 0) (.int .i64 0) (.string ⟨#[]⟩))
     have Q8 := Lib.hid (Q7.out.grown r (by first | exact .inl rfl | exact .inr rfl) hg)
     have hn1 := NER.out
     have X8 := Lib.hid (X7.out.kept (hg.block _ X7.out.lt (by simp; omega)))
     have P8 := Lib.hid (P7.out.kept (hg.block _ P7.out.lt (by simp; omega)))
     go_simp
     refine hK.out _ _ ⟨⟨⟨cellG hH7.1.1.1 hg (by simp; omega), cellG hH7.1.1.2 hg (by simp; omega)⟩, cellG hH7.1.2 hg (by simp; omega)⟩, cellG hH7.2 hg (by simp; omega)⟩ (fun hH8 => ?_)
     clear hK K hH7 hg hn1 Q7 X7 P7 R7 c0 q0 c1 q1 c2 q2 c3 q3 c4 q4
     obtain ⟨u8, hu8⟩ : ∃ u8, (((((u7.setCell ⟨r, 0, none⟩ (.int .i64 4)).setCell ⟨r, 1, none⟩ (.string nb)).setCell ⟨r, 2, none⟩ (.int .i64 0)).setCell ⟨r, 3, none⟩ (.int .i64 0)).setCell ⟨r, 4, none⟩ (.string ⟨#[]⟩)) = u8 := ⟨_, rfl⟩
     rw [hu8] at Q8 X8 P8 R8 hH8 ⊢
     clear hu8
     refine wpAnyH_done (by kernel_rfl) ?_ _
     go_wp2
     go_meet
     exact ⟨p, r, rfl, rfl, P8.out, R8.out, Q8.out.done.1, X8.out⟩
  case rest =>
    obtain ⟨p, r, rfl, rfl, P8, R8, S8, X8⟩ := hcut
    have HTN := Lib.hid (touch_names (P := NamesD ⟨kd, who, tw, fd, nn, ⟨okd, m2, obn, onum, ooff, ord, owr, oap⟩⟩) (x := ofTab na) (y := ofTab nb) (fun n hn => by
      rcases hn with h | ⟨_, h⟩
      · left; rw [h]; exact congrArg ofTab (by rw [HJ.out.1]; exact HJ.out.2.2)
      · right; rw [h]; exact congrArg ofTab (by rw [HI.out.1]; exact HI.out.2.2)) S8.out.rdkD Hrs.out.1 Hrs.out.2.1 Hrs.out.2.2)
    have HNm : Hid (∀ n : NameT, NamesD ⟨kd, who, tw, fd, nn, ⟨okd, m2, obn, onum, ooff, ord, owr, oap⟩⟩ n → n = ofTab na ∨ (n = ofTab nb ∧ kd % 11 = 1)) := fun n hn => by
      rcases hn with h | ⟨h1, h⟩
      · left; rw [h]; exact congrArg ofTab (by rw [HJ.out.1]; exact HJ.out.2.2)
      · right; exact ⟨by rw [h]; exact congrArg ofTab (by rw [HI.out.1]; exact HI.out.2.2), h1⟩
    clear htm htm2 j0 j1 i0 i1 HJ HI Hrs
    have Hrd : Hid (V9.reads.length ≤ 1000000) := by show _ ≤ _; have := HTN.out.1; omega
    have Hpl : Hid (p < wc.heap.size ∧ r < wc.heap.size ∧ w.heap.size < wc.heap.size) := ⟨P8.out.lt, R8.out.lt, X8.out.lt⟩
    go_wp2_with fail
    refine (qmReadsO S8.out Hrd.out).mono ?_
    rintro r' y1 ⟨v1, cs1, rfl, ho1, hp1, -, hb6, s6⟩
    have P1 := Lib.hid (P8.out.later hb6)
    have R1 := Lib.hid (R8.out.later hb6)
    have X1 := Lib.hid (X8.out.later hb6)
    have S1 := Lib.hid s6
    have Ho1 := Lib.hid ho1
    have Hp1 := Lib.hid hp1
    have Hs1 : Hid (wc.heap.size ≤ y1.heap.size) := hb6.size
    clear ho1 hp1 hb6 s6 S8 P8 R8 X8 Hrd
    go_wp2_with fail
    refine (qmWritesO S1.out).mono ?_
    rintro r' y2 ⟨v2, cs2, rfl, hr2, hp2, -, hb7, s7, hno⟩
    have P2 := Lib.hid (P1.out.later hb7)
    have R2 := Lib.hid (R1.out.later hb7)
    have X2 := Lib.hid (X1.out.later hb7)
    have Ho2 : Hid (OwnC wc.heap.size y2 v1 cs1) := ownC_later Ho1.out hb7
    have Hs2 : Hid (y1.heap.size ≤ y2.heap.size) := hb7.size
    have HQ := Lib.hid (HTN.out.2 cs1 cs2 Hp1.out hp2)
    have HB2 : Hid (Below w.heap.size w y2) := HW5.out.trans (s7.below.mono HW5.out.size)
    have Hr2 := Lib.hid hr2
    have Hno := Lib.hid hno
    clear hr2 hp2 hb7 s7 hno P1 R1 X1 S1 Ho1 Hp1 HTN
    have Hlen : Hid (cs1.length + cs2.length ≤ 3) := by
      show _ ≤ _
      have h1 := HQ.out.2.1
      have h2 := HQ.out.2.2
      omega
    go_wp2_with (first
      | (at_builtin; go_loud (refine wpList_append_rowsD rfl _ _ rfl wc.heap.size v1 v2 cs1 cs2 rfl Ho2.out rfl Hr2.out Hno.out (by have := Hlen.out; omega) (Nat.le_trans Hs1.out Hs2.out) ?_; intro v8 y3 ho8 hg8; have Ho8 := Lib.hid ho8; have Hg8 := Lib.hid hg8; clear ho8 hg8))
      | go_in)
    have P3 : Hid (RowIs y3 p 56 [.int .i64 4, .string na, .int .i64 0, .int .i64 0, .string ⟨#[]⟩]) := P2.out.kept (Hg8.out.block _ P2.out.lt (own_ne Ho2.out Hpl.out.1))
    have R3 : Hid (RowIs y3 r 56 [.int .i64 4, .string nb, .int .i64 0, .int .i64 0, .string ⟨#[]⟩]) := R2.out.kept (Hg8.out.block _ R2.out.lt (own_ne Ho2.out Hpl.out.2.1))
    have X3 : Hid (RowIs y3 w.heap.size 49 [.int .u8 kd, .int .u8 who, .int .u8 tw, .int .i64 fd, .int .i64 nn, .int .i64 okd, .string m2, .int .i64 obn, .int .i64 onum, .int .i64 ooff, .bool ord, .bool owr, .bool oap]) := X2.out.kept (Hg8.out.block _ X2.out.lt (own_ne Ho2.out Hpl.out.2.2))
    have HB3 : Hid (Below w.heap.size w y3) := HB2.out.trans ⟨Hg8.out.os, Hg8.out.tape, Hg8.out.output, Hg8.out.size, fun k hk => Hg8.out.block k (Nat.lt_of_lt_of_le hk HB2.out.size) (own_ne Ho2.out (Nat.lt_trans hk Hpl.out.2.2))⟩
    have HN8 := Lib.hid HQ.out.1
    have HL8 : Hid ((cs1 ++ cs2).length ≤ 3) := by show _ ≤ _; rw [List.length_append]; exact Hlen.out
    obtain ⟨a8, cap8, rfl, hr8⟩ := Ho8.out.row
    have Hr8 : Hid (RowC y3 (.slice a8 (cs1 ++ cs2).length cap8) (cs1 ++ cs2)) := ⟨a8, cap8, rfl, hr8⟩
    clear hr8 Ho8 Hg8 HQ Hlen Hno Hr2 Ho2 P2 R2 X2 Hs1 Hs2 Hpl HB2
    generalize cs1 ++ cs2 = cs at *
    clear cs1 cs2
    generalize hnl : cs.length = nl at *
    have Hnl := Lib.hid hnl
    clear hnl
    go_wp2_with fail
    rw [run_len_chg]
    go_wp2_with fail
    go_loopg [54] nl (fun gk iv wr => ∃ k : Nat, k + gk = nl ∧ iv = .int .i64 k ∧ Hid (Below y3.heap.size y3 wr))
    case atStart => exact ⟨0, by omega, rfl, Below.refl _ _⟩
    case round =>
      obtain ⟨k, hk, rfl, HL⟩ := hrel
      have Hk := Lib.hid hk
      clear hk
      by_cases hlt : k < nl
      · obtain ⟨c, hc⟩ : ∃ c, cs[k]? = some c := ⟨cs[k]'(by rw [Hnl.out]; exact hlt), List.getElem?_eq_getElem _⟩
        obtain ⟨g, rfl, -, r0, r1, r2, r3, r4, r5, r6⟩ := rowC_cells (rowC_later Hr8.out HL.out) hc
        have hname := HNm.out _ (HN8.out c (List.mem_of_getElem? hc))
        obtain ⟨⟨k1, k2, k3, k4, k5⟩, cv, cab⟩ := c
        dsimp only at r0 r1 r2 r3 r4 r5 r6 hname
        have hlt3 : k < 3 := by have := HL8.out; have := Hnl.out; omega
        go_upto_region 11 with fail
        clear r0 r1 r2 r3 r4 r5 r6 hc
        have hb0 : Below wr.heap.size wr (wr.alloc (.cells #[.int .i64 k1, .string k2, .int .i64 k3, .int .i64 k4, .string k5, .string cv, .bool cab] 61)) := (Below.refl _ _).alloc (Nat.le_refl _) _
        have BX : Hid (RowIs (wr.alloc (.cells #[.int .i64 k1, .string k2, .int .i64 k3, .int .i64 k4, .string k5, .string cv, .bool cab] 61)) wr.heap.size 61 [.int .i64 k1, .string k2, .int .i64 k3, .int .i64 k4, .string k5, .string cv, .bool cab]) := new_row wr 61 [.int .i64 k1, .string k2, .int .i64 k3, .int .i64 k4, .string k5, .string cv, .bool cab]
        have PX := Lib.hid ((P3.out.later HL.out).later hb0)
        have RX := Lib.hid ((R3.out.later HL.out).later hb0)
        have XX := Lib.hid ((X3.out.later HL.out).later hb0)
        have HLn : Hid (Below y3.heap.size y3 (wr.alloc (.cells #[.int .i64 k1, .string k2, .int .i64 k3, .int .i64 k4, .string k5, .string cv, .bool cab] 61))) := HL.out.trans (hb0.mono HL.out.size)
        clear hb0 HL
        obtain ⟨D, hD⟩ : ∃ D, wr.heap.size = D := ⟨_, rfl⟩
        obtain ⟨wz, hwz⟩ : ∃ wz, wr.alloc (.cells #[.int .i64 k1, .string k2, .int .i64 k3, .int .i64 k4, .string k5, .string cv, .bool cab] 61) = wz := ⟨_, rfl⟩
        rw [hD] at BX ⊢
        rw [hwz] at BX PX RX XX HLn ⊢
        clear hD hwz
        have d0 := BX.out.cell (i := 0) rfl
        have d1 := BX.out.cell (i := 1) rfl
        have d2 := BX.out.cell (i := 2) rfl
        have d3 := BX.out.cell (i := 3) rfl
        have d4 := BX.out.cell (i := 4) rfl
        have p0 := PX.out.cell (i := 0) rfl
        have p1 := PX.out.cell (i := 1) rfl
        have p2 := PX.out.cell (i := 2) rfl
        have p3 := PX.out.cell (i := 3) rfl
        have p4 := PX.out.cell (i := 4) rfl
        by_cases hq : (⟨k1, k2, k3, k4, k5⟩ : NameT) = ofTab na
        · have hq1 : neqNB ⟨k1, k2, k3, k4, k5⟩ ⟨4, na, 0, 0, ⟨#[]⟩⟩ = false := by simp only [neqNB]; rw [hq]; simp [ofTab]
          clear hname hq
          go_wp2
          go_roundg (nl - (k + 1))
          case measure => have := Hk.out; omega
          case rel => exact ⟨k + 1, by have := Hk.out; omega, by go_num, HLn.out⟩
        · obtain ⟨hq', hkd⟩ := hname.resolve_left hq
          have hq1 : neqNB ⟨k1, k2, k3, k4, k5⟩ ⟨4, na, 0, 0, ⟨#[]⟩⟩ = true := by simp only [neqNB]; rw [show (⟨4, na, 0, 0, ⟨#[]⟩⟩ : NameT) = ofTab na from rfl]; simp [hq]
          have hq2 : neqNB ⟨k1, k2, k3, k4, k5⟩ ⟨4, nb, 0, 0, ⟨#[]⟩⟩ = false := by simp only [neqNB]; rw [hq']; simp [ofTab]
          clear hname hq hq'
          have z0 := RX.out.cell (i := 0) rfl
          have z1 := RX.out.cell (i := 1) rfl
          have z2 := RX.out.cell (i := 2) rfl
          have z3 := RX.out.cell (i := 3) rfl
          have z4 := RX.out.cell (i := 4) rfl
          have x0 := XX.out.cell (i := 0) rfl
          have hkm : (kd : Int).tmod 11 = 1 := by rw [Int.tmod_eq_emod_of_nonneg (by omega)]; omega
          clear hkd
          go_wp2
          go_roundg (nl - (k + 1))
          case measure => have := Hk.out; omega
          case rel => exact ⟨k + 1, by have := Hk.out; omega, by go_num, HLn.out⟩
      · have HF : Hid (Below w.heap.size w wr) := HB3.out.trans (HL.out.mono HB3.out.size)
        go_wp2
        go_ret
        exact ⟨rfl, HF.out⟩
end Go.Proofs.YtfchfjipkggnkaaGreatDoor
