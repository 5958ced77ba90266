/- Rows of a kind: append of a row to one of the call's own. (turned from KndA, for a seat without states) -/
import Derived.Test.YteiddebjbiadbaaProg
import Derived.Test.YteiddebjbiadbaaMem
import Derived.OwnWalk
import Derived.Laws.OwnMore
import Derived.Laws.Rows
import Derived.Laws.AppendOwn
import Derived.Deep.OwnRows
import Derived.Deep.RegionLaw
import Derived.BigRegion
import Derived.Maps.AppendAt
namespace Go.Proofs.Yteiddebjbiadbaa
open Go.RowKit

theorem below_grow {B : Nat} {w w1 w2 : World} {row : Option Nat} (h : Below B w w1) (hg : w1.grownBy w2 row) (hB : B ≤ w.heap.size) (hr : ∀ k, row = some k → B ≤ k) : Below B w w2 :=
  ⟨hg.os.trans h.os, hg.tape.trans h.tape, hg.output.trans h.output, Nat.le_trans h.size hg.size, fun k hk => (hg.block k (by have := h.size; omega) (fun e => by have := hr k e.symm; omega)).trans (h.block k hk)⟩
/-- A kind of things that lie in rows. -/
structure KindK (α : Type) where
  cells : α → List Value
  S : Nat
  T : TypeId
  sl : TypeId
  z : Value
  B : Nat
  len : ∀ x, (cells x).length = S
  pos : 0 < S
  one : ∀ x u, u ∈ cells x → u.oneCell' = true
  und : Try.prog.underlying sl = some (.slice T)
  info : (Try.prog.info? T).map (fun i => (i.zero, i.size, i.bytes)) = some (some z, S, B)
  zs : z.cells.size = S
  hB : B ≤ 1000
section
variable {α : Type} (K : KindK α)
theorem KindK.flat_len (xs : List α) : (xs.flatMap K.cells).length = xs.length * K.S := by
  induction xs with
  | nil => simp
  | cons x xs ih =>
    simp only [List.flatMap_cons, List.length_append, ih, K.len, List.length_cons, Nat.add_mul, Nat.one_mul]
    omega
theorem KindK.flat_at (xs : List α) (j : Nat) (x : α) (h : xs[j]? = some x) (i : Nat) (u : Value) (hu : (K.cells x)[i]? = some u) : (xs.flatMap K.cells)[j * K.S + i]? = some u := by
  induction xs generalizing j with
  | nil => simp at h
  | cons y xs ih =>
    simp only [List.flatMap_cons]
    have hl := K.len y
    have hi : i < K.S := by have := (List.getElem?_eq_some_iff.1 hu).1; rw [K.len] at this; exact this
    cases j with
    | zero =>
      simp at h
      subst h
      rw [List.getElem?_append_left (by rw [hl]; omega)]
      simpa using hu
    | succ j =>
      have hr : (j + 1) * K.S = j * K.S + K.S := Nat.succ_mul j K.S
      rw [List.getElem?_append_right (by rw [hl]; omega), hl]
      have := ih j (by simpa using h)
      rw [show (j + 1) * K.S + i - K.S = j * K.S + i by omega]
      exact this
theorem KindK.flat_back (xs : List α) (j : Nat) (u : Value) (h : (xs.flatMap K.cells)[j]? = some u) : ∃ x, xs[j / K.S]? = some x ∧ (K.cells x)[j % K.S]? = some u := by
  have hlt : j < xs.length * K.S := by rw [← K.flat_len]; exact (List.getElem?_eq_some_iff.1 h).1
  have hi : j / K.S < xs.length := Nat.div_lt_of_lt_mul (by rw [Nat.mul_comm]; exact hlt)
  have hm : j % K.S < K.S := Nat.mod_lt _ K.pos
  have hx : xs[j / K.S]? = some xs[j / K.S] := List.getElem?_eq_getElem hi
  have hl : j % K.S < (K.cells xs[j / K.S]).length := by rw [K.len]; exact hm
  refine ⟨_, hx, ?_⟩
  have h2 := K.flat_at xs (j / K.S) _ hx (j % K.S) _ (List.getElem?_eq_getElem hl)
  rw [Nat.div_add_mod' j K.S, h] at h2
  rw [List.getElem?_eq_getElem hl]
  exact h2.symm
/-- A row that can be read. -/
def RowK (w : World) (v : Value) (xs : List α) : Prop :=
  (v = .slice none 0 0 ∧ xs = []) ∨ ∃ g off c, v = .slice (some ⟨g, off, none⟩) xs.length c ∧ xs.length ≤ c ∧ ∀ j x, xs[j]? = some x → ∀ i u, (K.cells x)[i]? = some u → w.cell? ⟨g, off + j * K.S + i, none⟩ = some u
/-- A row of the call's own. -/
def OwnK (base : Nat) (w : World) (v : Value) (xs : List α) : Prop := w.ownsRow base K.T K.S v xs.length (xs.flatMap K.cells)
variable {K}
theorem RowK.later {w w' : World} {v : Value} {xs : List α} (h : RowK K w v xs) (hb : Below w.heap.size w w') : RowK K w' v xs := by
  rcases h with h | ⟨g, off, c, rfl, hc, h⟩
  · exact .inl h
  · refine .inr ⟨g, off, c, rfl, hc, fun j x hx i u hu => ?_⟩
    have h1 := h j x hx i u hu
    exact ((bcell hb).1 _ _ (World.block_lt_of_cell? w _ h1)).trans h1
theorem RowK.grown {w w' : World} {v : Value} {xs : List α} {row : Option Nat} (h : RowK K w v xs) (hg : w.grownBy w' row) (hne : ∀ k, v.ownBlock = some k → row ≠ some k) : RowK K w' v xs := by
  rcases h with h | ⟨g, off, c, rfl, hc, h⟩
  · exact .inl h
  · refine .inr ⟨g, off, c, rfl, hc, fun j x hx i u hu => ?_⟩
    have h1 := h j x hx i u hu
    have hl := World.block_lt_of_cell? w _ h1
    exact (World.cell?_of_block (a := ⟨g, off + j * K.S + i, none⟩) (hg.block g hl (fun e => hne g rfl e.symm))).trans h1
theorem RowK.nil (w : World) : RowK K w (.slice none 0 0) [] := .inl ⟨rfl, rfl⟩
theorem RowK.form {w : World} {v : Value} {xs : List α} (h : RowK K w v xs) : ∃ a c, v = .slice a xs.length c ∧ xs.length ≤ c ∧ (a = none → xs = [] ∧ c = 0) := by
  rcases h with ⟨rfl, rfl⟩ | ⟨g, off, c, rfl, hc, -⟩
  · exact ⟨none, 0, rfl, Nat.le_refl _, fun _ => ⟨rfl, rfl⟩⟩
  · exact ⟨_, c, rfl, hc, fun h => nomatch h⟩
theorem RowK.at_ {w : World} {a : Option Addr} {n c : Nat} {xs : List α} (h : RowK K w (.slice a n c) xs) {j : Nat} {x : α} (hx : xs[j]? = some x) : ∃ g off, a = some ⟨g, off, none⟩ ∧ ∀ i u, (K.cells x)[i]? = some u → w.cell? ⟨g, off + j * K.S + i, none⟩ = some u := by
  rcases h with ⟨-, rfl⟩ | ⟨g, off, c, e, hc, h⟩
  · simp at hx
  · cases e
    exact ⟨g, off, rfl, h j x hx⟩
theorem RowK.len {w : World} {a : Option Addr} {n c : Nat} {xs : List α} (h : RowK K w (.slice a n c) xs) : xs.length = n := by
  rcases h with ⟨e, rfl⟩ | ⟨g, off, c, e, hc, h⟩
  · cases e; rfl
  · cases e; rfl
theorem RowK.take {w : World} {g off n c : Nat} {xs : List α} (h : RowK K w (.slice (some ⟨g, off, none⟩) n c) xs) {k : Nat} (hk : k ≤ n) : RowK K w (.slice (some ⟨g, off, none⟩) k c) (xs.take k) := by
  have hl := h.len
  rcases h with ⟨e, -⟩ | ⟨g', off', c', e, hc, h⟩
  · cases e
  · cases e
    have hlt : (xs.take k).length = k := by rw [List.length_take]; omega
    refine .inr ⟨g, off, c, by rw [hlt], by omega, fun j x hx i u hu => h j x ?_ i u hu⟩
    have := (List.getElem?_eq_some_iff.1 hx).1
    rwa [List.getElem?_take_of_lt (by omega)] at hx
theorem RowK.drop {w : World} {g off n c : Nat} {xs : List α} (h : RowK K w (.slice (some ⟨g, off, none⟩) n c) xs) {k : Nat} (hk : k ≤ n) : RowK K w (.slice (some ⟨g, off + k * K.S, none⟩) (n - k) (c - k)) (xs.drop k) := by
  have hl := h.len
  rcases h with ⟨e, -⟩ | ⟨g', off', c', e, hc, h⟩
  · cases e
  · cases e
    have hlt : (xs.drop k).length = xs.length - k := List.length_drop
    refine .inr ⟨g, off + k * K.S, c - k, by rw [hlt], by omega, fun j x hx i u hu => ?_⟩
    rw [List.getElem?_drop] at hx
    have := h (k + j) x hx i u hu
    rw [Nat.add_mul] at this
    rw [show off + k * K.S + j * K.S + i = off + (k * K.S + j * K.S) + i by omega]
    exact this
theorem RowK.empty {w : World} {g off c : Nat} : RowK K w (.slice (some ⟨g, off, none⟩) 0 c) [] := .inr ⟨g, off, c, rfl, Nat.zero_le _, fun j x hx => by simp at hx⟩
theorem RowK.one {w : World} {B : Nat} {x : α} {fr : Nat × Nat} {cs : Array Value} {T : TypeId} (hB : w.heap[B]? = some (.cells cs T fr)) (hc : K.cells x = cs.toList) : RowK K w (.slice (some ⟨B, 0, none⟩) 1 1) [x] := by
  refine .inr ⟨B, 0, 1, rfl, Nat.le_refl _, fun j y hy i u hu => ?_⟩
  have hj : j = 0 := by have := (List.getElem?_eq_some_iff.1 hy).1; simp at this; exact this
  subst hj
  simp at hy
  subst hy
  rw [hc] at hu
  have h2 := cell_of_heap hB i
  rw [show 0 + 0 * K.S + i = i by omega, h2]
  simpa using hu
theorem OwnK.row {base : Nat} {w : World} {v : Value} {xs : List α} (h : OwnK K base w v xs) : RowK K w v xs := by
  have hh := h
  rcases hh.2 with ⟨hv, h0⟩ | ⟨g, cap, cur, hv, _, _, hnc, _⟩
  · exact .inl ⟨hv, List.length_eq_zero_iff.1 h0⟩
  · refine .inr ⟨g, 0, cap, hv, hnc, fun j x hx i u hu => ?_⟩
    have hcs := World.ownsRow.cells h (g := g) (by rw [hv]; rfl) _ _ (K.flat_at xs j x hx i u hu)
    have hadd : ∀ k, (⟨g, 0, none⟩ : Addr).add k = ⟨g, 0 + k, none⟩ := fun k => by unfold Addr.add; split <;> simp_all
    rw [hadd] at hcs
    rw [show 0 + j * K.S + i = 0 + (j * K.S + i) by omega]
    exact hcs
theorem OwnK.later {base : Nat} {w w' : World} {v : Value} {xs : List α} (h : OwnK K base w v xs) (hb : Below w.heap.size w w') : OwnK K base w' v xs := by
  obtain ⟨h1, h2⟩ := h
  refine ⟨h1, ?_⟩
  rcases h2 with h2 | ⟨g, cap, cur, hv, hg, hh, r⟩
  · exact .inl h2
  · exact .inr ⟨g, cap, cur, hv, hg, (hb.block g (lt_of_heap hh)).trans hh, r⟩
theorem OwnK.nil (base : Nat) (w : World) : OwnK K base w (.slice none 0 0) [] := World.ownsRow_nil _ _ _ _
theorem OwnK.empty {base : Nat} {w : World} {B : Nat} (h : w.heap[B]? = some (.cells #[] K.T (0, 0))) (hb : base ≤ B) : OwnK K base w (.slice (some ⟨B, 0, none⟩) 0 0) [] :=
  ⟨by simp, .inr ⟨B, 0, #[], rfl, hb, h, Nat.le_refl _, Nat.zero_le _, by simp, by simp⟩⟩
theorem OwnK.below {base : Nat} {w w' : World} {v : Value} {xs : List α} {w0 : World} (h : OwnK K base w v xs) (hg : w.grownBy w' v.ownBlock) (hb : Below w0.heap.size w0 w) (hb2 : w0.heap.size ≤ base) : Below w0.heap.size w0 w' :=
  below_grow hb hg (Nat.le_refl _) (fun k hk => Nat.le_trans hb2 (World.ownsRow.lt h k hk).1)
/-- append of a row to one of the call's own. -/
theorem run_append_K (w : World) (ty : TypeId) (base : Nat) (v : Value) (xs : List α) (h : OwnK K base w v xs) (x : Value) (ys : List α) (h2 : RowK K w x ys) (hlen : xs.length + ys.length ≤ 1000000) (hbase : base ≤ w.heap.size) :
    ∃ v' w', (Builtin.append_ #[K.sl, K.sl] ty #[v, x]).run Try.prog w = .ok v' w' ∧ OwnK K base w' v' (xs ++ ys) ∧ w.grownBy w' v.ownBlock ∧ (v'.ownBlock = v.ownBlock ∨ v'.ownBlock = some w.heap.size) := by
  obtain ⟨i0, hi, hz0, hz1, hz2⟩ := info_parts K.info
  rcases h2 with ⟨rfl, rfl⟩ | ⟨g, off, c, rfl, hc, hcs⟩
  · exact ⟨v, w, run_append_owned_none (P := Try.prog) (w := w) base K.sl ty K.T i0 K.S K.und hi v xs.length (xs.flatMap K.cells) h, by rw [List.append_nil]; exact h, grown_refl _ _, .inl rfl⟩
  · have hnews : ∀ j u, (ys.flatMap K.cells)[j]? = some u → w.cell? ((⟨g, off, none⟩ : Addr).add j) = some u := fun j u hu => by
      obtain ⟨y, hy, hyu⟩ := K.flat_back ys j u hu
      have h3 := hcs _ y hy _ u hyu
      have hadd : (⟨g, off, none⟩ : Addr).add j = ⟨g, off + j, none⟩ := by unfold Addr.add; split <;> simp_all
      rw [hadd]
      rw [show off + j / K.S * K.S + j % K.S = off + j by have := Nat.div_add_mod' j K.S; omega] at h3
      exact h3
    obtain ⟨v', w', hr, h3, h4, _, h5⟩ := run_append_own_at (P := Try.prog) w base K.sl ty K.T i0 K.z K.S K.B K.und hi hz0 hz1 hz2 K.zs K.pos v xs.length (xs.flatMap K.cells) h ⟨g, off, none⟩ ys.length c (ys.flatMap K.cells) (K.flat_len ys) hnews
      (fun u hu => by
        obtain ⟨y, _, hy⟩ := List.mem_flatMap.1 hu
        exact K.one y u hy) (by unfold maxLen; omega) (by
        have := K.hB
        calc (xs.length + ys.length) * K.B ≤ 1000000 * 1000 := Nat.mul_le_mul hlen this
          _ ≤ 140737488355328 := by decide) hbase
    refine ⟨v', w', hr, ?_, h4, h5⟩
    unfold OwnK
    rw [List.length_append, List.flatMap_append]
    exact h3
theorem step_append_K {ops : Array Oper} {o : Oper} {a : Act} {J : Act → World → Prop} {Q : Exit → Act → World → Prop} {E : Prop} (hgd : o.guard = none) (s y : Operand)
    (ho : o.op = .call { callee := .builtin .append, args := #[s, y], argTypes := #[K.sl, K.sl] }) {w : World} (base : Nat) (v : Value) (xs : List α) (hs : a.eval s = v) (hrow : OwnK K base w v xs)
    (x : Value) (ys : List α) (hx : a.eval y = x) (h2 : RowK K w x ys) (hlen : xs.length + ys.length ≤ 1000000) (hbase : base ≤ w.heap.size)
    (h : ∀ v' w', OwnK K base w' v' (xs ++ ys) → w.grownBy w' v.ownBlock → (v'.ownBlock = v.ownBlock ∨ v'.ownBlock = some w.heap.size) → J (a.put o.dst v') w') :
    if Region.wanted o (yielded ops a.tmps) = true then Oper.wp Try.prog o a w J Q else E := by
  have hw : Region.wanted o (yielded ops a.tmps) = true := by simp [Region.wanted, hgd]
  rw [if_pos hw]
  obtain ⟨v', w', hr, h2, h3, h4⟩ := run_append_K w o.type base v xs hrow x ys h2 hlen hbase
  unfold Oper.wp execOp
  simp only [ho, resolve, invoke, builtin, Sem.run_bind, Sem.run_pure, Result.andThen_ok, List.map_toArray, List.map_cons, List.map_nil, hs, hx, hr]
  exact h v' w' h2 h3 h4
theorem wpList_append_K {ops : Array Oper} {rest : List Oper} {o : Oper} {a : Act} {Q : Exit → Act → World → Prop} (hgd : o.guard = none) (s y : Operand)
    (ho : o.op = .call { callee := .builtin .append, args := #[s, y], argTypes := #[K.sl, K.sl] }) {w : World} (base : Nat) (v : Value) (xs : List α) (hs : a.eval s = v) (hrow : OwnK K base w v xs)
    (x : Value) (ys : List α) (hx : a.eval y = x) (h2 : RowK K w x ys) (hlen : xs.length + ys.length ≤ 1000000) (hbase : base ≤ w.heap.size)
    (h : ∀ v' w', OwnK K base w' v' (xs ++ ys) → w.grownBy w' v.ownBlock → (v'.ownBlock = v.ownBlock ∨ v'.ownBlock = some w.heap.size) → wpList Try.prog ops Q rest (a.put o.dst v') w') :
    wpList Try.prog ops Q (o :: rest) a w := by
  refine wpList_plain hgd fun _ hK => ?_
  obtain ⟨v', w', hr, h2, h3, h4⟩ := run_append_K w o.type base v xs hrow x ys h2 hlen hbase
  unfold Oper.wp execOp
  simp only [ho, resolve, invoke, builtin, Sem.run_bind, Sem.run_pure, Result.andThen_ok, List.map_toArray, List.map_cons, List.map_nil, hs, hx, hr]
  exact hK _ _ (h v' w' h2 h3 h4)
end
section
variable {α : Type} {K : KindK α}
theorem OwnK.mono {base base' : Nat} {w : World} {v : Value} {xs : List α} (h : OwnK K base w v xs) (hb : base' ≤ base) : OwnK K base' w v xs := by
  obtain ⟨h1, h2⟩ := h
  refine ⟨h1, ?_⟩
  rcases h2 with h2 | ⟨g, cap, cur, hv, hg, r⟩
  · exact .inl h2
  · exact .inr ⟨g, cap, cur, hv, Nat.le_trans hb hg, r⟩
theorem OwnK.lt {base : Nat} {w : World} {v : Value} {xs : List α} (h : OwnK K base w v xs) {k : Nat} (hk : v.ownBlock = some k) : base ≤ k ∧ k < w.heap.size := World.ownsRow.lt h k hk
/-- append of one element, as Go's text lays it: behind the new one's own block. -/
theorem wpList_append_one {ops : Array Oper} {rest : List Oper} {o : Oper} {a : Act} {Q : Exit → Act → World → Prop} (hgd : o.guard = none) (s y : Operand)
    (ho : o.op = .call { callee := .builtin .append, args := #[s, y], argTypes := #[K.sl, K.sl] }) {w : World} (base : Nat) (v : Value) (xs : List α) (hs : a.eval s = v) (hrow : OwnK K base w v xs)
    (x : α) (cs : Array Value) (T : TypeId) (hc : K.cells x = cs.toList) (hy : a.eval y = .slice (some ⟨w.heap.size, 0, none⟩) 1 1) (hlen : xs.length + 1 ≤ 1000000) (hbase : base ≤ w.heap.size)
    (h : ∀ v' w', OwnK K base w' v' (xs ++ [x]) → w.grownBy w' v.ownBlock → (v'.ownBlock = v.ownBlock ∨ v'.ownBlock = some (w.heap.size + 1)) → wpList Try.prog ops Q rest (a.put o.dst v') w') :
    wpList Try.prog ops Q (o :: rest) a (w.alloc (.cells cs T)) := by
  have hb : Below w.heap.size w (w.alloc (.cells cs T)) := (Below.refl _ _).alloc (Nat.le_refl _) _
  refine wpList_append_K hgd s y ho base v xs hs (hrow.later hb) _ [x] hy (RowK.one (heap_alloc_new w _) hc) (by simpa using hlen) (Nat.le_trans hbase hb.size) ?_
  intro v' w' h1 h2 h3
  refine h v' w' h1 (grown_trans (grown_of_below hb _) h2) ?_
  rw [World.size_alloc] at h3
  exact h3
theorem RowIs.grown {w w' : World} {X T : Nat} {l : List Value} (h : w.heap[X]? = some (.cells l.toArray T (0, 0))) {row : Option Nat} (hg : w.grownBy w' row) (hne : some X ≠ row) : w'.heap[X]? = some (.cells l.toArray T (0, 0)) := (hg.block X (lt_of_heap h) hne).trans h
end
/-- The cells l lie in the block X. -/
def RowIs (w : World) (X : Nat) (T : TypeId) (l : List Value) : Prop := w.heap[X]? = some (.cells l.toArray T (0, 0))
section
variable {w w' : World} {X T : Nat} {l : List Value}
theorem RowIs.later (h : RowIs w X T l) (hb : Below w.heap.size w w') : RowIs w' X T l := (hb.block _ (lt_of_heap h)).trans h
theorem RowIs.kept (h : RowIs w X T l) (hk : w'.heap[X]? = w.heap[X]?) : RowIs w' X T l := hk.trans h
theorem RowIs.free (h : RowIs w X T l) (i : Nat) : w.frozen? ⟨X, i, none⟩ = false := frozen_of_heap h i
theorem RowIs.lt (h : RowIs w X T l) : X < w.heap.size := lt_of_heap h
theorem RowIs.cell (h : RowIs w X T l) {i : Nat} {v : Value} (hv : l[i]? = some v) : w.cell? ⟨X, i, none⟩ = some v := (cell_of_heap h i).trans (by simpa using hv)
theorem RowIs.set (h : RowIs w X T l) (i : Nat) (v : Value) : RowIs (w.setCell ⟨X, i, none⟩ v) X T (l.set i v) := by
  have := heap_setCell_same h i v
  refine this.trans (congrArg (fun A => some (Obj.cells A T (0, 0))) ?_)
  simp
theorem RowIs.other_set (h : RowIs w X T l) {Y : Nat} (hne : Y ≠ X) (i : Nat) (v : Value) : RowIs (w.setCell ⟨Y, i, none⟩ v) X T l := (Below.heap_setCell w ⟨Y, i, none⟩ v X (Ne.symm hne)).trans h
end
theorem new_row (w : World) (T : TypeId) (l : List Value) : RowIs (w.alloc (.cells l.toArray T)) w.heap.size T l := heap_alloc_new w _
end Go.Proofs.Yteiddebjbiadbaa
