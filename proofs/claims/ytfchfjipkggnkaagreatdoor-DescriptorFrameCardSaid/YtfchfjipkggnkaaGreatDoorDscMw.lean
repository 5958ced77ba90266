/- Law 31: the model in memory; all, get, free. (printed by wip/gen_dscmo.py) Law 31: the model's do: words shared by its kinds. (printed by wip/gen_dscmd.py) -/
import Derived.Test.YtfchfjipkggnkaaGreatDoorDscT
import Derived.Test.YtfchfjipkggnkaaGreatDoorDscO
import Derived.Test.YtfchfjipkggnkaaGreatDoorDscRs
import Derived.Deep.DeepCutAuto
namespace Go.Proofs.YtfchfjipkggnkaaGreatDoor
open Go.RowKit
attribute [local go_sem ↓] run_eql_opn run_neq_opn

def tabsC (l : List (List OpnT)) : List Value := l.flatMap tabC
def modC (m : ModD) : List Value := tabsC m.tabs ++ m.there.map Value.bool
structure ModOk (m : ModD) : Prop where
  lt : m.tabs.length = 4
  lh : m.there.length = 4
  len : ∀ t ∈ m.tabs, t.length = 16
def ModAt (w : World) (X : Nat) (m : ModD) : Prop := RowIs w X 45 (modC m) ∧ ModOk m
theorem tabsC_len : ∀ {l : List (List OpnT)}, (∀ t ∈ l, t.length = 16) → (tabsC l).length = l.length * 128
  | [], _ => rfl
  | t :: r, h => by
    have ih := tabsC_len (l := r) (fun x hx => h x (List.mem_cons_of_mem _ hx))
    have ht := tabC_128 (h t (by simp))
    simp only [tabsC, List.flatMap_cons, List.length_append] at ih ⊢
    rw [ih, ht]
    simp
    omega
theorem tabsC_split : ∀ {l : List (List OpnT)} {k : Nat} {t : List OpnT}, l[k]? = some t → tabsC l = tabsC (l.take k) ++ tabC t ++ tabsC (l.drop (k + 1))
  | [], _, _, h => by simp at h
  | x :: r, 0, t, h => by
    obtain rfl : x = t := by simpa using h
    simp [tabsC]
  | x :: r, k + 1, t, h => by
    have ih := tabsC_split (l := r) (k := k) (t := t) (by simpa using h)
    simp only [tabsC, List.flatMap_cons, List.take_succ_cons, List.drop_succ_cons] at ih ⊢
    rw [ih]
    simp
theorem tabsC_set {l : List (List OpnT)} {k : Nat} (hk : k < l.length) (t : List OpnT) : tabsC (l.set k t) = tabsC (l.take k) ++ tabC t ++ tabsC (l.drop (k + 1)) := by
  rw [tabsC_split (l := l.set k t) (k := k) (t := t) (by rw [List.getElem?_set]; simp [hk])]
  rw [List.take_set_of_le (Nat.le_refl _), List.drop_set_of_lt (by omega)]
section
variable {w w' : World} {X : Nat} {m : ModD}
theorem ModOk.tab (h : ModOk m) {k : Nat} (hk : k < 4) : m.tabs[k]? = some (mTab m k) := by
  unfold mTab
  rw [List.getD_eq_getElem?_getD, List.getElem?_eq_getElem (by rw [h.lt]; exact hk)]
  rfl
theorem ModOk.tl (h : ModOk m) (k : Nat) : (mTab m k).length = 16 := mTab_len h.len k
theorem ModOk.pre (h : ModOk m) {k : Nat} (hk : k < 4) : (tabsC (m.tabs.take k)).length = k * 128 := by
  rw [tabsC_len (fun t ht => h.len t (List.mem_of_mem_take ht)), List.length_take, h.lt]
  rw [show min k 4 = k by omega]
theorem ModOk.all (h : ModOk m) : (tabsC m.tabs).length = 512 := by rw [tabsC_len h.len, h.lt]
theorem ModAt.later (h : ModAt w X m) (hb : Below w.heap.size w w') : ModAt w' X m := ⟨h.1.later hb, h.2⟩
theorem ModAt.kept (h : ModAt w X m) (hk : w'.heap[X]? = w.heap[X]?) : ModAt w' X m := ⟨h.1.kept hk, h.2⟩
theorem ModAt.free (h : ModAt w X m) (i : Nat) : w.frozen? ⟨X, i, none⟩ = false := h.1.free i
theorem ModAt.there (h : ModAt w X m) {k : Nat} (hk : k < 4) : w.cell? ⟨X, 512 + k, none⟩ = some (.bool (mThere m k)) := by
  refine h.1.cell ?_
  unfold modC
  rw [List.getElem?_append_right (by rw [h.2.all]; omega), h.2.all, show 512 + k - 512 = k by omega, List.getElem?_map]
  unfold mThere
  rw [List.getD_eq_getElem?_getD, List.getElem?_eq_getElem (by rw [h.2.lh]; exact hk)]
  rfl
theorem modC_split (h : ModOk m) {k : Nat} (hk : k < 4) : modC m = tabsC (m.tabs.take k) ++ tabC (mTab m k) ++ (tabsC (m.tabs.drop (k + 1)) ++ m.there.map Value.bool) := by
  unfold modC
  rw [tabsC_split (h.tab hk)]
  simp
theorem ModAt.ent (h : ModAt w X m) {k i : Nat} (hk : k < 4) {x : OpnT} (hx : (mTab m k)[i]? = some x) {j : Nat} {u : Value} (hu : (opnCells x)[j]? = some u) : w.cell? ⟨X, k * 128 + i * 8 + j, none⟩ = some u := by
  refine h.1.cell ?_
  have hi : i < 16 := by have := (List.getElem?_eq_some_iff.1 hx).1; rw [h.2.tl] at this; exact this
  have hj : j < 8 := (List.getElem?_eq_some_iff.1 hu).1
  have hp := h.2.pre hk
  have ht := tabC_128 (h.2.tl k)
  rw [modC_split h.2 hk, List.append_assoc, List.getElem?_append_right (by rw [hp]; omega), hp, List.getElem?_append_left (by rw [ht]; omega), show k * 128 + i * 8 + j - k * 128 = i * 8 + j by omega]
  exact tabC_at hx hu
theorem ModAt.range (h : ModAt w X m) {k : Nat} (hk : k < 4) : w.rangeAt X (k * 128) (tabC (mTab m k)) := by
  refine h.1.range ?_
  rw [modC_split h.2 hk, List.append_assoc, ← h.2.pre hk, List.drop_left, List.take_left]
theorem wp_load_mtab {op : Oper} {a : Act} {w : World} {K : Act → World → Prop} {Q : Exit → Act → World → Prop} (x : Operand) (ho : op.op = .load 36 x) (X k : Nat) (hx : a.eval x = .pointer (some ⟨X, k * 128, none⟩)) {m : ModD} (h : ModAt w X m) (hk : k < 4)
    (hK : K (a.put op.dst (.agg (tabA (mTab m k)))) w) : op.wp Tryz.prog a w K Q :=
  wp_load_mid 36 x ho X (k * 128) hx (tabC (mTab m k)) _ (h.range hk) Tryz.underlying36 rfl (by rw [tabC_128 (h.2.tl k)]; exact infoTab) hK
theorem run_load_mtab {w : World} {X k : Nat} {m : ModD} (h : ModAt w X m) (hk : k < 4) : (Instr.loadAt 36 (.pointer (some ⟨X, k * 128, none⟩))).run Tryz.prog w = .ok (.agg (tabA (mTab m k))) w :=
  run_loadAt_mid w X (k * 128) 36 (tabC (mTab m k)) _ (h.range hk) Tryz.underlying36 rfl (by rw [tabC_128 (h.2.tl k)]; exact infoTab)
theorem ModAt.setThere (h : ModAt w X m) (k : Nat) (v : Bool) : ModAt (w.setCell ⟨X, 512 + k, none⟩ (.bool v)) X ⟨m.tabs, m.there.set k v⟩ := by
  refine ⟨?_, ⟨h.2.lt, by simp [h.2.lh], h.2.len⟩⟩
  have := h.1.set (512 + k) (.bool v)
  unfold modC at this
  rw [set_right _ _ h.2.all k] at this
  unfold modC
  rw [List.map_set]
  exact this
theorem tab_mod (h : ModOk m) {k : Nat} (hk : k < 4) (t : List OpnT) (ht : t.length = 16) : ModOk ⟨m.tabs.set k t, m.there⟩ ∧ modC ⟨m.tabs.set k t, m.there⟩ = tabsC (m.tabs.take k) ++ tabC t ++ (tabsC (m.tabs.drop (k + 1)) ++ m.there.map Value.bool) := by
  refine ⟨⟨by simp [h.lt], h.lh, fun x hx => ?_⟩, ?_⟩
  · rcases List.mem_or_eq_of_mem_set hx with hx | rfl
    · exact h.len x hx
    · exact ht
  · unfold modC
    dsimp only
    rw [tabsC_set (by rw [h.lt]; exact hk)]
    simp
/-- A whole table is stored. -/
theorem ModAt.storeTab (h : ModAt w X m) {k : Nat} (hk : k < 4) {t : List OpnT} (ht : t.length = 16) :
    (storeCells ⟨X, k * 128, none⟩ (tabA t).toList).run Tryz.prog w = .ok () (w.setRow X (modC ⟨m.tabs.set k t, m.there⟩).toArray) ∧ ModAt (w.setRow X (modC ⟨m.tabs.set k t, m.there⟩).toArray) X ⟨m.tabs.set k t, m.there⟩ := by
  obtain ⟨h1, h2⟩ := tab_mod h.2 hk t ht
  refine ⟨?_, h.1.setRow _, h1⟩
  have e : (tabA t).toList = tabC t := by simp [tabA]
  have hs := modC_split h.2 hk
  have hp := h.2.pre hk
  have hl : (modC m).length = 516 := by unfold modC; rw [List.length_append, h.2.all]; simp [h.2.lh]
  have := h.1.store Tryz.prog (o := k * 128) (cs := tabC t) (by rw [tabC_128 ht, hl]; omega) (tabC_one t)
  rw [e, this]
  have e2 : spl (modC m) (k * 128) (tabC t) = modC ⟨m.tabs.set k t, m.there⟩ := by
    rw [h2, hs, ← hp]
    exact spl_app _ _ _ _ (by rw [tabC_128 ht, tabC_128 (h.2.tl k)])
  rw [e2]
theorem set_mid (a c d : List Value) {n : Nat} (h : a.length = n) {j : Nat} (hj : j < c.length) (v : Value) : (a ++ c ++ d).set (n + j) v = a ++ c.set j v ++ d := by
  rw [List.append_assoc, List.set_append_right _ _ (by omega), show n + j - a.length = j by omega, List.set_append_left _ _ hj, List.append_assoc]
theorem ModAt.setEnt1 {w : World} {l : List Value} {a d : List Value} {T : List Value} {X n j : Nat} (h : RowIs w X 45 l) (e : l = a ++ T ++ d) (ha : a.length = n) (hj : j < T.length) (v : Value) : RowIs (w.setCell ⟨X, n + j, none⟩ v) X 45 (a ++ T.set j v ++ d) := by
  have := h.set (n + j) v
  rw [e, set_mid a T d ha hj v] at this
  exact this
/-- An entry is stored, cell by cell. -/
theorem ModAt.setEnt (h : ModAt w X m) {k i : Nat} (hk : k < 4) (hi : i < 16) (o : OpnT) :
    ModAt ((((((((w.setCell ⟨X, k * 128 + i * 8, none⟩ (.int .i64 o.kd)).setCell ⟨X, k * 128 + i * 8 + 1, none⟩ (.string o.mak)).setCell ⟨X, k * 128 + i * 8 + 2, none⟩ (.int .i64 o.bn)).setCell ⟨X, k * 128 + i * 8 + 3, none⟩ (.int .i64 o.num)).setCell ⟨X, k * 128 + i * 8 + 4, none⟩ (.int .i64 o.off)).setCell ⟨X, k * 128 + i * 8 + 5, none⟩ (.bool o.rd)).setCell ⟨X, k * 128 + i * 8 + 6, none⟩ (.bool o.wr)).setCell ⟨X, k * 128 + i * 8 + 7, none⟩ (.bool o.ap)) X ⟨m.tabs.set k ((mTab m k).set i o), m.there⟩ := by
  have hp := h.2.pre hk
  have ht := tabC_128 (h.2.tl k)
  obtain ⟨g1, g2⟩ := tab_mod h.2 hk ((mTab m k).set i o) (by simp [h.2.tl k])
  refine ⟨?_, g1⟩
  have e0 := modC_split h.2 hk
  have s1 := ModAt.setEnt1 (n := k * 128) (j := i * 8) h.1 e0 hp (by (try simp only [List.length_set]); rw [ht]; omega) (.int .i64 o.kd)
  have s2 := ModAt.setEnt1 (n := k * 128) (j := i * 8 + 1) s1 rfl hp (by (try simp only [List.length_set]); rw [ht]; omega) (.string o.mak)
  rw [← Nat.add_assoc] at s2
  have s3 := ModAt.setEnt1 (n := k * 128) (j := i * 8 + 2) s2 rfl hp (by (try simp only [List.length_set]); rw [ht]; omega) (.int .i64 o.bn)
  rw [← Nat.add_assoc] at s3
  have s4 := ModAt.setEnt1 (n := k * 128) (j := i * 8 + 3) s3 rfl hp (by (try simp only [List.length_set]); rw [ht]; omega) (.int .i64 o.num)
  rw [← Nat.add_assoc] at s4
  have s5 := ModAt.setEnt1 (n := k * 128) (j := i * 8 + 4) s4 rfl hp (by (try simp only [List.length_set]); rw [ht]; omega) (.int .i64 o.off)
  rw [← Nat.add_assoc] at s5
  have s6 := ModAt.setEnt1 (n := k * 128) (j := i * 8 + 5) s5 rfl hp (by (try simp only [List.length_set]); rw [ht]; omega) (.bool o.rd)
  rw [← Nat.add_assoc] at s6
  have s7 := ModAt.setEnt1 (n := k * 128) (j := i * 8 + 6) s6 rfl hp (by (try simp only [List.length_set]); rw [ht]; omega) (.bool o.wr)
  rw [← Nat.add_assoc] at s7
  have s8 := ModAt.setEnt1 (n := k * 128) (j := i * 8 + 7) s7 rfl hp (by (try simp only [List.length_set]); rw [ht]; omega) (.bool o.ap)
  rw [← Nat.add_assoc] at s8
  rw [g2]
  have eT : tabC ((mTab m k).set i o) = ((((((((tabC (mTab m k)).set (i * 8) (.int .i64 o.kd)).set (i * 8 + 1) (.string o.mak)).set (i * 8 + 2) (.int .i64 o.bn)).set (i * 8 + 3) (.int .i64 o.num)).set (i * 8 + 4) (.int .i64 o.off)).set (i * 8 + 5) (.bool o.rd)).set (i * 8 + 6) (.bool o.wr)).set (i * 8 + 7) (.bool o.ap) := by
    apply List.ext_getElem?
    intro q
    rw [tabC_set (by rw [h.2.tl k]; exact hi)]
    simp only [List.getElem?_set, List.length_set, ht]
    by_cases hq : i * 8 ≤ q ∧ q < i * 8 + 8
    · rw [if_pos hq]
      obtain ⟨c, rfl⟩ : ∃ c, q = i * 8 + c := ⟨q - i * 8, by omega⟩
      have hc : c < 8 := by omega
      rw [show i * 8 + c - i * 8 = c by omega]
      rcases (by omega : c = 0 ∨ c = 1 ∨ c = 2 ∨ c = 3 ∨ c = 4 ∨ c = 5 ∨ c = 6 ∨ c = 7) with rfl | rfl | rfl | rfl | rfl | rfl | rfl | rfl
      all_goals
        repeat (first | rw [if_neg (by omega)] | rw [if_pos (by omega), if_pos (by omega)])
        try rfl
    · rw [if_neg hq]
      repeat rw [if_neg (by omega)]
  rw [eT]
  exact s8
theorem tabC_off {t : List OpnT} {i : Nat} {x : OpnT} (hx : t[i]? = some x) (q : Int) : tabC (t.set i (atO x q)) = (tabC t).set (i * 8 + 4) (.int .i64 q) := by
  have hi : i < t.length := (List.getElem?_eq_some_iff.1 hx).1
  have hl := tabC_len t
  apply List.ext_getElem?
  intro p
  rw [tabC_set hi, List.getElem?_set]
  by_cases hp : i * 8 ≤ p ∧ p < i * 8 + 8
  · rw [if_pos hp]
    obtain ⟨c, rfl⟩ : ∃ c, p = i * 8 + c := ⟨p - i * 8, by omega⟩
    have hc : c < 8 := by omega
    rw [show i * 8 + c - i * 8 = c by omega]
    by_cases h4 : c = 4
    · subst h4
      rw [if_pos rfl, if_pos (by omega)]
      rfl
    · rw [if_neg (by omega)]
      obtain ⟨u, hu⟩ : ∃ u, (opnCells x)[c]? = some u := ⟨_, List.getElem?_eq_getElem hc⟩
      rw [tabC_at hx hu, ← hu]
      rcases (by omega : c = 0 ∨ c = 1 ∨ c = 2 ∨ c = 3 ∨ c = 5 ∨ c = 6 ∨ c = 7) with rfl | rfl | rfl | rfl | rfl | rfl | rfl <;> rfl
  · rw [if_neg hp, if_neg (by omega)]
theorem ModAt.setOff (h : ModAt w X m) {k i : Nat} (hk : k < 4) {x : OpnT} (hx : (mTab m k)[i]? = some x) (q : Int) : ModAt (w.setCell ⟨X, k * 128 + i * 8 + 4, none⟩ (.int .i64 q)) X ⟨m.tabs.set k ((mTab m k).set i (atO x q)), m.there⟩ := by
  have hi : i < 16 := by have := (List.getElem?_eq_some_iff.1 hx).1; rw [h.2.tl] at this; exact this
  obtain ⟨g1, g2⟩ := tab_mod h.2 hk ((mTab m k).set i (atO x q)) (by simp [h.2.tl k])
  refine ⟨?_, g1⟩
  have s1 := ModAt.setEnt1 (n := k * 128) (j := i * 8 + 4) h.1 (modC_split h.2 hk) (h.2.pre hk) (by rw [tabC_128 (h.2.tl k)]; omega) (.int .i64 q)
  rw [← Nat.add_assoc] at s1
  rw [g2, tabC_off hx]
  exact s1
end
/-! ### all, get, free -/
section
variable {w : World} {X : Nat} {m : ModD}
theorem mAll_any (h : ModAt w X m) {k : Nat} (hk : k < 4) : Calls Tryz.prog 44 #[.pointer (some ⟨X, 0, none⟩), .int .i64 k] w fun r w' => r = .returned (.int .i64 (mAll m k)) ∧ w = w' := by
  have c := h.there hk
  have k0 : (0 : Int) ≤ (k : Int) := by omega
  have k1 : (k : Int) < 4 := by omega
  by_cases h3 : k = 3
  · subst h3
    have e : Hid (mAll m 3 = 12) := if_pos rfl
    clear h c
    go_enter Tryz.func44, Tryz.ntmps44
    go_wp2
    go_ret
    exact ⟨by rw [e.out]; rfl, rfl⟩
  · have e : Hid (mAll m k = if mThere m k = false then 8 else 0) := if_neg h3
    have h3' : ((k : Int) == 3) = false := beq_eq_false_iff_ne.2 (by omega)
    clear h h3
    cases hb : mThere m k with
    | false =>
      rw [hb] at c
      have e2 := Lib.hid (e.out.trans (if_pos hb))
      clear e hb
      go_enter Tryz.func44, Tryz.ntmps44
      go_wp2
      go_ret
      exact ⟨by rw [e2.out]; rfl, rfl⟩
    | true =>
      rw [hb] at c
      have e2 := Lib.hid (e.out.trans (if_neg (by rw [hb]; decide)))
      clear e hb
      go_enter Tryz.func44, Tryz.ntmps44
      go_wp2
      go_ret
      exact ⟨by rw [e2.out]; rfl, rfl⟩
/-- The error of a descriptor. -/
def mGetE (m : ModD) (k : Nat) (fd : Int) : Nat := if mAll m k ≠ 0 then mAll m k else if badD (mTab m k) fd = true then 21 else 0
theorem mGet_any (h : ModAt w X m) {k : Nat} (hk4 : k < 4) (fd : Int) : Calls Tryz.prog 45 #[.pointer (some ⟨X, 0, none⟩), .int .i64 k, .int .i64 fd] w fun r w' => r = .returned (.int .i64 (mGetE m k fd)) ∧ w = w' := by
  have H := Lib.hid h
  have E : Hid (mGetE m k fd = if mAll m k ≠ 0 then mAll m k else if badD (mTab m k) fd = true then 21 else 0) := rfl
  obtain ⟨q, hq⟩ : ∃ q, mAll m k = q := ⟨_, rfl⟩
  have HA : Hid (∀ W, ModAt W X m → Calls Tryz.prog 44 #[.pointer (some ⟨X, 0, none⟩), .int .i64 k] W fun r w' => r = .returned (.int .i64 q) ∧ W = w') := fun W hW => by
    have := mAll_any hW hk4
    rw [hq] at this
    exact this
  rw [hq] at E
  clear hq h
  by_cases h0 : q = 0
  · subst h0
    have E1 := Lib.hid (E.out.trans (if_neg (by simp)))
    clear E
    cases hb : badD (mTab m k) fd with
    | true =>
      have E2 := Lib.hid (E1.out.trans (if_pos hb))
      clear E1
      by_cases f0 : fd < 0
      · clear hb
        go_enter Tryz.func45, Tryz.ntmps45
        go_wp2_with fail
        refine (HA.out _ H.out).mono ?_
        rintro r w2 ⟨rfl, rfl⟩
        go_wp2
        go_ret
        exact ⟨by rw [E2.out]; rfl, rfl⟩
      by_cases f1 : (16 : Int) ≤ fd
      · clear hb
        go_enter Tryz.func45, Tryz.ntmps45
        go_wp2_with fail
        refine (HA.out _ H.out).mono ?_
        rintro r w2 ⟨rfl, rfl⟩
        go_wp2
        go_ret
        exact ⟨by rw [E2.out]; rfl, rfl⟩
      obtain ⟨n, rfl⟩ := Int.eq_ofNat_of_zero_le (show 0 ≤ fd by omega)
      obtain ⟨x, hx⟩ := ent_some (H.out.2.tl k) (show n < 16 by omega)
      have hz : isZ x = true := by
        unfold badD at hb
        rw [decide_eq_false f0, decide_eq_false f1, show entD (mTab m k) (n : Int) = x by unfold entD; rw [List.getD_eq_getElem?_getD, show ((n : Nat) : Int).toNat = n from rfl, hx]; rfl] at hb
        exact hb
      obtain ⟨kd, mak, bn, num, off, rd, wr, ap⟩ := x
      have hz2 : sameO ⟨kd, mak, bn, num, off, rd, wr, ap⟩ ⟨0, ⟨#[]⟩, 0, 0, 0, false, false, false⟩ = true := hz
      have z0 : w.cell? ⟨X, k * 128 + n * 8, none⟩ = some (.int .i64 kd) := H.out.ent hk4 hx (j := 0) rfl
      have z1 : w.cell? ⟨X, k * 128 + n * 8 + 1, none⟩ = some (.string mak) := H.out.ent hk4 hx (j := 1) rfl
      have z2 : w.cell? ⟨X, k * 128 + n * 8 + 2, none⟩ = some (.int .i64 bn) := H.out.ent hk4 hx (j := 2) rfl
      have z3 : w.cell? ⟨X, k * 128 + n * 8 + 3, none⟩ = some (.int .i64 num) := H.out.ent hk4 hx (j := 3) rfl
      have z4 : w.cell? ⟨X, k * 128 + n * 8 + 4, none⟩ = some (.int .i64 off) := H.out.ent hk4 hx (j := 4) rfl
      have z5 : w.cell? ⟨X, k * 128 + n * 8 + 5, none⟩ = some (.bool rd) := H.out.ent hk4 hx (j := 5) rfl
      have z6 : w.cell? ⟨X, k * 128 + n * 8 + 6, none⟩ = some (.bool wr) := H.out.ent hk4 hx (j := 6) rfl
      have z7 : w.cell? ⟨X, k * 128 + n * 8 + 7, none⟩ = some (.bool ap) := H.out.ent hk4 hx (j := 7) rfl
      have i0 : (0 : Int) ≤ (n : Int) := by omega
      have i1 : ((n : Nat) : Int) < 16 := by omega
      have k0 : (0 : Int) ≤ (k : Int) := by omega
      have k1 : (k : Int) < 4 := by omega
      clear hx hb hz f0 f1
      go_enter Tryz.func45, Tryz.ntmps45
      go_wp2_with fail
      refine (HA.out _ H.out).mono ?_
      rintro r w2 ⟨rfl, rfl⟩
      go_wp2
      go_ret
      exact ⟨by rw [E2.out]; rfl, rfl⟩
    | false =>
      have E2 := Lib.hid (E1.out.trans (if_neg (by rw [hb]; decide)))
      clear E1
      obtain ⟨f0, f1, hz⟩ := badD_no hb
      obtain ⟨n, rfl⟩ := Int.eq_ofNat_of_zero_le (show 0 ≤ fd by omega)
      obtain ⟨x, hx⟩ := ent_some (H.out.2.tl k) (show n < 16 by omega)
      rw [show entD (mTab m k) (n : Int) = x by unfold entD; rw [List.getD_eq_getElem?_getD, show ((n : Nat) : Int).toNat = n from rfl, hx]; rfl] at hz
      obtain ⟨kd, mak, bn, num, off, rd, wr, ap⟩ := x
      have hz2 : sameO ⟨kd, mak, bn, num, off, rd, wr, ap⟩ ⟨0, ⟨#[]⟩, 0, 0, 0, false, false, false⟩ = false := hz
      have z0 : w.cell? ⟨X, k * 128 + n * 8, none⟩ = some (.int .i64 kd) := H.out.ent hk4 hx (j := 0) rfl
      have z1 : w.cell? ⟨X, k * 128 + n * 8 + 1, none⟩ = some (.string mak) := H.out.ent hk4 hx (j := 1) rfl
      have z2 : w.cell? ⟨X, k * 128 + n * 8 + 2, none⟩ = some (.int .i64 bn) := H.out.ent hk4 hx (j := 2) rfl
      have z3 : w.cell? ⟨X, k * 128 + n * 8 + 3, none⟩ = some (.int .i64 num) := H.out.ent hk4 hx (j := 3) rfl
      have z4 : w.cell? ⟨X, k * 128 + n * 8 + 4, none⟩ = some (.int .i64 off) := H.out.ent hk4 hx (j := 4) rfl
      have z5 : w.cell? ⟨X, k * 128 + n * 8 + 5, none⟩ = some (.bool rd) := H.out.ent hk4 hx (j := 5) rfl
      have z6 : w.cell? ⟨X, k * 128 + n * 8 + 6, none⟩ = some (.bool wr) := H.out.ent hk4 hx (j := 6) rfl
      have z7 : w.cell? ⟨X, k * 128 + n * 8 + 7, none⟩ = some (.bool ap) := H.out.ent hk4 hx (j := 7) rfl
      have i0 : (0 : Int) ≤ (n : Int) := by omega
      have i1 : ((n : Nat) : Int) < 16 := by omega
      have k0 : (0 : Int) ≤ (k : Int) := by omega
      have k1 : (k : Int) < 4 := by omega
      clear hx hb hz f0 f1
      go_enter Tryz.func45, Tryz.ntmps45
      go_wp2_with fail
      refine (HA.out _ H.out).mono ?_
      rintro r w2 ⟨rfl, rfl⟩
      go_wp2
      go_ret
      exact ⟨by rw [E2.out]; rfl, rfl⟩
  · have E1 := Lib.hid (E.out.trans (if_pos h0))
    have hq' : ((q : Int) != 0) = true := bne_iff_ne.2 (by omega)
    clear E h0
    go_enter Tryz.func45, Tryz.ntmps45
    go_wp2_with fail
    refine (HA.out _ H.out).mono ?_
    rintro r w2 ⟨rfl, rfl⟩
    go_wp2
    go_ret
    exact ⟨by rw [E1.out]; rfl, rfl⟩
theorem mFree_any (h : ModAt w X m) {k : Nat} (hk4 : k < 4) : Calls Tryz.prog 47 #[.pointer (some ⟨X, 0, none⟩), .int .i64 k] w fun r w' => r = .returned (.int .i64 (freeI (mTab m k))) ∧ w = w' := by
  have H := Lib.hid h
  have Hl := Lib.hid (h.2.tl k)
  clear h
  have k0 : (0 : Int) ≤ (k : Int) := by omega
  have k1 : (k : Int) < 4 := by omega
  go_enter Tryz.func47, Tryz.ntmps47
  go_wp2
  go_loop [5] (fun iv => ∃ i : Nat, i ≤ 16 ∧ iv = .int .i64 i ∧ Hid (freeO (mTab m k) 0 = freeO ((mTab m k).drop i) i)) (fun iv => 16 - (intOf iv).toNat)
  case atStart => exact ⟨0, by omega, rfl, rfl⟩
  case round =>
    obtain ⟨n, hn, rfl, HF⟩ := hrel
    by_cases hlt : n < 16
    · obtain ⟨x, hx⟩ := ent_some Hl.out hlt
      have hstep := free_step hx
      obtain ⟨kd, mak, bn, num, off, rd, wr, ap⟩ := x
      have z0 : w.cell? ⟨X, k * 128 + n * 8, none⟩ = some (.int .i64 kd) := H.out.ent hk4 hx (j := 0) rfl
      have z1 : w.cell? ⟨X, k * 128 + n * 8 + 1, none⟩ = some (.string mak) := H.out.ent hk4 hx (j := 1) rfl
      have z2 : w.cell? ⟨X, k * 128 + n * 8 + 2, none⟩ = some (.int .i64 bn) := H.out.ent hk4 hx (j := 2) rfl
      have z3 : w.cell? ⟨X, k * 128 + n * 8 + 3, none⟩ = some (.int .i64 num) := H.out.ent hk4 hx (j := 3) rfl
      have z4 : w.cell? ⟨X, k * 128 + n * 8 + 4, none⟩ = some (.int .i64 off) := H.out.ent hk4 hx (j := 4) rfl
      have z5 : w.cell? ⟨X, k * 128 + n * 8 + 5, none⟩ = some (.bool rd) := H.out.ent hk4 hx (j := 5) rfl
      have z6 : w.cell? ⟨X, k * 128 + n * 8 + 6, none⟩ = some (.bool wr) := H.out.ent hk4 hx (j := 6) rfl
      have z7 : w.cell? ⟨X, k * 128 + n * 8 + 7, none⟩ = some (.bool ap) := H.out.ent hk4 hx (j := 7) rfl
      have i0 : (0 : Int) ≤ (n : Int) := by omega
      have i1 : ((n : Nat) : Int) < 16 := by omega
      cases hz : isZ ⟨kd, mak, bn, num, off, rd, wr, ap⟩ with
      | true =>
        have hz2 : sameO ⟨kd, mak, bn, num, off, rd, wr, ap⟩ ⟨0, ⟨#[]⟩, 0, 0, 0, false, false, false⟩ = true := hz
        have HS : Hid (freeO (mTab m k) 0 = some n) := HF.out.trans (hstep.trans (if_pos hz))
        clear hx hstep hz HF
        go_wp2
        go_ret
        exact ⟨by rw [freeI_some HS.out]; rfl, rfl⟩
      | false =>
        have hz2 : sameO ⟨kd, mak, bn, num, off, rd, wr, ap⟩ ⟨0, ⟨#[]⟩, 0, 0, 0, false, false, false⟩ = false := hz
        have HS : Hid (freeO (mTab m k) 0 = freeO ((mTab m k).drop (n + 1)) (n + 1)) := HF.out.trans (hstep.trans (if_neg (by rw [hz]; decide)))
        clear hx hstep hz HF
        go_wp2
        go_round
        case rel => exact ⟨n + 1, by omega, by go_num, HS.out⟩
        case measure => simp [intOf]; omega
    · obtain rfl : n = 16 := by omega
      have HS : Hid (freeO (mTab m k) 0 = none) := HF.out.trans (free_end Hl.out)
      clear HF
      go_wp2
      go_ret
      exact ⟨by rw [freeI_none HS.out]; rfl, rfl⟩
end
end Go.Proofs.YtfchfjipkggnkaaGreatDoor

namespace Go.Proofs.YtfchfjipkggnkaaGreatDoor
open Go.RowKit

/-- What do leaves. -/
def DoPost (w : World) (X : Nat) (y : ModD × ResD × Bool) (r : Ending) (w' : World) : Prop :=
  r = .returned (.tuple #[resDV y.2.1, .bool y.2.2]) ∧ ModAt w' X y.1 ∧ Kept (fun k => k = X) w w'
theorem bld_E (q : Nat) : Tryz.zeroCells52.setIfInBounds 137 (.int .i64 (q : Int)) = (resC (errD q)).toArray := by
  rw [zero_res]
  have := set_right (tabC (errD 0).T) (opnCells (errD 0).O ++ [.int .i64 (errD 0).N, .int .i64 (errD 0).E]) (tabC_128 zeroTab_len) 9 (.int .i64 (q : Int))
  simp only [List.setIfInBounds_toArray]
  exact congrArg List.toArray this
theorem bld_N (q : Nat) : Tryz.zeroCells52.setIfInBounds 136 (.int .i64 (q : Int)) = (resC ⟨zeroTab, zeroO, (q : Int), 0⟩).toArray := by
  rw [zero_res]
  have := set_right (tabC (errD 0).T) (opnCells (errD 0).O ++ [.int .i64 (errD 0).N, .int .i64 (errD 0).E]) (tabC_128 zeroTab_len) 8 (.int .i64 (q : Int))
  simp only [List.setIfInBounds_toArray]
  exact congrArg List.toArray this
theorem bld_12 : Tryz.zeroCells52.setIfInBounds 137 (.int .i64 12) = (resC (errD 12)).toArray := bld_E 12
theorem bld_13 : Tryz.zeroCells52.setIfInBounds 137 (.int .i64 13) = (resC (errD 13)).toArray := bld_E 13
theorem bld_9 : Tryz.zeroCells52.setIfInBounds 137 (.int .i64 9) = (resC (errD 9)).toArray := bld_E 9
theorem bld_21 : Tryz.zeroCells52.setIfInBounds 137 (.int .i64 21) = (resC (errD 21)).toArray := bld_E 21
theorem bld_11 : Tryz.zeroCells52.setIfInBounds 137 (.int .i64 11) = (resC (errD 11)).toArray := bld_E 11
theorem bld_2 : Tryz.zeroCells52.setIfInBounds 137 (.int .i64 2) = (resC (errD 2)).toArray := bld_E 2
theorem bld_O (kd : Int) (mak : ByteArray) (bn num off : Int) (rd wr ap : Bool) : (((((((Tryz.zeroCells52.setIfInBounds 128 (.int .i64 kd)).setIfInBounds 129 (.string mak)).setIfInBounds 130 (.int .i64 bn)).setIfInBounds 131 (.int .i64 num)).setIfInBounds 132 (.int .i64 off)).setIfInBounds 133 (.bool rd)).setIfInBounds 134 (.bool wr)).setIfInBounds 135 (.bool ap) = (resC ⟨zeroTab, ⟨kd, mak, bn, num, off, rd, wr, ap⟩, 0, 0⟩).toArray := by
  rw [zero_res]
  simp only [List.setIfInBounds_toArray]
  have hl : (tabC (errD 0).T).length = 128 := tabC_128 zeroTab_len
  unfold resC
  rw [set_right _ _ hl 0, set_right _ _ hl 1, set_right _ _ hl 2, set_right _ _ hl 3, set_right _ _ hl 4, set_right _ _ hl 5, set_right _ _ hl 6, set_right _ _ hl 7]
  rfl
theorem fold_set : ∀ (l : List Value) (k : Nat) (b : Array Value), k + l.length ≤ b.size → (l.zipIdx k).foldl (fun cs x => cs.setIfInBounds x.snd x.fst) b = (b.toList.take k ++ l ++ b.toList.drop (k + l.length)).toArray
  | [], k, b, _ => by simp
  | v :: r, k, b, h => by
    have hk : k < b.size := by simp at h; omega
    rw [List.zipIdx_cons, List.foldl_cons]
    dsimp only
    rw [fold_set r (k + 1) _ (by simp at h ⊢; omega)]
    have e := list_seg_step b.toList k v r (by simp at h ⊢; omega)
    simpa [Array.toList_setIfInBounds] using e
theorem bld_T {T : List OpnT} (h : T.length = 16) : Array.foldl (fun cs x => cs.setIfInBounds x.snd x.fst) Tryz.zeroCells52 (tabA T).zipIdx 0 128 = (resC ⟨T, zeroO, 0, 0⟩).toArray := by
  have hz : (tabA T).zipIdx.size = 128 := by rw [Array.size_zipIdx, tabA_128 h]
  have e : Array.foldl (fun cs (x : Value × Nat) => cs.setIfInBounds x.snd x.fst) Tryz.zeroCells52 (tabA T).zipIdx 0 128 = Array.foldl (fun cs (x : Value × Nat) => cs.setIfInBounds x.snd x.fst) Tryz.zeroCells52 (tabA T).zipIdx := by rw [hz]
  rw [e, ← Array.foldl_toList, Array.toList_zipIdx, show (tabA T).toList = tabC T by simp [tabA], zero_res, fold_set _ _ _ (by rw [List.size_toArray, resC_len (r := errD 0) rfl, tabC_128 h]; omega)]
  congr 1
  simp only [List.take_zero, List.nil_append, Nat.zero_add]
  unfold resC
  rw [tabC_128 h, ← tabC_128 (t := (errD 0).T) rfl, List.drop_left]
  rfl
theorem results_res2 {fn : Func} {p u : Tmp} (h : fn.results = #[.cell p 52, .tmp u]) (tmps : Array Value) (w : World) (R : Nat) {r : ResD} (hp : tmps.getD p undef = .pointer (some ⟨R, 0, none⟩)) {v : Value} (hu : tmps.getD u undef = v) (ht : ResAt w R r) :
    (results fn tmps).run Tryz.prog w = .ok (.tuple #[resDV r, v]) w := by
  have hv : (loadVar 52 ⟨R, 0, none⟩).run Tryz.prog w = .ok (resDV r) w := run_loadVar_row w R _ _ _ (0, 0) _ ht.1 Tryz.underlying52 rfl (by rw [List.size_toArray, resC_len ht.2]; exact infoRes)
  rw [results_cell_tmp h, hp, hu]
  simp only [asAddr, Sem.run_pure, Result.andThen_ok, hv]
theorem exec_load_res {ρ : Operand → Value} {o : Oper} {x : Operand} {w : World} {R : Nat} {r : ResD} (ho : o.op = .load 52 x) (hx : ρ x = .pointer (some ⟨R, 0, none⟩)) (h : ResAt w R r) : (execOp ρ o).run Tryz.prog w = .ok (.value (resDV r)) w := by
  have hv : (loadVar 52 ⟨R, 0, none⟩).run Tryz.prog w = .ok (resDV r) w := run_loadVar_row w R _ _ _ (0, 0) _ h.1 Tryz.underlying52 rfl (by rw [List.size_toArray, resC_len h.2]; exact infoRes)
  unfold execOp
  simp only [ho, hx, Instr.loadAt, Instr.sureAddr, Sem.run_bind, Sem.run_pure, Result.andThen_ok, hv]
theorem exec_load_mtab {ρ : Operand → Value} {o : Oper} {x : Operand} {w : World} {X k : Nat} {m : ModD} (ho : o.op = .load 36 x) (hx : ρ x = .pointer (some ⟨X, k * 128, none⟩)) (h : ModAt w X m) (hk : k < 4) : (execOp ρ o).run Tryz.prog w = .ok (.value (.agg (tabA (mTab m k)))) w := by
  have hv := run_load_mtab h hk
  unfold execOp
  simp only [ho, hx, hv, Sem.run_bind, Result.andThen_ok]
  rfl
/-! ### The model -/
theorem upd_there {m : ModD} {k : Nat} (h : ModOk m) (hk : k < 4) (ht : mThere m k = true) (t : List OpnT) : mUpd m k (some (some t)) = ⟨m.tabs.set k t, m.there⟩ := by
  unfold mUpd
  dsimp only
  congr 1
  apply List.ext_getElem?
  intro j
  rw [List.getElem?_set]
  by_cases hj : k = j
  · subst hj
    unfold mThere at ht
    rw [List.getD_eq_getElem?_getD] at ht
    rw [if_pos rfl, if_pos (by rw [h.lh]; exact hk), List.getElem?_eq_getElem (by rw [h.lh]; exact hk)] at *
    simp at ht
    rw [ht]
  · rw [if_neg hj]
theorem set_self {m : ModD} {k : Nat} (h : ModOk m) (hk : k < 4) {i : Nat} {x : OpnT} (hx : (mTab m k)[i]? = some x) : (⟨m.tabs.set k ((mTab m k).set i x), m.there⟩ : ModD) = m := by
  have e1 : (mTab m k).set i x = mTab m k := by
    apply List.ext_getElem?
    intro j
    rw [List.getElem?_set]
    by_cases hj : i = j
    · subst hj
      rw [if_pos rfl, if_pos (List.getElem?_eq_some_iff.1 hx).1, hx]
    · rw [if_neg hj]
  have e2 : m.tabs.set k (mTab m k) = m.tabs := by
    apply List.ext_getElem?
    intro j
    rw [List.getElem?_set]
    by_cases hj : k = j
    · subst hj
      rw [if_pos rfl, if_pos (by rw [h.lt]; exact hk), h.tab hk]
    · rw [if_neg hj]
  rw [e1, e2]
theorem mD0 {m : ModD} {o : OpD} (h : o.kd % 11 = 0) : mdo m o = mMake m (o.who % 4) := by
  unfold mdo
  rw [if_pos h]
theorem mD1 {m : ModD} {o : OpD} (h : o.kd % 11 = 1) : mdo m o = mCopy m (o.who % 4) (o.to % 4) := by
  unfold mdo
  rw [if_neg (by omega), if_pos h]
theorem mD2 {m : ModD} {o : OpD} (h : o.kd % 11 = 2) : mdo m o = mOne m (o.who % 4) dropF := by
  unfold mdo
  rw [if_neg (by omega), if_neg (by omega), if_pos h]
theorem mD3 {m : ModD} {o : OpD} (h : o.kd % 11 = 3) : mdo m o = mOne m (o.who % 4) allF := by
  unfold mdo
  rw [if_neg (by omega), if_neg (by omega), if_neg (by omega), if_pos h]
theorem mD4 {m : ModD} {o : OpD} (h : o.kd % 11 = 4) : mdo m o = mOne m (o.who % 4) (getF o.fd) := by
  unfold mdo
  rw [if_neg (by omega), if_neg (by omega), if_neg (by omega), if_neg (by omega), if_pos h]
theorem mD5 {m : ModD} {o : OpD} (h : o.kd % 11 = 5) : mdo m o = mAdd m (o.who % 4) o.o := by
  unfold mdo
  rw [if_neg (by omega), if_neg (by omega), if_neg (by omega), if_neg (by omega), if_neg (by omega), if_pos h]
theorem mD6 {m : ModD} {o : OpD} (h : o.kd % 11 = 6) : mdo m o = mPut m (o.who % 4) o.fd o.o := by
  unfold mdo
  rw [if_neg (by omega), if_neg (by omega), if_neg (by omega), if_neg (by omega), if_neg (by omega), if_neg (by omega), if_pos h]
theorem mD7 {m : ModD} {o : OpD} (h : o.kd % 11 = 7) : mdo m o = mOne m (o.who % 4) (closeF o.fd) := by
  unfold mdo
  rw [if_neg (by omega), if_neg (by omega), if_neg (by omega), if_neg (by omega), if_neg (by omega), if_neg (by omega), if_neg (by omega), if_pos h]
theorem mD8 {m : ModD} {o : OpD} (h : o.kd % 11 = 8) : mdo m o = mOne m (o.who % 4) (moveF o.fd fun _ => o.n) := by
  unfold mdo
  rw [if_neg (by omega), if_neg (by omega), if_neg (by omega), if_neg (by omega), if_neg (by omega), if_neg (by omega), if_neg (by omega), if_neg (by omega), if_pos h]
theorem mD9 {m : ModD} {o : OpD} (h : o.kd % 11 = 9) : mdo m o = mOne m (o.who % 4) (moveF o.fd (advG o.n)) := by
  unfold mdo
  rw [if_neg (by omega), if_neg (by omega), if_neg (by omega), if_neg (by omega), if_neg (by omega), if_neg (by omega), if_neg (by omega), if_neg (by omega), if_neg (by omega), if_pos h]
theorem mD10 {m : ModD} {o : OpD} (h : o.kd % 11 = 10) : mdo m o = mOne m (o.who % 4) (dupF o.fd) := by
  unfold mdo
  rw [if_neg (by omega), if_neg (by omega), if_neg (by omega), if_neg (by omega), if_neg (by omega), if_neg (by omega), if_neg (by omega), if_neg (by omega), if_neg (by omega), if_neg (by omega)]
theorem mtab_copy (m : ModD) (i k : Nat) (th : List Bool) : mTab ⟨m.tabs.set i (mTab m k), th⟩ k = mTab m k := by
  unfold mTab
  dsimp only
  rw [List.getD_eq_getElem?_getD, List.getElem?_set]
  by_cases h : i = k
  · subst h
    rw [if_pos rfl]
    split
    · rfl
    · rw [List.getD_eq_getElem?_getD, List.getElem?_eq_none (by omega)]
  · rw [if_neg h, List.getD_eq_getElem?_getD]
theorem mAll_ok {m : ModD} {k : Nat} (h : mAll m k = 0) : k ≠ 3 ∧ mThere m k = true := by
  unfold mAll at h
  split at h
  · cases h
  · rename_i h3
    split at h
    · cases h
    · rename_i h4; exact ⟨h3, by simpa using h4⟩
theorem mGet_ok {m : ModD} {k : Nat} {fd : Int} (h : mGetE m k fd = 0) : mThere m k = true ∧ badD (mTab m k) fd = false := by
  unfold mGetE at h
  split at h
  · rename_i h1; exact absurd h h1
  · rename_i h1
    split at h
    · cases h
    · rename_i h2; exact ⟨(mAll_ok (by omega)).2, by simpa using h2⟩
theorem get_one (m : ModD) (k : Nat) (fd : Int) (f : List OpnT → ResD × ChD) (hf : ∀ t, badD t fd = true → f t = (errD 21, none)) : mOne m k f = if mGetE m k fd ≠ 0 then (m, errD (mGetE m k fd), false) else (mUpd m k (f (mTab m k)).2, (f (mTab m k)).1, (f (mTab m k)).2.isSome) := by
  unfold mOne mGetE
  by_cases h1 : mAll m k ≠ 0
  · rw [if_pos h1, if_pos h1, if_pos h1]
  · rw [if_neg h1, if_neg h1]
    by_cases h2 : badD (mTab m k) fd = true
    · rw [if_pos h2, if_pos (by decide), hf _ h2]
      rfl
    · rw [if_neg h2, if_neg (by simp)]
end Go.Proofs.YtfchfjipkggnkaaGreatDoor
