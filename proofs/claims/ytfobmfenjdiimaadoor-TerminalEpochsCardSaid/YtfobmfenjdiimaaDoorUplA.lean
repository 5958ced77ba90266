/- Maps whose keys are ints. (printed by wip/gen_mapi.py) Law 36, plain: what an operation makes of a view whose terminals are known. -/
import Derived.Test.YtfobmfenjdiimaaDoorMaps
import Derived.Test.YtfobmfenjdiimaaDoorSmuA
namespace Go.Proofs.YtfobmfenjdiimaaDoor
open Go.RowKit

theorem run_checkKey_int (w : World) (em : Bool) (a : Int) : (Instr.checkKey em 10000 3 (.int .i64 a)).run Tryd.prog w = .ok () w := Go.MapKept.run_checkKey Tryd.underlying3 (by simp [Go.MapKept.IsKey]) em 9999
theorem run_stays_int (w : World) (a : Int) : (Instr.keyThatStays (.int .i64 a) (.int .i64 a)).run Tryd.prog w = .ok (.int .i64 a) w := by
  simp [Instr.keyThatStays, Instr.sameBits]
/-! ### Association lists -/
section
variable {α : Type}
def iGet (l : List (Int × α)) (n : Int) : Option α := match l with
  | [] => none
  | p :: r => if n = p.1 then some p.2 else iGet r n
def iSet (l : List (Int × α)) (n : Int) (x : α) : List (Int × α) := match l with
  | [] => [(n, x)]
  | p :: r => if n = p.1 then (n, x) :: r else p :: iSet r n x
def iAt (l : List (Int × α)) (n : Int) : Option Nat := match l with
  | [] => none
  | p :: r => if n = p.1 then some 0 else (iAt r n).map (· + 1)

/-- The block m is a map that holds l. -/
def MapZ (enc : α → Value) (w : World) (m : Nat) (l : List (Int × α)) : Prop :=
  ∃ es clock, w.heap[m]? = some (.map es clock) ∧ es.toList.map (fun e => (e.key, e.val)) = l.map (fun p => (.int .i64 p.1, enc p.2)) ∧ Stamps es clock

theorem findNow_int (enc : α → Value) (n : Int) (es : List MapEntry) (l : List (Int × α)) (h : es.map (fun e => (e.key, e.val)) = l.map (fun p => (.int .i64 p.1, enc p.2))) (i : Nat) :
    Instr.findNow (.int .i64) (.int .i64 n) es i = some ((iAt l n).map fun j => (i + j, ((iGet l n).map enc).getD (.bool false))) := by
  induction es generalizing l i with
  | nil =>
    cases l with
    | nil => simp [Instr.findNow, iAt]
    | cons p r => simp at h
  | cons e es ih =>
    cases l with
    | nil => simp at h
    | cons p r =>
      simp only [List.map_cons, List.cons.injEq, Prod.mk.injEq] at h
      obtain ⟨⟨hk, hv⟩, hr⟩ := h
      simp only [Instr.findNow, hk, Instr.sameNow, if_true]
      by_cases he : n = p.1
      · simp [he, iAt, iGet, hv]
      · have hb : (n == p.1) = false := beq_eq_false_iff_ne.2 he
        simp only [hb, ih r hr (i + 1), iAt, iGet, he, if_false]
        cases iAt r n <;> simp
        omega
theorem iAt_none {l : List (Int × α)} {n : Int} (h : iAt l n = none) : iGet l n = none ∧ ∀ x, iSet l n x = l ++ [(n, x)] := by
  induction l with
  | nil => simp [iGet, iSet]
  | cons p r ih =>
    simp only [iAt] at h
    by_cases he : n = p.1
    · simp [he] at h
    · simp only [he, if_false, Option.map_eq_none_iff] at h
      have := ih h
      simp [iGet, iSet, he, this]
theorem iAt_some {l : List (Int × α)} {n : Int} {j : Nat} (h : iAt l n = some j) : (∃ x, iGet l n = some x) ∧ (∃ p, l[j]? = some p ∧ p.1 = n) ∧ ∀ x, iSet l n x = l.set j (n, x) := by
  induction l generalizing j with
  | nil => simp [iAt] at h
  | cons p r ih =>
    simp only [iAt] at h
    by_cases he : n = p.1
    · simp [he] at h
      subst h
      simp [iGet, iSet, he]
    · simp only [he, if_false, Option.map_eq_some_iff] at h
      obtain ⟨k, hk, rfl⟩ := h
      obtain ⟨h1, h2, h3⟩ := ih hk
      simp [iGet, iSet, he, h1, h2, h3]

theorem run_findKey_int (enc : α → Value) (w : World) (n : Int) (es : List MapEntry) (l : List (Int × α)) (h : es.map (fun e => (e.key, e.val)) = l.map (fun p => (.int .i64 p.1, enc p.2))) :
    (Instr.findKey 3 (.int .i64 n) es).run Tryd.prog w = .ok ((iAt l n).map fun j => (j, ((iGet l n).map enc).getD (.bool false))) w := by
  refine Go.MapKept.run_findKey Tryd.underlying3 ?_
  rw [findNow_int enc n es l h 0]
  simp

/-- A look-up with ok. -/
theorem run_lookup_int (enc : α → Value) (w : World) (t e : TypeId) (ht : Tryd.prog.underlying t = some (.map 3 e)) (z : Value) (hz : (zeroValue e).run Tryd.prog w = .ok z w) (m : Nat) (l : List (Int × α)) (h : MapZ enc w m l) (n : Int) :
    (Instr.lookup t (.map (some m)) (.int .i64 n) true).run Tryd.prog w = .ok (.tuple #[((iGet l n).map enc).getD z, .bool (iGet l n).isSome]) w := by
  obtain ⟨es, clock, hb, hl, _⟩ := h
  have hg : (getObj m).run Tryd.prog w = .ok (.map es clock) w := by simp [getObj, Sem.run, hb]
  have hf := run_findKey_int enc w n es.toList l hl
  simp only [Instr.lookup, Sem.run_bind, run_underlying ht, Result.andThen_ok, hg, Sem.run_pure, run_checkKey_int, hf]
  cases h1 : iAt l n with
  | none => simp [(iAt_none h1).1, hz]
  | some j =>
    obtain ⟨⟨x, hx⟩, _⟩ := iAt_some h1
    simp [hx]

/-- A look-up without ok. -/
theorem run_lookup1_int (enc : α → Value) (w : World) (t e : TypeId) (ht : Tryd.prog.underlying t = some (.map 3 e)) (z : Value) (hz : (zeroValue e).run Tryd.prog w = .ok z w) (m : Nat) (l : List (Int × α)) (h : MapZ enc w m l) (n : Int) :
    (Instr.lookup t (.map (some m)) (.int .i64 n) false).run Tryd.prog w = .ok (((iGet l n).map enc).getD z) w := by
  obtain ⟨es, clock, hb, hl, _⟩ := h
  have hg : (getObj m).run Tryd.prog w = .ok (.map es clock) w := by simp [getObj, Sem.run, hb]
  have hf := run_findKey_int enc w n es.toList l hl
  simp only [Instr.lookup, Sem.run_bind, run_underlying ht, Result.andThen_ok, hg, Sem.run_pure, run_checkKey_int, hf]
  cases h1 : iAt l n with
  | none => simp [(iAt_none h1).1, hz]
  | some j =>
    obtain ⟨⟨x, hx⟩, _⟩ := iAt_some h1
    simp [hx]

/-- A store. -/
theorem run_mapUpdate_int (enc : α → Value) (w : World) (t e : TypeId) (ht : Tryd.prog.underlying t = some (.map 3 e)) (m : Nat) (l : List (Int × α)) (h : MapZ enc w m l) (n : Int) (x : α) :
    ∃ w', (Instr.mapUpdate t (.map (some m)) (.int .i64 n) (enc x)).run Tryd.prog w = .ok () w' ∧ MapZ enc w' m (iSet l n x) ∧ w.grownBy w' (some m) := by
  obtain ⟨es, clock, hb, hl, hst⟩ := h
  have hg : (getObj m).run Tryd.prog w = .ok (.map es clock) w := by simp [getObj, Sem.run, hb]
  have hs : ∀ o, (setObj m o).run Tryd.prog w = .ok () { w with heap := w.heap.setIfInBounds m o } := fun o => by simp [setObj, Sem.run, hb]
  have hf := run_findKey_int enc w n es.toList l hl
  have hlt := lt_of_heap hb
  have grown : ∀ o, w.grownBy { w with heap := w.heap.setIfInBounds m o } (some m) := fun o => ⟨rfl, rfl, rfl, by simp, fun k _ hk => by
    show (w.heap.setIfInBounds m o)[k]? = _
    rw [Array.getElem?_setIfInBounds_ne (fun e => hk (by rw [e]))]⟩
  have hnew : ∀ o, ({ w with heap := w.heap.setIfInBounds m o } : World).heap[m]? = some o := fun o => by
    show (w.heap.setIfInBounds m o)[m]? = _
    simp [hlt]
  cases h1 : iAt l n with
  | none =>
    rw [h1] at hf
    refine ⟨_, by simp only [Instr.mapUpdate, Sem.run_bind, run_underlying ht, Result.andThen_ok, hg, run_checkKey_int, hf, Option.map_none]; exact hs _, ⟨_, _, hnew _, ?_, hst.push (.int .i64 n) (enc x)⟩, grown _⟩
    rw [(iAt_none h1).2]
    simp [hl]
  | some j =>
    obtain ⟨_, ⟨p, hp, hpn⟩, hset⟩ := iAt_some h1
    rw [h1] at hf
    have hkey : ((es[j]?).map (·.key)).getD (.int .i64 n) = .int .i64 n := by
      have h2 : (es.toList.map (fun e => (e.key, e.val)))[j]? = some (.int .i64 p.1, enc p.2) := by rw [hl]; simp [hp]
      simp at h2
      obtain ⟨e', he', hk', _⟩ := h2
      simp [he', hk', hpn]
    refine ⟨_, by simp only [Instr.mapUpdate, Sem.run_bind, run_underlying ht, Result.andThen_ok, hg, run_checkKey_int, hf, Option.map_some, hkey, run_stays_int]; exact hs _, ⟨_, _, hnew _, ?_, ?_⟩, grown _⟩
    case refine_2 => exact hst.modify _ _ (fun _ => rfl)
    rw [hset]
    refine List.ext_getElem? fun i => ?_
    have hi := congrArg (fun L => L[i]?) hl
    simp only [List.getElem?_map, Array.getElem?_toList] at hi ⊢
    rw [Array.getElem?_modify, List.getElem?_set]
    by_cases hij : j = i
    · subst hij
      have hj : j < l.length := (List.getElem?_eq_some_iff.1 hp).1
      rw [if_pos rfl, if_pos rfl, if_pos hj]
      rw [hp] at hi
      cases he : es[j]? with
      | none => rw [he] at hi; simp at hi
      | some e0 => simp
    · rw [if_neg hij, if_neg hij]
      exact hi
end

end Go.Proofs.YtfobmfenjdiimaaDoor

namespace Go.Proofs.YtfobmfenjdiimaaDoor

theorem avGet_oneT {V V' : AV} {c : ChangeT} (hb : V'.base = V.base) (hc : V'.calls = V.calls ++ [c]) (n : NameT) : avGet V' n = if n = c.name then (c.value, !c.absent) else avGet V n := by
  unfold avGet
  rw [hb, hc, lastCall_snoc]
  by_cases h : n = c.name
  · rw [if_pos h, if_pos h]
  · rw [if_neg h, if_neg h]
theorem ofTerm_inj {a c : Int} (h : ofTerm a = ofTerm c) : a = c := by
  injection h
/-- A view whose terminals are known. -/
structure RelU (V : AV) (f : Int → Option TermT) (k : Nat) : Prop where
  has : ∀ n, HasT V n (f n)
  len : V.calls.length ≤ k
def updU (f : Int → Option TermT) (n : Int) (x : TermT) : Int → Option TermT := fun m => if m = n then some x else f m
theorem hasT_same {V V' : AV} (h : ∀ n, avGet V' (ofTerm n) = avGet V (ofTerm n)) {n : Int} {o : Option TermT} (hh : HasT V n o) : HasT V' n o := by
  cases o with
  | none => show (avGet V' (ofTerm n)).2 = false; rw [h]; exact hh
  | some t => exact ⟨(h n).trans hh.1, hh.2⟩
theorem hasT_seen {V : AV} {n e m : Int} {o : Option TermT} (h : HasT V m o) : HasT (tSeen V n e) m o := hasT_same (fun k => (tGet_seen V n e k 0).2) h
theorem seen_range {V : AV} {n e : Int} (h : inRange n e = false) : tSeen V n e = V := if_pos h
theorem u_change {V : AV} {n e : Int} {o : Option TermT} {op : TermT → TermT × Nat} (h : HasT V n o) (hr : inRange n e = true) (hg : GoodOp op) :
    (tChange op V n e).2 = (op (inT (o.getD zeroT) e)).2 ∧ ((op (inT (o.getD zeroT) e)).2 ≠ 0 → (tChange op V n e).1 = tSeen V n e) ∧
    ((op (inT (o.getD zeroT) e)).2 = 0 → (tChange op V n e).1.base = V.base ∧ (tChange op V n e).1.calls = V.calls ++ [⟨ofTerm n, strOf (encB (op (inT (o.getD zeroT) e)).1), false⟩] ∧ checkT (op (inT (o.getD zeroT) e)).1 = 0) := by
  obtain ⟨h1, h2⟩ := hasT_get h hr
  generalize inT (o.getD zeroT) e = t at *
  by_cases h0 : (op t).2 = 0
  · obtain ⟨h3, h4, h5⟩ := hg t h2 (checkT_small h2) h0
    have he : encT (op t).1 = (strOf (encB (op t).1), 0) := by simp [encT, h3]
    have : tChange op V n e = (⟨(tSeen V n e).base, (tSeen V n e).reads, (tSeen V n e).calls ++ [⟨ofTerm n, strOf (encB (op t).1), false⟩]⟩, 0) := by simp [tChange, h1, h0, he]
    rw [this]
    refine ⟨h0.symm, fun h => absurd h0 h, fun _ => ⟨?_, ?_, h3⟩⟩
    · exact tSeen_base _ _ _
    · show (tSeen V n e).calls ++ _ = _
      rw [tSeen_calls]
  · have : tChange op V n e = (tSeen V n e, (op t).2) := by simp [tChange, h1, h0]
    rw [this]
    exact ⟨rfl, fun _ => rfl, fun h => absurd h h0⟩
theorem seen_calls {V : AV} {n e : Int} : (tSeen V n e).calls = V.calls := tSeen_calls _ _ _
theorem u_bad {V : AV} {o : OpU} (hr : inRange o.num o.ep = false) : uE V o = 2 ∧ uV V o = V := by
  have h1 : tGet V o.num o.ep = (zeroT, 2) := if_pos hr
  have h2 := seen_range (V := V) hr
  have h3 : tChange (uOp o) V o.num o.ep = (V, 2) := by unfold tChange; rw [if_pos (by rw [h1]; exact (by decide : (2 : Nat) ≠ 0)), h1, h2]
  unfold uE uV
  split
  · rw [h3]; exact ⟨rfl, rfl⟩
  · rw [h1, h2]; exact ⟨rfl, rfl⟩
theorem uCh_true {o : OpU} (h : uCh o = true) : o.kd % 8 < 7 ∧ ¬ (o.kd % 8 = 6 ∧ o.text.size = 0) := by
  unfold uCh at h
  rw [Bool.and_eq_true, Bool.not_eq_true', Bool.and_eq_false_iff] at h
  refine ⟨of_decide_eq_true h.1, fun h2 => ?_⟩
  rcases h.2 with h3 | h3
  · exact of_decide_eq_false h3 h2.1
  · exact of_decide_eq_false h3 h2.2
theorem uCh_false {o : OpU} (h : uCh o = false) : o.kd % 8 = 7 ∨ (o.kd % 8 = 6 ∧ o.text.size = 0) := by
  unfold uCh at h
  rw [Bool.and_eq_false_iff, Bool.not_eq_false', Bool.and_eq_true] at h
  rcases h with h | h
  · have := of_decide_eq_false h
    exact .inl (by omega)
  · exact .inr ⟨of_decide_eq_true h.1, of_decide_eq_true h.2⟩
theorem uOp_none {o : OpU} (h : uCh o = false) (t : TermT) : (uOp o t).2 = 0 := by
  rcases uCh_false h with h | ⟨h, h2⟩
  · unfold uOp; simp [h]
  · unfold uOp opShow; simp [h, h2]
/-- A step that is in range. -/
theorem u_step {V : AV} {f : Int → Option TermT} {k : Nat} {o : OpU} (h : RelU V f k) (hw : o.who.size ≤ 1000) (hr : inRange o.num o.ep = true) :
    uE V o = (uOp o (inT ((f o.num).getD zeroT) o.ep)).2 ∧ uLine V o = uLineT o (inT ((f o.num).getD zeroT) o.ep) ∧ uGot V o = uGotT o (inT ((f o.num).getD zeroT) o.ep) ∧
    ((uOp o (inT ((f o.num).getD zeroT) o.ep)).2 ≠ 0 → (uV V o).calls = V.calls) ∧
    ((uOp o (inT ((f o.num).getD zeroT) o.ep)).2 = 0 → uCh o = true → RelU (uV V o) (updU f o.num (uOp o (inT ((f o.num).getD zeroT) o.ep)).1) (k + 1)) ∧
    (¬ ((uOp o (inT ((f o.num).getD zeroT) o.ep)).2 = 0 ∧ uCh o = true) → RelU (uV V o) f (k + 1)) := by
  have hh := h.has o.num
  obtain ⟨g1, g2⟩ := hasT_get hh hr
  obtain ⟨c1, c2, c3⟩ := u_change hh hr (uOp_good o hw)
  have hrd : uLine V o = uLineT o (inT ((f o.num).getD zeroT) o.ep) := by
    unfold uLine uLineT
    by_cases h4 : o.kd % 8 = 4 ∨ o.kd % 8 = 5
    · rw [if_pos h4, if_pos h4]
      obtain ⟨d1, -, -⟩ := u_change hh hr (good_take o.who)
      unfold tRead readL
      dsimp only
      rw [d1, g1]
    · rw [if_neg h4, if_neg h4]
  have hgt : uGot V o = uGotT o (inT ((f o.num).getD zeroT) o.ep) := by
    unfold uGot uGotT
    rw [g1]
  generalize inT ((f o.num).getD zeroT) o.ep = t at *
  have hseen : RelU (tSeen V o.num o.ep) f (k + 1) := ⟨fun n => hasT_seen (h.has n), by rw [seen_calls]; exact Nat.le_succ_of_le h.len⟩
  unfold uE uV
  cases hc : uCh o with
  | true =>
    rw [if_pos rfl, if_pos rfl]
    refine ⟨c1, hrd, hgt, fun h0 => by rw [c2 h0, seen_calls], fun h0 _ => ?_, fun h0 => ?_⟩
    · obtain ⟨e1, e2, e3⟩ := c3 h0
      refine ⟨fun n => ?_, by rw [e2]; simp; exact h.len⟩
      unfold updU
      by_cases hn : n = o.num
      · rw [if_pos hn]
        refine ⟨?_, e3⟩
        rw [avGet_oneT e1 e2, if_pos (by rw [hn])]
        rfl
      · rw [if_neg hn]
        have h5 : avGet (tChange (uOp o) V o.num o.ep).1 (ofTerm n) = avGet V (ofTerm n) := by
          rw [avGet_oneT e1 e2, if_neg (fun h => hn (ofTerm_inj h))]
        have h6 := h.has n
        revert h6
        cases f n with
        | none => exact fun h6 => (congrArg Prod.snd h5).trans h6
        | some t' => exact fun h6 => ⟨h5.trans h6.1, h6.2⟩
    · have h1 : (uOp o t).2 ≠ 0 := fun h1 => h0 ⟨h1, rfl⟩
      rw [c2 h1]
      exact hseen
  | false =>
    rw [if_neg (fun h => nomatch h), if_neg (fun h => nomatch h)]
    have h0 := uOp_none hc t
    exact ⟨by rw [g1, h0], hrd, hgt, fun h => absurd h0 h, fun _ h => absurd h (by decide), fun _ => hseen⟩
/-- The number and the epoch as the law tests them. -/
theorem inRange_iff {n e : Int} : inRange n e = true ↔ (1 ≤ n ∧ n ≤ 99 ∧ 0 ≤ e ∧ e ≤ 1073741824) := by
  unfold inRange epochB
  simp
  omega
theorem relU_empty : RelU ⟨fun _ => none, [], []⟩ (fun _ => none) 0 := ⟨fun _ => rfl, Nat.le_refl _⟩
/-- A terminal and where its row lies. -/
structure TRow where
  t : TermT
  a : Option Addr
  n : Nat
  c : Nat
def encR (x : TRow) : Value := .agg #[.int .i64 x.t.epoch, .string x.t.session, .slice x.a x.n x.c, .string x.t.screen]
def zeroR : TRow := ⟨zeroT, none, 0, 0⟩
def funR (l : List (Int × TRow)) (n : Int) : Option TermT := (iGet l n).map TRow.t
theorem iGet_set {α : Type} (l : List (Int × α)) (n m : Int) (x : α) : iGet (iSet l n x) m = if m = n then some x else iGet l m := by
  induction l with
  | nil => simp [iSet, iGet]
  | cons p r ih =>
    unfold iSet
    by_cases h : n = p.1
    · rw [if_pos h]
      unfold iGet
      by_cases h2 : m = n
      · rw [if_pos h2, if_pos h2]
      · rw [if_neg h2, if_neg h2, if_neg (by rw [← h]; exact h2)]
    · rw [if_neg h]
      unfold iGet
      by_cases h2 : m = p.1
      · rw [if_pos h2, if_pos h2, if_neg (by rw [h2]; exact fun e => h e.symm)]
      · rw [if_neg h2, if_neg h2]
        exact ih
theorem funR_set (l : List (Int × TRow)) (n : Int) (x : TRow) : funR (iSet l n x) = updU (funR l) n x.t := by
  funext m
  unfold funR updU
  rw [iGet_set]
  split <;> rfl
theorem mem_iSet {α : Type} {l : List (Int × α)} {n : Int} {x : α} {p : Int × α} (h : p ∈ iSet l n x) : p = (n, x) ∨ p ∈ l := by
  induction l with
  | nil => simp [iSet] at h; exact .inl h
  | cons q r ih =>
    unfold iSet at h
    split at h
    · rcases List.mem_cons.1 h with h | h
      · exact .inl h
      · exact .inr (List.mem_cons_of_mem _ h)
    · rcases List.mem_cons.1 h with h | h
      · exact .inr (by rw [h]; simp)
      · exact (ih h).imp id (List.mem_cons_of_mem _)
theorem iGet_mem {α : Type} {l : List (Int × α)} {n : Int} {x : α} (h : iGet l n = some x) : (n, x) ∈ l := by
  induction l with
  | nil => cases h
  | cons q r ih =>
    unfold iGet at h
    split at h
    · rename_i e
      injection h with h
      rw [e, ← h]
      simp
    · exact List.mem_cons_of_mem _ (ih h)
end Go.Proofs.YtfobmfenjdiimaaDoor
