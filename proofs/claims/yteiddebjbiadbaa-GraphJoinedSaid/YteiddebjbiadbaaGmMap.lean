/- Maps whose keys are ints (turned from UplA and Maps). -/
import Derived.Test.YteiddebjbiadbaaKnl
import Derived.WideKeyRuns
import Derived.Maps.OwnSet
import Derived.Carry
namespace Go.Proofs.Yteiddebjbiadbaa
open Go.RowKit

/-- The entries bear different stamps, all below the clock. -/
def Stamps (es : Array MapEntry) (clock : Nat) : Prop := (es.toList.map (·.born)).Nodup ∧ ∀ x ∈ es.toList, x.born < clock
theorem Stamps.push {es : Array MapEntry} {clock : Nat} (h : Stamps es clock) (k v : Value) : Stamps (es.push { key := k, val := v, born := clock }) (clock + 1) := by
  refine ⟨?_, fun x hx => ?_⟩
  · simp only [Array.toList_push, List.map_append, List.map_cons, List.map_nil]
    refine List.nodup_append.2 ⟨h.1, by simp, fun a ha b hb => ?_⟩
    simp at hb
    subst hb
    obtain ⟨x, hx, rfl⟩ := List.mem_map.1 ha
    have := h.2 x hx
    omega
  · simp only [Array.toList_push, List.mem_append, List.mem_singleton] at hx
    rcases hx with hx | rfl
    · have := h.2 x hx; omega
    · exact Nat.lt_succ_self _
theorem Stamps.modify {es : Array MapEntry} {clock : Nat} (h : Stamps es clock) (i : Nat) (f : MapEntry → MapEntry) (hf : ∀ e, (f e).born = e.born) : Stamps (es.modify i f) clock := by
  have hm : (es.modify i f).toList.map (·.born) = es.toList.map (·.born) := by
    refine List.ext_getElem? fun j => ?_
    simp only [List.getElem?_map, Array.getElem?_toList, Array.getElem?_modify]
    split
    · cases es[j]? <;> simp [hf]
    · rfl
  refine ⟨by rw [hm]; exact h.1, fun x hx => ?_⟩
  have : x.born ∈ (es.modify i f).toList.map (·.born) := List.mem_map.2 ⟨x, hx, rfl⟩
  rw [hm] at this
  obtain ⟨y, hy, hb⟩ := List.mem_map.1 this
  rw [← hb]
  exact h.2 y hy
theorem run_checkKey_int (w : World) (em : Bool) (a : Int) : (Instr.checkKey em 10000 3 (.int .i64 a)).run Try.prog w = .ok () w := Go.MapKept.run_checkKey Try.underlying3 (by simp [Go.MapKept.IsKey]) em 9999
theorem run_stays_int (w : World) (a : Int) : (Instr.keyThatStays (.int .i64 a) (.int .i64 a)).run Try.prog w = .ok (.int .i64 a) w := by
  simp [Instr.keyThatStays, Instr.sameBits]
/-! ### Association lists -/
section
variable {α : Type}
def iGet (l : List (Int × α)) (n : Int) : Option α := match l with
  | [] => none
  | p :: r => if n = p.1 then some p.2 else iGet r n
def iSet (l : List (Int × α)) (n : Int) (x : α) : List (Int × α) := match l with
  | [] => [(n, x)]
  | p :: r => if n = p.1 then (n, x) :: r else p :: iSet r n x
def iAt (l : List (Int × α)) (n : Int) : Option Nat := match l with
  | [] => none
  | p :: r => if n = p.1 then some 0 else (iAt r n).map (· + 1)

/-- The block m is a map that holds l. -/
def MapZ (enc : α → Value) (w : World) (m : Nat) (l : List (Int × α)) : Prop :=
  ∃ es clock, w.heap[m]? = some (.map es clock) ∧ es.toList.map (fun e => (e.key, e.val)) = l.map (fun p => (.int .i64 p.1, enc p.2)) ∧ Stamps es clock

theorem findNow_int (enc : α → Value) (n : Int) (es : List MapEntry) (l : List (Int × α)) (h : es.map (fun e => (e.key, e.val)) = l.map (fun p => (.int .i64 p.1, enc p.2))) (i : Nat) :
    Instr.findNow (.int .i64) (.int .i64 n) es i = some ((iAt l n).map fun j => (i + j, ((iGet l n).map enc).getD (.bool false))) := by
  induction es generalizing l i with
  | nil =>
    cases l with
    | nil => simp [Instr.findNow, iAt]
    | cons p r => simp at h
  | cons e es ih =>
    cases l with
    | nil => simp at h
    | cons p r =>
      simp only [List.map_cons, List.cons.injEq, Prod.mk.injEq] at h
      obtain ⟨⟨hk, hv⟩, hr⟩ := h
      simp only [Instr.findNow, hk, Instr.sameNow, if_true]
      by_cases he : n = p.1
      · simp [he, iAt, iGet, hv]
      · have hb : (n == p.1) = false := beq_eq_false_iff_ne.2 he
        simp only [hb, ih r hr (i + 1), iAt, iGet, he, if_false]
        cases iAt r n <;> simp
        omega
theorem iAt_none {l : List (Int × α)} {n : Int} (h : iAt l n = none) : iGet l n = none ∧ ∀ x, iSet l n x = l ++ [(n, x)] := by
  induction l with
  | nil => simp [iGet, iSet]
  | cons p r ih =>
    simp only [iAt] at h
    by_cases he : n = p.1
    · simp [he] at h
    · simp only [he, if_false, Option.map_eq_none_iff] at h
      have := ih h
      simp [iGet, iSet, he, this]
theorem iAt_some {l : List (Int × α)} {n : Int} {j : Nat} (h : iAt l n = some j) : (∃ x, iGet l n = some x) ∧ (∃ p, l[j]? = some p ∧ p.1 = n) ∧ ∀ x, iSet l n x = l.set j (n, x) := by
  induction l generalizing j with
  | nil => simp [iAt] at h
  | cons p r ih =>
    simp only [iAt] at h
    by_cases he : n = p.1
    · simp [he] at h
      subst h
      simp [iGet, iSet, he]
    · simp only [he, if_false, Option.map_eq_some_iff] at h
      obtain ⟨k, hk, rfl⟩ := h
      obtain ⟨h1, h2, h3⟩ := ih hk
      simp [iGet, iSet, he, h1, h2, h3]

theorem run_findKey_int (enc : α → Value) (w : World) (n : Int) (es : List MapEntry) (l : List (Int × α)) (h : es.map (fun e => (e.key, e.val)) = l.map (fun p => (.int .i64 p.1, enc p.2))) :
    (Instr.findKey 3 (.int .i64 n) es).run Try.prog w = .ok ((iAt l n).map fun j => (j, ((iGet l n).map enc).getD (.bool false))) w := by
  refine Go.MapKept.run_findKey Try.underlying3 ?_
  rw [findNow_int enc n es l h 0]
  simp

/-- A look-up with ok. -/
theorem run_lookup_int (enc : α → Value) (w : World) (t e : TypeId) (ht : Try.prog.underlying t = some (.map 3 e)) (z : Value) (hz : (zeroValue e).run Try.prog w = .ok z w) (m : Nat) (l : List (Int × α)) (h : MapZ enc w m l) (n : Int) :
    (Instr.lookup t (.map (some m)) (.int .i64 n) true).run Try.prog w = .ok (.tuple #[((iGet l n).map enc).getD z, .bool (iGet l n).isSome]) w := by
  obtain ⟨es, clock, hb, hl, _⟩ := h
  have hg : (getObj m).run Try.prog w = .ok (.map es clock) w := by simp [getObj, Sem.run, hb]
  have hf := run_findKey_int enc w n es.toList l hl
  simp only [Instr.lookup, Sem.run_bind, run_underlying ht, Result.andThen_ok, hg, Sem.run_pure, run_checkKey_int, hf]
  cases h1 : iAt l n with
  | none => simp [(iAt_none h1).1, hz]
  | some j =>
    obtain ⟨⟨x, hx⟩, _⟩ := iAt_some h1
    simp [hx]

/-- A look-up without ok. -/
theorem run_lookup1_int (enc : α → Value) (w : World) (t e : TypeId) (ht : Try.prog.underlying t = some (.map 3 e)) (z : Value) (hz : (zeroValue e).run Try.prog w = .ok z w) (m : Nat) (l : List (Int × α)) (h : MapZ enc w m l) (n : Int) :
    (Instr.lookup t (.map (some m)) (.int .i64 n) false).run Try.prog w = .ok (((iGet l n).map enc).getD z) w := by
  obtain ⟨es, clock, hb, hl, _⟩ := h
  have hg : (getObj m).run Try.prog w = .ok (.map es clock) w := by simp [getObj, Sem.run, hb]
  have hf := run_findKey_int enc w n es.toList l hl
  simp only [Instr.lookup, Sem.run_bind, run_underlying ht, Result.andThen_ok, hg, Sem.run_pure, run_checkKey_int, hf]
  cases h1 : iAt l n with
  | none => simp [(iAt_none h1).1, hz]
  | some j =>
    obtain ⟨⟨x, hx⟩, _⟩ := iAt_some h1
    simp [hx]

/-- A store. -/
theorem run_mapUpdate_int (enc : α → Value) (w : World) (t e : TypeId) (ht : Try.prog.underlying t = some (.map 3 e)) (m : Nat) (l : List (Int × α)) (h : MapZ enc w m l) (n : Int) (x : α) :
    ∃ w', (Instr.mapUpdate t (.map (some m)) (.int .i64 n) (enc x)).run Try.prog w = .ok () w' ∧ MapZ enc w' m (iSet l n x) ∧ w.grownBy w' (some m) := by
  obtain ⟨es, clock, hb, hl, hst⟩ := h
  have hg : (getObj m).run Try.prog w = .ok (.map es clock) w := by simp [getObj, Sem.run, hb]
  have hs : ∀ o, (setObj m o).run Try.prog w = .ok () { w with heap := w.heap.setIfInBounds m o } := fun o => by simp [setObj, Sem.run, hb]
  have hf := run_findKey_int enc w n es.toList l hl
  have hlt := lt_of_heap hb
  have grown : ∀ o, w.grownBy { w with heap := w.heap.setIfInBounds m o } (some m) := fun o => ⟨rfl, rfl, rfl, by simp, fun k _ hk => by
    show (w.heap.setIfInBounds m o)[k]? = _
    rw [Array.getElem?_setIfInBounds_ne (fun e => hk (by rw [e]))]⟩
  have hnew : ∀ o, ({ w with heap := w.heap.setIfInBounds m o } : World).heap[m]? = some o := fun o => by
    show (w.heap.setIfInBounds m o)[m]? = _
    simp [hlt]
  cases h1 : iAt l n with
  | none =>
    rw [h1] at hf
    refine ⟨_, by simp only [Instr.mapUpdate, Sem.run_bind, run_underlying ht, Result.andThen_ok, hg, run_checkKey_int, hf, Option.map_none]; exact hs _, ⟨_, _, hnew _, ?_, hst.push (.int .i64 n) (enc x)⟩, grown _⟩
    rw [(iAt_none h1).2]
    simp [hl]
  | some j =>
    obtain ⟨_, ⟨p, hp, hpn⟩, hset⟩ := iAt_some h1
    rw [h1] at hf
    have hkey : ((es[j]?).map (·.key)).getD (.int .i64 n) = .int .i64 n := by
      have h2 : (es.toList.map (fun e => (e.key, e.val)))[j]? = some (.int .i64 p.1, enc p.2) := by rw [hl]; simp [hp]
      simp at h2
      obtain ⟨e', he', hk', _⟩ := h2
      simp [he', hk', hpn]
    refine ⟨_, by simp only [Instr.mapUpdate, Sem.run_bind, run_underlying ht, Result.andThen_ok, hg, run_checkKey_int, hf, Option.map_some, hkey, run_stays_int]; exact hs _, ⟨_, _, hnew _, ?_, ?_⟩, grown _⟩
    case refine_2 => exact hst.modify _ _ (fun _ => rfl)
    rw [hset]
    refine List.ext_getElem? fun i => ?_
    have hi := congrArg (fun L => L[i]?) hl
    simp only [List.getElem?_map, Array.getElem?_toList] at hi ⊢
    rw [Array.getElem?_modify, List.getElem?_set]
    by_cases hij : j = i
    · subst hij
      have hj : j < l.length := (List.getElem?_eq_some_iff.1 hp).1
      rw [if_pos rfl, if_pos rfl, if_pos hj]
      rw [hp] at hi
      cases he : es[j]? with
      | none => rw [he] at hi; simp at hi
      | some e0 => simp
    · rw [if_neg hij, if_neg hij]
      exact hi
end

end Go.Proofs.Yteiddebjbiadbaa
