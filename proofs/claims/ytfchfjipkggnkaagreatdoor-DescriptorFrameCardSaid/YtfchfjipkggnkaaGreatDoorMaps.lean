/- Maps whose keys are names of objects. -/
import Derived.Test.YtfchfjipkggnkaaGreatDoorObjA
import Derived.WideKeyRuns
import Derived.Maps.OwnSet
namespace Go.Proofs.YtfchfjipkggnkaaGreatDoor
open Go.RowKit

theorem str_beq (a b : ByteArray) : (a.toList == b.toList) = decide (a = b) := by
  rw [ByteArray.toList_eq, ByteArray.toList_eq]
  obtain ⟨⟨x⟩⟩ := a
  obtain ⟨⟨y⟩⟩ := b
  by_cases h : x = y <;> simp [h]

set_option maxRecDepth 100000 in
theorem run_equal_name (w : World) (a b : NameT) : (Op.equal 56 (nameV a) (nameV b)).run Tryz.prog w = .ok (decide (a = b)) w := by
  have hu : Tryz.prog.underlying 56 = some (.struct (Tryz.prog.fieldsOf 56)) := by kernel_rfl
  have hst : Tryz.prog.stoodInHeld 56 = false := by kernel_rfl
  simp only [Op.equal, Op.maxDepth, nameV]
  rw [run_equalIn_struct w 9999 _ _ _ hu hst]
  simp [go_sem, Tryz.underlying56, Tryz.underlying3, Tryz.underlying9, Tryz.underlying30]
  have hb : ∀ x y : ByteArray, x.toList = y.toList ↔ x = y := fun x y => by have := str_beq x y; rw [Bool.eq_iff_iff] at this; simpa using this
  obtain ⟨a1, a2, a3, a4, a5⟩ := a
  obtain ⟨b1, b2, b3, b4, b5⟩ := b
  simp only [hb, NameT.mk.injEq]
  by_cases h1 : a1 = b1 <;> by_cases h2 : a2 = b2 <;> by_cases h3 : a3 = b3 <;> by_cases h4 : a4 = b4 <;> by_cases h5 : a5 = b5 <;> simp [h1, h2, h3, h4, h5]

theorem run_checkKey_any (w : World) (em : Bool) (a : NameT) (n : Nat) : (Instr.checkKey em (n + 1 + 1) 56 (nameV a)).run Tryz.prog w = .ok () w := by
  simp [Instr.checkKey, nameV, go_sem]
theorem run_checkKey_name (w : World) (em : Bool) (a : NameT) : (Instr.checkKey em 10000 56 (nameV a)).run Tryz.prog w = .ok () w := run_checkKey_any w em a 9998

theorem run_stays_name (w : World) (a : NameT) : (Instr.keyThatStays (nameV a) (nameV a)).run Tryz.prog w = .ok (nameV a) w := by
  have : Instr.sameBits 10000 (nameV a) (nameV a) = true := by simp [nameV, Instr.sameBits, beq_toListBytes]
  simp [Instr.keyThatStays, this]

/-! ### Association lists -/
section
variable {α : Type}
def aGet (l : List (NameT × α)) (n : NameT) : Option α := match l with
  | [] => none
  | p :: r => if n = p.1 then some p.2 else aGet r n
def aSet (l : List (NameT × α)) (n : NameT) (x : α) : List (NameT × α) := match l with
  | [] => [(n, x)]
  | p :: r => if n = p.1 then (n, x) :: r else p :: aSet r n x
def aAt (l : List (NameT × α)) (n : NameT) : Option Nat := match l with
  | [] => none
  | p :: r => if n = p.1 then some 0 else (aAt r n).map (· + 1)

/-- The entries bear different stamps, all below the clock. -/
def Stamps (es : Array MapEntry) (clock : Nat) : Prop := (es.toList.map (·.born)).Nodup ∧ ∀ x ∈ es.toList, x.born < clock
theorem Stamps.push {es : Array MapEntry} {clock : Nat} (h : Stamps es clock) (k v : Value) : Stamps (es.push { key := k, val := v, born := clock }) (clock + 1) := by
  refine ⟨?_, fun x hx => ?_⟩
  · simp only [Array.toList_push, List.map_append, List.map_cons, List.map_nil]
    refine List.nodup_append.2 ⟨h.1, by simp, fun a ha b hb => ?_⟩
    simp at hb
    subst hb
    obtain ⟨x, hx, rfl⟩ := List.mem_map.1 ha
    have := h.2 x hx
    omega
  · simp only [Array.toList_push, List.mem_append, List.mem_singleton] at hx
    rcases hx with hx | rfl
    · have := h.2 x hx; omega
    · exact Nat.lt_succ_self _
theorem Stamps.modify {es : Array MapEntry} {clock : Nat} (h : Stamps es clock) (i : Nat) (f : MapEntry → MapEntry) (hf : ∀ e, (f e).born = e.born) : Stamps (es.modify i f) clock := by
  have hm : (es.modify i f).toList.map (·.born) = es.toList.map (·.born) := by
    refine List.ext_getElem? fun j => ?_
    simp only [List.getElem?_map, Array.getElem?_toList, Array.getElem?_modify]
    split
    · cases es[j]? <;> simp [hf]
    · rfl
  refine ⟨by rw [hm]; exact h.1, fun x hx => ?_⟩
  have : x.born ∈ (es.modify i f).toList.map (·.born) := List.mem_map.2 ⟨x, hx, rfl⟩
  rw [hm] at this
  obtain ⟨y, hy, hb⟩ := List.mem_map.1 this
  rw [← hb]
  exact h.2 y hy
/-- The block m is a map that holds l. -/
def MapIs (enc : α → Value) (w : World) (m : Nat) (l : List (NameT × α)) : Prop :=
  ∃ es clock, w.heap[m]? = some (.map es clock) ∧ es.toList.map (fun e => (e.key, e.val)) = l.map (fun p => (nameV p.1, enc p.2)) ∧ Stamps es clock

theorem run_findAsking_name (enc : α → Value) (w : World) (n : NameT) (es : List MapEntry) (l : List (NameT × α)) (h : es.map (fun e => (e.key, e.val)) = l.map (fun p => (nameV p.1, enc p.2))) (i : Nat) :
    (Instr.findAsking 56 (nameV n) es i).run Tryz.prog w = .ok ((aAt l n).map fun j => (i + j, ((aGet l n).map enc).getD (.bool false))) w := by
  induction es generalizing l i with
  | nil =>
    cases l with
    | nil => simp [Instr.findAsking, aAt]
    | cons p r => simp at h
  | cons e es ih =>
    cases l with
    | nil => simp at h
    | cons p r =>
      simp only [List.map_cons, List.cons.injEq, Prod.mk.injEq] at h
      obtain ⟨⟨hk, hv⟩, hr⟩ := h
      simp only [Instr.findAsking, hk, Sem.run_bind, run_equal_name, Result.andThen_ok]
      by_cases he : n = p.1
      · simp [he, aAt, aGet, hv]
      · simp only [he, decide_false, Bool.false_eq_true, if_false, ih r hr (i + 1), aAt, aGet]
        cases aAt r n <;> simp
        omega

theorem aAt_none {l : List (NameT × α)} {n : NameT} (h : aAt l n = none) : aGet l n = none ∧ ∀ x, aSet l n x = l ++ [(n, x)] := by
  induction l with
  | nil => simp [aGet, aSet]
  | cons p r ih =>
    simp only [aAt] at h
    by_cases he : n = p.1
    · simp [he] at h
    · simp only [he, if_false, Option.map_eq_none_iff] at h
      have := ih h
      simp [aGet, aSet, he, this]
theorem aAt_some {l : List (NameT × α)} {n : NameT} {j : Nat} (h : aAt l n = some j) : (∃ x, aGet l n = some x) ∧ (∃ p, l[j]? = some p ∧ p.1 = n) ∧ ∀ x, aSet l n x = l.set j (n, x) := by
  induction l generalizing j with
  | nil => simp [aAt] at h
  | cons p r ih =>
    simp only [aAt] at h
    by_cases he : n = p.1
    · simp [he] at h
      subst h
      simp [aGet, aSet, he]
    · simp only [he, if_false, Option.map_eq_some_iff] at h
      obtain ⟨k, hk, rfl⟩ := h
      obtain ⟨h1, h2, h3⟩ := ih hk
      simp [aGet, aSet, he, h1, h2, h3]

theorem run_findKey_name (enc : α → Value) (w : World) (n : NameT) (es : List MapEntry) (l : List (NameT × α)) (h : es.map (fun e => (e.key, e.val)) = l.map (fun p => (nameV p.1, enc p.2))) :
    (Instr.findKey 56 (nameV n) es).run Tryz.prog w = .ok ((aAt l n).map fun j => (j, ((aGet l n).map enc).getD (.bool false))) w := by
  rw [run_findKey_eq w (by kernel_rfl), run_findAsking_name enc w n es l h 0]
  simp

/-- A look-up with ok. -/
theorem run_lookup_name (enc : α → Value) (w : World) (t e : TypeId) (ht : Tryz.prog.underlying t = some (.map 56 e)) (z : Value) (hz : (zeroValue e).run Tryz.prog w = .ok z w) (m : Nat) (l : List (NameT × α)) (h : MapIs enc w m l) (n : NameT) :
    (Instr.lookup t (.map (some m)) (nameV n) true).run Tryz.prog w = .ok (.tuple #[((aGet l n).map enc).getD z, .bool (aGet l n).isSome]) w := by
  obtain ⟨es, clock, hb, hl, _⟩ := h
  have hg : (getObj m).run Tryz.prog w = .ok (.map es clock) w := by simp [getObj, Sem.run, hb]
  have hf := run_findKey_name enc w n es.toList l hl
  simp only [Instr.lookup, Sem.run_bind, run_underlying ht, Result.andThen_ok, hg, Sem.run_pure, run_checkKey_name, hf]
  cases h1 : aAt l n with
  | none => simp [(aAt_none h1).1, hz]
  | some j =>
    obtain ⟨⟨x, hx⟩, _⟩ := aAt_some h1
    simp [hx]

/-- A store. -/
theorem run_mapUpdate_name (enc : α → Value) (w : World) (t e : TypeId) (ht : Tryz.prog.underlying t = some (.map 56 e)) (m : Nat) (l : List (NameT × α)) (h : MapIs enc w m l) (n : NameT) (x : α) :
    ∃ w', (Instr.mapUpdate t (.map (some m)) (nameV n) (enc x)).run Tryz.prog w = .ok () w' ∧ MapIs enc w' m (aSet l n x) ∧ w.grownBy w' (some m) := by
  obtain ⟨es, clock, hb, hl, hst⟩ := h
  have hg : (getObj m).run Tryz.prog w = .ok (.map es clock) w := by simp [getObj, Sem.run, hb]
  have hs : ∀ o, (setObj m o).run Tryz.prog w = .ok () { w with heap := w.heap.setIfInBounds m o } := fun o => by simp [setObj, Sem.run, hb]
  have hf := run_findKey_name enc w n es.toList l hl
  have hlt := lt_of_heap hb
  have grown : ∀ o, w.grownBy { w with heap := w.heap.setIfInBounds m o } (some m) := fun o => ⟨rfl, rfl, rfl, by simp, fun k _ hk => by
    show (w.heap.setIfInBounds m o)[k]? = _
    rw [Array.getElem?_setIfInBounds_ne (fun e => hk (by rw [e]))]⟩
  have hnew : ∀ o, ({ w with heap := w.heap.setIfInBounds m o } : World).heap[m]? = some o := fun o => by
    show (w.heap.setIfInBounds m o)[m]? = _
    simp [hlt]
  cases h1 : aAt l n with
  | none =>
    rw [h1] at hf
    refine ⟨_, by simp only [Instr.mapUpdate, Sem.run_bind, run_underlying ht, Result.andThen_ok, hg, run_checkKey_name, hf, Option.map_none]; exact hs _, ⟨_, _, hnew _, ?_, hst.push (nameV n) (enc x)⟩, grown _⟩
    rw [(aAt_none h1).2]
    simp [hl]
  | some j =>
    obtain ⟨_, ⟨p, hp, hpn⟩, hset⟩ := aAt_some h1
    rw [h1] at hf
    have hkey : ((es[j]?).map (·.key)).getD (nameV n) = nameV n := by
      have h2 : (es.toList.map (fun e => (e.key, e.val)))[j]? = some (nameV p.1, enc p.2) := by rw [hl]; simp [hp]
      simp at h2
      obtain ⟨e', he', hk', _⟩ := h2
      simp [he', hk', hpn]
    refine ⟨_, by simp only [Instr.mapUpdate, Sem.run_bind, run_underlying ht, Result.andThen_ok, hg, run_checkKey_name, hf, Option.map_some, hkey, run_stays_name]; exact hs _, ⟨_, _, hnew _, ?_, ?_⟩, grown _⟩
    case refine_2 => exact hst.modify _ _ (fun _ => rfl)
    rw [hset]
    refine List.ext_getElem? fun i => ?_
    have hi := congrArg (fun L => L[i]?) hl
    simp only [List.getElem?_map, Array.getElem?_toList] at hi ⊢
    rw [Array.getElem?_modify, List.getElem?_set]
    by_cases hij : j = i
    · subst hij
      have hj : j < l.length := (List.getElem?_eq_some_iff.1 hp).1
      rw [if_pos rfl, if_pos rfl, if_pos hj]
      rw [hp] at hi
      cases he : es[j]? with
      | none => rw [he] at hi; simp at hi
      | some e0 => simp
    · rw [if_neg hij, if_neg hij]
      exact hi
end

end Go.Proofs.YtfchfjipkggnkaaGreatDoor
