/- Law 31, plain: things open, tables, their encoding, its inverse. codec: Flag of the Writer and of the Reader; Birth.Check; a thing that is open: hasBirth, isFormed, Check, ==. (printed by wip/gen_dscb.py) A thing that is open: isFormed, Check; the law's check. (printed by wip/gen_dscc.py) -/
import Derived.Test.YtfchfjipkggnkaaGreatDoorCanon
import Derived.Test.YtfchfjipkggnkaaGreatDoorLinV
import Derived.Test.YtfchfjipkggnkaaGreatDoorObjA
import Derived.Test.YtfchfjipkggnkaaGreatDoorMaps
import Derived.Deep.RegionLaw
namespace Go.Proofs.YtfchfjipkggnkaaGreatDoor
open Go.RowKit

/-- Something open. -/
structure OpnT where
  kd : Int
  mak : ByteArray
  bn : Int
  num : Int
  off : Int
  rd : Bool
  wr : Bool
  ap : Bool
def zeroO : OpnT := ⟨0, ⟨#[]⟩, 0, 0, 0, false, false, false⟩
def sameO (a b : OpnT) : Bool := decide (a.kd = b.kd) && decide (a.mak = b.mak) && decide (a.bn = b.bn) && decide (a.num = b.num) && decide (a.off = b.off) && (a.rd == b.rd) && (a.wr == b.wr) && (a.ap == b.ap)
theorem sameO_iff {a b : OpnT} : sameO a b = true ↔ a = b := by
  obtain ⟨a1, a2, a3, a4, a5, a6, a7, a8⟩ := a
  obtain ⟨b1, b2, b3, b4, b5, b6, b7, b8⟩ := b
  simp [sameO, and_assoc]
theorem sameO_self (a : OpnT) : sameO a a = true := sameO_iff.2 rfl
def isZ (o : OpnT) : Bool := sameO o zeroO
theorem isZ_iff {o : OpnT} : isZ o = true ↔ o = zeroO := sameO_iff
theorem isZ_zero : isZ zeroO = true := sameO_self _
def birthO (m : ByteArray) (k : Int) : Nat := if validB m = false then 12 else if 0 ≤ k ∧ k ≤ 1073741824 then 0 else 2
def formedO (o : OpnT) : Bool :=
  (if o.kd = 1 ∨ o.kd = 2 ∨ o.kd = 3 then decide (o.num = 0) else decide (o.mak = ⟨#[]⟩) && decide (o.bn = 0)) &&
  (!(decide (o.kd ≠ 1) && (decide (o.off ≠ 0) || o.ap)) && !(o.ap && !o.wr)) &&
  (if o.kd = 2 then o.rd && !o.wr else if o.kd = 3 then o.wr && !o.rd else o.rd || o.wr)
/-- The first error of something open. -/
def checkO (o : OpnT) : Nat :=
  if o.kd < 1 ∨ 5 < o.kd then 11
  else if formedO o = false then 3
  else if o.num < 0 ∨ 9999 < o.num ∨ o.off < 0 ∨ 4096 < o.off then 2
  else if o.kd = 1 ∨ o.kd = 2 ∨ o.kd = 3 then birthO o.mak o.bn else 0
structure OkO (o : OpnT) : Prop where
  kd : 1 ≤ o.kd ∧ o.kd ≤ 5
  num : 0 ≤ o.num ∧ o.num ≤ 9999
  off : 0 ≤ o.off ∧ o.off ≤ 4096
  bn : 0 ≤ o.bn ∧ o.bn ≤ 1073741824
  mak : o.mak.size ≤ 64
theorem checkO_ok {o : OpnT} (h : checkO o = 0) : OkO o := by
  unfold checkO at h
  by_cases h1 : o.kd < 1 ∨ 5 < o.kd
  · rw [if_pos h1] at h; cases h
  rw [if_neg h1] at h
  by_cases h2 : formedO o = false
  · rw [if_pos h2] at h; cases h
  rw [if_neg h2] at h
  by_cases h3 : o.num < 0 ∨ 9999 < o.num ∨ o.off < 0 ∨ 4096 < o.off
  · rw [if_pos h3] at h; cases h
  rw [if_neg h3] at h
  by_cases h4 : o.kd = 1 ∨ o.kd = 2 ∨ o.kd = 3
  · rw [if_pos h4] at h
    unfold birthO at h
    by_cases h5 : validB o.mak = false
    · rw [if_pos h5] at h; cases h
    rw [if_neg h5] at h
    by_cases h6 : 0 ≤ o.bn ∧ o.bn ≤ 1073741824
    · have h7 : validB o.mak = true := by simpa using h5
      exact ⟨by omega, by omega, by omega, h6, by have := valid_small h7; omega⟩
    · rw [if_neg h6] at h; cases h
  · have h7 : formedO o = true := by simpa using h2
    unfold formedO at h7
    rw [if_neg h4] at h7
    simp only [Bool.and_eq_true, decide_eq_true_eq] at h7
    obtain ⟨⟨⟨h8, h9⟩, -⟩, -⟩ := h7
    exact ⟨by omega, by omega, by omega, by rw [h9]; decide, by rw [h8]; decide⟩
theorem checkO_zero : checkO zeroO = 11 := rfl
theorem check_nz {o : OpnT} (h : checkO o = 0) : isZ o = false := by
  cases hz : isZ o with
  | false => rfl
  | true => rw [isZ_iff.1 hz, checkO_zero] at h; cases h

/-! ### The encoding -/
def flagB (b : Bool) : List UInt8 := [if b then 1 else 0]
def entB (i : Nat) (o : OpnT) : List UInt8 :=
  natBytes i ++ natBytes o.kd.toNat ++ textB o.mak ++ natBytes o.bn.toNat ++ natBytes o.num.toNat ++ natBytes o.off.toNat ++ flagB o.rd ++ flagB o.wr ++ flagB o.ap
/-- What is used of a table, from a place on. -/
def usedO : Nat → List OpnT → List (Nat × OpnT)
  | _, [] => []
  | i, o :: r => if isZ o = true then usedO (i + 1) r else (i, o) :: usedO (i + 1) r
def entsB (l : List (Nat × OpnT)) : List UInt8 := l.flatMap fun p => entB p.1 p.2
def encDB (t : List OpnT) : List UInt8 := natBytes (usedO 0 t).length ++ entsB (usedO 0 t)
/-- The first error of a table. -/
def tabE : List OpnT → Nat
  | [] => 0
  | o :: r => if isZ o = true then tabE r else if checkO o ≠ 0 then checkO o else tabE r
def encD (t : List OpnT) : ByteArray × Nat := if tabE t = 0 then (strOf (encDB t), 0) else (⟨#[]⟩, tabE t)
theorem usedO_snoc (t : List OpnT) (o : OpnT) : ∀ i, usedO i (t ++ [o]) = usedO i t ++ (if isZ o = true then [] else [(i + t.length, o)]) := by
  induction t with
  | nil => intro i; simp only [List.nil_append, usedO, List.length_nil, Nat.add_zero]
  | cons x r ih =>
    intro i
    simp only [List.cons_append, usedO, ih, List.length_cons]
    rw [show i + 1 + r.length = i + (r.length + 1) by omega]
    split <;> rfl
theorem usedO_take {t : List OpnT} {k : Nat} {o : OpnT} (h : t[k]? = some o) : usedO 0 (t.take (k + 1)) = usedO 0 (t.take k) ++ (if isZ o = true then [] else [(k, o)]) := by
  have hk := (List.getElem?_eq_some_iff.1 h).1
  have e : t.take (k + 1) = t.take k ++ [o] := by
    rw [List.take_succ_eq_append_getElem hk]
    have := (List.getElem?_eq_some_iff.1 h).2
    rw [this]
  rw [e, usedO_snoc]
  have : (t.take k).length = k := by simp; omega
  rw [this, Nat.zero_add]
theorem tabE_snoc {t : List OpnT} (h : tabE t = 0) (o : OpnT) : tabE (t ++ [o]) = if isZ o = true then 0 else checkO o := by
  induction t with
  | nil =>
    simp only [List.nil_append, tabE]
    split
    · rfl
    · split
      · rfl
      · omega
  | cons x r ih =>
    simp only [List.cons_append, tabE] at h ⊢
    by_cases hx : isZ x = true
    · rw [if_pos hx] at h ⊢; exact ih h
    · rw [if_neg hx] at h ⊢
      by_cases hc : checkO x ≠ 0
      · rw [if_pos hc] at h; exact absurd h hc
      · rw [if_neg hc] at h ⊢; exact ih h
theorem tabE_app {t r : List OpnT} (h : tabE t ≠ 0) : tabE (t ++ r) = tabE t := by
  induction t with
  | nil => exact absurd rfl h
  | cons x t ih =>
    simp only [List.cons_append, tabE] at h ⊢
    by_cases hx : isZ x = true
    · rw [if_pos hx] at h ⊢; rw [if_pos hx]; exact ih h
    · rw [if_neg hx] at h ⊢
      rw [if_neg hx]
      by_cases hc : checkO x ≠ 0
      · rw [if_pos hc, if_pos hc]
      · rw [if_neg hc] at h ⊢; rw [if_neg hc]; exact ih h
theorem take_snocO {t : List OpnT} {k : Nat} {o : OpnT} (h : t[k]? = some o) : t.take (k + 1) = t.take k ++ [o] := by
  have hk := (List.getElem?_eq_some_iff.1 h).1
  rw [List.take_succ_eq_append_getElem hk, (List.getElem?_eq_some_iff.1 h).2]
/-- Up to k all is well; the entry k decides. -/
theorem tabE_step {t : List OpnT} {k : Nat} {o : OpnT} (h : t[k]? = some o) (hE : tabE (t.take k) = 0) : tabE (t.take (k + 1)) = if isZ o = true then 0 else checkO o := by
  rw [take_snocO h]
  exact tabE_snoc hE o
theorem tabE_stop {t : List OpnT} {k : Nat} {o : OpnT} (h : t[k]? = some o) (hE : tabE (t.take k) = 0) (hz : isZ o = false) (hc : checkO o ≠ 0) : tabE t = checkO o := by
  have h1 : tabE (t.take (k + 1)) = checkO o := by rw [tabE_step h hE, if_neg (by rw [hz]; decide)]
  rw [← List.take_append_drop (k + 1) t, tabE_app (by rw [h1]; exact hc), h1]
theorem tabE_mem {t : List OpnT} (h : tabE t = 0) : ∀ o ∈ t, isZ o = false → checkO o = 0 := by
  induction t with
  | nil => intro o ho; cases ho
  | cons x r ih =>
    intro o ho hz
    simp only [tabE] at h
    by_cases hx : isZ x = true
    · rw [if_pos hx] at h
      rcases List.mem_cons.1 ho with rfl | ho
      · rw [hx] at hz; cases hz
      · exact ih h o ho hz
    · rw [if_neg hx] at h
      by_cases hc : checkO x ≠ 0
      · rw [if_pos hc] at h; exact absurd h hc
      · rw [if_neg hc] at h
        rcases List.mem_cons.1 ho with rfl | ho
        · omega
        · exact ih h o ho hz
theorem tabE_of {t : List OpnT} (h : ∀ o ∈ t, isZ o = false → checkO o = 0) : tabE t = 0 := by
  induction t with
  | nil => rfl
  | cons x r ih =>
    simp only [tabE]
    by_cases hx : isZ x = true
    · rw [if_pos hx]; exact ih (fun o ho => h o (List.mem_cons_of_mem _ ho))
    · rw [if_neg hx, if_neg (by rw [h x (by simp) (by simpa using hx)]; simp)]
      exact ih (fun o ho => h o (List.mem_cons_of_mem _ ho))
theorem usedO_mem {t : List OpnT} : ∀ {i : Nat} {p : Nat × OpnT}, p ∈ usedO i t → p.2 ∈ t ∧ isZ p.2 = false ∧ i ≤ p.1 ∧ p.1 < i + t.length := by
  induction t with
  | nil => intro i p h; cases h
  | cons x r ih =>
    intro i p h
    simp only [usedO] at h
    by_cases hx : isZ x = true
    · rw [if_pos hx] at h
      obtain ⟨h1, h2, h3, h4⟩ := ih h
      exact ⟨List.mem_cons_of_mem _ h1, h2, by omega, by simp; omega⟩
    · rw [if_neg hx] at h
      rcases List.mem_cons.1 h with rfl | h
      · exact ⟨by simp, by simpa using hx, Nat.le_refl _, by simp⟩
      · obtain ⟨h1, h2, h3, h4⟩ := ih h
        exact ⟨List.mem_cons_of_mem _ h1, h2, by omega, by simp; omega⟩
theorem usedO_len (t : List OpnT) (i : Nat) : (usedO i t).length ≤ t.length := by
  induction t generalizing i with
  | nil => exact Nat.le_refl _
  | cons x r ih =>
    simp only [usedO]
    have := ih (i + 1)
    split <;> simp <;> omega
theorem entB_len {i : Nat} {o : OpnT} (h : o.mak.size ≤ 64) : (entB i o).length ≤ 200 := by
  have h1 := natBytes_length i
  have h2 := natBytes_length o.kd.toNat
  have h3 := textB_length o.mak
  have h4 := natBytes_length o.bn.toNat
  have h5 := natBytes_length o.num.toNat
  have h6 := natBytes_length o.off.toNat
  simp only [entB, flagB, List.length_append, List.length_cons, List.length_nil]
  omega
theorem entsB_len {l : List (Nat × OpnT)} (h : ∀ p ∈ l, p.2.mak.size ≤ 64) : (entsB l).length ≤ l.length * 200 := by
  induction l with
  | nil => simp [entsB]
  | cons p r ih =>
    have h1 := ih (fun x hx => h x (List.mem_cons_of_mem _ hx))
    have h2 := entB_len (i := p.1) (h p (by simp))
    simp only [entsB, List.flatMap_cons, List.length_append, List.length_cons] at h1 ⊢
    omega
theorem used_size {t : List OpnT} (h : tabE t = 0) : ∀ p ∈ usedO 0 t, p.2.mak.size ≤ 64 := fun p hp => by
  obtain ⟨h1, h2, -⟩ := usedO_mem hp
  exact (checkO_ok (tabE_mem h _ h1 h2)).mak
theorem encDB_len {t : List OpnT} (h : tabE t = 0) (hl : t.length ≤ 16) : (encDB t).length ≤ 3300 := by
  have h1 := entsB_len (used_size h)
  have h2 := usedO_len t 0
  have h3 := natBytes_length (usedO 0 t).length
  simp only [encDB, List.length_append]
  omega
theorem encD_size {t : List OpnT} (hl : t.length ≤ 16) : (encD t).1.size ≤ 65536 := by
  unfold encD
  split
  · rename_i h
    have : (strOf (encDB t)).size = (encDB t).length := by rw [← size_toList]; rfl
    rw [this]
    have := encDB_len h hl
    omega
  · exact Nat.zero_le _

/-! ### Decode -/
def rdFlag (s : RdS) : Bool × RdS :=
  if s.fail ≠ 0 then (false, s) else match s.rest with
    | [] => (false, ⟨[], 28⟩)
    | b :: r => if 1 < b.toNat then (false, ⟨b :: r, 3⟩) else (decide (b.toNat = 1), ⟨r, 0⟩)
structure EntR where
  fd : Nat
  o : OpnT
  s : RdS
def rdEnt (s0 : RdS) : EntR :=
  let a1 := rdNum 15 s0
  let a2 := rdNum 5 a1.2
  let a3 := rdText 65536 a2.2
  let a4 := rdNum 1073741824 a3.2
  let a5 := rdNum 9999 a4.2
  let a6 := rdNum 4096 a5.2
  let a7 := rdFlag a6.2
  let a8 := rdFlag a7.2
  let a9 := rdFlag a8.2
  ⟨a1.1, ⟨a2.1, strOf a3.1, a4.1, a5.1, a6.1, a7.1, a8.1, a9.1⟩, a9.2⟩
/-- n entries, the numbers rising. -/
def decE : Nat → Int → List OpnT → RdS → Option (List OpnT × RdS)
  | 0, _, t, s => some (t, s)
  | n + 1, last, t, s => if ((rdEnt s).fd : Int) ≤ last ∨ checkO (rdEnt s).o ≠ 0 then none else decE n (rdEnt s).fd (t.set (rdEnt s).fd (rdEnt s).o) (rdEnt s).s
def zeroTab : List OpnT := List.replicate 16 zeroO
def decD (s : ByteArray) : List OpnT × Nat :=
  match decE (rdNum 16 ⟨s.data.toList, 0⟩).1 (-1) zeroTab (rdNum 16 ⟨s.data.toList, 0⟩).2 with
  | none => (zeroTab, 3)
  | some (t, r) => if rdClose r ≠ 0 then (zeroTab, 3) else (t, 0)
theorem zeroTab_len : zeroTab.length = 16 := rfl
theorem decE_len : ∀ {n : Nat} {last : Int} {t : List OpnT} {s : RdS} {x : List OpnT × RdS}, decE n last t s = some x → x.1.length = t.length
  | 0, _, _, _, _, h => by injection h with h; rw [← h]
  | n + 1, last, t, s, x, h => by
    unfold decE at h
    split at h
    · cases h
    · have := decE_len h
      rw [this]; simp
theorem decD_len (s : ByteArray) : (decD s).1.length = 16 := by
  unfold decD
  split
  · rfl
  · rename_i t r h
    split
    · rfl
    · exact (decE_len h).trans zeroTab_len

/-- Rising from i on, below m. -/
def RiseO : Nat → Nat → List (Nat × OpnT) → Prop
  | _, _, [] => True
  | i, m, p :: r => i ≤ p.1 ∧ p.1 < m ∧ checkO p.2 = 0 ∧ RiseO (p.1 + 1) m r
theorem RiseO.mono {i j m : Nat} {l : List (Nat × OpnT)} (h : RiseO i m l) (hij : j ≤ i) : RiseO j m l := by
  cases l with
  | nil => trivial
  | cons p r => exact ⟨Nat.le_trans hij h.1, h.2⟩
def putO (t : List OpnT) (l : List (Nat × OpnT)) : List OpnT := l.foldl (fun a p => a.set p.1 p.2) t
def fillO : Nat → Nat → List (Nat × OpnT) → List OpnT
  | _, 0, _ => []
  | i, m + 1, [] => zeroO :: fillO (i + 1) m []
  | i, m + 1, p :: r => if p.1 = i then p.2 :: fillO (i + 1) m r else zeroO :: fillO (i + 1) m (p :: r)
theorem putO_fill : ∀ (m : Nat) (pre : List OpnT) (l : List (Nat × OpnT)), RiseO pre.length (pre.length + m) l → putO (pre ++ List.replicate m zeroO) l = pre ++ fillO pre.length m l
  | 0, pre, [], _ => by simp [putO, fillO]
  | 0, pre, p :: r, h => by have h1 := h.1; have h2 := h.2.1; omega
  | m + 1, pre, [], _ => by
    have := putO_fill m (pre ++ [zeroO]) [] trivial
    simp only [List.length_append, List.length_cons, List.length_nil] at this
    simp only [fillO]
    rw [List.replicate_succ, show pre ++ zeroO :: List.replicate m zeroO = (pre ++ [zeroO]) ++ List.replicate m zeroO by simp, this]
    simp
  | m + 1, pre, p :: r, h => by
    by_cases hp : p.1 = pre.length
    · have hs : (pre ++ List.replicate (m + 1) zeroO).set p.1 p.2 = (pre ++ [p.2]) ++ List.replicate m zeroO := by
        rw [hp, List.set_append_right _ _ (Nat.le_refl _), List.replicate_succ]
        simp
      have h4 := h.2.2.2
      have := putO_fill m (pre ++ [p.2]) r (by
        simp only [List.length_append, List.length_cons, List.length_nil]
        rw [hp] at h4
        rw [show pre.length + (0 + 1) + m = pre.length + (m + 1) by omega]
        exact h4)
      simp only [List.length_append, List.length_cons, List.length_nil] at this
      show putO ((pre ++ List.replicate (m + 1) zeroO).set p.1 p.2) r = _
      rw [hs, this]
      simp only [fillO]
      rw [if_pos hp]
      simp
    · have h1 := h.1
      have := putO_fill m (pre ++ [zeroO]) (p :: r) (by
        simp only [List.length_append, List.length_cons, List.length_nil]
        rw [show pre.length + (0 + 1) + m = pre.length + (m + 1) by omega]
        exact ⟨by omega, h.2⟩)
      simp only [List.length_append, List.length_cons, List.length_nil] at this
      rw [List.replicate_succ, show pre ++ zeroO :: List.replicate m zeroO = (pre ++ [zeroO]) ++ List.replicate m zeroO by simp, this]
      simp only [fillO]
      rw [if_neg hp]
      simp
theorem fill_used : ∀ (t : List OpnT) (i : Nat), fillO i t.length (usedO i t) = t
  | [], _ => rfl
  | o :: r, i => by
    have ih := fill_used r (i + 1)
    simp only [usedO, List.length_cons]
    by_cases hz : isZ o = true
    · rw [if_pos hz]
      have hne : fillO i (r.length + 1) (usedO (i + 1) r) = zeroO :: fillO (i + 1) r.length (usedO (i + 1) r) := by
        cases hu : usedO (i + 1) r with
        | nil => rfl
        | cons p q =>
          have := usedO_mem (t := r) (i := i + 1) (p := p) (by rw [hu]; simp)
          simp only [fillO]
          rw [if_neg (by omega)]
      rw [hne, ih, isZ_iff.1 hz]
    · rw [if_neg hz]
      simp only [fillO, if_true]
      rw [ih]
theorem used_fill : ∀ (m i : Nat) (l : List (Nat × OpnT)), RiseO i (i + m) l → usedO i (fillO i m l) = l
  | 0, _, [], _ => rfl
  | 0, _, p :: r, h => by have h1 := h.1; have h2 := h.2.1; omega
  | m + 1, i, [], _ => by
    have ih := used_fill m (i + 1) [] trivial
    simp only [fillO, usedO]
    rw [if_pos isZ_zero]
    exact ih
  | m + 1, i, p :: r, h => by
    simp only [fillO]
    by_cases hp : p.1 = i
    · rw [if_pos hp]
      obtain ⟨-, -, h3, h4⟩ := h
      have ih := used_fill m (i + 1) r (by rw [hp] at h4; rw [show i + 1 + m = i + (m + 1) by omega]; exact h4)
      simp only [usedO]
      rw [if_neg (by rw [check_nz h3]; decide), ih, ← hp]
    · rw [if_neg hp]
      have h1 := h.1
      have ih := used_fill m (i + 1) (p :: r) (by rw [show i + 1 + m = i + (m + 1) by omega]; exact ⟨by omega, h.2⟩)
      simp only [usedO]
      rw [if_pos isZ_zero]
      exact ih
theorem used_rise : ∀ (t : List OpnT) (i : Nat), tabE t = 0 → RiseO i (i + t.length) (usedO i t)
  | [], _, _ => trivial
  | o :: r, i, h => by
    have hr : tabE r = 0 := by
      refine tabE_of fun x hx => tabE_mem h x (List.mem_cons_of_mem _ hx)
    have ih := used_rise r (i + 1) hr
    simp only [usedO, List.length_cons]
    rw [show i + 1 + r.length = i + (r.length + 1) by omega] at ih
    by_cases hz : isZ o = true
    · rw [if_pos hz]
      exact ih.mono (by omega)
    · rw [if_neg hz]
      exact ⟨Nat.le_refl _, by show i < _; omega, tabE_mem h o (by simp) (by simpa using hz), ih⟩

theorem rdFlag_enc (b : Bool) (rest : List UInt8) : rdFlag ⟨flagB b ++ rest, 0⟩ = (b, ⟨rest, 0⟩) := by
  cases b <;> rfl
theorem rdFlag_canon (bs : List UInt8) (f : Nat) (h : (rdFlag ⟨bs, f⟩).2.fail = 0) : f = 0 ∧ bs = flagB (rdFlag ⟨bs, f⟩).1 ++ (rdFlag ⟨bs, f⟩).2.rest := by
  unfold rdFlag at h ⊢
  dsimp only at h ⊢
  by_cases h1 : f ≠ 0
  · rw [if_pos h1] at h; exact absurd h h1
  rw [if_neg h1] at h ⊢
  refine ⟨by omega, ?_⟩
  cases bs with
  | nil => simp at h
  | cons b r =>
    dsimp only at h ⊢
    by_cases h2 : 1 < b.toNat
    · rw [if_pos h2] at h; simp at h
    · rw [if_neg h2]
      dsimp only
      have h3 : b.toNat = 0 ∨ b.toNat = 1 := by omega
      rcases h3 with h3 | h3
      · have : b = 0 := UInt8.toNat_inj.1 (by rw [h3]; rfl)
        subst this
        rfl
      · have : b = 1 := UInt8.toNat_inj.1 (by rw [h3]; rfl)
        subst this
        rfl
theorem rdEnt_enc (i : Nat) (o : OpnT) (rest : List UInt8) (hi : i < 16) (h : checkO o = 0) : rdEnt ⟨entB i o ++ rest, 0⟩ = ⟨i, o, ⟨rest, 0⟩⟩ := by
  obtain ⟨h1, h2, h3, h4, h5⟩ := checkO_ok h
  obtain ⟨kd, mak, bn, num, off, rd, wr, ap⟩ := o
  dsimp only at *
  have e0 : entB i ⟨kd, mak, bn, num, off, rd, wr, ap⟩ ++ rest = natBytes i ++ (natBytes kd.toNat ++ (textB mak ++ (natBytes bn.toNat ++ (natBytes num.toNat ++ (natBytes off.toNat ++ (flagB rd ++ (flagB wr ++ (flagB ap ++ rest)))))))) := by
    simp [entB]
  have e1 := rdNum_nat 15 i (natBytes kd.toNat ++ (textB mak ++ (natBytes bn.toNat ++ (natBytes num.toNat ++ (natBytes off.toNat ++ (flagB rd ++ (flagB wr ++ (flagB ap ++ rest)))))))) (by omega) (by omega)
  have e2 := rdNum_nat 5 kd.toNat (textB mak ++ (natBytes bn.toNat ++ (natBytes num.toNat ++ (natBytes off.toNat ++ (flagB rd ++ (flagB wr ++ (flagB ap ++ rest))))))) (by omega) (by omega)
  have e3 := rdText_text 65536 mak (natBytes bn.toNat ++ (natBytes num.toNat ++ (natBytes off.toNat ++ (flagB rd ++ (flagB wr ++ (flagB ap ++ rest)))))) (by omega) (by decide)
  have e4 := rdNum_nat 1073741824 bn.toNat (natBytes num.toNat ++ (natBytes off.toNat ++ (flagB rd ++ (flagB wr ++ (flagB ap ++ rest))))) (by omega) (by omega)
  have e5 := rdNum_nat 9999 num.toNat (natBytes off.toNat ++ (flagB rd ++ (flagB wr ++ (flagB ap ++ rest)))) (by omega) (by omega)
  have e6 := rdNum_nat 4096 off.toNat (flagB rd ++ (flagB wr ++ (flagB ap ++ rest))) (by omega) (by omega)
  unfold rdEnt
  rw [e0]
  dsimp only
  rw [e1]
  dsimp only
  rw [e2]
  dsimp only
  rw [e3]
  dsimp only
  rw [e4]
  dsimp only
  rw [e5]
  dsimp only
  rw [e6]
  dsimp only
  rw [rdFlag_enc]
  dsimp only
  rw [rdFlag_enc]
  dsimp only
  rw [rdFlag_enc, strOf_toList, Int.toNat_of_nonneg (by omega : 0 ≤ kd), Int.toNat_of_nonneg h4.1, Int.toNat_of_nonneg h2.1, Int.toNat_of_nonneg h3.1]
theorem rdEnt_canon (bs : List UInt8) (f : Nat) (h : (rdEnt ⟨bs, f⟩).s.fail = 0) : f = 0 ∧ bs = entB (rdEnt ⟨bs, f⟩).fd (rdEnt ⟨bs, f⟩).o ++ (rdEnt ⟨bs, f⟩).s.rest := by
  unfold rdEnt at h ⊢
  dsimp only at h ⊢
  have c1 := rdNum_canon 15 bs f
  generalize rdNum 15 ⟨bs, f⟩ = a1 at *
  obtain ⟨n1, ⟨r1, f1⟩⟩ := a1
  dsimp only at *
  have c2 := rdNum_canon 5 r1 f1
  generalize rdNum 5 ⟨r1, f1⟩ = a2 at *
  obtain ⟨n2, ⟨r2, f2⟩⟩ := a2
  dsimp only at *
  have c3 := rdText_canon 65536 r2 f2
  generalize rdText 65536 ⟨r2, f2⟩ = a3 at *
  obtain ⟨n3, ⟨r3, f3⟩⟩ := a3
  dsimp only at *
  have c4 := rdNum_canon 1073741824 r3 f3
  generalize rdNum 1073741824 ⟨r3, f3⟩ = a4 at *
  obtain ⟨n4, ⟨r4, f4⟩⟩ := a4
  dsimp only at *
  have c5 := rdNum_canon 9999 r4 f4
  generalize rdNum 9999 ⟨r4, f4⟩ = a5 at *
  obtain ⟨n5, ⟨r5, f5⟩⟩ := a5
  dsimp only at *
  have c6 := rdNum_canon 4096 r5 f5
  generalize rdNum 4096 ⟨r5, f5⟩ = a6 at *
  obtain ⟨n6, ⟨r6, f6⟩⟩ := a6
  dsimp only at *
  have c7 := rdFlag_canon r6 f6
  generalize rdFlag ⟨r6, f6⟩ = a7 at *
  obtain ⟨n7, ⟨r7, f7⟩⟩ := a7
  dsimp only at *
  have c8 := rdFlag_canon r7 f7
  generalize rdFlag ⟨r7, f7⟩ = a8 at *
  obtain ⟨n8, ⟨r8, f8⟩⟩ := a8
  dsimp only at *
  have c9 := rdFlag_canon r8 f8
  generalize rdFlag ⟨r8, f8⟩ = a9 at *
  obtain ⟨n9, ⟨r9, f9⟩⟩ := a9
  dsimp only at *
  obtain ⟨g8, d9⟩ := c9 h
  obtain ⟨g7, d8⟩ := c8 g8
  obtain ⟨g6, d7⟩ := c7 g7
  obtain ⟨g5, d6⟩ := c6 g6
  obtain ⟨g4, d5⟩ := c5 g5
  obtain ⟨g3, d4⟩ := c4 g4
  obtain ⟨g2, d3⟩ := c3 g3
  obtain ⟨g1, d2⟩ := c2 g2
  obtain ⟨g0, d1⟩ := c1 g1
  refine ⟨g0, ?_⟩
  rw [d1, d2, d3, d4, d5, d6, d7, d8, d9]
  simp [entB]
theorem rdEnt_fd (s : RdS) : (rdEnt s).fd ≤ 15 := rdNum_le 15 s
theorem decE_enc : ∀ (l : List (Nat × OpnT)) (i : Nat) (last : Int) (t : List OpnT) (rest : List UInt8), RiseO i 16 l → last < i → decE l.length last t ⟨entsB l ++ rest, 0⟩ = some (putO t l, ⟨rest, 0⟩)
  | [], _, _, _, _, _, _ => by simp [decE, putO, entsB]
  | p :: r, i, last, t, rest, h, hl => by
    obtain ⟨h1, h2, h3, h4⟩ := h
    have e : entsB (p :: r) ++ rest = entB p.1 p.2 ++ (entsB r ++ rest) := by simp [entsB]
    have hr := rdEnt_enc p.1 p.2 (entsB r ++ rest) h2 h3
    rw [e]
    simp only [List.length_cons, decE]
    rw [hr]
    dsimp only
    rw [if_neg (by rw [h3]; omega), decE_enc r (p.1 + 1) p.1 _ rest h4 (by omega)]
    rfl
theorem ddec_enc {t : List OpnT} (h : tabE t = 0) (hl : t.length = 16) : decD (strOf (encDB t)) = (t, 0) := by
  have hu := used_rise t 0 h
  rw [Nat.zero_add, hl] at hu
  have e0 : (strOf (encDB t)).data.toList = natBytes (usedO 0 t).length ++ (entsB (usedO 0 t) ++ []) := by simp [strOf, encDB]
  have hlen := usedO_len t 0
  have e1 := rdNum_nat 16 (usedO 0 t).length (entsB (usedO 0 t) ++ []) (by omega) (by omega)
  have e2 := decE_enc (usedO 0 t) 0 (-1) zeroTab [] hu (by omega)
  have e3 : putO zeroTab (usedO 0 t) = t := by
    have := putO_fill 16 [] (usedO 0 t) (by simpa using hu)
    simp only [List.nil_append, List.length_nil] at this
    show putO (List.replicate 16 zeroO) _ = _
    rw [this]
    have h4 := fill_used t 0
    rw [hl] at h4
    exact h4
  unfold decD
  rw [e0, e1]
  dsimp only
  rw [e2]
  dsimp only
  rw [e3]
  rfl
theorem decE_canon : ∀ (n : Nat) (last : Int) (t : List OpnT) (s : RdS) (x : List OpnT × RdS) (i : Nat), decE n last t s = some x → (i : Int) = last + 1 → x.2.fail = 0 → ∃ l, l.length = n ∧ RiseO i 16 l ∧ x.1 = putO t l ∧ s.fail = 0 ∧ s.rest = entsB l ++ x.2.rest
  | 0, _, t, s, x, _, h, _, hf => by
    injection h with h
    subst h
    exact ⟨[], rfl, trivial, rfl, hf, by simp [entsB]⟩
  | n + 1, last, t, ⟨bs, f⟩, x, i, h, hi, hf => by
    have hfd := rdEnt_fd ⟨bs, f⟩
    have hcan := rdEnt_canon bs f
    unfold decE at h
    dsimp only
    generalize rdEnt ⟨bs, f⟩ = e at *
    obtain ⟨fd, o, s1⟩ := e
    dsimp only at *
    by_cases hc : (fd : Int) ≤ last ∨ checkO o ≠ 0
    · rw [if_pos hc] at h; cases h
    · rw [if_neg hc] at h
      obtain ⟨l, h1, h2, h3, h4, h5⟩ := decE_canon n _ _ _ x (fd + 1) h (by omega) hf
      obtain ⟨g1, g2⟩ := hcan h4
      refine ⟨(fd, o) :: l, by simp [h1], ⟨by show i ≤ fd; omega, by show fd < 16; omega, by show checkO o = 0; omega, h2⟩, by rw [h3]; rfl, g1, ?_⟩
      rw [g2, h5]
      simp [entsB]
theorem used_all {l : List (Nat × OpnT)} (h : RiseO 0 16 l) : usedO 0 (putO zeroTab l) = l := by
  have h1 := putO_fill 16 [] l (by simpa using h)
  simp only [List.nil_append, List.length_nil] at h1
  have h2 : putO zeroTab l = fillO 0 16 l := h1
  rw [h2]
  exact used_fill 16 0 l h
theorem rise_ok : ∀ {l : List (Nat × OpnT)} {i m : Nat}, RiseO i m l → ∀ p ∈ l, checkO p.2 = 0
  | [], _, _, _, _, hp => by cases hp
  | q :: r, _, _, h, p, hp => by
    rcases List.mem_cons.1 hp with rfl | hp
    · exact h.2.2.1
    · exact rise_ok h.2.2.2 p hp
theorem used_of_mem : ∀ {t : List OpnT} {i : Nat} {o : OpnT}, o ∈ t → isZ o = false → ∃ j, (j, o) ∈ usedO i t
  | [], _, _, h, _ => by cases h
  | x :: r, i, o, h, hz => by
    simp only [usedO]
    rcases List.mem_cons.1 h with rfl | h
    · rw [if_neg (by rw [hz]; decide)]
      exact ⟨i, by simp⟩
    · obtain ⟨j, hj⟩ := used_of_mem (i := i + 1) h hz
      refine ⟨j, ?_⟩
      split
      · exact hj
      · exact List.mem_cons_of_mem _ hj
/-- What was decoded was the encoding of what was decoded. -/
theorem ddec_canon (s : ByteArray) (h : (decD s).2 = 0) : strOf (encDB (decD s).1) = s ∧ tabE (decD s).1 = 0 := by
  have h7 := rdNum_canon 16 s.data.toList 0
  unfold decD at h ⊢
  generalize rdNum 16 ⟨s.data.toList, 0⟩ = a at *
  obtain ⟨n, r0⟩ := a
  dsimp only at *
  cases he : decE n (-1) zeroTab r0 with
  | none => rw [he] at h; cases h
  | some x =>
    obtain ⟨t, r⟩ := x
    rw [he] at h
    dsimp only at h ⊢
    by_cases hc : rdClose r ≠ 0
    · rw [if_pos hc] at h; cases h
    · rw [if_neg hc]
      dsimp only
      obtain ⟨f1, f2⟩ := rdClose_ok r (by omega)
      obtain ⟨l, h1, h2, h3, h4, h5⟩ := decE_canon _ _ _ _ _ 0 he (by omega) f1
      dsimp only at h3 h5
      obtain ⟨-, h6⟩ := h7 h4
      have hu := used_all h2
      rw [← h3] at hu
      refine ⟨?_, tabE_of fun o ho hz => ?_⟩
      · have : encDB t = s.data.toList := by
          unfold encDB
          rw [hu, h1, h6, h5, f2, List.append_nil]
        rw [this]
        exact strOf_toList s
      · obtain ⟨j, hj⟩ := used_of_mem (i := 0) ho hz
        rw [hu] at hj
        exact rise_ok h2 _ hj
theorem decD_err (s : ByteArray) (h : (decD s).2 ≠ 0) : decD s = (zeroTab, 3) := by
  unfold decD at h ⊢
  cases he : decE (rdNum 16 ⟨s.data.toList, 0⟩).1 (-1) zeroTab (rdNum 16 ⟨s.data.toList, 0⟩).2 with
  | none => rfl
  | some x =>
    obtain ⟨t, r⟩ := x
    rw [he] at h
    dsimp only at h ⊢
    by_cases hc : rdClose r ≠ 0
    · rw [if_pos hc]
    · rw [if_neg hc] at h; exact absurd rfl h
end Go.Proofs.YtfchfjipkggnkaaGreatDoor

namespace Go.Proofs.YtfchfjipkggnkaaGreatDoor
open Go.RowKit

/-- What Flag's closure parses. -/
def flagParse : List UInt8 → Bool × Nat × Nat
  | [] => (false, 0, 28)
  | b :: _ => if 1 < b.toNat then (false, 0, 3) else (decide (b.toNat = 1), 1, 0)
theorem rdFlag_eq (s : RdS) : rdFlag s = if s.fail ≠ 0 then (false, s) else if (flagParse s.rest).2.2 ≠ 0 then (false, ⟨s.rest, (flagParse s.rest).2.2⟩) else ((flagParse s.rest).1, ⟨s.rest.drop (flagParse s.rest).2.1, 0⟩) := by
  unfold rdFlag
  by_cases h : s.fail ≠ 0
  · rw [if_pos h, if_pos h]
  rw [if_neg h, if_neg h]
  cases s.rest with
  | nil => rfl
  | cons b r =>
    dsimp only
    by_cases h2 : 1 < b.toNat
    · have hf : flagParse (b :: r) = (false, 0, 3) := if_pos h2
      rw [if_pos h2, hf]; rfl
    · have hf : flagParse (b :: r) = (decide (b.toNat = 1), 1, 0) := if_neg h2
      rw [if_neg h2, hf]; rfl
theorem flagParse_small (bs : List UInt8) : (flagParse bs).2.1 ≤ bs.length ∧ (flagParse bs).2.2 ≤ 28 ∧ (flagParse bs).2.1 ≤ 1 := by
  unfold flagParse
  split
  · simp
  · split <;> simp
set_option maxRecDepth 100000 in
set_option maxHeartbeats 1600000 in
theorem flag1_any (g off n c : Nat) (bs : List UInt8) (w : World) (hlen : bs.length ≤ 70368744177664) (hb : BSl w g off n bs) :
    Calls Tryz.prog 91 #[.slice (some ⟨g, off, none⟩) n c] w fun r w' =>
      r = .returned (.tuple #[.bool (flagParse bs).1, .int .i64 (flagParse bs).2.1, .int .i64 (flagParse bs).2.2]) ∧ w = w' := by
  obtain ⟨rfl, hb⟩ := hb
  cases bs with
  | nil =>
    clear hb
    go_enter Tryz.func91, Tryz.ntmps91
    go_wp2
    go_ret3
    exact ⟨rfl, rfl⟩
  | cons b r =>
    have h0 : w.cell? ⟨g, off, none⟩ = some (.int .u8 b.toNat) := hb 0 (by simp)
    clear hb
    have hlt := b.toNat_lt
    have hne : ((r.length : Int) + 1 == 0) = false := beq_eq_false_iff_ne.2 (by omega)
    have hne2 : (((b :: r).length : Int) == 0) = false := beq_eq_false_iff_ne.2 (by simp; omega)
    have hl1 : 0 < (b :: r).length := by simp
    have Hf : Hid (flagParse (b :: r) = if 1 < b.toNat then (false, 0, 3) else (decide (b.toNat = 1), 1, 0)) := rfl
    generalize (b :: r).length = L at *
    clear hne
    by_cases h1 : 1 < b.toNat
    · have hf : Hid (flagParse (b :: r) = (false, 0, 3)) := Hf.out.trans (if_pos h1)
      have h2 : (1 : Int) < (b.toNat : Int) := by omega
      clear Hf h1
      generalize flagParse (b :: r) = q at *
      generalize b.toNat = x at *
      go_enter Tryz.func91, Tryz.ntmps91
      go_wp2
      go_ret3
      rw [hf.out]
      exact ⟨rfl, rfl⟩
    · have hf : Hid (flagParse (b :: r) = (decide (b.toNat = 1), 1, 0)) := Hf.out.trans (if_neg h1)
      have h2 : ¬ (1 : Int) < (b.toNat : Int) := by omega
      have h3 : ((b.toNat : Int) == 1) = decide (b.toNat = 1) := by
        by_cases h : b.toNat = 1
        · rw [h]; rfl
        · rw [decide_eq_false h]; exact beq_eq_false_iff_ne.2 (by omega)
      clear Hf h1
      generalize flagParse (b :: r) = q at *
      generalize decide (b.toNat = 1) = d at *
      generalize b.toNat = x at *
      go_enter Tryz.func91, Tryz.ntmps91
      go_wp2
      go_ret3
      rw [hf.out]
      exact ⟨rfl, rfl⟩
set_option maxRecDepth 100000 in
set_option maxHeartbeats 1600000 in
theorem readBool_any (B : Nat → Prop) (b : Nat) (s : RdS) (w : World) (h : Rd B b w s) :
    Calls Tryz.prog 90 #[.pointer (some ⟨b, 0, none⟩), .func (.func 91) #[] #[]] w
      (RdPost B b w (.bool (rdFlag s).1) (rdFlag s).2) := by
  obtain ⟨hBb, g, off, n, c, p, hh, hsl, hnc, hBg, hgb, hlen⟩ := h
  have hc0 : w.cell? ⟨b, 0, none⟩ = some (.slice (some ⟨g, off, none⟩) n c) := cell_of_heap hh 0
  have hc1 : w.cell? ⟨b, 1, none⟩ = some (.int .i64 p) := cell_of_heap hh 1
  have hc2 : w.cell? ⟨b, 2, none⟩ = some (.int .i64 s.fail) := cell_of_heap hh 2
  have hf0 : w.frozen? ⟨b, 0, none⟩ = false := frozen_of_heap hh 0
  have hf1 : w.frozen? ⟨b, 1, none⟩ = false := frozen_of_heap hh 1
  have hf2 : w.frozen? ⟨b, 2, none⟩ = false := frozen_of_heap hh 2
  have Hh := Lib.hid hh; clear hh
  have Hsl := Lib.hid hsl; clear hsl
  have Hlen := Lib.hid hlen; clear hlen
  have Hs := Lib.hid (flagParse_small s.rest)
  have Hgb := Lib.hid hgb; clear hgb
  by_cases h0 : s.fail = 0
  · have hn2 : n ≤ 70368744177664 := by have := Hsl.out.1; have := Hlen.out; omega
    rw [h0] at hc2
    have hc2' : w.cell? ⟨b, 2, none⟩ = some (.int .i64 0) := hc2
    clear hc2
    go_enter Tryz.func90, Tryz.ntmps90
    go_wp2_with fail
    refine (flag1_any g off n c s.rest _ Hlen.out Hsl.out).mono ?_
    rintro e w1 ⟨rfl, rfl⟩
    have h1 := Hs.out
    have hq2n : (flagParse s.rest).2.1 ≤ n := by have := Hsl.out.1; omega
    clear Hs
    have Hfin : Hid (rdFlag s = if (flagParse s.rest).2.2 ≠ 0 then (false, ⟨s.rest, (flagParse s.rest).2.2⟩) else ((flagParse s.rest).1, ⟨s.rest.drop (flagParse s.rest).2.1, 0⟩)) := (rdFlag_eq s).trans (if_neg (by omega))
    generalize flagParse s.rest = q at *
    have H0 := Lib.hid h0; clear h0
    obtain ⟨q1, q2, q3⟩ := q
    dsimp only at *
    by_cases h3 : q3 = 0
    · subst h3
      have hfin : Hid (rdFlag s = (q1, ⟨s.rest.drop q2, 0⟩)) := Hfin.out.trans (if_neg (by simp))
      by_cases hcq : c = q2
      · subst hcq
        obtain rfl : n = c := by omega
        go_wp2
        go_ret
        rw [hfin.out]
        refine ⟨rfl, rd_stored hBb hBg Hgb.out Hh.out (by rw [H0.out]; rfl) _ _ _ _ _ ⟨?_, fun j hj => by omega⟩ (by omega) (by have := Hlen.out; simp; omega)⟩
        have := Hsl.out.1
        simp; omega
      · go_wp2
        go_ret
        rw [hfin.out]
        exact ⟨rfl, rd_stored hBb hBg Hgb.out Hh.out (by rw [H0.out]; rfl) _ _ _ _ _ (Hsl.out.drop q2) (by omega) (by have := Hlen.out; simp; omega)⟩
    · have hfin : Hid (rdFlag s = (false, ⟨s.rest, q3⟩)) := Hfin.out.trans (if_pos h3)
      have h3' : ((q3 : Int) != 0) = true := bne_iff_ne.2 (by omega)
      clear h3
      go_wp2
      go_ret
      rw [hfin.out]
      exact ⟨rfl, rd_failed hBb hBg Hgb.out Hh.out _ Hsl.out hnc Hlen.out _⟩
  · have hfin : Hid (rdFlag s = (false, s)) := (rdFlag_eq s).trans (if_pos h0)
    generalize hfl : s.fail = f at *
    have Hfl := Lib.hid hfl; clear hfl
    have h0' : ((f : Int) != 0) = true := bne_iff_ne.2 (by omega)
    clear h0
    go_enter Tryz.func90, Tryz.ntmps90
    go_wp2
    go_ret
    rw [hfin.out]
    exact ⟨rfl, ⟨hBb, g, off, n, c, p, by rw [Hfl.out]; exact Hh.out, Hsl.out, hnc, hBg, Hgb.out, Hlen.out⟩, grown_refl _ _⟩
set_option maxRecDepth 100000 in
set_option maxHeartbeats 1600000 in
theorem rFlag_any (B : Nat → Prop) (b : Nat) (s : RdS) (w : World) (h : Rd B b w s) :
    Calls Tryz.prog 58 #[.pointer (some ⟨b, 0, none⟩)] w (RdPost B b w (.bool (rdFlag s).1) (rdFlag s).2) := by
  have H := Lib.hid h; clear h
  go_enter Tryz.func58, Tryz.ntmps58
  go_wp2_with fail
  refine (readBool_any B b s _ H.out).mono ?_
  rintro e w1 ⟨rfl, hr, hb⟩
  have Hr := Lib.hid hr; clear hr
  have Hb := Lib.hid hb; clear hb
  go_wp2
  go_ret
  exact ⟨rfl, Hr.out, Hb.out⟩

/-! ### Birth.Check -/
set_option maxRecDepth 100000 in
set_option maxHeartbeats 1600000 in
theorem birthO_any (m : ByteArray) (k : Int) (w : World) (hmz : m.size ≤ 70368744177664) : Calls Tryz.prog 75 #[.agg #[.string m, .int .i64 k]] w fun r w' => r = .returned (.int .i64 (birthO m k)) ∧ Below w.heap.size w w' := by
  have Ha : Hid (∀ o, Below w.heap.size w (w.alloc o)) := fun o => (Below.refl _ _).alloc (Nat.le_refl _) _
  cases h1 : validB m with
  | false =>
    have he : Hid (birthO m k = 12) := by show _ = _; simp [birthO, h1]
    go_enter Tryz.func75, Tryz.ntmps75
    go_wp2_with fail
    refine (valid_is m _ hmz h1 _).mono ?_
    rintro e w1 ⟨rfl, hb1⟩
    have HB1 : Hid (Below w.heap.size w w1) := (Ha.out _).trans (hb1.mono (by simp))
    clear hb1
    go_wp2
    go_ret
    rw [he.out]
    exact ⟨rfl, HB1.out⟩
  | true =>
    go_enter Tryz.func75, Tryz.ntmps75
    go_wp2_with fail
    refine (valid_is m _ hmz h1 _).mono ?_
    rintro e w1 ⟨rfl, hb1⟩
    have HB1 : Hid (Below w.heap.size w w1) := (Ha.out _).trans (hb1.mono (by simp))
    have c1 : w1.cell? ⟨w.heap.size, 1, none⟩ = some (.int .i64 k) := ((bcell hb1).1 _ _ (by simp)).trans (cell_of_heap (World.alloc_heap_new w _) 1)
    clear hb1
    go_wp2_with fail
    refine (oWithin_any k 1073741824 _).mono ?_
    rintro e w2 ⟨rfl, rfl⟩
    by_cases h2 : 0 ≤ k ∧ k ≤ 1073741824
    · have he : Hid (birthO m k = 0) := by show _ = _; simp [birthO, h1, h2]
      rw [decide_eq_true h2]
      go_wp2
      go_ret
      rw [he.out]
      exact ⟨rfl, HB1.out⟩
    · have he : Hid (birthO m k = 2) := by show _ = _; simp [birthO, h1, h2]
      rw [decide_eq_false h2]
      clear h2
      go_wp2
      go_ret
      rw [he.out]
      exact ⟨rfl, HB1.out⟩

/-! ### Comparison -/
set_option maxRecDepth 100000 in
theorem run_equal_opn (d : Nat) (w : World) (a b : OpnT) : (Op.equalIn (d + 4) 34 (.agg #[.int .i64 a.kd, .string a.mak, .int .i64 a.bn, .int .i64 a.num, .int .i64 a.off, .bool a.rd, .bool a.wr, .bool a.ap]) (.agg #[.int .i64 b.kd, .string b.mak, .int .i64 b.bn, .int .i64 b.num, .int .i64 b.off, .bool b.rd, .bool b.wr, .bool b.ap])).run Tryz.prog w = .ok (sameO a b) w := by
  have hu : Tryz.prog.underlying 34 = some (.struct (Tryz.prog.fieldsOf 34)) := by kernel_rfl
  have hst : Tryz.prog.stoodInHeld 34 = false := by kernel_rfl
  rw [run_equalIn_struct w (d + 3) _ _ _ hu hst]
  simp [go_sem, Tryz.underlying34, Tryz.underlying32, Tryz.underlying3, Tryz.underlying30, Tryz.underlying4]
  have hb : ∀ x y : ByteArray, x.toList = y.toList ↔ x = y := fun x y => by have := str_beq x y; rw [Bool.eq_iff_iff] at this; simpa using this
  obtain ⟨a1, a2, a3, a4, a5, a6, a7, a8⟩ := a
  obtain ⟨b1, b2, b3, b4, b5, b6, b7, b8⟩ := b
  simp only [hb, sameO]
  by_cases h1 : a1 = b1 <;> by_cases h2 : a2 = b2 <;> by_cases h3 : a3 = b3 <;> by_cases h4 : a4 = b4 <;> by_cases h5 : a5 = b5 <;> simp [h1, h2, h3, h4, h5]
  cases a6 <;> cases b6 <;> cases a7 <;> cases b7 <;> cases a8 <;> cases b8 <;> rfl
set_option maxRecDepth 100000 in
theorem run_eql_opn (w : World) (a1 : Int) (a2 : ByteArray) (a3 a4 a5 : Int) (a6 a7 a8 : Bool) (b1 : Int) (b2 : ByteArray) (b3 b4 b5 : Int) (b6 b7 b8 : Bool) : (binOp .eql 34 (.agg #[.int .i64 a1, .string a2, .int .i64 a3, .int .i64 a4, .int .i64 a5, .bool a6, .bool a7, .bool a8]) (.agg #[.int .i64 b1, .string b2, .int .i64 b3, .int .i64 b4, .int .i64 b5, .bool b6, .bool b7, .bool b8])).run Tryz.prog w = .ok (.bool (sameO ⟨a1, a2, a3, a4, a5, a6, a7, a8⟩ ⟨b1, b2, b3, b4, b5, b6, b7, b8⟩)) w := by
  have h : (Op.equalIn 10000 34 (.agg #[.int .i64 a1, .string a2, .int .i64 a3, .int .i64 a4, .int .i64 a5, .bool a6, .bool a7, .bool a8]) (.agg #[.int .i64 b1, .string b2, .int .i64 b3, .int .i64 b4, .int .i64 b5, .bool b6, .bool b7, .bool b8])).run Tryz.prog w = .ok (sameO ⟨a1, a2, a3, a4, a5, a6, a7, a8⟩ ⟨b1, b2, b3, b4, b5, b6, b7, b8⟩) w := run_equal_opn 9996 w ⟨a1, a2, a3, a4, a5, a6, a7, a8⟩ ⟨b1, b2, b3, b4, b5, b6, b7, b8⟩
  rw [run_eql_struct, h]
  rfl
set_option maxRecDepth 100000 in
theorem run_neq_opn (w : World) (a1 : Int) (a2 : ByteArray) (a3 a4 a5 : Int) (a6 a7 a8 : Bool) (b1 : Int) (b2 : ByteArray) (b3 b4 b5 : Int) (b6 b7 b8 : Bool) : (binOp .neq 34 (.agg #[.int .i64 a1, .string a2, .int .i64 a3, .int .i64 a4, .int .i64 a5, .bool a6, .bool a7, .bool a8]) (.agg #[.int .i64 b1, .string b2, .int .i64 b3, .int .i64 b4, .int .i64 b5, .bool b6, .bool b7, .bool b8])).run Tryz.prog w = .ok (.bool (!sameO ⟨a1, a2, a3, a4, a5, a6, a7, a8⟩ ⟨b1, b2, b3, b4, b5, b6, b7, b8⟩)) w := by
  have h : (Op.equalIn 10000 34 (.agg #[.int .i64 a1, .string a2, .int .i64 a3, .int .i64 a4, .int .i64 a5, .bool a6, .bool a7, .bool a8]) (.agg #[.int .i64 b1, .string b2, .int .i64 b3, .int .i64 b4, .int .i64 b5, .bool b6, .bool b7, .bool b8])).run Tryz.prog w = .ok (sameO ⟨a1, a2, a3, a4, a5, a6, a7, a8⟩ ⟨b1, b2, b3, b4, b5, b6, b7, b8⟩) w := run_equal_opn 9996 w ⟨a1, a2, a3, a4, a5, a6, a7, a8⟩ ⟨b1, b2, b3, b4, b5, b6, b7, b8⟩
  rw [run_neq_struct, h]
  rfl

/-! ### A thing that is open -/
def namedB (k : Int) : Bool := decide (k = 1 ∨ k = 2 ∨ k = 3)
set_option maxRecDepth 100000 in
theorem hasBirth_any (kd : Int) (mak : ByteArray) (bn num off : Int) (rd wr ap : Bool) (w : World) : Calls Tryz.prog 77 #[.agg #[.int .i64 kd, .string mak, .int .i64 bn, .int .i64 num, .int .i64 off, .bool rd, .bool wr, .bool ap]] w fun r w' => r = .returned (.bool (namedB kd)) ∧ Below w.heap.size w w' := by
  have Hbx : Hid (∀ v t, Below w.heap.size w (w.alloc (.cells v t))) := fun v t => (Below.refl _ _).alloc (Nat.le_refl _) _
  by_cases h1 : kd = 1
  · subst h1
    go_enter Tryz.func77, Tryz.ntmps77
    go_wp2
    go_ret
    exact ⟨rfl, Hbx.out _ _⟩
  by_cases h2 : kd = 2
  · subst h2
    clear h1
    go_enter Tryz.func77, Tryz.ntmps77
    go_wp2
    go_ret
    exact ⟨rfl, Hbx.out _ _⟩
  by_cases h3 : kd = 3
  · subst h3
    clear h1 h2
    go_enter Tryz.func77, Tryz.ntmps77
    go_wp2
    go_ret
    exact ⟨rfl, Hbx.out _ _⟩
  have hf : Hid (namedB kd = false) := decide_eq_false (by omega)
  have e1 : (kd == 1) = false := beq_eq_false_iff_ne.2 h1
  have e2 : (kd == 2) = false := beq_eq_false_iff_ne.2 h2
  have e3 : (kd == 3) = false := beq_eq_false_iff_ne.2 h3
  clear h1 h2 h3
  go_enter Tryz.func77, Tryz.ntmps77
  go_wp2
  go_ret
  rw [hf.out]
  exact ⟨rfl, Hbx.out _ _⟩
theorem hasBirth_is (kd : Int) (mak : ByteArray) (bn num off : Int) (rd wr ap : Bool) (b : Bool) (h : namedB kd = b) (w : World) : Calls Tryz.prog 77 #[.agg #[.int .i64 kd, .string mak, .int .i64 bn, .int .i64 num, .int .i64 off, .bool rd, .bool wr, .bool ap]] w fun r w' => r = .returned (.bool b) ∧ Below w.heap.size w w' := by
  subst h; exact hasBirth_any kd mak bn num off rd wr ap w
end Go.Proofs.YtfchfjipkggnkaaGreatDoor

namespace Go.Proofs.YtfchfjipkggnkaaGreatDoor
open Go.RowKit
attribute [local go_sem ↓] run_eql_opn run_neq_opn
def sameBi (m : ByteArray) (k : Int) (m' : ByteArray) (k' : Int) : Bool := decide (m = m') && decide (k = k')
set_option maxRecDepth 100000 in
theorem run_neq_birth (w : World) (a1 : ByteArray) (a2 : Int) (b1 : ByteArray) (b2 : Int) : (binOp .neq 32 (.agg #[.string a1, .int .i64 a2]) (.agg #[.string b1, .int .i64 b2])).run Tryz.prog w = .ok (.bool (!sameBi a1 a2 b1 b2)) w := by
  have hu : Tryz.prog.underlying 32 = some (.struct (Tryz.prog.fieldsOf 32)) := by kernel_rfl
  have hst : Tryz.prog.stoodInHeld 32 = false := by kernel_rfl
  have h : (Op.equalIn 10000 32 (.agg #[.string a1, .int .i64 a2]) (.agg #[.string b1, .int .i64 b2])).run Tryz.prog w = .ok (sameBi a1 a2 b1 b2) w := by
    rw [run_equalIn_struct w 9999 _ _ _ hu hst]
    simp [go_sem, Tryz.underlying32, Tryz.underlying3, Tryz.underlying30]
    have hb : ∀ x y : ByteArray, x.toList = y.toList ↔ x = y := fun x y => by have := str_beq x y; rw [Bool.eq_iff_iff] at this; simpa using this
    simp only [hb, sameBi]
    by_cases h1 : a1 = b1 <;> by_cases h2 : a2 = b2 <;> simp [h1, h2]
  rw [run_neq_struct, h]
  rfl
attribute [local go_sem ↓] run_neq_birth
/-- A thing that is open lies in a block. -/
def OpnAt (w : World) (X : Nat) (o : OpnT) : Prop := w.heap[X]? = some (.cells #[.int .i64 o.kd, .string o.mak, .int .i64 o.bn, .int .i64 o.num, .int .i64 o.off, .bool o.rd, .bool o.wr, .bool o.ap] 34 (0, 0))
theorem OpnAt.cells {w : World} {X : Nat} {kd : Int} {mak : ByteArray} {bn num off : Int} {rd wr ap : Bool} (h : OpnAt w X ⟨kd, mak, bn, num, off, rd, wr, ap⟩) : w.cell? ⟨X, 0, none⟩ = some (.int .i64 kd) ∧ w.cell? ⟨X, 1, none⟩ = some (.string mak) ∧ w.cell? ⟨X, 2, none⟩ = some (.int .i64 bn) ∧ w.cell? ⟨X, 3, none⟩ = some (.int .i64 num) ∧ w.cell? ⟨X, 4, none⟩ = some (.int .i64 off) ∧ w.cell? ⟨X, 5, none⟩ = some (.bool rd) ∧ w.cell? ⟨X, 6, none⟩ = some (.bool wr) ∧ w.cell? ⟨X, 7, none⟩ = some (.bool ap) :=
  ⟨cell_of_heap h 0, cell_of_heap h 1, cell_of_heap h 2, cell_of_heap h 3, cell_of_heap h 4, cell_of_heap h 5, cell_of_heap h 6, cell_of_heap h 7⟩
theorem OpnAt.later {w w' : World} {X : Nat} {o : OpnT} (h : OpnAt w X o) (hb : Below w.heap.size w w') : OpnAt w' X o := (hb.block _ (lt_of_heap h)).trans h
set_option maxRecDepth 100000 in
set_option maxHeartbeats 6400000 in
theorem isFormed_any (kd : Int) (mak : ByteArray) (bn num off : Int) (rd wr ap : Bool) (w : World) : Calls Tryz.prog 76 #[.agg #[.int .i64 kd, .string mak, .int .i64 bn, .int .i64 num, .int .i64 off, .bool rd, .bool wr, .bool ap]] w fun r w' => r = .returned (.bool (formedO ⟨kd, mak, bn, num, off, rd, wr, ap⟩)) ∧ Below w.heap.size w w' := by
  have HA : Hid (∀ o, Below w.heap.size w (w.alloc o)) := fun o => (Below.refl _ _).alloc (Nat.le_refl _) _
  have HO : Hid (OpnAt (w.alloc (.cells #[.int .i64 kd, .string mak, .int .i64 bn, .int .i64 num, .int .i64 off, .bool rd, .bool wr, .bool ap] 34)) w.heap.size ⟨kd, mak, bn, num, off, rd, wr, ap⟩) := World.alloc_heap_new w _
  go_enter Tryz.func76, Tryz.ntmps76
  go_wp2_with fail
  refine (hasBirth_any kd mak bn num off rd wr ap _).mono ?_
  rintro r w1 ⟨rfl, hb1⟩
  obtain ⟨q0, q1, q2, q3, q4, q5, q6, q7⟩ := (HO.out.later hb1).cells
  have HB1 : Hid (Below w.heap.size w w1) := (HA.out _).trans (hb1.mono (HA.out _).size)
  clear hb1 HO HA
  by_cases k1 : kd = 1
  · subst k1
    have hn : namedB 1 = true := rfl
    rw [hn]
    by_cases z : num = 0
    · subst z
      cases rd <;> cases wr <;> cases ap
      all_goals
        go_wp2
        go_ret
        exact ⟨by rfl, HB1.out⟩
    · have z1 : (num != 0) = true := bne_iff_ne.2 z
      have hf : Hid (formedO ⟨1, mak, bn, num, off, rd, wr, ap⟩ = false) := by show _ = _; simp [formedO, z]
      clear z
      go_wp2
      go_ret
      rw [hf.out]
      exact ⟨rfl, HB1.out⟩
  by_cases k2 : kd = 2
  · subst k2
    have hn : namedB 2 = true := rfl
    rw [hn]
    by_cases z : num = 0
    · subst z
      by_cases y : off = 0
      · subst y
        cases rd <;> cases wr <;> cases ap
        all_goals
          go_wp2
          go_ret
          exact ⟨by rfl, HB1.out⟩
      · have y1 : (off != 0) = true := bne_iff_ne.2 y
        have hf : Hid (formedO ⟨2, mak, bn, 0, off, rd, wr, ap⟩ = false) := by show _ = _; simp [formedO, y]
        clear y
        go_wp2
        go_ret
        rw [hf.out]
        exact ⟨rfl, HB1.out⟩
    · have z1 : (num != 0) = true := bne_iff_ne.2 z
      have hf : Hid (formedO ⟨2, mak, bn, num, off, rd, wr, ap⟩ = false) := by show _ = _; simp [formedO, z]
      clear z
      go_wp2
      go_ret
      rw [hf.out]
      exact ⟨rfl, HB1.out⟩
  by_cases k3 : kd = 3
  · subst k3
    have hn : namedB 3 = true := rfl
    rw [hn]
    by_cases z : num = 0
    · subst z
      by_cases y : off = 0
      · subst y
        cases rd <;> cases wr <;> cases ap
        all_goals
          go_wp2
          go_ret
          exact ⟨by rfl, HB1.out⟩
      · have y1 : (off != 0) = true := bne_iff_ne.2 y
        have hf : Hid (formedO ⟨3, mak, bn, 0, off, rd, wr, ap⟩ = false) := by show _ = _; simp [formedO, y]
        clear y
        go_wp2
        go_ret
        rw [hf.out]
        exact ⟨rfl, HB1.out⟩
    · have z1 : (num != 0) = true := bne_iff_ne.2 z
      have hf : Hid (formedO ⟨3, mak, bn, num, off, rd, wr, ap⟩ = false) := by show _ = _; simp [formedO, z]
      clear z
      go_wp2
      go_ret
      rw [hf.out]
      exact ⟨rfl, HB1.out⟩
  have hn : namedB kd = false := decide_eq_false (by omega)
  rw [hn]
  have e1 : (kd == 1) = false := beq_eq_false_iff_ne.2 k1
  have e1n : (kd != 1) = true := bne_iff_ne.2 k1
  have e2 : (kd == 2) = false := beq_eq_false_iff_ne.2 k2
  have e3 : (kd == 3) = false := beq_eq_false_iff_ne.2 k3
  have Hk : Hid (¬ (kd = 1 ∨ kd = 2 ∨ kd = 3) ∧ kd ≠ 1 ∧ kd ≠ 2 ∧ kd ≠ 3) := ⟨by omega, k1, k2, k3⟩
  clear k1 k2 k3 hn
  cases hs : sameBi mak bn ⟨#[]⟩ 0 with
  | false =>
    have hf : Hid (formedO ⟨kd, mak, bn, num, off, rd, wr, ap⟩ = false) := by
      show _ = _
      unfold sameBi at hs
      unfold formedO
      dsimp only
      rw [if_neg Hk.out.1, hs]
      rfl
    clear Hk
    go_wp2
    go_ret
    rw [hf.out]
    exact ⟨rfl, HB1.out⟩
  | true =>
    have Hs : Hid (decide (mak = ⟨#[]⟩) && decide (bn = 0)) := hs
    by_cases y : off = 0
    · subst y
      have hf : Hid (∀ a b c : Bool, formedO ⟨kd, mak, bn, num, 0, a, b, c⟩ = ((!c && !(c && !b)) && (a || b))) := fun a b c => by
        unfold formedO
        dsimp only
        rw [if_neg Hk.out.1, if_neg Hk.out.2.2.1, if_neg Hk.out.2.2.2, Hs.out, decide_eq_true Hk.out.2.1]
        rfl
      clear Hk Hs
      cases rd <;> cases wr <;> cases ap
      all_goals
        go_wp2
        go_ret
        rw [hf.out]
        exact ⟨rfl, HB1.out⟩
    · have y1 : (off != 0) = true := bne_iff_ne.2 y
      have hf : Hid (formedO ⟨kd, mak, bn, num, off, rd, wr, ap⟩ = false) := by
        show _ = _
        unfold formedO
        dsimp only
        rw [if_neg Hk.out.1, Hs.out, decide_eq_true Hk.out.2.1, decide_eq_true y]
        rfl
      clear y Hk Hs
      go_wp2
      go_ret
      rw [hf.out]
      exact ⟨rfl, HB1.out⟩
theorem isFormed_is (kd : Int) (mak : ByteArray) (bn num off : Int) (rd wr ap : Bool) (b : Bool) (h : formedO ⟨kd, mak, bn, num, off, rd, wr, ap⟩ = b) (w : World) : Calls Tryz.prog 76 #[.agg #[.int .i64 kd, .string mak, .int .i64 bn, .int .i64 num, .int .i64 off, .bool rd, .bool wr, .bool ap]] w fun r w' => r = .returned (.bool b) ∧ Below w.heap.size w w' := by
  subst h; exact isFormed_any kd mak bn num off rd wr ap w
set_option maxRecDepth 100000 in
set_option maxHeartbeats 6400000 in
theorem oCheck_any (kd : Int) (mak : ByteArray) (bn num off : Int) (rd wr ap : Bool) (w : World) (hm : mak.size ≤ 70368744177664) : Calls Tryz.prog 48 #[.agg #[.int .i64 kd, .string mak, .int .i64 bn, .int .i64 num, .int .i64 off, .bool rd, .bool wr, .bool ap]] w fun r w' => r = .returned (.int .i64 (checkO ⟨kd, mak, bn, num, off, rd, wr, ap⟩)) ∧ Below w.heap.size w w' := by
  have HA : Hid (∀ o, Below w.heap.size w (w.alloc o)) := fun o => (Below.refl _ _).alloc (Nat.le_refl _) _
  have HO : Hid (OpnAt (w.alloc (.cells #[.int .i64 kd, .string mak, .int .i64 bn, .int .i64 num, .int .i64 off, .bool rd, .bool wr, .bool ap] 34)) w.heap.size ⟨kd, mak, bn, num, off, rd, wr, ap⟩) := World.alloc_heap_new w _
  by_cases hk : kd < 1 ∨ 5 < kd
  · have hf : Hid (checkO ⟨kd, mak, bn, num, off, rd, wr, ap⟩ = 11) := if_pos hk
    have hk2 : kd < 1 ∨ (¬ kd < 1 ∧ 5 < kd) := by omega
    clear hk HO
    go_enter Tryz.func48, Tryz.ntmps48
    rcases hk2 with h1 | ⟨h1, h2⟩
    all_goals
      go_wp2
      go_ret
      rw [hf.out]
      exact ⟨rfl, HA.out _⟩
  have h1 : ¬ kd < 1 := by omega
  have h2 : ¬ 5 < kd := by omega
  have Hc : Hid (checkO ⟨kd, mak, bn, num, off, rd, wr, ap⟩ = if formedO ⟨kd, mak, bn, num, off, rd, wr, ap⟩ = false then 3 else if num < 0 ∨ 9999 < num ∨ off < 0 ∨ 4096 < off then 2 else if kd = 1 ∨ kd = 2 ∨ kd = 3 then birthO mak bn else 0) := if_neg hk
  clear hk
  go_enter Tryz.func48, Tryz.ntmps48
  go_wp2_with fail
  cases hF : formedO ⟨kd, mak, bn, num, off, rd, wr, ap⟩ with
  | false =>
    have hf : Hid (checkO ⟨kd, mak, bn, num, off, rd, wr, ap⟩ = 3) := Hc.out.trans (if_pos hF)
    refine (isFormed_is kd mak bn num off rd wr ap false hF _).mono ?_
    rintro r w1 ⟨rfl, hb1⟩
    have HB1 : Hid (Below w.heap.size w w1) := (HA.out _).trans (hb1.mono (HA.out _).size)
    clear hb1
    go_wp2
    go_ret
    rw [hf.out]
    exact ⟨rfl, HB1.out⟩
  | true =>
    have Hc2 : Hid (checkO ⟨kd, mak, bn, num, off, rd, wr, ap⟩ = if num < 0 ∨ 9999 < num ∨ off < 0 ∨ 4096 < off then 2 else if kd = 1 ∨ kd = 2 ∨ kd = 3 then birthO mak bn else 0) := Hc.out.trans (if_neg (by rw [hF]; decide))
    refine (isFormed_is kd mak bn num off rd wr ap true hF _).mono ?_
    rintro r w1 ⟨rfl, hb1⟩
    have HO1 := Lib.hid (HO.out.later hb1)
    have HB1 : Hid (Below w.heap.size w w1) := (HA.out _).trans (hb1.mono (HA.out _).size)
    obtain ⟨q0, q1, q2, q3, q4, q5, q6, q7⟩ := HO1.out.cells
    clear hb1 Hc hF HA HO
    by_cases hr : num < 0 ∨ 9999 < num ∨ off < 0 ∨ 4096 < off
    · have hf : Hid (checkO ⟨kd, mak, bn, num, off, rd, wr, ap⟩ = 2) := Hc2.out.trans (if_pos hr)
      have hr2 : num < 0 ∨ (¬ num < 0 ∧ 9999 < num) ∨ (¬ num < 0 ∧ ¬ 9999 < num ∧ off < 0) ∨ (¬ num < 0 ∧ ¬ 9999 < num ∧ ¬ off < 0 ∧ 4096 < off) := by omega
      clear hr Hc2
      rcases hr2 with r1 | ⟨r1, r2⟩ | ⟨r1, r2, r3⟩ | ⟨r1, r2, r3, r4⟩
      all_goals
        go_wp2
        go_ret
        rw [hf.out]
        exact ⟨rfl, HB1.out⟩
    have r1 : ¬ num < 0 := by omega
    have r2 : ¬ 9999 < num := by omega
    have r3 : ¬ off < 0 := by omega
    have r4 : ¬ 4096 < off := by omega
    have Hc3 : Hid (checkO ⟨kd, mak, bn, num, off, rd, wr, ap⟩ = if kd = 1 ∨ kd = 2 ∨ kd = 3 then birthO mak bn else 0) := Hc2.out.trans (if_neg hr)
    clear hr Hc2
    by_cases hn : kd = 1 ∨ kd = 2 ∨ kd = 3
    · have hf : Hid (checkO ⟨kd, mak, bn, num, off, rd, wr, ap⟩ = birthO mak bn) := Hc3.out.trans (if_pos hn)
      have hnb : namedB kd = true := decide_eq_true hn
      have Hm := Lib.hid hm
      clear Hc3 hn hm
      go_wp2_with fail
      refine (hasBirth_is kd mak bn num off rd wr ap true hnb _).mono ?_
      rintro r w2 ⟨rfl, hb2⟩
      have HO2 := Lib.hid (HO1.out.later hb2)
      have HB2 : Hid (Below w.heap.size w w2) := HB1.out.trans (hb2.mono HB1.out.size)
      clear hb2 q0 q1 q2 q3 q4 q5 q6 q7 hnb
      obtain ⟨q0, q1, q2, q3, q4, q5, q6, q7⟩ := HO2.out.cells
      go_wp2_with fail
      refine (birthO_any mak bn _ Hm.out).mono ?_
      rintro r w3 ⟨rfl, hb3⟩
      have HB3 : Hid (Below w.heap.size w w3) := HB2.out.trans (hb3.mono HB2.out.size)
      clear hb3
      go_wp2
      go_ret
      rw [hf.out]
      exact ⟨rfl, HB3.out⟩
    · have hf : Hid (checkO ⟨kd, mak, bn, num, off, rd, wr, ap⟩ = 0) := Hc3.out.trans (if_neg hn)
      have hnb : namedB kd = false := decide_eq_false hn
      clear Hc3 hn
      go_wp2_with fail
      refine (hasBirth_is kd mak bn num off rd wr ap false hnb _).mono ?_
      rintro r w2 ⟨rfl, hb2⟩
      have HB2 : Hid (Below w.heap.size w w2) := HB1.out.trans (hb2.mono HB1.out.size)
      clear hb2
      go_wp2
      go_ret
      rw [hf.out]
      exact ⟨rfl, HB2.out⟩
theorem oCheck_is (kd : Int) (mak : ByteArray) (bn num off : Int) (rd wr ap : Bool) (q : Nat) (h : checkO ⟨kd, mak, bn, num, off, rd, wr, ap⟩ = q) (w : World) (hm : mak.size ≤ 70368744177664) : Calls Tryz.prog 48 #[.agg #[.int .i64 kd, .string mak, .int .i64 bn, .int .i64 num, .int .i64 off, .bool rd, .bool wr, .bool ap]] w fun r w' => r = .returned (.int .i64 q) ∧ Below w.heap.size w w' := by
  subst h; exact oCheck_any kd mak bn num off rd wr ap w hm
end Go.Proofs.YtfchfjipkggnkaaGreatDoor
