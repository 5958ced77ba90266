/- Law 31, plain: what the functions do upon a view, as trees; the model of the law. Law 31, plain: the model follows the view. Law 31, plain: which fields of its result an operation fills. (printed by wip/gen_dscpf.py) Law 31, plain: an operation upon one process leaves the others' tables; how many calls it adds. -/
import Derived.Test.YtfchfjipkggnkaaGreatDoorDscC
import Derived.Test.YtfchfjipkggnkaaGreatDoorVpA
namespace Go.Proofs.YtfchfjipkggnkaaGreatDoor
open Go.RowKit

def ofTab (who : ByteArray) : NameT := ⟨4, who, 0, 0, ⟨#[]⟩⟩
theorem ofTab_inj {a c : ByteArray} (h : ofTab a = ofTab c) : a = c := by
  unfold ofTab at h
  injection h
/-- What an operation has returned. -/
structure ResD where
  T : List OpnT
  O : OpnT
  N : Int
  E : Nat
def errD (e : Nat) : ResD := ⟨zeroTab, zeroO, 0, e⟩
def entD (t : List OpnT) (fd : Int) : OpnT := t.getD fd.toNat zeroO
def badD (t : List OpnT) (fd : Int) : Bool := decide (fd < 0) || decide (16 ≤ fd) || isZ (entD t fd)
/-- The first free descriptor. -/
def freeO : List OpnT → Nat → Option Nat
  | [], _ => none
  | o :: r, i => if isZ o = true then some i else freeO r (i + 1)
abbrev ChD := Option (Option (List OpnT))
def dropF (t : List OpnT) : ResD × ChD := (⟨t, zeroO, 0, 0⟩, some none)
def allF (t : List OpnT) : ResD × ChD := (⟨t, zeroO, 0, 0⟩, none)
def getF (fd : Int) (t : List OpnT) : ResD × ChD := if badD t fd = true then (errD 21, none) else (⟨zeroTab, entD t fd, 0, 0⟩, none)
def addF (o : OpnT) (t : List OpnT) : ResD × ChD := match freeO t 0 with
  | none => (errD 9, none)
  | some i => (⟨zeroTab, zeroO, i, 0⟩, some (some (t.set i o)))
def putF (fd : Int) (o : OpnT) (t : List OpnT) : ResD × ChD :=
  if fd < 0 ∨ 16 ≤ fd then (errD 21, none)
  else if sameO (entD t fd) o = true then (⟨zeroTab, entD t fd, 0, 0⟩, none)
  else (⟨zeroTab, entD t fd, 0, 0⟩, some (some (t.set fd.toNat o)))
def closeF (fd : Int) (t : List OpnT) : ResD × ChD := if badD t fd = true then (errD 21, none) else (⟨zeroTab, entD t fd, 0, 0⟩, some (some (t.set fd.toNat zeroO)))
def atO (o : OpnT) (n : Int) : OpnT := ⟨o.kd, o.mak, o.bn, o.num, n, o.rd, o.wr, o.ap⟩
def moveF (fd : Int) (g : Int → Int) (t : List OpnT) : ResD × ChD :=
  if badD t fd = true then (errD 21, none)
  else if (entD t fd).kd ≠ 1 then (errD 11, none)
  else if g (entD t fd).off < 0 ∨ 4096 < g (entD t fd).off then (errD 2, none)
  else if g (entD t fd).off = (entD t fd).off then (errD 0, none)
  else (errD 0, some (some (t.set fd.toNat (atO (entD t fd) (g (entD t fd).off)))))
def dupF (fd : Int) (t : List OpnT) : ResD × ChD := if badD t fd = true then (errD 21, none) else addF (entD t fd) t
/-- The sum as the machine has it. -/
def advG (n : Int) (old : Int) : Int := if 9223372036854775807 < old + n then old + n - 18446744073709551616 else old + n

/-! ### Tables stay valid -/
theorem tabE_set {t : List OpnT} (h : tabE t = 0) (i : Nat) {o : OpnT} (ho : isZ o = false → checkO o = 0) : tabE (t.set i o) = 0 := by
  refine tabE_of fun x hx hz => ?_
  rcases List.mem_or_eq_of_mem_set hx with hx | rfl
  · exact tabE_mem h x hx hz
  · exact ho hz
theorem entD_mem {t : List OpnT} {fd : Int} (hl : t.length = 16) (h0 : ¬ fd < 0) (h1 : ¬ 16 ≤ fd) : entD t fd ∈ t := by
  unfold entD
  rw [List.getD_eq_getElem?_getD, List.getElem?_eq_getElem (by omega)]
  exact List.getElem_mem _
theorem badD_no {t : List OpnT} {fd : Int} (h : badD t fd = false) : ¬ fd < 0 ∧ ¬ 16 ≤ fd ∧ isZ (entD t fd) = false := by
  unfold badD at h
  simp only [Bool.or_eq_false_iff, decide_eq_false_iff_not] at h
  exact ⟨h.1.1, h.1.2, h.2⟩
theorem checkO_at {o : OpnT} (h : checkO o = 0) (hk : o.kd = 1) {n : Int} (h0 : 0 ≤ n) (h1 : n ≤ 4096) : checkO (atO o n) = 0 := by
  obtain ⟨kd, mak, bn, num, off, rd, wr, ap⟩ := o
  dsimp only at hk
  subst hk
  show checkO ⟨1, mak, bn, num, n, rd, wr, ap⟩ = 0
  unfold checkO at h ⊢
  dsimp only at h ⊢
  rw [if_neg (by omega)] at h ⊢
  have hf : formedO ⟨1, mak, bn, num, n, rd, wr, ap⟩ = formedO ⟨1, mak, bn, num, off, rd, wr, ap⟩ := by
    simp [formedO]
  rw [hf]
  by_cases h2 : formedO ⟨1, mak, bn, num, off, rd, wr, ap⟩ = false
  · rw [if_pos h2] at h; cases h
  rw [if_neg h2] at h ⊢
  by_cases h3 : num < 0 ∨ 9999 < num ∨ off < 0 ∨ 4096 < off
  · rw [if_pos h3] at h; cases h
  rw [if_neg h3] at h
  rw [if_neg (by omega)]
  exact h
theorem freeO_lt : ∀ {t : List OpnT} {i j : Nat}, freeO t i = some j → i ≤ j ∧ j < i + t.length
  | [], _, _, h => by cases h
  | o :: r, i, j, h => by
    unfold freeO at h
    split at h
    · injection h with h; subst h; simp
    · have := freeO_lt h
      simp; omega
/-- A change keeps a table valid. -/
def GoodF (f : List OpnT → ResD × ChD) : Prop := ∀ t, tabE t = 0 → t.length = 16 → ∀ t', (f t).2 = some (some t') → tabE t' = 0 ∧ t'.length = 16
theorem good_drop : GoodF dropF := fun _ _ _ _ h => by cases h
theorem good_all : GoodF allF := fun _ _ _ _ h => by cases h
theorem good_get (fd : Int) : GoodF (getF fd) := fun _ _ _ _ h => by
  unfold getF at h
  split at h <;> cases h
theorem addF_good {o : OpnT} {t t' : List OpnT} (hE : tabE t = 0) (hl : t.length = 16) (ho : checkO o = 0) (h : (addF o t).2 = some (some t')) : tabE t' = 0 ∧ t'.length = 16 := by
  unfold addF at h
  cases hf : freeO t 0 with
  | none => rw [hf] at h; cases h
  | some i =>
    rw [hf] at h
    injection h with h
    injection h with h
    subst h
    exact ⟨tabE_set hE _ (fun _ => ho), by simp [hl]⟩
theorem good_add {o : OpnT} (ho : checkO o = 0) : GoodF (addF o) := fun _ h1 h2 _ h => addF_good h1 h2 ho h
theorem good_put (fd : Int) {o : OpnT} (ho : checkO o = 0) : GoodF (putF fd o) := fun _ h1 h2 _ h => by
  unfold putF at h
  split at h
  · cases h
  split at h
  · cases h
  injection h with h
  injection h with h
  subst h
  exact ⟨tabE_set h1 _ (fun _ => ho), by simp [h2]⟩
theorem good_close (fd : Int) : GoodF (closeF fd) := fun _ h1 h2 _ h => by
  unfold closeF at h
  split at h
  · cases h
  injection h with h
  injection h with h
  subst h
  exact ⟨tabE_set h1 _ (fun hz => by rw [isZ_zero] at hz; cases hz), by simp [h2]⟩
theorem ent_check {t : List OpnT} {fd : Int} (h1 : tabE t = 0) (h2 : t.length = 16) (h : ¬ badD t fd = true) : checkO (entD t fd) = 0 := by
  obtain ⟨a, b, c⟩ := badD_no (by simpa using h)
  exact tabE_mem h1 _ (entD_mem h2 a b) c
theorem good_move (fd : Int) (g : Int → Int) : GoodF (moveF fd g) := fun _ h1 h2 _ h => by
  unfold moveF at h
  split at h
  · cases h
  rename_i hb
  split at h
  · cases h
  rename_i hk
  split at h
  · cases h
  rename_i hr
  split at h
  · cases h
  injection h with h
  injection h with h
  subst h
  exact ⟨tabE_set h1 _ (fun _ => checkO_at (ent_check h1 h2 hb) (by omega) (by omega) (by omega)), by simp [h2]⟩
theorem good_dup (fd : Int) : GoodF (dupF fd) := fun _ h1 h2 _ h => by
  unfold dupF at h
  split at h
  · cases h
  rename_i hb
  exact addF_good h1 h2 (ent_check h1 h2 hb) h

/-! ### The trees -/
def valD : Option (List OpnT) → ByteArray
  | none => ⟨#[]⟩
  | some t => strOf (encDB t)
def chgD (who : ByteArray) (c : Option (List OpnT)) : ChangeT := ⟨ofTab who, valD c, c.isNone⟩
def putD (who : ByteArray) (x : ResD × ChD) : Vp ResD := match x.2 with
  | none => .ret x.1
  | some c => .put (chgD who c) (.ret x.1)
/-- What All answers. -/
def tabR (g : ByteArray × Bool) : List OpnT × Nat := if g.2 = false then (zeroTab, 8) else decD g.1
def dOne (who : ByteArray) (f : List OpnT → ResD × ChD) : Vp ResD :=
  if validB who = false then .ret (errD 12) else .get (ofTab who) fun g => if (tabR g).2 ≠ 0 then .ret (errD (tabR g).2) else putD who (f (tabR g).1)
def dMake (who : ByteArray) : Vp ResD := if validB who = false then .ret (errD 12) else .get (ofTab who) fun g => if g.2 = true then .ret (errD 13) else .put (chgD who (some zeroTab)) (.ret (errD 0))
def dCopy (who to : ByteArray) : Vp ResD :=
  if validB who = false ∨ validB to = false then .ret (errD 12) else .get (ofTab who) fun g => if (tabR g).2 ≠ 0 then .ret (errD (tabR g).2) else
    .get (ofTab to) fun h => if h.2 = true then .ret (errD 13) else .put (chgD to (some (tabR g).1)) (.ret (errD 0))
def dAdd (who : ByteArray) (o : OpnT) : Vp ResD := if checkO o ≠ 0 then .ret (errD (checkO o)) else dOne who (addF o)
def dPut (who : ByteArray) (fd : Int) (o : OpnT) : Vp ResD := if checkO o ≠ 0 then .ret (errD (checkO o)) else dOne who (putF fd o)
/-- An operation of the law. -/
structure OpD where
  kd : Nat
  who : Nat
  to : Nat
  fd : Int
  n : Int
  o : OpnT
def nmD (k : Nat) : ByteArray := if k = 0 then ⟨#[49]⟩ else if k = 1 then ⟨#[49, 46, 50]⟩ else if k = 2 then ⟨#[55]⟩ else ⟨#[120]⟩
def pTree (o : OpD) : Vp ResD :=
  if o.kd % 11 = 0 then dMake (nmD (o.who % 4))
  else if o.kd % 11 = 1 then dCopy (nmD (o.who % 4)) (nmD (o.to % 4))
  else if o.kd % 11 = 2 then dOne (nmD (o.who % 4)) dropF
  else if o.kd % 11 = 3 then dOne (nmD (o.who % 4)) allF
  else if o.kd % 11 = 4 then dOne (nmD (o.who % 4)) (getF o.fd)
  else if o.kd % 11 = 5 then dAdd (nmD (o.who % 4)) o.o
  else if o.kd % 11 = 6 then dPut (nmD (o.who % 4)) o.fd o.o
  else if o.kd % 11 = 7 then dOne (nmD (o.who % 4)) (closeF o.fd)
  else if o.kd % 11 = 8 then dOne (nmD (o.who % 4)) (moveF o.fd fun _ => o.n)
  else if o.kd % 11 = 9 then dOne (nmD (o.who % 4)) (moveF o.fd (advG o.n))
  else dOne (nmD (o.who % 4)) (dupF o.fd)

/-! ### What the trees do -/
def allV (V : AV) (who : ByteArray) : AV := if validB who = false then V else avSeen V (ofTab who)
def allR (V : AV) (who : ByteArray) : List OpnT × Nat := if validB who = false then (zeroTab, 12) else tabR (avGet V (ofTab who))
def addV (V : AV) (c : ChangeT) : AV := ⟨V.base, V.reads, V.calls ++ [c]⟩
def putR (V : AV) (who : ByteArray) (x : ResD × ChD) : AV × ResD := match x.2 with
  | none => (V, x.1)
  | some c => (addV V (chgD who c), x.1)
theorem putD_run (V : AV) (who : ByteArray) (x : ResD × ChD) : (putD who x).run V = putR V who x := by
  obtain ⟨r, c⟩ := x
  cases c <;> rfl
theorem dOne_run (V : AV) (who : ByteArray) (f : List OpnT → ResD × ChD) : (dOne who f).run V = if (allR V who).2 ≠ 0 then (allV V who, errD (allR V who).2) else putR (allV V who) who (f (allR V who).1) := by
  unfold dOne allR allV
  cases hv : validB who with
  | false => rfl
  | true =>
    simp only [reduceCtorEq, if_false]
    show (if (tabR (avGet V (ofTab who))).2 ≠ 0 then (.ret (errD (tabR (avGet V (ofTab who))).2) : Vp ResD) else putD who (f (tabR (avGet V (ofTab who))).1)).run (avSeen V (ofTab who)) = _
    by_cases h : (tabR (avGet V (ofTab who))).2 ≠ 0
    · rw [if_pos h, if_pos h]; rfl
    · rw [if_neg h, if_neg h]; exact putD_run _ _ _
theorem dMake_run (V : AV) (who : ByteArray) : (dMake who).run V = if validB who = false then (V, errD 12) else if (avGet V (ofTab who)).2 = true then (avSeen V (ofTab who), errD 13) else (addV (avSeen V (ofTab who)) (chgD who (some zeroTab)), errD 0) := by
  unfold dMake
  by_cases h : validB who = false
  · rw [if_pos h, if_pos h]; rfl
  rw [if_neg h, if_neg h]
  show (if (avGet V (ofTab who)).2 = true then (.ret (errD 13) : Vp ResD) else .put (chgD who (some zeroTab)) (.ret (errD 0))).run (avSeen V (ofTab who)) = _
  by_cases h2 : (avGet V (ofTab who)).2 = true
  · rw [if_pos h2, if_pos h2]; rfl
  · rw [if_neg h2, if_neg h2]; rfl
/-- What Copy sees after All. -/
def copR (V : AV) (to : ByteArray) (t : List OpnT) : AV × ResD :=
  if (avGet V (ofTab to)).2 = true then (avSeen V (ofTab to), errD 13) else (addV (avSeen V (ofTab to)) (chgD to (some t)), errD 0)
theorem dCopy_run (V : AV) (who to : ByteArray) : (dCopy who to).run V = if validB who = false ∨ validB to = false then (V, errD 12) else if (allR V who).2 ≠ 0 then (allV V who, errD (allR V who).2) else copR (allV V who) to (allR V who).1 := by
  unfold dCopy
  by_cases h : validB who = false ∨ validB to = false
  · rw [if_pos h, if_pos h]; rfl
  have hw : ¬ validB who = false := fun e => h (.inl e)
  have e1 : allR V who = tabR (avGet V (ofTab who)) := if_neg hw
  have e2 : allV V who = avSeen V (ofTab who) := if_neg hw
  rw [if_neg h, if_neg h, e1, e2]
  show (if (tabR (avGet V (ofTab who))).2 ≠ 0 then (.ret (errD (tabR (avGet V (ofTab who))).2) : Vp ResD) else .get (ofTab to) fun h => if h.2 = true then .ret (errD 13) else .put (chgD to (some (tabR (avGet V (ofTab who))).1)) (.ret (errD 0))).run (avSeen V (ofTab who)) = _
  by_cases h2 : (tabR (avGet V (ofTab who))).2 ≠ 0
  · rw [if_pos h2, if_pos h2]; rfl
  rw [if_neg h2, if_neg h2]
  unfold copR
  show (if (avGet (avSeen V (ofTab who)) (ofTab to)).2 = true then (.ret (errD 13) : Vp ResD) else .put (chgD to (some (tabR (avGet V (ofTab who))).1)) (.ret (errD 0))).run (avSeen (avSeen V (ofTab who)) (ofTab to)) = _
  by_cases h3 : (avGet (avSeen V (ofTab who)) (ofTab to)).2 = true
  · rw [if_pos h3, if_pos h3]; rfl
  · rw [if_neg h3, if_neg h3]; rfl
theorem decD_good {s : ByteArray} (h : (decD s).2 = 0) : tabE (decD s).1 = 0 ∧ (decD s).1.length = 16 := ⟨(ddec_canon s h).2, decD_len s⟩
theorem tabR_good {g : ByteArray × Bool} (h : (tabR g).2 = 0) : tabE (tabR g).1 = 0 ∧ (tabR g).1.length = 16 := by
  unfold tabR at h ⊢
  split at h
  · cases h
  · rename_i hg
    rw [if_neg hg]
    exact decD_good h
theorem tabR_len (g : ByteArray × Bool) : (tabR g).1.length = 16 := by
  unfold tabR
  split
  · rfl
  · exact decD_len _
theorem allR_good {V : AV} {who : ByteArray} (h : (allR V who).2 = 0) : tabE (allR V who).1 = 0 ∧ (allR V who).1.length = 16 := by
  unfold allR at h ⊢
  split at h
  · cases h
  · rename_i hv
    rw [if_neg hv]
    exact tabR_good h
theorem allR_len (V : AV) (who : ByteArray) : (allR V who).1.length = 16 := by
  unfold allR
  split
  · rfl
  · exact tabR_len _
theorem allR_valid {V : AV} {who : ByteArray} (h : (allR V who).2 = 0) : validB who = true := by
  unfold allR at h
  split at h
  · cases h
  · rename_i hv; simpa using hv
theorem tabE_zeroTab : tabE zeroTab = 0 := rfl

/-! ### Where the tables of a view are known -/
def HasD (V : AV) (who : ByteArray) : Option (List OpnT) → Prop
  | none => (avGet V (ofTab who)).2 = false
  | some t => avGet V (ofTab who) = (strOf (encDB t), true) ∧ tabE t = 0 ∧ t.length = 16
theorem HasD.same {V V' : AV} {who : ByteArray} {o : Option (List OpnT)} (h : HasD V who o) (e : avGet V' (ofTab who) = avGet V (ofTab who)) : HasD V' who o := by
  cases o with
  | none => show (avGet V' (ofTab who)).2 = false; rw [e]; exact h
  | some t => exact ⟨e.trans h.1, h.2⟩
theorem avSeen_get (V : AV) (n m : NameT) : avGet (avSeen V n) m = avGet V m := by
  unfold avSeen
  split <;> rfl
theorem avSeen_cal (V : AV) (n : NameT) : (avSeen V n).calls = V.calls := by
  unfold avSeen
  split <;> rfl
theorem addV_get (V : AV) (c : ChangeT) (m : NameT) : avGet (addV V c) m = if m = c.name then (c.value, !c.absent) else avGet V m := by
  unfold addV avGet
  dsimp only
  rw [lastCall_snoc]
  by_cases h : m = c.name
  · rw [if_pos h, if_pos h]
  · rw [if_neg h, if_neg h]
def optR : Option (List OpnT) → List OpnT × Nat
  | none => (zeroTab, 8)
  | some t => (t, 0)
theorem HasD.tab {V : AV} {who : ByteArray} {o : Option (List OpnT)} (h : HasD V who o) : tabR (avGet V (ofTab who)) = optR o := by
  cases o with
  | none => exact if_pos h
  | some t =>
    obtain ⟨h1, h2, h3⟩ := h
    have e : tabR (avGet V (ofTab who)) = tabR (strOf (encDB t), true) := congrArg tabR h1
    rw [e]
    have e2 : tabR (strOf (encDB t), true) = decD (strOf (encDB t)) := if_neg (fun h => nomatch h)
    rw [e2]
    exact ddec_enc h2 h3
theorem HasD.put {V : AV} {who : ByteArray} {c : Option (List OpnT)} (h : ∀ t, c = some t → tabE t = 0 ∧ t.length = 16) : HasD (addV V (chgD who c)) who c := by
  have e : avGet (addV V (chgD who c)) (ofTab who) = ((chgD who c).value, !(chgD who c).absent) := (addV_get _ _ _).trans (if_pos rfl)
  cases c with
  | none => exact congrArg Prod.snd e
  | some t => exact ⟨e, h t rfl⟩
theorem HasD.other {V : AV} {who m : ByteArray} {o c : Option (List OpnT)} (h : HasD V m o) (hne : m ≠ who) : HasD (addV V (chgD who c)) m o :=
  h.same ((addV_get _ _ _).trans (if_neg (fun e => hne (ofTab_inj e))))
/-- One process' operation, its table known. -/
def stepO (f : List OpnT → ResD × ChD) : Option (List OpnT) → ResD × ChD
  | none => (errD 8, none)
  | some t => f t
theorem dOne_has {V : AV} {who : ByteArray} {o : Option (List OpnT)} (hv : validB who = true) (h : HasD V who o) (f : List OpnT → ResD × ChD) : (dOne who f).run V = putR (avSeen V (ofTab who)) who (stepO f o) := by
  rw [dOne_run]
  have e1 : allR V who = tabR (avGet V (ofTab who)) := if_neg (by rw [hv]; decide)
  have e2 : allV V who = avSeen V (ofTab who) := if_neg (by rw [hv]; decide)
  rw [e1, e2, h.tab]
  cases o with
  | none => rfl
  | some t => rfl
end Go.Proofs.YtfchfjipkggnkaaGreatDoor

namespace Go.Proofs.YtfchfjipkggnkaaGreatDoor
open Go.RowKit

structure ModD where
  tabs : List (List OpnT)
  there : List Bool
def mTab (m : ModD) (k : Nat) : List OpnT := m.tabs.getD k zeroTab
def mThere (m : ModD) (k : Nat) : Bool := m.there.getD k false
def mAll (m : ModD) (k : Nat) : Nat := if k = 3 then 12 else if mThere m k = false then 8 else 0
def mUpd (m : ModD) (k : Nat) : ChD → ModD
  | none => m
  | some none => ⟨m.tabs, m.there.set k false⟩
  | some (some t) => ⟨m.tabs.set k t, m.there.set k true⟩
def mOne (m : ModD) (k : Nat) (f : List OpnT → ResD × ChD) : ModD × ResD × Bool :=
  if mAll m k ≠ 0 then (m, errD (mAll m k), false) else (mUpd m k (f (mTab m k)).2, (f (mTab m k)).1, (f (mTab m k)).2.isSome)
def mMake (m : ModD) (k : Nat) : ModD × ResD × Bool :=
  if k = 3 then (m, errD 12, false) else if mThere m k = true then (m, errD 13, false) else (mUpd m k (some (some zeroTab)), errD 0, true)
def mCopy (m : ModD) (k to : Nat) : ModD × ResD × Bool :=
  if k = 3 ∨ to = 3 then (m, errD 12, false) else if mAll m k ≠ 0 then (m, errD (mAll m k), false)
  else if mThere m to = true then (m, errD 13, false) else (mUpd m to (some (some (mTab m k))), errD 0, true)
def mAdd (m : ModD) (k : Nat) (o : OpnT) : ModD × ResD × Bool := if checkO o ≠ 0 then (m, errD (checkO o), false) else mOne m k (addF o)
def mPut (m : ModD) (k : Nat) (fd : Int) (o : OpnT) : ModD × ResD × Bool := if checkO o ≠ 0 then (m, errD (checkO o), false) else mOne m k (putF fd o)
def mdo (m : ModD) (o : OpD) : ModD × ResD × Bool :=
  if o.kd % 11 = 0 then mMake m (o.who % 4)
  else if o.kd % 11 = 1 then mCopy m (o.who % 4) (o.to % 4)
  else if o.kd % 11 = 2 then mOne m (o.who % 4) dropF
  else if o.kd % 11 = 3 then mOne m (o.who % 4) allF
  else if o.kd % 11 = 4 then mOne m (o.who % 4) (getF o.fd)
  else if o.kd % 11 = 5 then mAdd m (o.who % 4) o.o
  else if o.kd % 11 = 6 then mPut m (o.who % 4) o.fd o.o
  else if o.kd % 11 = 7 then mOne m (o.who % 4) (closeF o.fd)
  else if o.kd % 11 = 8 then mOne m (o.who % 4) (moveF o.fd fun _ => o.n)
  else if o.kd % 11 = 9 then mOne m (o.who % 4) (moveF o.fd (advG o.n))
  else mOne m (o.who % 4) (dupF o.fd)

def optM (m : ModD) (k : Nat) : Option (List OpnT) := if mThere m k = true then some (mTab m k) else none
structure RelM (V : AV) (m : ModD) : Prop where
  lt : m.tabs.length = 4
  lh : m.there.length = 4
  len : ∀ t ∈ m.tabs, t.length = 16
  has : ∀ k, k < 3 → HasD V (nmD k) (optM m k)
theorem nm_valid {k : Nat} (h : k < 3) : validB (nmD k) = true := by
  have : k = 0 ∨ k = 1 ∨ k = 2 := by omega
  rcases this with rfl | rfl | rfl <;> decide +kernel
theorem nm_three : validB (nmD 3) = false := by decide +kernel
theorem nm_inj {j k : Nat} (hj : j < 3) (hk : k < 3) (h : nmD j = nmD k) : j = k := by
  have h1 : j = 0 ∨ j = 1 ∨ j = 2 := by omega
  have h2 : k = 0 ∨ k = 1 ∨ k = 2 := by omega
  rcases h1 with rfl | rfl | rfl <;> rcases h2 with rfl | rfl | rfl <;> first | rfl | (revert h; decide +kernel)
theorem mTab_len {m : ModD} (h : ∀ t ∈ m.tabs, t.length = 16) (k : Nat) : (mTab m k).length = 16 := by
  unfold mTab
  rw [List.getD_eq_getElem?_getD]
  by_cases hk : k < m.tabs.length
  · rw [List.getElem?_eq_getElem hk]
    exact h _ (List.getElem_mem _)
  · rw [List.getElem?_eq_none (by omega)]
    rfl
theorem upd_tab {m : ModD} {k j : Nat} {t : List OpnT} (hk : k < m.tabs.length) : mTab (mUpd m k (some (some t))) j = if j = k then t else mTab m j := by
  unfold mTab mUpd
  dsimp only
  rw [List.getD_eq_getElem?_getD, List.getD_eq_getElem?_getD, List.getElem?_set]
  by_cases h : k = j
  · subst h
    rw [if_pos rfl, if_pos rfl, if_pos hk]
    rfl
  · rw [if_neg h, if_neg (fun e => h e.symm)]
theorem set_get {l : List Bool} {k j : Nat} {b : Bool} (hk : k < l.length) : (l.set k b).getD j false = if j = k then b else l.getD j false := by
  rw [List.getD_eq_getElem?_getD, List.getD_eq_getElem?_getD, List.getElem?_set]
  by_cases h : k = j
  · subst h
    rw [if_pos rfl, if_pos rfl, if_pos hk]
    rfl
  · rw [if_neg h, if_neg (fun e => h e.symm)]
theorem optM_upd {m : ModD} {k j : Nat} {c : Option (List OpnT)} (hk : k < 4) (h1 : m.tabs.length = 4) (h2 : m.there.length = 4) : optM (mUpd m k (some c)) j = if j = k then c else optM m j := by
  unfold optM
  cases c with
  | none =>
    have e1 : mThere (mUpd m k (some none)) j = if j = k then false else mThere m j := set_get (by omega)
    have e2 : mTab (mUpd m k (some none)) j = mTab m j := rfl
    rw [e1, e2]
    by_cases h : j = k
    · rw [if_pos h, if_pos h]; rfl
    · rw [if_neg h, if_neg h]
  | some t =>
    have e1 : mThere (mUpd m k (some (some t))) j = if j = k then true else mThere m j := set_get (by omega)
    rw [e1, upd_tab (by omega)]
    by_cases h : j = k
    · rw [if_pos h, if_pos h, if_pos h]; rfl
    · rw [if_neg h, if_neg h, if_neg h]
theorem RelM.seen {V : AV} {m : ModD} (h : RelM V m) (n : NameT) : RelM (avSeen V n) m := ⟨h.lt, h.lh, h.len, fun k hk => (h.has k hk).same (avSeen_get _ _ _)⟩
theorem RelM.put {V : AV} {m : ModD} {k : Nat} {c : Option (List OpnT)} (h : RelM V m) (hk : k < 3) (hc : ∀ t, c = some t → tabE t = 0 ∧ t.length = 16) : RelM (addV V (chgD (nmD k) c)) (mUpd m k (some c)) := by
  refine ⟨?_, ?_, ?_, fun j hj => ?_⟩
  · cases c <;> simp [mUpd, h.lt]
  · cases c <;> simp [mUpd, h.lh]
  · intro t ht
    cases c with
    | none => exact h.len t ht
    | some t' =>
      rcases List.mem_or_eq_of_mem_set ht with ht | rfl
      · exact h.len t ht
      · exact (hc _ rfl).2
  · rw [optM_upd (by omega) h.lt h.lh]
    by_cases hjk : j = k
    · rw [if_pos hjk, hjk]
      exact HasD.put hc
    · rw [if_neg hjk]
      exact (h.has j hj).other (fun e => hjk (nm_inj hj hk e))
/-- What an operation leaves beside the model. -/
def SimD (V : AV) (x : AV × ResD) (y : ModD × ResD × Bool) : Prop :=
  x.2 = y.2.1 ∧ RelM x.1 y.1 ∧ x.1.base = V.base ∧ ((y.2.2 = false ∧ x.1.calls = V.calls) ∨ (y.2.2 = true ∧ ∃ c, x.1.calls = V.calls ++ [c]))
theorem avSeen_bas (V : AV) (n : NameT) : (avSeen V n).base = V.base := by
  unfold avSeen
  split <;> rfl
theorem sim_same {V : AV} {m : ModD} (h : RelM V m) (r : ResD) : SimD V (V, r) (m, r, false) := ⟨rfl, h, rfl, .inl ⟨rfl, rfl⟩⟩
theorem sim_seen {V : AV} {m : ModD} (h : RelM V m) (n : NameT) (r : ResD) : SimD V (avSeen V n, r) (m, r, false) := ⟨rfl, h.seen n, avSeen_bas _ _, .inl ⟨rfl, avSeen_cal _ _⟩⟩
theorem sim_put {V W : AV} {m : ModD} (h : RelM W m) (hb : W.base = V.base) (hw : W.calls = V.calls) {k : Nat} (hk : k < 3) {c : Option (List OpnT)} (hc : ∀ t, c = some t → tabE t = 0 ∧ t.length = 16) (r : ResD) :
    SimD V (addV W (chgD (nmD k) c), r) (mUpd m k (some c), r, true) := ⟨rfl, h.put hk hc, hb, .inr ⟨rfl, _, by rw [← hw]; rfl⟩⟩
theorem optM_ok {V : AV} {m : ModD} (h : RelM V m) {k : Nat} (hk : k < 3) (ht : mThere m k = true) : tabE (mTab m k) = 0 ∧ (mTab m k).length = 16 := by
  have := h.has k hk
  unfold optM at this
  rw [if_pos ht] at this
  exact this.2
theorem sim_one {V : AV} {m : ModD} (h : RelM V m) {k : Nat} (hk : k < 4) {f : List OpnT → ResD × ChD} (hf : GoodF f) : SimD V ((dOne (nmD k) f).run V) (mOne m k f) := by
  unfold mOne mAll
  by_cases h3 : k = 3
  · subst h3
    rw [if_pos rfl]
    have : dOne (nmD 3) f = .ret (errD 12) := if_pos nm_three
    rw [this]
    exact sim_same h _
  · rw [if_neg h3]
    have hk3 : k < 3 := by omega
    rw [dOne_has (nm_valid hk3) (h.has k hk3) f]
    cases ht : mThere m k with
    | false =>
      have : optM m k = none := if_neg (by rw [ht]; decide)
      rw [this]
      exact sim_seen h _ _
    | true =>
      have ho : optM m k = some (mTab m k) := if_pos ht
      rw [ho]
      have hg := optM_ok h hk3 ht
      have hgood := hf (mTab m k) hg.1 hg.2
      show SimD V (putR (avSeen V (ofTab (nmD k))) (nmD k) (f (mTab m k))) (mUpd m k (f (mTab m k)).2, (f (mTab m k)).1, (f (mTab m k)).2.isSome)
      generalize f (mTab m k) = x at *
      obtain ⟨r, c⟩ := x
      cases c with
      | none => exact sim_seen h _ _
      | some c => exact sim_put (h.seen _) (avSeen_bas _ _) (avSeen_cal _ _) hk3 (fun t e => hgood t (by rw [e])) r
theorem avGet_some {V : AV} {who : ByteArray} {o : Option (List OpnT)} (h : HasD V who o) : (avGet V (ofTab who)).2 = o.isSome := by
  cases o with
  | none => exact h
  | some t => rw [h.1]; rfl
theorem optM_some (m : ModD) (k : Nat) : (optM m k).isSome = mThere m k := by
  unfold optM
  cases mThere m k <;> rfl
theorem sim_make {V : AV} {m : ModD} (h : RelM V m) {k : Nat} (hk : k < 4) : SimD V ((dMake (nmD k)).run V) (mMake m k) := by
  rw [dMake_run]
  unfold mMake
  by_cases h3 : k = 3
  · rw [if_pos h3, if_pos (by rw [h3]; exact nm_three)]
    exact sim_same h _
  · have hk3 : k < 3 := by omega
    rw [if_neg h3, if_neg (by rw [nm_valid hk3]; decide)]
    have e1 : (avGet V (ofTab (nmD k))).2 = mThere m k := (avGet_some (h.has k hk3)).trans (optM_some m k)
    rw [e1]
    by_cases h4 : mThere m k = true
    · rw [if_pos h4, if_pos h4]
      exact sim_seen h _ _
    · rw [if_neg h4, if_neg h4]
      exact sim_put (h.seen _) (avSeen_bas _ _) (avSeen_cal _ _) hk3 (fun t e => by injection e with e; subst e; exact ⟨tabE_zeroTab, zeroTab_len⟩) _
theorem sim_copy {V : AV} {m : ModD} (h : RelM V m) {k to : Nat} (hk : k < 4) (ht : to < 4) : SimD V ((dCopy (nmD k) (nmD to)).run V) (mCopy m k to) := by
  rw [dCopy_run]
  unfold mCopy
  by_cases h3 : k = 3 ∨ to = 3
  · rw [if_pos h3, if_pos (by
      rcases h3 with rfl | rfl
      · exact .inl nm_three
      · exact .inr nm_three)]
    exact sim_same h _
  · have hk3 : k < 3 := by omega
    have ht3 : to < 3 := by omega
    have hv : ¬ validB (nmD k) = false := by rw [nm_valid hk3]; decide
    have e1 : allR V (nmD k) = optR (optM m k) := (if_neg hv).trans (h.has k hk3).tab
    have e2 : allV V (nmD k) = avSeen V (ofTab (nmD k)) := if_neg hv
    rw [if_neg h3, if_neg (by rw [nm_valid hk3, nm_valid ht3]; decide), e1, e2]
    unfold mAll
    rw [if_neg (show ¬ k = 3 by omega)]
    cases hth : mThere m k with
    | false =>
      have ho : optM m k = none := if_neg (by rw [hth]; decide)
      rw [ho]
      exact sim_seen h _ _
    | true =>
      have ho : optM m k = some (mTab m k) := if_pos hth
      rw [ho]
      have hg := optM_ok h hk3 hth
      have e3 : (avGet (avSeen V (ofTab (nmD k))) (ofTab (nmD to))).2 = mThere m to := by
        rw [avSeen_get]
        exact (avGet_some (h.has to ht3)).trans (optM_some m to)
      have hs := (h.seen (ofTab (nmD k))).seen (ofTab (nmD to))
      show SimD V (copR (avSeen V (ofTab (nmD k))) (nmD to) (mTab m k)) (if mThere m to = true then (m, errD 13, false) else (mUpd m to (some (some (mTab m k))), errD 0, true))
      unfold copR
      rw [e3]
      by_cases h4 : mThere m to = true
      · rw [if_pos h4, if_pos h4]
        exact ⟨rfl, hs, (avSeen_bas _ _).trans (avSeen_bas _ _), .inl ⟨rfl, (avSeen_cal _ _).trans (avSeen_cal _ _)⟩⟩
      · rw [if_neg h4, if_neg h4]
        exact sim_put hs ((avSeen_bas _ _).trans (avSeen_bas _ _)) ((avSeen_cal _ _).trans (avSeen_cal _ _)) ht3 (fun t e => by injection e with e; subst e; exact hg) _
/-- The model follows. -/
theorem sim_any {V : AV} {m : ModD} (h : RelM V m) (o : OpD) : SimD V ((pTree o).run V) (mdo m o) := by
  have hk : o.who % 4 < 4 := Nat.mod_lt _ (by decide)
  have ht : o.to % 4 < 4 := Nat.mod_lt _ (by decide)
  unfold pTree mdo
  by_cases h0 : o.kd % 11 = 0
  · rw [if_pos h0, if_pos h0]
    exact sim_make h hk
  rw [if_neg h0, if_neg h0]
  by_cases h1 : o.kd % 11 = 1
  · rw [if_pos h1, if_pos h1]
    exact sim_copy h hk ht
  rw [if_neg h1, if_neg h1]
  by_cases h2 : o.kd % 11 = 2
  · rw [if_pos h2, if_pos h2]
    exact sim_one h hk good_drop
  rw [if_neg h2, if_neg h2]
  by_cases h3 : o.kd % 11 = 3
  · rw [if_pos h3, if_pos h3]
    exact sim_one h hk good_all
  rw [if_neg h3, if_neg h3]
  by_cases h4 : o.kd % 11 = 4
  · rw [if_pos h4, if_pos h4]
    exact sim_one h hk (good_get _)
  rw [if_neg h4, if_neg h4]
  by_cases h5 : o.kd % 11 = 5
  · rw [if_pos h5, if_pos h5]
    unfold dAdd mAdd
    by_cases hc : checkO o.o ≠ 0
    · rw [if_pos hc, if_pos hc]; exact sim_same h _
    · rw [if_neg hc, if_neg hc]; exact sim_one h hk (good_add (by omega))
  rw [if_neg h5, if_neg h5]
  by_cases h6 : o.kd % 11 = 6
  · rw [if_pos h6, if_pos h6]
    unfold dPut mPut
    by_cases hc : checkO o.o ≠ 0
    · rw [if_pos hc, if_pos hc]; exact sim_same h _
    · rw [if_neg hc, if_neg hc]; exact sim_one h hk (good_put _ (by omega))
  rw [if_neg h6, if_neg h6]
  by_cases h7 : o.kd % 11 = 7
  · rw [if_pos h7, if_pos h7]
    exact sim_one h hk (good_close _)
  rw [if_neg h7, if_neg h7]
  by_cases h8 : o.kd % 11 = 8
  · rw [if_pos h8, if_pos h8]
    exact sim_one h hk (good_move _ _)
  rw [if_neg h8, if_neg h8]
  by_cases h9 : o.kd % 11 = 9
  · rw [if_pos h9, if_pos h9]
    exact sim_one h hk (good_move _ _)
  rw [if_neg h9, if_neg h9]
  exact sim_one h hk (good_dup _)
def modZ : ModD := ⟨List.replicate 4 zeroTab, List.replicate 4 false⟩
theorem relM_empty : RelM ⟨fun _ => none, [], []⟩ modZ := ⟨rfl, rfl, fun t ht => by rw [List.eq_of_mem_replicate ht]; rfl, fun k hk => by
  have : optM modZ k = none := by
    unfold optM mThere modZ
    have : k = 0 ∨ k = 1 ∨ k = 2 := by omega
    rcases this with rfl | rfl | rfl <;> rfl
  rw [this]
  rfl⟩
end Go.Proofs.YtfchfjipkggnkaaGreatDoor

namespace Go.Proofs.YtfchfjipkggnkaaGreatDoor
open Go.RowKit

theorem pT0 {o : OpD} (h : o.kd % 11 = 0) : pTree o = dMake (nmD (o.who % 4)) := by
  unfold pTree
  rw [if_pos h]
theorem pT1 {o : OpD} (h : o.kd % 11 = 1) : pTree o = dCopy (nmD (o.who % 4)) (nmD (o.to % 4)) := by
  unfold pTree
  rw [if_neg (by omega), if_pos h]
theorem pT2 {o : OpD} (h : o.kd % 11 = 2) : pTree o = dOne (nmD (o.who % 4)) dropF := by
  unfold pTree
  rw [if_neg (by omega), if_neg (by omega), if_pos h]
theorem pT3 {o : OpD} (h : o.kd % 11 = 3) : pTree o = dOne (nmD (o.who % 4)) allF := by
  unfold pTree
  rw [if_neg (by omega), if_neg (by omega), if_neg (by omega), if_pos h]
theorem pT4 {o : OpD} (h : o.kd % 11 = 4) : pTree o = dOne (nmD (o.who % 4)) (getF o.fd) := by
  unfold pTree
  rw [if_neg (by omega), if_neg (by omega), if_neg (by omega), if_neg (by omega), if_pos h]
theorem pT5 {o : OpD} (h : o.kd % 11 = 5) : pTree o = dAdd (nmD (o.who % 4)) o.o := by
  unfold pTree
  rw [if_neg (by omega), if_neg (by omega), if_neg (by omega), if_neg (by omega), if_neg (by omega), if_pos h]
theorem pT6 {o : OpD} (h : o.kd % 11 = 6) : pTree o = dPut (nmD (o.who % 4)) o.fd o.o := by
  unfold pTree
  rw [if_neg (by omega), if_neg (by omega), if_neg (by omega), if_neg (by omega), if_neg (by omega), if_neg (by omega), if_pos h]
theorem pT7 {o : OpD} (h : o.kd % 11 = 7) : pTree o = dOne (nmD (o.who % 4)) (closeF o.fd) := by
  unfold pTree
  rw [if_neg (by omega), if_neg (by omega), if_neg (by omega), if_neg (by omega), if_neg (by omega), if_neg (by omega), if_neg (by omega), if_pos h]
theorem pT8 {o : OpD} (h : o.kd % 11 = 8) : pTree o = dOne (nmD (o.who % 4)) (moveF o.fd fun _ => o.n) := by
  unfold pTree
  rw [if_neg (by omega), if_neg (by omega), if_neg (by omega), if_neg (by omega), if_neg (by omega), if_neg (by omega), if_neg (by omega), if_neg (by omega), if_pos h]
theorem pT9 {o : OpD} (h : o.kd % 11 = 9) : pTree o = dOne (nmD (o.who % 4)) (moveF o.fd (advG o.n)) := by
  unfold pTree
  rw [if_neg (by omega), if_neg (by omega), if_neg (by omega), if_neg (by omega), if_neg (by omega), if_neg (by omega), if_neg (by omega), if_neg (by omega), if_neg (by omega), if_pos h]
theorem pT10 {o : OpD} (h : o.kd % 11 = 10) : pTree o = dOne (nmD (o.who % 4)) (dupF o.fd) := by
  unfold pTree
  rw [if_neg (by omega), if_neg (by omega), if_neg (by omega), if_neg (by omega), if_neg (by omega), if_neg (by omega), if_neg (by omega), if_neg (by omega), if_neg (by omega), if_neg (by omega)]
theorem dOne_shape {P : ResD → Prop} {V : AV} {who : ByteArray} {f : List OpnT → ResD × ChD} (he : ∀ e, P (errD e)) (hf : ∀ t, t.length = 16 → P (f t).1) : P ((dOne who f).run V).2 := by
  rw [dOne_run]
  split
  · exact he _
  · have := hf _ (allR_len V who)
    unfold putR
    split <;> exact this
def ShE (r : ResD) : Prop := r.T = zeroTab ∧ r.O = zeroO ∧ r.N = 0
def ShT (r : ResD) : Prop := r.T.length = 16 ∧ r.O = zeroO ∧ r.N = 0
def ShO (r : ResD) : Prop := r.T = zeroTab ∧ r.N = 0
def ShN (r : ResD) : Prop := r.T = zeroTab ∧ r.O = zeroO
theorem shE_err (e : Nat) : ShE (errD e) := ⟨rfl, rfl, rfl⟩
theorem shT_err (e : Nat) : ShT (errD e) := ⟨rfl, rfl, rfl⟩
theorem shO_err (e : Nat) : ShO (errD e) := ⟨rfl, rfl⟩
theorem shN_err (e : Nat) : ShN (errD e) := ⟨rfl, rfl⟩
theorem sh_make (V : AV) (who : ByteArray) : ShE ((dMake who).run V).2 := by
  rw [dMake_run]
  split
  · exact shE_err _
  split
  · exact shE_err _
  · exact shE_err _
theorem sh_copy (V : AV) (who too : ByteArray) : ShE ((dCopy who too).run V).2 := by
  rw [dCopy_run]
  split
  · exact shE_err _
  split
  · exact shE_err _
  unfold copR
  split
  · exact shE_err _
  · exact shE_err _
theorem sh_drop (V : AV) (who : ByteArray) : ShT ((dOne who dropF).run V).2 := dOne_shape shT_err fun _ h => ⟨h, rfl, rfl⟩
theorem sh_all (V : AV) (who : ByteArray) : ShT ((dOne who allF).run V).2 := dOne_shape shT_err fun _ h => ⟨h, rfl, rfl⟩
theorem sh_get (V : AV) (who : ByteArray) (fd : Int) : ShO ((dOne who (getF fd)).run V).2 := dOne_shape shO_err fun _ _ => by
  unfold getF
  split
  · exact shO_err _
  · exact ⟨rfl, rfl⟩
theorem addF_shape (o : OpnT) (t : List OpnT) : ShN (addF o t).1 := by
  unfold addF
  split
  · exact shN_err _
  · exact ⟨rfl, rfl⟩
theorem sh_add (V : AV) (who : ByteArray) (o : OpnT) : ShN ((dAdd who o).run V).2 := by
  unfold dAdd
  split
  · exact shN_err _
  · exact dOne_shape shN_err fun t _ => addF_shape o t
theorem sh_put (V : AV) (who : ByteArray) (fd : Int) (o : OpnT) : ShO ((dPut who fd o).run V).2 := by
  unfold dPut
  split
  · exact shO_err _
  · refine dOne_shape shO_err fun t _ => ?_
    unfold putF
    split
    · exact shO_err _
    split
    · exact ⟨rfl, rfl⟩
    · exact ⟨rfl, rfl⟩
theorem sh_close (V : AV) (who : ByteArray) (fd : Int) : ShO ((dOne who (closeF fd)).run V).2 := dOne_shape shO_err fun _ _ => by
  unfold closeF
  split
  · exact shO_err _
  · exact ⟨rfl, rfl⟩
theorem sh_move (V : AV) (who : ByteArray) (fd : Int) (g : Int → Int) : ShE ((dOne who (moveF fd g)).run V).2 := dOne_shape shE_err fun _ _ => by
  unfold moveF
  split
  · exact shE_err _
  split
  · exact shE_err _
  split
  · exact shE_err _
  split
  · exact shE_err _
  · exact shE_err _
theorem sh_dup (V : AV) (who : ByteArray) (fd : Int) : ShN ((dOne who (dupF fd)).run V).2 := dOne_shape shN_err fun t _ => by
  unfold dupF
  split
  · exact shN_err _
  · exact addF_shape _ t
/-- Every operation's table has sixteen places. -/
theorem pTree_len (o : OpD) (V : AV) : ((pTree o).run V).2.T.length = 16 := by
  have e1 : ∀ r : ResD, ShE r → r.T.length = 16 := fun r h => by rw [h.1]; rfl
  have e2 : ∀ r : ResD, ShO r → r.T.length = 16 := fun r h => by rw [h.1]; rfl
  have e3 : ∀ r : ResD, ShN r → r.T.length = 16 := fun r h => by rw [h.1]; rfl
  rcases (by omega : o.kd % 11 = 0 ∨ o.kd % 11 = 1 ∨ o.kd % 11 = 2 ∨ o.kd % 11 = 3 ∨ o.kd % 11 = 4 ∨ o.kd % 11 = 5 ∨ o.kd % 11 = 6 ∨ o.kd % 11 = 7 ∨ o.kd % 11 = 8 ∨ o.kd % 11 = 9 ∨ o.kd % 11 = 10) with h | h | h | h | h | h | h | h | h | h | h
  · rw [pT0 h]; exact e1 _ (sh_make _ _)
  · rw [pT1 h]; exact e1 _ (sh_copy _ _ _)
  · rw [pT2 h]; exact (sh_drop _ _).1
  · rw [pT3 h]; exact (sh_all _ _).1
  · rw [pT4 h]; exact e2 _ (sh_get _ _ _)
  · rw [pT5 h]; exact e3 _ (sh_add _ _ _)
  · rw [pT6 h]; exact e2 _ (sh_put _ _ _ _)
  · rw [pT7 h]; exact e2 _ (sh_close _ _ _)
  · rw [pT8 h]; exact e1 _ (sh_move _ _ _ _)
  · rw [pT9 h]; exact e1 _ (sh_move _ _ _ _)
  · rw [pT10 h]; exact e3 _ (sh_dup _ _ _)
end Go.Proofs.YtfchfjipkggnkaaGreatDoor

namespace Go.Proofs.YtfchfjipkggnkaaGreatDoor
open Go.RowKit

/-- The names an operation may touch. -/
def NamesD (o : OpD) (n : NameT) : Prop := n = ofTab (nmD (o.who % 4)) ∨ (o.kd % 11 = 1 ∧ n = ofTab (nmD (o.to % 4)))
section
variable {P : NameT → Prop} {who : ByteArray}
theorem putD_in (h : P (ofTab who)) (x : ResD × ChD) : (putD who x).within P := by
  unfold putD
  split
  · trivial
  · exact ⟨h, trivial⟩
theorem dOne_in (h : P (ofTab who)) (f : List OpnT → ResD × ChD) : (dOne who f).within P := by
  unfold dOne
  split
  · trivial
  · refine ⟨h, fun g => ?_⟩
    dsimp only
    split
    · trivial
    · exact putD_in h _
theorem dMake_in (h : P (ofTab who)) : (dMake who).within P := by
  unfold dMake
  split
  · trivial
  · refine ⟨h, fun g => ?_⟩
    dsimp only
    split
    · trivial
    · exact ⟨h, trivial⟩
theorem dCopy_in {too : ByteArray} (h : P (ofTab who)) (h2 : P (ofTab too)) : (dCopy who too).within P := by
  unfold dCopy
  split
  · trivial
  · refine ⟨h, fun g => ?_⟩
    dsimp only
    split
    · trivial
    · refine ⟨h2, fun g2 => ?_⟩
      dsimp only
      split
      · trivial
      · exact ⟨h2, trivial⟩
theorem putD_most (x : ResD × ChD) : (putD who x).most 1 := by
  unfold putD
  split <;> trivial
theorem dOne_most (f : List OpnT → ResD × ChD) : (dOne who f).most 1 := by
  unfold dOne
  split
  · trivial
  · show ∀ v, _
    intro g
    dsimp only
    split
    · trivial
    · exact putD_most _
theorem dMake_most : (dMake who).most 1 := by
  unfold dMake
  split
  · trivial
  · show ∀ v, _
    intro g
    dsimp only
    split <;> trivial
theorem dCopy_most {too : ByteArray} : (dCopy who too).most 1 := by
  unfold dCopy
  split
  · trivial
  · show ∀ v, _
    intro g
    dsimp only
    split
    · trivial
    · show ∀ v, _
      intro g2
      dsimp only
      split <;> trivial
end
theorem pTree_in (o : OpD) : (pTree o).within (NamesD o) := by
  have h1 : NamesD o (ofTab (nmD (o.who % 4))) := .inl rfl
  unfold pTree
  split
  · exact dMake_in h1
  split
  · rename_i h; exact dCopy_in h1 (.inr ⟨h, rfl⟩)
  split
  · exact dOne_in h1 _
  split
  · exact dOne_in h1 _
  split
  · exact dOne_in h1 _
  split
  · unfold dAdd; split
    · trivial
    · exact dOne_in h1 _
  split
  · unfold dPut; split
    · trivial
    · exact dOne_in h1 _
  split
  · exact dOne_in h1 _
  split
  · exact dOne_in h1 _
  split
  · exact dOne_in h1 _
  · exact dOne_in h1 _
theorem pTree_most (o : OpD) : (pTree o).most 1 := by
  unfold pTree
  split
  · exact dMake_most
  split
  · exact dCopy_most
  split
  · exact dOne_most _
  split
  · exact dOne_most _
  split
  · exact dOne_most _
  split
  · unfold dAdd; split
    · trivial
    · exact dOne_most _
  split
  · unfold dPut; split
    · trivial
    · exact dOne_most _
  split
  · exact dOne_most _
  split
  · exact dOne_most _
  split
  · exact dOne_most _
  · exact dOne_most _
theorem pTree_len1 (o : OpD) (V : AV) : ((pTree o).run V).1.calls.length ≤ V.calls.length + 1 := Vp.run_most _ _ _ (pTree_most o)
end Go.Proofs.YtfchfjipkggnkaaGreatDoor
