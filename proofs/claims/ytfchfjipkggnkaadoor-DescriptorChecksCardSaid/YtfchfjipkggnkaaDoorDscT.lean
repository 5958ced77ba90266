/- Law 31, plain: what the functions do upon a view, as trees; the model of the law. -/
import Derived.Test.YtfchfjipkggnkaaDoorDscA
import Derived.Test.YtfchfjipkggnkaaDoorVpA
namespace Go.Proofs.YtfchfjipkggnkaaDoor
open Go.RowKit

def ofTab (who : ByteArray) : NameT := ⟨4, who, 0, 0, ⟨#[]⟩⟩
theorem ofTab_inj {a c : ByteArray} (h : ofTab a = ofTab c) : a = c := by
  unfold ofTab at h
  injection h
/-- What an operation has returned. -/
structure ResD where
  T : List OpnT
  O : OpnT
  N : Int
  E : Nat
def errD (e : Nat) : ResD := ⟨zeroTab, zeroO, 0, e⟩
def entD (t : List OpnT) (fd : Int) : OpnT := t.getD fd.toNat zeroO
def badD (t : List OpnT) (fd : Int) : Bool := decide (fd < 0) || decide (16 ≤ fd) || isZ (entD t fd)
/-- The first free descriptor. -/
def freeO : List OpnT → Nat → Option Nat
  | [], _ => none
  | o :: r, i => if isZ o = true then some i else freeO r (i + 1)
abbrev ChD := Option (Option (List OpnT))
def dropF (t : List OpnT) : ResD × ChD := (⟨t, zeroO, 0, 0⟩, some none)
def allF (t : List OpnT) : ResD × ChD := (⟨t, zeroO, 0, 0⟩, none)
def getF (fd : Int) (t : List OpnT) : ResD × ChD := if badD t fd = true then (errD 21, none) else (⟨zeroTab, entD t fd, 0, 0⟩, none)
def addF (o : OpnT) (t : List OpnT) : ResD × ChD := match freeO t 0 with
  | none => (errD 9, none)
  | some i => (⟨zeroTab, zeroO, i, 0⟩, some (some (t.set i o)))
def putF (fd : Int) (o : OpnT) (t : List OpnT) : ResD × ChD :=
  if fd < 0 ∨ 16 ≤ fd then (errD 21, none)
  else if sameO (entD t fd) o = true then (⟨zeroTab, entD t fd, 0, 0⟩, none)
  else (⟨zeroTab, entD t fd, 0, 0⟩, some (some (t.set fd.toNat o)))
def closeF (fd : Int) (t : List OpnT) : ResD × ChD := if badD t fd = true then (errD 21, none) else (⟨zeroTab, entD t fd, 0, 0⟩, some (some (t.set fd.toNat zeroO)))
def atO (o : OpnT) (n : Int) : OpnT := ⟨o.kd, o.mak, o.bn, o.num, n, o.rd, o.wr, o.ap⟩
def moveF (fd : Int) (g : Int → Int) (t : List OpnT) : ResD × ChD :=
  if badD t fd = true then (errD 21, none)
  else if (entD t fd).kd ≠ 1 then (errD 11, none)
  else if g (entD t fd).off < 0 ∨ 4096 < g (entD t fd).off then (errD 2, none)
  else if g (entD t fd).off = (entD t fd).off then (errD 0, none)
  else (errD 0, some (some (t.set fd.toNat (atO (entD t fd) (g (entD t fd).off)))))
def dupF (fd : Int) (t : List OpnT) : ResD × ChD := if badD t fd = true then (errD 21, none) else addF (entD t fd) t
/-- The sum as the machine has it. -/
def advG (n : Int) (old : Int) : Int := if 9223372036854775807 < old + n then old + n - 18446744073709551616 else old + n

/-! ### Tables stay valid -/
theorem tabE_set {t : List OpnT} (h : tabE t = 0) (i : Nat) {o : OpnT} (ho : isZ o = false → checkO o = 0) : tabE (t.set i o) = 0 := by
  refine tabE_of fun x hx hz => ?_
  rcases List.mem_or_eq_of_mem_set hx with hx | rfl
  · exact tabE_mem h x hx hz
  · exact ho hz
theorem entD_mem {t : List OpnT} {fd : Int} (hl : t.length = 16) (h0 : ¬ fd < 0) (h1 : ¬ 16 ≤ fd) : entD t fd ∈ t := by
  unfold entD
  rw [List.getD_eq_getElem?_getD, List.getElem?_eq_getElem (by omega)]
  exact List.getElem_mem _
theorem badD_no {t : List OpnT} {fd : Int} (h : badD t fd = false) : ¬ fd < 0 ∧ ¬ 16 ≤ fd ∧ isZ (entD t fd) = false := by
  unfold badD at h
  simp only [Bool.or_eq_false_iff, decide_eq_false_iff_not] at h
  exact ⟨h.1.1, h.1.2, h.2⟩
theorem checkO_at {o : OpnT} (h : checkO o = 0) (hk : o.kd = 1) {n : Int} (h0 : 0 ≤ n) (h1 : n ≤ 4096) : checkO (atO o n) = 0 := by
  obtain ⟨kd, mak, bn, num, off, rd, wr, ap⟩ := o
  dsimp only at hk
  subst hk
  show checkO ⟨1, mak, bn, num, n, rd, wr, ap⟩ = 0
  unfold checkO at h ⊢
  dsimp only at h ⊢
  rw [if_neg (by omega)] at h ⊢
  have hf : formedO ⟨1, mak, bn, num, n, rd, wr, ap⟩ = formedO ⟨1, mak, bn, num, off, rd, wr, ap⟩ := by
    simp [formedO]
  rw [hf]
  by_cases h2 : formedO ⟨1, mak, bn, num, off, rd, wr, ap⟩ = false
  · rw [if_pos h2] at h; cases h
  rw [if_neg h2] at h ⊢
  by_cases h3 : num < 0 ∨ 9999 < num ∨ off < 0 ∨ 4096 < off
  · rw [if_pos h3] at h; cases h
  rw [if_neg h3] at h
  rw [if_neg (by omega)]
  exact h
theorem freeO_lt : ∀ {t : List OpnT} {i j : Nat}, freeO t i = some j → i ≤ j ∧ j < i + t.length
  | [], _, _, h => by cases h
  | o :: r, i, j, h => by
    unfold freeO at h
    split at h
    · injection h with h; subst h; simp
    · have := freeO_lt h
      simp; omega
/-- A change keeps a table valid. -/
def GoodF (f : List OpnT → ResD × ChD) : Prop := ∀ t, tabE t = 0 → t.length = 16 → ∀ t', (f t).2 = some (some t') → tabE t' = 0 ∧ t'.length = 16
theorem good_drop : GoodF dropF := fun _ _ _ _ h => by cases h
theorem good_all : GoodF allF := fun _ _ _ _ h => by cases h
theorem good_get (fd : Int) : GoodF (getF fd) := fun _ _ _ _ h => by
  unfold getF at h
  split at h <;> cases h
theorem addF_good {o : OpnT} {t t' : List OpnT} (hE : tabE t = 0) (hl : t.length = 16) (ho : checkO o = 0) (h : (addF o t).2 = some (some t')) : tabE t' = 0 ∧ t'.length = 16 := by
  unfold addF at h
  cases hf : freeO t 0 with
  | none => rw [hf] at h; cases h
  | some i =>
    rw [hf] at h
    injection h with h
    injection h with h
    subst h
    exact ⟨tabE_set hE _ (fun _ => ho), by simp [hl]⟩
theorem good_add {o : OpnT} (ho : checkO o = 0) : GoodF (addF o) := fun _ h1 h2 _ h => addF_good h1 h2 ho h
theorem good_put (fd : Int) {o : OpnT} (ho : checkO o = 0) : GoodF (putF fd o) := fun _ h1 h2 _ h => by
  unfold putF at h
  split at h
  · cases h
  split at h
  · cases h
  injection h with h
  injection h with h
  subst h
  exact ⟨tabE_set h1 _ (fun _ => ho), by simp [h2]⟩
theorem good_close (fd : Int) : GoodF (closeF fd) := fun _ h1 h2 _ h => by
  unfold closeF at h
  split at h
  · cases h
  injection h with h
  injection h with h
  subst h
  exact ⟨tabE_set h1 _ (fun hz => by rw [isZ_zero] at hz; cases hz), by simp [h2]⟩
theorem ent_check {t : List OpnT} {fd : Int} (h1 : tabE t = 0) (h2 : t.length = 16) (h : ¬ badD t fd = true) : checkO (entD t fd) = 0 := by
  obtain ⟨a, b, c⟩ := badD_no (by simpa using h)
  exact tabE_mem h1 _ (entD_mem h2 a b) c
theorem good_move (fd : Int) (g : Int → Int) : GoodF (moveF fd g) := fun _ h1 h2 _ h => by
  unfold moveF at h
  split at h
  · cases h
  rename_i hb
  split at h
  · cases h
  rename_i hk
  split at h
  · cases h
  rename_i hr
  split at h
  · cases h
  injection h with h
  injection h with h
  subst h
  exact ⟨tabE_set h1 _ (fun _ => checkO_at (ent_check h1 h2 hb) (by omega) (by omega) (by omega)), by simp [h2]⟩
theorem good_dup (fd : Int) : GoodF (dupF fd) := fun _ h1 h2 _ h => by
  unfold dupF at h
  split at h
  · cases h
  rename_i hb
  exact addF_good h1 h2 (ent_check h1 h2 hb) h

/-! ### The trees -/
def valD : Option (List OpnT) → ByteArray
  | none => ⟨#[]⟩
  | some t => strOf (encDB t)
def chgD (who : ByteArray) (c : Option (List OpnT)) : ChangeT := ⟨ofTab who, valD c, c.isNone⟩
def putD (who : ByteArray) (x : ResD × ChD) : Vp ResD := match x.2 with
  | none => .ret x.1
  | some c => .put (chgD who c) (.ret x.1)
/-- What All answers. -/
def tabR (g : ByteArray × Bool) : List OpnT × Nat := if g.2 = false then (zeroTab, 8) else decD g.1
def dOne (who : ByteArray) (f : List OpnT → ResD × ChD) : Vp ResD :=
  if validB who = false then .ret (errD 12) else .get (ofTab who) fun g => if (tabR g).2 ≠ 0 then .ret (errD (tabR g).2) else putD who (f (tabR g).1)
def dMake (who : ByteArray) : Vp ResD := if validB who = false then .ret (errD 12) else .get (ofTab who) fun g => if g.2 = true then .ret (errD 13) else .put (chgD who (some zeroTab)) (.ret (errD 0))
def dCopy (who to : ByteArray) : Vp ResD :=
  if validB who = false ∨ validB to = false then .ret (errD 12) else .get (ofTab who) fun g => if (tabR g).2 ≠ 0 then .ret (errD (tabR g).2) else
    .get (ofTab to) fun h => if h.2 = true then .ret (errD 13) else .put (chgD to (some (tabR g).1)) (.ret (errD 0))
def dAdd (who : ByteArray) (o : OpnT) : Vp ResD := if checkO o ≠ 0 then .ret (errD (checkO o)) else dOne who (addF o)
def dPut (who : ByteArray) (fd : Int) (o : OpnT) : Vp ResD := if checkO o ≠ 0 then .ret (errD (checkO o)) else dOne who (putF fd o)
/-- An operation of the law. -/
structure OpD where
  kd : Nat
  who : Nat
  to : Nat
  fd : Int
  n : Int
  o : OpnT
def nmD (k : Nat) : ByteArray := if k = 0 then ⟨#[49]⟩ else if k = 1 then ⟨#[49, 46, 50]⟩ else if k = 2 then ⟨#[55]⟩ else ⟨#[120]⟩
def pTree (o : OpD) : Vp ResD :=
  if o.kd % 11 = 0 then dMake (nmD (o.who % 4))
  else if o.kd % 11 = 1 then dCopy (nmD (o.who % 4)) (nmD (o.to % 4))
  else if o.kd % 11 = 2 then dOne (nmD (o.who % 4)) dropF
  else if o.kd % 11 = 3 then dOne (nmD (o.who % 4)) allF
  else if o.kd % 11 = 4 then dOne (nmD (o.who % 4)) (getF o.fd)
  else if o.kd % 11 = 5 then dAdd (nmD (o.who % 4)) o.o
  else if o.kd % 11 = 6 then dPut (nmD (o.who % 4)) o.fd o.o
  else if o.kd % 11 = 7 then dOne (nmD (o.who % 4)) (closeF o.fd)
  else if o.kd % 11 = 8 then dOne (nmD (o.who % 4)) (moveF o.fd fun _ => o.n)
  else if o.kd % 11 = 9 then dOne (nmD (o.who % 4)) (moveF o.fd (advG o.n))
  else dOne (nmD (o.who % 4)) (dupF o.fd)

/-! ### What the trees do -/
def allV (V : AV) (who : ByteArray) : AV := if validB who = false then V else avSeen V (ofTab who)
def allR (V : AV) (who : ByteArray) : List OpnT × Nat := if validB who = false then (zeroTab, 12) else tabR (avGet V (ofTab who))
def addV (V : AV) (c : ChangeT) : AV := ⟨V.base, V.reads, V.calls ++ [c]⟩
def putR (V : AV) (who : ByteArray) (x : ResD × ChD) : AV × ResD := match x.2 with
  | none => (V, x.1)
  | some c => (addV V (chgD who c), x.1)
theorem putD_run (V : AV) (who : ByteArray) (x : ResD × ChD) : (putD who x).run V = putR V who x := by
  obtain ⟨r, c⟩ := x
  cases c <;> rfl
theorem dOne_run (V : AV) (who : ByteArray) (f : List OpnT → ResD × ChD) : (dOne who f).run V = if (allR V who).2 ≠ 0 then (allV V who, errD (allR V who).2) else putR (allV V who) who (f (allR V who).1) := by
  unfold dOne allR allV
  cases hv : validB who with
  | false => rfl
  | true =>
    simp only [reduceCtorEq, if_false]
    show (if (tabR (avGet V (ofTab who))).2 ≠ 0 then (.ret (errD (tabR (avGet V (ofTab who))).2) : Vp ResD) else putD who (f (tabR (avGet V (ofTab who))).1)).run (avSeen V (ofTab who)) = _
    by_cases h : (tabR (avGet V (ofTab who))).2 ≠ 0
    · rw [if_pos h, if_pos h]; rfl
    · rw [if_neg h, if_neg h]; exact putD_run _ _ _
theorem dMake_run (V : AV) (who : ByteArray) : (dMake who).run V = if validB who = false then (V, errD 12) else if (avGet V (ofTab who)).2 = true then (avSeen V (ofTab who), errD 13) else (addV (avSeen V (ofTab who)) (chgD who (some zeroTab)), errD 0) := by
  unfold dMake
  by_cases h : validB who = false
  · rw [if_pos h, if_pos h]; rfl
  rw [if_neg h, if_neg h]
  show (if (avGet V (ofTab who)).2 = true then (.ret (errD 13) : Vp ResD) else .put (chgD who (some zeroTab)) (.ret (errD 0))).run (avSeen V (ofTab who)) = _
  by_cases h2 : (avGet V (ofTab who)).2 = true
  · rw [if_pos h2, if_pos h2]; rfl
  · rw [if_neg h2, if_neg h2]; rfl
/-- What Copy sees after All. -/
def copR (V : AV) (to : ByteArray) (t : List OpnT) : AV × ResD :=
  if (avGet V (ofTab to)).2 = true then (avSeen V (ofTab to), errD 13) else (addV (avSeen V (ofTab to)) (chgD to (some t)), errD 0)
theorem dCopy_run (V : AV) (who to : ByteArray) : (dCopy who to).run V = if validB who = false ∨ validB to = false then (V, errD 12) else if (allR V who).2 ≠ 0 then (allV V who, errD (allR V who).2) else copR (allV V who) to (allR V who).1 := by
  unfold dCopy
  by_cases h : validB who = false ∨ validB to = false
  · rw [if_pos h, if_pos h]; rfl
  have hw : ¬ validB who = false := fun e => h (.inl e)
  have e1 : allR V who = tabR (avGet V (ofTab who)) := if_neg hw
  have e2 : allV V who = avSeen V (ofTab who) := if_neg hw
  rw [if_neg h, if_neg h, e1, e2]
  show (if (tabR (avGet V (ofTab who))).2 ≠ 0 then (.ret (errD (tabR (avGet V (ofTab who))).2) : Vp ResD) else .get (ofTab to) fun h => if h.2 = true then .ret (errD 13) else .put (chgD to (some (tabR (avGet V (ofTab who))).1)) (.ret (errD 0))).run (avSeen V (ofTab who)) = _
  by_cases h2 : (tabR (avGet V (ofTab who))).2 ≠ 0
  · rw [if_pos h2, if_pos h2]; rfl
  rw [if_neg h2, if_neg h2]
  unfold copR
  show (if (avGet (avSeen V (ofTab who)) (ofTab to)).2 = true then (.ret (errD 13) : Vp ResD) else .put (chgD to (some (tabR (avGet V (ofTab who))).1)) (.ret (errD 0))).run (avSeen (avSeen V (ofTab who)) (ofTab to)) = _
  by_cases h3 : (avGet (avSeen V (ofTab who)) (ofTab to)).2 = true
  · rw [if_pos h3, if_pos h3]; rfl
  · rw [if_neg h3, if_neg h3]; rfl
theorem decD_good {s : ByteArray} (h : (decD s).2 = 0) : tabE (decD s).1 = 0 ∧ (decD s).1.length = 16 := ⟨(ddec_canon s h).2, decD_len s⟩
theorem tabR_good {g : ByteArray × Bool} (h : (tabR g).2 = 0) : tabE (tabR g).1 = 0 ∧ (tabR g).1.length = 16 := by
  unfold tabR at h ⊢
  split at h
  · cases h
  · rename_i hg
    rw [if_neg hg]
    exact decD_good h
theorem tabR_len (g : ByteArray × Bool) : (tabR g).1.length = 16 := by
  unfold tabR
  split
  · rfl
  · exact decD_len _
theorem allR_good {V : AV} {who : ByteArray} (h : (allR V who).2 = 0) : tabE (allR V who).1 = 0 ∧ (allR V who).1.length = 16 := by
  unfold allR at h ⊢
  split at h
  · cases h
  · rename_i hv
    rw [if_neg hv]
    exact tabR_good h
theorem allR_len (V : AV) (who : ByteArray) : (allR V who).1.length = 16 := by
  unfold allR
  split
  · rfl
  · exact tabR_len _
theorem allR_valid {V : AV} {who : ByteArray} (h : (allR V who).2 = 0) : validB who = true := by
  unfold allR at h
  split at h
  · cases h
  · rename_i hv; simpa using hv
theorem tabE_zeroTab : tabE zeroTab = 0 := rfl

/-! ### Where the tables of a view are known -/
def HasD (V : AV) (who : ByteArray) : Option (List OpnT) → Prop
  | none => (avGet V (ofTab who)).2 = false
  | some t => avGet V (ofTab who) = (strOf (encDB t), true) ∧ tabE t = 0 ∧ t.length = 16
theorem HasD.same {V V' : AV} {who : ByteArray} {o : Option (List OpnT)} (h : HasD V who o) (e : avGet V' (ofTab who) = avGet V (ofTab who)) : HasD V' who o := by
  cases o with
  | none => show (avGet V' (ofTab who)).2 = false; rw [e]; exact h
  | some t => exact ⟨e.trans h.1, h.2⟩
theorem avSeen_get (V : AV) (n m : NameT) : avGet (avSeen V n) m = avGet V m := by
  unfold avSeen
  split <;> rfl
theorem avSeen_cal (V : AV) (n : NameT) : (avSeen V n).calls = V.calls := by
  unfold avSeen
  split <;> rfl
theorem addV_get (V : AV) (c : ChangeT) (m : NameT) : avGet (addV V c) m = if m = c.name then (c.value, !c.absent) else avGet V m := by
  unfold addV avGet
  dsimp only
  rw [lastCall_snoc]
  by_cases h : m = c.name
  · rw [if_pos h, if_pos h]
  · rw [if_neg h, if_neg h]
def optR : Option (List OpnT) → List OpnT × Nat
  | none => (zeroTab, 8)
  | some t => (t, 0)
theorem HasD.tab {V : AV} {who : ByteArray} {o : Option (List OpnT)} (h : HasD V who o) : tabR (avGet V (ofTab who)) = optR o := by
  cases o with
  | none => exact if_pos h
  | some t =>
    obtain ⟨h1, h2, h3⟩ := h
    have e : tabR (avGet V (ofTab who)) = tabR (strOf (encDB t), true) := congrArg tabR h1
    rw [e]
    have e2 : tabR (strOf (encDB t), true) = decD (strOf (encDB t)) := if_neg (fun h => nomatch h)
    rw [e2]
    exact ddec_enc h2 h3
theorem HasD.put {V : AV} {who : ByteArray} {c : Option (List OpnT)} (h : ∀ t, c = some t → tabE t = 0 ∧ t.length = 16) : HasD (addV V (chgD who c)) who c := by
  have e : avGet (addV V (chgD who c)) (ofTab who) = ((chgD who c).value, !(chgD who c).absent) := (addV_get _ _ _).trans (if_pos rfl)
  cases c with
  | none => exact congrArg Prod.snd e
  | some t => exact ⟨e, h t rfl⟩
theorem HasD.other {V : AV} {who m : ByteArray} {o c : Option (List OpnT)} (h : HasD V m o) (hne : m ≠ who) : HasD (addV V (chgD who c)) m o :=
  h.same ((addV_get _ _ _).trans (if_neg (fun e => hne (ofTab_inj e))))
/-- One process' operation, its table known. -/
def stepO (f : List OpnT → ResD × ChD) : Option (List OpnT) → ResD × ChD
  | none => (errD 8, none)
  | some t => f t
theorem dOne_has {V : AV} {who : ByteArray} {o : Option (List OpnT)} (hv : validB who = true) (h : HasD V who o) (f : List OpnT → ResD × ChD) : (dOne who f).run V = putR (avSeen V (ofTab who)) who (stepO f o) := by
  rw [dOne_run]
  have e1 : allR V who = tabR (avGet V (ofTab who)) := if_neg (by rw [hv]; decide)
  have e2 : allV V who = avSeen V (ofTab who) := if_neg (by rw [hv]; decide)
  rw [e1, e2, h.tab]
  cases o with
  | none => rfl
  | some t => rfl
end Go.Proofs.YtfchfjipkggnkaaDoor
