/- signal, plain: the operations as trees. -/
import Derived.Test.YtpieaakdddgdeaaGreatDoorSgmD
import Derived.Test.YtpieaakdddgdeaaGreatDoorVpA
namespace Go.Proofs.YtpieaakdddgdeaaGreatDoor
open Go.RowKit

def Vp.map {α β : Type} (f : α → β) : Vp α → Vp β
  | .ret x => .ret (f x)
  | .get n k => .get n fun v => (k v).map f
  | .put c k => .put c (k.map f)
theorem Vp.run_map {α β : Type} (f : α → β) (t : Vp α) : ∀ V : AV, (t.map f).run V = ((t.run V).1, f (t.run V).2) := by
  induction t with
  | ret x => intro V; rfl
  | get n k ih => intro V; exact ih _ _
  | put c k ih => intro V; exact ih _
theorem Vp.within_map {α β : Type} {P : NameT → Prop} (f : α → β) (t : Vp α) (h : t.within P) : (t.map f).within P := by
  induction t with
  | ret x => trivial
  | get n k ih => exact ⟨h.1, fun v => ih v (h.2 v)⟩
  | put c k ih => exact ⟨h.1, ih h.2⟩
def tPut (m : ByteArray) (r : RecT) : Vp Nat := if checkR r = 0 then .put ⟨ofPendN m, strOf (encRB r), false⟩ (.ret 0) else .ret (checkR r)
def tAdd (m : ByteArray) (r : RecT) : Vp Nat := .get (ofPendN m) fun v => if v.2 = true then .ret 13 else tPut m r
def tDrop (m : ByteArray) : Vp Nat := .get (ofPendN m) fun v => if v.2 = true then .put ⟨ofPendN m, ⟨#[]⟩, true⟩ (.ret 0) else .ret 8
def tFork (a c : ByteArray) : Vp Nat := .get (ofPendN a) fun v => if (sGetV v).2 = 0 then tAdd c { (sGetV v).1 with p := 0 } else .ret (sGetV v).2
def tChange (op : RecT → RecT) (m : ByteArray) : Vp Nat := .get (ofPendN m) fun v => if (sGetV v).2 = 0 then tPut m (op (sGetV v).1) else .ret (sGetV v).2
def tSend (f t : ByteArray) (n : Int) : Vp Nat :=
  if sigB n = false then .ret 2 else if nearB f t = false then .ret 14
  else .get (ofPendN t) fun v => if (sGetV v).2 ≠ 0 then .ret (sGetV v).2 else if withoutB (sGetV v).1 n = true then .ret 0
  else tPut t { (sGetV v).1 with p := orP (sGetV v).1.p n }
def tHandler (m : ByteArray) (n a : Int) : Vp Nat := if sigB n = false ∨ addrB a = false then .ret 2 else if n = 3 then .ret 33 else tChange (opHandler n.toNat a) m
def tIgnored (m : ByteArray) (n : Int) (is : Bool) : Vp Nat := if sigB n = false then .ret 2 else if n = 3 then .ret 33 else tChange (opIgnored n.toNat is) m
def tBlocked (m : ByteArray) (x : Int) : Vp Nat := if setB x = false then .ret 2 else if hasB x 3 = true then .ret 33 else tChange (opBlocked x) m
def tTake (m : ByteArray) : Vp TkT := .get (ofPendN m) fun v => if (sGetV v).2 ≠ 0 then .ret ⟨0, 0, 0, (sGetV v).2⟩
  else if leftR (sGetV v).1 = (sGetV v).1 then .ret (tkOf (sGetV v).1)
  else (tPut m (leftR (sGetV v).1)).map fun q => if q ≠ 0 then ⟨0, 0, 0, q⟩ else tkOf (sGetV v).1
def tWait (m : ByteArray) : Vp Bool := .get (ofPendN m) fun v => .ret (decide ((sGetV v).2 = 0) && decide (nextB (sGetV v).1 ≠ 0))
theorem tPut_run (V : AV) (m : ByteArray) (r : RecT) : (tPut m r).run V = sPut V m r := by
  unfold tPut sPut
  split <;> rfl
theorem tAdd_run (V : AV) (m : ByteArray) (r : RecT) : (tAdd m r).run V = sAdd V m r := by
  unfold tAdd sAdd
  show (if (avGet V (ofPendN m)).2 = true then Vp.ret 13 else tPut m r).run (avSeen V (ofPendN m)) = _
  split
  · rfl
  · exact tPut_run _ _ _
theorem tDrop_run (V : AV) (m : ByteArray) : (tDrop m).run V = sDrop V m := by
  unfold tDrop sDrop
  show (if (avGet V (ofPendN m)).2 = true then Vp.put ⟨ofPendN m, ⟨#[]⟩, true⟩ (.ret 0) else Vp.ret 8).run (avSeen V (ofPendN m)) = _
  split <;> rfl
theorem tFork_run (V : AV) (a c : ByteArray) : (tFork a c).run V = sFork V a c := by
  unfold tFork sFork
  show (if (sGet V a).2 = 0 then tAdd c { (sGet V a).1 with p := 0 } else Vp.ret (sGet V a).2).run (avSeen V (ofPendN a)) = _
  split
  · exact tAdd_run _ _ _
  · rfl
theorem tChange_run (op : RecT → RecT) (V : AV) (m : ByteArray) : (tChange op m).run V = sChange op V m := by
  unfold tChange sChange
  show (if (sGet V m).2 = 0 then tPut m (op (sGet V m).1) else Vp.ret (sGet V m).2).run (avSeen V (ofPendN m)) = _
  split
  · exact tPut_run _ _ _
  · rfl
theorem tSend_run (V : AV) (f t : ByteArray) (n : Int) : (tSend f t n).run V = sSend V f t n := by
  unfold tSend sSend
  split
  · rfl
  split
  · rfl
  show (if (sGet V t).2 ≠ 0 then Vp.ret (sGet V t).2 else if withoutB (sGet V t).1 n = true then Vp.ret 0 else tPut t { (sGet V t).1 with p := orP (sGet V t).1.p n }).run (avSeen V (ofPendN t)) = _
  split
  · rfl
  split
  · rfl
  · exact tPut_run _ _ _
theorem tHandler_run (V : AV) (m : ByteArray) (n a : Int) : (tHandler m n a).run V = sHandler V m n a := by
  unfold tHandler sHandler
  split
  · rfl
  split
  · rfl
  · exact tChange_run _ _ _
theorem tIgnored_run (V : AV) (m : ByteArray) (n : Int) (is : Bool) : (tIgnored m n is).run V = sIgnored V m n is := by
  unfold tIgnored sIgnored
  split
  · rfl
  split
  · rfl
  · exact tChange_run _ _ _
theorem tBlocked_run (V : AV) (m : ByteArray) (x : Int) : (tBlocked m x).run V = sBlocked V m x := by
  unfold tBlocked sBlocked
  split
  · rfl
  split
  · rfl
  · exact tChange_run _ _ _
theorem tTake_run (V : AV) (m : ByteArray) : (tTake m).run V = sTake V m := by
  unfold tTake sTake
  show (if (sGet V m).2 ≠ 0 then Vp.ret ⟨0, 0, 0, (sGet V m).2⟩
    else if leftR (sGet V m).1 = (sGet V m).1 then Vp.ret (tkOf (sGet V m).1)
    else (tPut m (leftR (sGet V m).1)).map fun q => if q ≠ 0 then ⟨0, 0, 0, q⟩ else tkOf (sGet V m).1).run (avSeen V (ofPendN m)) = _
  split
  · rfl
  split
  · rfl
  rw [Vp.run_map, tPut_run]
  show (_, if (sPut (sSeen V m) m (leftR (sGet V m).1)).2 ≠ 0 then _ else _) = _
  split <;> rfl
theorem tWait_run (V : AV) (m : ByteArray) : (tWait m).run V = sWait V m := rfl
def sCallT (kd wh to : Nat) (sg nn : Int) (iss : Bool) : Vp SRes :=
  if kd % 10 = 0 then (tAdd (whoS wh) zeroR).map (fun e => ⟨0, 0, 0, false, e⟩) else
  if kd % 10 = 1 then (tFork (whoS wh) (whoS to)).map (fun e => ⟨0, 0, 0, false, e⟩) else
  if kd % 10 = 2 then (tDrop (whoS wh)).map (fun e => ⟨0, 0, 0, false, e⟩) else
  if kd % 10 = 3 then (tChange opExec (whoS wh)).map (fun e => ⟨0, 0, 0, false, e⟩) else
  if kd % 10 = 4 then (tSend (whoS to) (whoS wh) sg).map (fun e => ⟨0, 0, 0, false, e⟩) else
  if kd % 10 = 5 then (tHandler (whoS wh) sg nn).map (fun e => ⟨0, 0, 0, false, e⟩) else
  if kd % 10 = 6 then (tIgnored (whoS wh) sg iss).map (fun e => ⟨0, 0, 0, false, e⟩) else
  if kd % 10 = 7 then (tBlocked (whoS wh) nn).map (fun e => ⟨0, 0, 0, false, e⟩) else
  if kd % 10 = 8 then (tTake (whoS wh)).map (fun t => ⟨t.sg, t.ac, t.ad, false, t.e⟩) else
  (tWait (whoS wh)).map (fun x => ⟨0, 0, 0, x, 0⟩)
theorem sCallT_run (V : AV) (kd wh to : Nat) (sg nn : Int) (iss : Bool) : (sCallT kd wh to sg nn iss).run V = sCall V kd wh to sg nn iss := by
  unfold sCallT sCall
  split
  · rw [Vp.run_map, tAdd_run]
  split
  · rw [Vp.run_map, tFork_run]
  split
  · rw [Vp.run_map, tDrop_run]
  split
  · rw [Vp.run_map, tChange_run]
  split
  · rw [Vp.run_map, tSend_run]
  split
  · rw [Vp.run_map, tHandler_run]
  split
  · rw [Vp.run_map, tIgnored_run]
  split
  · rw [Vp.run_map, tBlocked_run]
  split
  · rw [Vp.run_map, tTake_run]
  · rw [Vp.run_map, tWait_run]
/-- The names that an operation may touch. -/
def Pend2 (a c : ByteArray) (n : NameT) : Prop := n = ofPendN a ∨ n = ofPendN c
section
variable {a c : ByteArray}
theorem tPut_in (m : ByteArray) (r : RecT) (hm : m = a ∨ m = c) : (tPut m r).within (Pend2 a c) := by
  unfold tPut
  split
  · exact ⟨by rcases hm with rfl | rfl; exact .inl rfl; exact .inr rfl, trivial⟩
  · trivial
theorem pend_in {m : ByteArray} (hm : m = a ∨ m = c) : Pend2 a c (ofPendN m) := by rcases hm with rfl | rfl; exact .inl rfl; exact .inr rfl
theorem tAdd_in (m : ByteArray) (r : RecT) (hm : m = a ∨ m = c) : (tAdd m r).within (Pend2 a c) := by
  refine ⟨pend_in hm, fun v => ?_⟩
  dsimp only
  split
  · trivial
  · exact tPut_in _ _ hm
theorem tDrop_in (m : ByteArray) (hm : m = a ∨ m = c) : (tDrop m).within (Pend2 a c) := by
  refine ⟨pend_in hm, fun v => ?_⟩
  dsimp only
  split
  · exact ⟨pend_in hm, trivial⟩
  · trivial
theorem tChange_in (op : RecT → RecT) (m : ByteArray) (hm : m = a ∨ m = c) : (tChange op m).within (Pend2 a c) := by
  refine ⟨pend_in hm, fun v => ?_⟩
  dsimp only
  split
  · exact tPut_in _ _ hm
  · trivial
theorem sCallT_in (kd wh to : Nat) (sg nn : Int) (iss : Bool) : (sCallT kd wh to sg nn iss).within (Pend2 (whoS wh) (whoS to)) := by
  unfold sCallT
  split
  · exact Vp.within_map _ _ (tAdd_in _ _ (.inl rfl))
  split
  · refine Vp.within_map _ _ ⟨pend_in (.inl rfl), fun v => ?_⟩
    dsimp only
    split
    · exact tAdd_in _ _ (.inr rfl)
    · trivial
  split
  · exact Vp.within_map _ _ (tDrop_in _ (.inl rfl))
  split
  · exact Vp.within_map _ _ (tChange_in _ _ (.inl rfl))
  split
  · refine Vp.within_map _ _ ?_
    unfold tSend
    split
    · trivial
    split
    · trivial
    refine ⟨pend_in (.inl rfl), fun v => ?_⟩
    dsimp only
    split
    · trivial
    split
    · trivial
    · exact tPut_in _ _ (.inl rfl)
  split
  · refine Vp.within_map _ _ ?_
    unfold tHandler
    split
    · trivial
    split
    · trivial
    · exact tChange_in _ _ (.inl rfl)
  split
  · refine Vp.within_map _ _ ?_
    unfold tIgnored
    split
    · trivial
    split
    · trivial
    · exact tChange_in _ _ (.inl rfl)
  split
  · refine Vp.within_map _ _ ?_
    unfold tBlocked
    split
    · trivial
    split
    · trivial
    · exact tChange_in _ _ (.inl rfl)
  split
  · refine Vp.within_map _ _ ⟨pend_in (.inl rfl), fun v => ?_⟩
    dsimp only
    split
    · trivial
    split
    · trivial
    · exact Vp.within_map _ _ (tPut_in _ _ (.inl rfl))
  · exact Vp.within_map _ _ ⟨pend_in (.inl rfl), fun v => trivial⟩
end
/-- What the calls of an operation are: none, or one with no error, a drop or a valid record. -/
def SFit (cs : List ChangeT) (r : SRes) : Prop := cs = [] ∨ r.e = 0 ∧ ∃ m, cs = [⟨ofPendN m, ⟨#[]⟩, true⟩] ∨ ∃ x, checkR x = 0 ∧ cs = [⟨ofPendN m, strOf (encRB x), false⟩]
theorem ends_map {α β : Type} {R : List ChangeT → β → Prop} (f : α → β) (t : Vp α) : ∀ cs, t.ends (fun cs x => R cs (f x)) cs → (t.map f).ends R cs := by
  induction t with
  | ret x => intro cs h; exact h
  | get n k ih => intro cs h v; exact ih v cs (h v)
  | put c k ih => intro cs h; exact ih _ h
theorem tPut_fit (m : ByteArray) (r : RecT) (f : Nat → SRes) (hf : ∀ q, (f q).e = q ∨ (q = 0 ∧ (f q).e = 0)) : (tPut m r).ends (fun cs x => SFit cs (f x)) [] := by
  unfold tPut
  split
  · rename_i h
    refine .inr ⟨?_, m, .inr ⟨r, h, rfl⟩⟩
    rcases hf 0 with h | h
    · exact h
    · exact h.2
  · exact .inl rfl
theorem tAdd_fit (m : ByteArray) (r : RecT) (f : Nat → SRes) (hf : ∀ q, (f q).e = q ∨ (q = 0 ∧ (f q).e = 0)) : (tAdd m r).ends (fun cs x => SFit cs (f x)) [] := by
  intro v
  dsimp only
  split
  · exact .inl rfl
  · exact tPut_fit m r f hf
theorem tChange_fit (op : RecT → RecT) (m : ByteArray) (f : Nat → SRes) (hf : ∀ q, (f q).e = q ∨ (q = 0 ∧ (f q).e = 0)) : (tChange op m).ends (fun cs x => SFit cs (f x)) [] := by
  intro v
  dsimp only
  split
  · exact tPut_fit m _ f hf
  · exact .inl rfl
theorem tkOf_e (r : RecT) : (tkOf r).e = 0 := by
  unfold tkOf
  split
  · rfl
  split <;> rfl
theorem sCallT_fit (kd wh to : Nat) (sg nn : Int) (iss : Bool) : (sCallT kd wh to sg nn iss).ends SFit [] := by
  have h0 : ∀ q, ((fun e => (⟨0, 0, 0, false, e⟩ : SRes)) q).e = q ∨ (q = 0 ∧ ((fun e => (⟨0, 0, 0, false, e⟩ : SRes)) q).e = 0) := fun q => .inl rfl
  unfold sCallT
  split
  · exact ends_map _ _ _ (tAdd_fit _ _ _ h0)
  split
  · refine ends_map _ _ _ fun v => ?_
    dsimp only
    split
    · exact tAdd_fit _ _ _ h0
    · exact .inl rfl
  split
  · refine ends_map _ _ _ fun v => ?_
    dsimp only
    split
    · exact .inr ⟨rfl, _, .inl rfl⟩
    · exact .inl rfl
  split
  · exact ends_map _ _ _ (tChange_fit _ _ _ h0)
  split
  · refine ends_map _ _ _ ?_
    unfold tSend
    split
    · exact .inl rfl
    split
    · exact .inl rfl
    intro v
    dsimp only
    split
    · exact .inl rfl
    split
    · exact .inl rfl
    · exact tPut_fit _ _ _ h0
  split
  · refine ends_map _ _ _ ?_
    unfold tHandler
    split
    · exact .inl rfl
    split
    · exact .inl rfl
    · exact tChange_fit _ _ _ h0
  split
  · refine ends_map _ _ _ ?_
    unfold tIgnored
    split
    · exact .inl rfl
    split
    · exact .inl rfl
    · exact tChange_fit _ _ _ h0
  split
  · refine ends_map _ _ _ ?_
    unfold tBlocked
    split
    · exact .inl rfl
    split
    · exact .inl rfl
    · exact tChange_fit _ _ _ h0
  split
  · refine ends_map _ _ _ fun v => ?_
    dsimp only
    split
    · exact .inl rfl
    split
    · exact .inl rfl
    · refine ends_map _ _ _ (tPut_fit _ _ (fun q => ⟨(if q ≠ 0 then (⟨0, 0, 0, q⟩ : TkT) else tkOf (sGetV v).1).sg, (if q ≠ 0 then (⟨0, 0, 0, q⟩ : TkT) else tkOf (sGetV v).1).ac, (if q ≠ 0 then (⟨0, 0, 0, q⟩ : TkT) else tkOf (sGetV v).1).ad, false, (if q ≠ 0 then (⟨0, 0, 0, q⟩ : TkT) else tkOf (sGetV v).1).e⟩) fun q => ?_)
      by_cases hq : q = 0
      · exact .inr ⟨hq, by dsimp only; rw [if_neg (by simpa using hq)]; exact tkOf_e _⟩
      · exact .inl (by dsimp only; rw [if_pos hq])
  · exact ends_map _ _ _ fun v => .inl rfl
theorem sCall_fit (V : AV) (kd wh to : Nat) (sg nn : Int) (iss : Bool) : ∃ ds, (sCall V kd wh to sg nn iss).1.calls = V.calls ++ ds ∧ SFit ds (sCall V kd wh to sg nn iss).2 := by
  rw [← sCallT_run]
  exact Vp.run_ends _ [] V V.calls (by simp) (sCallT_fit _ _ _ _ _ _)
end Go.Proofs.YtpieaakdddgdeaaGreatDoor
