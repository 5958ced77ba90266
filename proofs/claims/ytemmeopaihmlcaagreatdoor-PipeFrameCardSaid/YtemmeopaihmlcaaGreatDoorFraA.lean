/- Law 32: what do does depends on the pipe's value alone: plain. -/
import Derived.Test.YtemmeopaihmlcaaGreatDoorPlyI
import Derived.Test.YtemmeopaihmlcaaGreatDoorRdsD
namespace Go.Proofs.YtemmeopaihmlcaaGreatDoor
open Go.RowKit

/-- What is recorded of the pipe in a base. -/
def seenOne (f : NameT → Option ByteArray) : ChangeT := ⟨ofPipe oneM 2, (f (ofPipe oneM 2)).getD ⟨#[]⟩, (f (ofPipe oneM 2)).isNone⟩
theorem seen_fresh (f : NameT → Option ByteArray) : avSeen ⟨f, [], []⟩ (ofPipe oneM 2) = ⟨f, [(ofPipe oneM 2, seenOne f)], []⟩ := rfl
section
variable {f g : NameT → Option ByteArray} (h : g (ofPipe oneM 2) = f (ofPipe oneM 2))
include h
theorem get_dep : avGet ⟨g, [], []⟩ (ofPipe oneM 2) = avGet ⟨f, [], []⟩ (ofPipe oneM 2) := by
  show ((g _).getD ⟨#[]⟩, (g _).isSome) = ((f _).getD ⟨#[]⟩, (f _).isSome)
  rw [h]
theorem seenOne_dep : seenOne g = seenOne f := by
  unfold seenOne
  rw [h]
theorem pGet_dep (e : Int) : pGet ⟨g, [], []⟩ oneM 2 e = pGet ⟨f, [], []⟩ oneM 2 e := by
  unfold pGet
  rw [get_dep h]
theorem pSeen_dep (e : Int) : pSeen ⟨g, [], []⟩ oneM 2 e = ⟨g, (pSeen ⟨f, [], []⟩ oneM 2 e).reads, (pSeen ⟨f, [], []⟩ oneM 2 e).calls⟩ := by
  unfold pSeen
  split
  · rfl
  · rw [seen_fresh, seen_fresh, seenOne_dep h]
theorem pChange_dep (op : PipeT → PipeT × Nat) (e : Int) : pChange op ⟨g, [], []⟩ oneM 2 e = (⟨g, (pChange op ⟨f, [], []⟩ oneM 2 e).1.reads, (pChange op ⟨f, [], []⟩ oneM 2 e).1.calls⟩, (pChange op ⟨f, [], []⟩ oneM 2 e).2) := by
  unfold pChange
  rw [pGet_dep h, pSeen_dep h]
  split
  · rfl
  split
  · rfl
  split
  · rfl
  split
  · rfl
  split <;> rfl
theorem pMake_dep (e : Int) : pMake ⟨g, [], []⟩ oneM 2 e = (⟨g, (pMake ⟨f, [], []⟩ oneM 2 e).1.reads, (pMake ⟨f, [], []⟩ oneM 2 e).1.calls⟩, (pMake ⟨f, [], []⟩ oneM 2 e).2) := by
  unfold pMake
  rw [get_dep h, seen_fresh, seen_fresh, seenOne_dep h]
  split
  · rfl
  split <;> rfl
theorem doV_dep (kd : Nat) (e n : Int) (s : ByteArray) (x : Bool) : doV ⟨g, [], []⟩ kd e n s x = (⟨g, (doV ⟨f, [], []⟩ kd e n s x).1.reads, (doV ⟨f, [], []⟩ kd e n s x).1.calls⟩, (doV ⟨f, [], []⟩ kd e n s x).2) := by
  unfold doV pReadB pWriteN
  rw [pMake_dep h, pChange_dep h, pChange_dep h, pChange_dep h, pChange_dep h, pSeen_dep h, pGet_dep h]
  split
  · rfl
  split
  · rfl
  split
  · rfl
  split
  · rfl
  split <;> rfl
end
/-- A view that has seen the pipe, and the calls that an operation made. -/
structure Seen1 (f : NameT → Option ByteArray) (V : AV) (q : Nat) : Prop where
  reads : V.reads = [(ofPipe oneM 2, seenOne f)]
  calls : V.calls = [] ∨ (q = 0 ∧ ∃ s a, V.calls = [⟨ofPipe oneM 2, s, a⟩])
theorem pSeen_good {e : Int} (he : pEpochB e = true) (f : NameT → Option ByteArray) : pSeen ⟨f, [], []⟩ oneM 2 e = ⟨f, [(ofPipe oneM 2, seenOne f)], []⟩ := by
  rw [seen_good he, seen_fresh]
theorem pChange_seen {e : Int} (he : pEpochB e = true) (op : PipeT → PipeT × Nat) (f : NameT → Option ByteArray) : Seen1 f (pChange op ⟨f, [], []⟩ oneM 2 e).1 (pChange op ⟨f, [], []⟩ oneM 2 e).2 := by
  unfold pChange
  rw [pSeen_good he]
  split
  · exact ⟨rfl, .inl rfl⟩
  split
  · exact ⟨rfl, .inl rfl⟩
  split
  · exact ⟨rfl, .inl rfl⟩
  split
  · exact ⟨rfl, .inr ⟨rfl, _, _, rfl⟩⟩
  split
  · exact ⟨rfl, .inl rfl⟩
  · exact ⟨rfl, .inr ⟨rfl, _, _, rfl⟩⟩
theorem doV_seen {e : Int} (he : pEpochB e = true) (f : NameT → Option ByteArray) (kd : Nat) (n : Int) (s : ByteArray) (x : Bool) : Seen1 f (doV ⟨f, [], []⟩ kd e n s x).1 (doV ⟨f, [], []⟩ kd e n s x).2.err := by
  unfold doV
  split
  · dsimp only
    unfold pMake
    rw [one_args he, if_neg (by simp), seen_fresh]
    split
    · exact ⟨rfl, .inl rfl⟩
    · exact ⟨rfl, .inr ⟨rfl, _, _, rfl⟩⟩
  split
  · exact pChange_seen he _ f
  split
  · exact pChange_seen he _ f
  split
  · exact pChange_seen he _ f
  split
  · exact pChange_seen he _ f
  · dsimp only
    rw [pSeen_good he]
    exact ⟨rfl, .inl rfl⟩
theorem writesU_nil : writesU [] = [] := rfl
theorem writesU_one (c : ChangeT) : writesU [c] = [c] := rfl
/-- What was read, applied to a state without the pipe, gives it the pipe's value. -/
theorem apply_seen (f g : NameT → Option ByteArray) : applyF g [seenOne f] (ofPipe oneM 2) = f (ofPipe oneM 2) := by
  unfold seenOne
  cases hf : f (ofPipe oneM 2) with
  | none => simp [applyF, applyC, delF]
  | some v => simp [applyF, applyC, setF]
theorem perm_one {α : Type} {l r : List α} (h : l.Perm r) (hr : r.length ≤ 1) : l = r := by
  match r, hr with
  | [], _ => exact h.eq_nil
  | [c], _ => exact List.perm_singleton.1 h
end Go.Proofs.YtemmeopaihmlcaaGreatDoor
