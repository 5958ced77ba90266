/- Law 32: what an operation does with the bytes: plain. The reference's operations answer as those of the pipes: plain. -/
import Derived.Test.YtemmeopaihmlcaaGreatDoorPipN
import Derived.Test.YtemmeopaihmlcaaGreatDoorPlyB
namespace Go.Proofs.YtemmeopaihmlcaaGreatDoor
open Go.RowKit

theorem pba_ext {a b : ByteArray} (h : a.data.toList = b.data.toList) : a = b := by
  cases a; cases b; simp at h; simp [h]
theorem pl_append (a b : ByteArray) : (a ++ b).data.toList = a.data.toList ++ b.data.toList := by rw [ByteArray.data_append]; simp
theorem pl_extract (a : ByteArray) (i j : Nat) : (a.extract i j).data.toList = (a.data.toList.drop i).take (j - i) := by
  rw [ByteArray.data_extract, Array.toList_extract, List.extract_eq_take_drop]
theorem pl_size (a : ByteArray) : a.data.toList.length = a.size := by rw [Array.length_toList]; rfl
theorem extract_all (s : ByteArray) : s.extract 0 s.size = s := by
  apply pba_ext
  rw [pl_extract, List.drop_zero, Nat.sub_zero, List.take_of_length_le (by rw [pl_size]; exact Nat.le_refl _)]
theorem cut_small {s : ByteArray} (h : s.size ≤ 600) : cut600 s = s := by unfold cut600; rw [Nat.min_eq_left h]; exact extract_all s
theorem cut_big {s : ByteArray} (h : 600 < s.size) : cut600 s = s.extract 0 600 := by unfold cut600; rw [Nat.min_eq_right (by omega)]

/-- One operation that is no Leave, on a pipe of epoch 1. -/
structure OStep (kd : Nat) (s : ByteArray) (p : PipeT) (o' : Option PipeT) (r : ResT) (d : Nat) : Prop where
  ex : ∃ p', o' = some p' ∧ p'.epoch = 1 ∧ ((kd % 8 = 3 ∨ kd % 8 = 4) → r.bytes = ⟨#[]⟩ ∧ p'.bytes = p.bytes ++ s.extract 0 r.n) ∧ (¬ (kd % 8 = 3 ∨ kd % 8 = 4) → r.bytes ++ p'.bytes = p.bytes)
  n : r.n ≤ s.size ∧ r.n ≤ 256
  b : r.bytes.size ≤ 256
  d : d ≤ 1
theorem emp_append (a : ByteArray) : (⟨#[]⟩ : ByteArray) ++ a = a := by
  apply pba_ext
  rw [pl_append]
  rfl
theorem append_emp {a b : ByteArray} (h : b.size = 0) : a ++ b = a := by
  apply pba_ext
  have hb : b.data.toList = [] := List.eq_nil_of_length_eq_zero (by rw [pl_size]; exact h)
  rw [pl_append, hb, List.append_nil]
theorem split_at (a : ByteArray) (m : Nat) : a.extract 0 m ++ a.extract m a.size = a := by
  apply pba_ext
  rw [pl_append, pl_extract, pl_extract, List.drop_zero, Nat.sub_zero]
  rw [List.take_of_length_le (l := a.data.toList.drop m) (by rw [List.length_drop, pl_size]; omega)]
  exact List.take_append_drop _ _
/-- What pStep leaves where the epoch is right and the operation keeps the pipe alive. -/
theorem pStep_live {op : PipeT → PipeT × Nat} {p : PipeT} {e : Int} (he : p.epoch = e) (hz : (op p).2 = 0 → ¬ ((op p).1.readers = 0 ∧ (op p).1.writers = 0)) :
    pStep op e (some p) = (some (if (op p).2 = 0 then (op p).1 else p), (op p).2, if (op p).2 = 0 ∧ (op p).1 ≠ p then 1 else 0) := by
  simp only [pStep]
  rw [if_neg (fun h => h he)]
  by_cases h0 : (op p).2 = 0
  · rw [if_neg (fun h => h h0), if_pos h0, h0]
    by_cases h1 : (op p).1 = p
    · rw [if_pos h1, h1, if_neg (by simp)]
    · rw [if_neg h1, if_neg (hz h0), if_pos ⟨rfl, h1⟩]
  · rw [if_pos h0, if_neg h0, if_neg (fun h => h0 h.1)]
theorem cut_extract (s : ByteArray) {m : Nat} (h : m ≤ (cut600 s).size) : (cut600 s).extract 0 m = s.extract 0 m := by
  apply pba_ext
  have hz : (cut600 s).size = min s.size 600 := by unfold cut600; rw [ByteArray.size_extract]; omega
  rw [hz] at h
  rw [pl_extract, pl_extract]
  unfold cut600
  rw [pl_extract]
  simp only [List.drop_zero, Nat.sub_zero]
  rw [List.take_take, Nat.min_eq_left h]
theorem writeN_le (s : ByteArray) (p : PipeT) : writeN s p ≤ s.size ∧ writeN s p ≤ 256 := by
  unfold writeN
  split <;> omega
theorem pHas_at {p : PipeT} {e : Int} (h : p.epoch = e) : pHas e (some p) = (p, 0) := if_neg (fun h' => h' h)
theorem ite_le {c : Prop} [Decidable c] : (if c then 1 else 0) ≤ 1 := by split <;> omega

theorem ostep (kd : Nat) (n : Int) (s : ByteArray) (x : Bool) (p : PipeT) (hp : p.epoch = 1) (hc : checkP p = 0) (hk : kd % 8 ≠ 6) : OStep kd s p (doR kd 1 n s x (some p)).1 (doR kd 1 n s x (some p)).2.1 (doR kd 1 n s x (some p)).2.2 := by
  obtain ⟨h1, h2, h3, h4, h5⟩ := checkP_ok hc
  have hz0 : (⟨#[]⟩ : ByteArray).size = 0 := rfl
  unfold doR
  split
  · rename_i k0
    rw [if_pos (show (some p).isSome = true from rfl)]
    exact ⟨⟨p, rfl, hp, fun h => by omega, fun _ => emp_append _⟩, ⟨Nat.zero_le _, Nat.zero_le _⟩, Nat.zero_le _, Nat.zero_le _⟩
  · split
    · rename_i k0
      have hlive : (opRead n p).2 = 0 → ¬ ((opRead n p).1.readers = 0 ∧ (opRead n p).1.writers = 0) := fun _ => by
        unfold opRead
        split
        · exact h4
        · split
          · exact h4
          · exact h4
      rw [pStep_live hp hlive, pHas_at hp]
      dsimp only
      by_cases hq : (opRead n p).2 = 0
      · have e : opRead n p = (⟨p.epoch, p.readers, p.writers, p.bytes.extract (min n.toNat p.bytes.size) p.bytes.size⟩, 0) := by
          unfold opRead at hq ⊢
          split at hq
          · cases hq
          · rename_i ha
            split at hq
            · cases hq
            · rename_i hb
              rw [if_neg ha, if_neg hb]
        rw [if_pos hq, if_pos hq, e]
        refine ⟨⟨_, rfl, hp, fun h => by omega, fun _ => ?_⟩, ⟨Nat.zero_le _, Nat.zero_le _⟩, ?_, ite_le⟩
        · exact split_at _ _
        · show (readB n p).size ≤ 256
          unfold readB
          rw [ByteArray.size_extract]
          omega
      · rw [if_neg hq, if_neg hq]
        exact ⟨⟨p, rfl, hp, fun h => by omega, fun _ => emp_append _⟩, ⟨Nat.zero_le _, Nat.zero_le _⟩, Nat.zero_le _, ite_le⟩
    · split
      · rename_i k0
        have hlive : (opWrite (cut600 s) p).2 = 0 → ¬ ((opWrite (cut600 s) p).1.readers = 0 ∧ (opWrite (cut600 s) p).1.writers = 0) := fun _ => by
          unfold opWrite
          split
          · exact h4
          · split
            · exact h4
            · split
              · exact h4
              · exact h4
        rw [pStep_live hp hlive, pHas_at hp]
        dsimp only
        have hcs : (cut600 s).size ≤ s.size := by unfold cut600; rw [ByteArray.size_extract]; omega
        have hwn := writeN_le (cut600 s) p
        by_cases hq : (opWrite (cut600 s) p).2 = 0
        · rw [if_pos hq, if_pos hq]
          refine ⟨⟨_, rfl, ?_, fun _ => ⟨rfl, ?_⟩, fun h => absurd k0 h⟩, ⟨by dsimp only; omega, hwn.2⟩, Nat.zero_le _, ite_le⟩
          · unfold opWrite
            split
            · exact hp
            · split
              · exact hp
              · split
                · exact hp
                · exact hp
          · dsimp only
            rw [← cut_extract s hwn.1]
            unfold opWrite at hq ⊢
            split at hq
            · rename_i ha
              rw [if_pos ha, append_emp]
              rw [ByteArray.size_extract]
              omega
            · rename_i ha
              split at hq
              · cases hq
              · rename_i hb
                split at hq
                · cases hq
                · rename_i hd
                  rw [if_neg ha, if_neg hb, if_neg hd]
        · rw [if_neg hq, if_neg hq]
          refine ⟨⟨p, rfl, hp, fun _ => ⟨rfl, ?_⟩, fun h => absurd k0 h⟩, ⟨Nat.zero_le _, Nat.zero_le _⟩, Nat.zero_le _, ite_le⟩
          rw [append_emp]
          rw [ByteArray.size_extract]
          simp
      · rename_i k3
        split
        · rename_i k0
          have hlive : (opJoin x p).2 = 0 → ¬ ((opJoin x p).1.readers = 0 ∧ (opJoin x p).1.writers = 0) := fun _ => by
            unfold opJoin
            split
            · split
              · exact h4
              · split
                · exact h4
                · dsimp only; omega
            · split
              · exact h4
              · split
                · exact h4
                · dsimp only; omega
          have hby : (opJoin x p).1.bytes = p.bytes ∧ (opJoin x p).1.epoch = p.epoch := by
            unfold opJoin
            split
            · split
              · exact ⟨rfl, rfl⟩
              · split <;> exact ⟨rfl, rfl⟩
            · split
              · exact ⟨rfl, rfl⟩
              · split <;> exact ⟨rfl, rfl⟩
          rw [pStep_live hp hlive]
          dsimp only
          refine ⟨⟨_, rfl, ?_, fun h => absurd h k3, fun _ => ?_⟩, ⟨Nat.zero_le _, Nat.zero_le _⟩, Nat.zero_le _, ite_le⟩
          · split
            · rw [hby.2]; exact hp
            · exact hp
          · split
            · rw [hby.1]; exact emp_append _
            · exact emp_append _
        · rw [pHas_at hp]
          exact ⟨⟨p, rfl, hp, fun h => absurd h k3, fun _ => emp_append _⟩, ⟨Nat.zero_le _, Nat.zero_le _⟩, Nat.zero_le _, Nat.zero_le _⟩

end Go.Proofs.YtemmeopaihmlcaaGreatDoor

namespace Go.Proofs.YtemmeopaihmlcaaGreatDoor
open Go.RowKit

/-- A pipe of the reference as the object that a view holds. -/
def optP (p : PipeT) : Option PipeT := if checkP p = 0 then some p else none
theorem optP_ok {p : PipeT} (h : checkP p = 0) : optP p = some p := if_pos h
theorem optP_bad {p : PipeT} (h : checkP p ≠ 0) : optP p = none := if_neg h
theorem optP_zero : optP zeroP = none := optP_bad (by decide +kernel)
def rOp (op : PipeT → PipeT × Nat) (p : PipeT) (e : Int) : PipeT × Nat :=
  if isPB p e = false then (p, 8) else if (op p).2 ≠ 0 then (p, (op p).2) else if (op p).1.readers = 0 ∧ (op p).1.writers = 0 then (zeroP, 0) else ((op p).1, 0)
theorem isPB_true {p : PipeT} {e : Int} (h1 : checkP p = 0) (h2 : p.epoch = e) : isPB p e = true := by
  unfold isPB
  rw [decide_eq_true h1, decide_eq_true h2]
  rfl
theorem isPB_bad {p : PipeT} {e : Int} (h1 : checkP p ≠ 0) : isPB p e = false := by
  unfold isPB
  rw [decide_eq_false h1]
  rfl
theorem isPB_ep {p : PipeT} {e : Int} (h1 : p.epoch ≠ e) : isPB p e = false := by
  unfold isPB
  rw [decide_eq_false h1, Bool.and_false]
theorem rOp_is {op : PipeT → PipeT × Nat} (hg : GoodP op) (p : PipeT) (e : Int) : optP (rOp op p e).1 = (pStep op e (optP p)).1 ∧ (rOp op p e).2 = (pStep op e (optP p)).2.1 := by
  by_cases hc : checkP p = 0
  · rw [optP_ok hc]
    by_cases he : p.epoch = e
    · have hi := isPB_true hc he
      by_cases hq : (op p).2 = 0
      · by_cases hz : (op p).1.readers = 0 ∧ (op p).1.writers = 0
        · have hne : (op p).1 ≠ p := fun h => by
            rw [h] at hz
            exact (checkP_ok hc).2.2.2.1 hz
          have h1 : rOp op p e = (zeroP, 0) := by simp [rOp, hi, hq, hz]
          have h2 : pStep op e (some p) = (none, 0, 1) := by simp [pStep, he, hq, hne, hz]
          rw [h1, h2]
          exact ⟨optP_zero, rfl⟩
        · have hk := hg p hc hq hz
          have h1 : rOp op p e = ((op p).1, 0) := by
            unfold rOp
            rw [hi, if_neg (by decide), if_neg (fun h => h hq), if_neg hz]
          by_cases hs : (op p).1 = p
          · have h2 : pStep op e (some p) = (some p, 0, 0) := by simp [pStep, he, hq, hs]
            rw [h1, h2]
            exact ⟨by dsimp only; rw [hs]; exact optP_ok hc, rfl⟩
          · have h2 : pStep op e (some p) = (some (op p).1, 0, 1) := by
              show (if p.epoch ≠ e then _ else if (op p).2 ≠ 0 then _ else if (op p).1 = p then _ else if (op p).1.readers = 0 ∧ (op p).1.writers = 0 then _ else _) = _
              rw [if_neg (fun h => h he), if_neg (fun h => h hq), if_neg hs, if_neg hz]
            rw [h1, h2]
            exact ⟨optP_ok hk, rfl⟩
      · have h1 : rOp op p e = (p, (op p).2) := by simp [rOp, hi, hq]
        have h2 : pStep op e (some p) = (some p, (op p).2, 0) := by simp [pStep, he, hq]
        rw [h1, h2]
        exact ⟨optP_ok hc, rfl⟩
    · have h1 : rOp op p e = (p, 8) := by simp [rOp, isPB_ep he]
      have h2 : pStep op e (some p) = (some p, 8, 0) := by simp [pStep, he]
      rw [h1, h2]
      exact ⟨optP_ok hc, rfl⟩
  · rw [optP_bad hc]
    have h1 : rOp op p e = (p, 8) := by simp [rOp, isPB_bad hc]
    rw [h1]
    exact ⟨optP_bad hc, rfl⟩
theorem rJoin_is (x : Bool) (p : PipeT) (e : Int) : rJoin x p e = rOp (opJoin x) p e := by
  unfold rJoin rOp
  cases hi : isPB p e with
  | false => rfl
  | true =>
    rw [if_neg (by simp), if_neg (by simp)]
    obtain ⟨_, hre, hwr, hno, _⟩ := checkP_ok (isPB_ok hi).1
    unfold opJoin
    cases x
    all_goals
      simp only [if_true, if_false, Bool.false_eq_true]
      split
      · rfl
      · split
        · rfl
        · simp only [ne_eq, not_true_eq_false, if_false]
          rw [if_neg (by omega)]
theorem opLeave_err (x : Bool) (p : PipeT) (h : (opLeave x p).2 ≠ 0) : (opLeave x p).1 = p := by
  unfold opLeave at h ⊢
  cases x
  all_goals
    simp only [if_true, if_false, Bool.false_eq_true] at h ⊢
    split
    · rfl
    · rename_i hz
      rw [if_neg hz] at h
      exact absurd rfl h
theorem rLeave_is (x : Bool) (p : PipeT) (e : Int) : rLeave x p e = rOp (opLeave x) p e := by
  unfold rLeave rOp
  cases hi : isPB p e with
  | false => rfl
  | true =>
    rw [if_neg (by decide : ¬ true = false), if_neg (by decide : ¬ true = false)]
    have hp := opLeave_err x p
    generalize opLeave x p = r at hp
    obtain ⟨r1, r2⟩ := r
    unfold rGone
    dsimp only at hp ⊢
    by_cases h : r2 = 0
    · subst h
      by_cases hz : r1.readers = 0 ∧ r1.writers = 0
      · rw [if_pos ⟨rfl, hz⟩, if_neg (fun h => h rfl), if_pos hz]
      · rw [if_neg (fun h => hz h.2), if_neg (fun h => h rfl), if_neg hz]
    · rw [if_neg (fun hh => h hh.1), if_pos h, hp h]
theorem extract_none (s : ByteArray) : s.extract 0 0 = ⟨#[]⟩ := by
  apply pba_ext
  rw [pl_extract]
  simp
/-- Read of the reference: as the operation, with its bytes. -/
theorem rRead_is (n : Int) (p : PipeT) (e : Int) : rRead n p e = ((rOp (opRead n) p e).1, (if (rOp (opRead n) p e).2 = 0 then readB n p else ⟨#[]⟩), (rOp (opRead n) p e).2) := by
  unfold rRead rOp
  cases hi : isPB p e with
  | false => simp
  | true =>
    obtain ⟨_, hre, hwr, hno, hby⟩ := checkP_ok (isPB_ok hi).1
    rw [if_neg (by decide : ¬ true = false), if_neg (by decide : ¬ true = false)]
    by_cases h1 : n < 0
    · simp [opRead, h1]
    · rw [if_neg h1]
      by_cases h2 : n = 0 ∨ (p.bytes.size = 0 ∧ p.writers = 0)
      · have hm : min n.toNat p.bytes.size = 0 := by omega
        have ho : opRead n p = (p, 0) := by
          unfold opRead
          rw [if_neg h1, if_neg (by omega), hm, extract_all]
        have hb : readB n p = ⟨#[]⟩ := by
          unfold readB
          rw [hm, extract_none]
        rw [if_pos h2, ho]
        dsimp only
        rw [if_neg (fun h => h rfl), if_neg hno, if_pos rfl, hb]
      · rw [if_neg h2]
        by_cases h3 : p.bytes.size = 0
        · have ho : opRead n p = (p, 19) := by
            unfold opRead
            rw [if_neg h1, if_pos (by omega)]
          rw [if_pos h3, ho]
          dsimp only
          simp
        · have ho : opRead n p = (⟨p.epoch, p.readers, p.writers, p.bytes.extract (min n.toNat p.bytes.size) p.bytes.size⟩, 0) := by
            unfold opRead
            rw [if_neg h1, if_neg (by omega)]
          rw [if_neg h3, ho]
          dsimp only
          rw [if_neg (fun h => h rfl), if_neg hno, if_pos rfl]
          rfl
/-- Write of the reference: as the operation, with its number. -/
theorem rWrite_is (s : ByteArray) (p : PipeT) (e : Int) : rWrite s p e = ((rOp (opWrite s) p e).1, (if (rOp (opWrite s) p e).2 = 0 then writeN s p else 0), (rOp (opWrite s) p e).2) := by
  unfold rWrite rOp
  cases hi : isPB p e with
  | false => simp
  | true =>
    obtain ⟨_, hre, hwr, hno, hby⟩ := checkP_ok (isPB_ok hi).1
    rw [if_neg (by decide : ¬ true = false), if_neg (by decide : ¬ true = false)]
    by_cases h1 : s.size = 0
    · have ho : opWrite s p = (p, 0) := if_pos h1
      have hw : writeN s p = 0 := if_pos h1
      rw [if_pos h1, ho]
      dsimp only
      rw [if_neg (fun h => h rfl), if_neg hno, if_pos rfl, hw]
    · have hw : writeN s p = min s.size (256 - p.bytes.size) := if_neg h1
      rw [if_neg h1]
      by_cases h2 : p.readers = 0
      · have ho : opWrite s p = (p, 20) := (if_neg h1).trans (if_pos h2)
        rw [if_pos h2, ho]
        dsimp only
        simp
      · rw [if_neg h2]
        by_cases h3 : p.bytes.size = 256
        · have ho : opWrite s p = (p, 19) := (if_neg h1).trans ((if_neg h2).trans (if_pos h3))
          rw [if_pos h3, ho]
          dsimp only
          simp
        · have ho : opWrite s p = (⟨p.epoch, p.readers, p.writers, p.bytes ++ s.extract 0 (writeN s p)⟩, 0) := (if_neg h1).trans ((if_neg h2).trans (if_neg h3))
          rw [if_neg h3, ho, hw]
          dsimp only
          rw [if_neg (fun h => h rfl), if_neg hno, if_pos rfl]
/-- Make of the reference. -/
theorem rMake_opt (p : PipeT) (e : Int) (he : pEpochB e = true) : optP (rMake p e).1 = (if (optP p).isSome = true then optP p else some ⟨e, 1, 1, ⟨#[]⟩⟩) ∧ (rMake p e).2 = if (optP p).isSome = true then 13 else 0 := by
  unfold rMake
  by_cases hc : checkP p = 0
  · rw [optP_ok hc, if_pos hc]
    exact ⟨optP_ok hc, rfl⟩
  · rw [optP_bad hc, if_neg hc]
    exact ⟨optP_ok (make_ok he), rfl⟩
theorem isPB_has (p : PipeT) (e : Int) : pHas e (optP p) = if isPB p e = true then (p, 0) else (zeroP, 8) := by
  by_cases hc : checkP p = 0
  · rw [optP_ok hc]
    by_cases he : p.epoch = e
    · rw [if_pos (isPB_true hc he)]
      simp [pHas, he]
    · rw [if_neg (by rw [isPB_ep he]; decide)]
      simp [pHas, he]
  · rw [optP_bad hc, if_neg (by rw [isPB_bad hc]; decide)]
    rfl
end Go.Proofs.YtemmeopaihmlcaaGreatDoor
