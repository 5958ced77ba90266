/- Law 32: do by its plain meaning; what an operation does with the bytes. -/
import Derived.Test.YtmknhokjpmjkkaaDoorPipP
import Derived.Test.YtmknhokjpmjkkaaDoorPipQ
namespace Go.Proofs.YtmknhokjpmjkkaaDoor
open Go.RowKit

theorem pba_ext {a b : ByteArray} (h : a.data.toList = b.data.toList) : a = b := by
  cases a; cases b; simp at h; simp [h]
theorem pl_append (a b : ByteArray) : (a ++ b).data.toList = a.data.toList ++ b.data.toList := by rw [ByteArray.data_append]; simp
theorem pl_extract (a : ByteArray) (i j : Nat) : (a.extract i j).data.toList = (a.data.toList.drop i).take (j - i) := by
  rw [ByteArray.data_extract, Array.toList_extract, List.extract_eq_take_drop]
theorem pl_size (a : ByteArray) : a.data.toList.length = a.size := by rw [Array.length_toList]; rfl
theorem extract_all (s : ByteArray) : s.extract 0 s.size = s := by
  apply pba_ext
  rw [pl_extract, List.drop_zero, Nat.sub_zero, List.take_of_length_le (by rw [pl_size]; exact Nat.le_refl _)]
theorem cut_small {s : ByteArray} (h : s.size ≤ 600) : cut600 s = s := by unfold cut600; rw [Nat.min_eq_left h]; exact extract_all s
theorem cut_big {s : ByteArray} (h : 600 < s.size) : cut600 s = s.extract 0 600 := by unfold cut600; rw [Nat.min_eq_right (by omega)]

theorem do_any (w0 w : World) (b N : Nat) (o : Option PipeT) (G : Nat → Prop) (kd : Nat) (e n : Int) (s : ByteArray) (x : Bool) (hkd : kd ≤ 255) (sp : SP w0 w b N o G) (hN : N < 1000000) (he : pEpochB e = true) (hn : n ≤ 9223372036854775807) (hs : s.size ≤ 9223372036854775807) (o' : Option PipeT) (r : ResT) (d : Nat) (hst : doR kd e n s x o = (o', r, d)) :
    Calls Tryd.prog 58 #[.pointer (some ⟨b, 0, none⟩), .agg #[.int .u8 kd, .int .i64 e, .int .i64 n, .string s, .bool x]] w (SPP w0 b (N + d) o' G w (resV r)) := by
  unfold doR at hst
  split at hst
  · rename_i h0
    split at hst
    · rename_i h1
      cases hst
      exact do_make w0 w b N o G kd e n s x h0 hkd sp hN he o 13 0 (by rw [if_pos h1])
    · rename_i h1
      cases hst
      exact do_make w0 w b N o G kd e n s x h0 hkd sp hN he _ 0 1 (by rw [if_neg h1])
  · split at hst
    · rename_i h1
      cases hst
      exact do_read w0 w b N o G kd e n s x h1 hkd sp hN he hn _ _ _ rfl _ rfl
    · split at hst
      · rename_i h1
        cases hst
        by_cases hz : 600 < s.size
        · rw [cut_big hz]
          exact do_write2 w0 w b N o G kd e n s x h1 hkd sp hN he hs _ _ _ rfl _ rfl hz
        · rw [cut_small (by omega)]
          exact do_write w0 w b N o G kd e n s x h1 hkd sp hN he hs _ _ _ rfl _ rfl hz
      · split at hst
        · rename_i h1
          cases hst
          exact do_join w0 w b N o G kd e n s x h1 hkd sp hN he _ _ _ rfl
        · split at hst
          · rename_i h1
            cases hst
            exact do_leave w0 w b N o G kd e n s x h1 hkd sp hN he _ _ _ rfl
          · cases hst
            exact do_get w0 w b N o G kd e n s x (by omega) hkd sp hN he _ _ _ _ _ rfl

/-- One operation that is no Leave, on a pipe of epoch 1. -/
structure OStep (kd : Nat) (s : ByteArray) (p : PipeT) (o' : Option PipeT) (r : ResT) (d : Nat) : Prop where
  ex : ∃ p', o' = some p' ∧ p'.epoch = 1 ∧ ((kd % 8 = 3 ∨ kd % 8 = 4) → r.bytes = ⟨#[]⟩ ∧ p'.bytes = p.bytes ++ s.extract 0 r.n) ∧ (¬ (kd % 8 = 3 ∨ kd % 8 = 4) → r.bytes ++ p'.bytes = p.bytes)
  n : r.n ≤ s.size ∧ r.n ≤ 256
  b : r.bytes.size ≤ 256
  d : d ≤ 1
theorem emp_append (a : ByteArray) : (⟨#[]⟩ : ByteArray) ++ a = a := by
  apply pba_ext
  rw [pl_append]
  rfl
theorem append_emp {a b : ByteArray} (h : b.size = 0) : a ++ b = a := by
  apply pba_ext
  have hb : b.data.toList = [] := List.eq_nil_of_length_eq_zero (by rw [pl_size]; exact h)
  rw [pl_append, hb, List.append_nil]
theorem split_at (a : ByteArray) (m : Nat) : a.extract 0 m ++ a.extract m a.size = a := by
  apply pba_ext
  rw [pl_append, pl_extract, pl_extract, List.drop_zero, Nat.sub_zero]
  rw [List.take_of_length_le (l := a.data.toList.drop m) (by rw [List.length_drop, pl_size]; omega)]
  exact List.take_append_drop _ _
/-- What pStep leaves where the epoch is right and the operation keeps the pipe alive. -/
theorem pStep_live {op : PipeT → PipeT × Nat} {p : PipeT} {e : Int} (he : p.epoch = e) (hz : (op p).2 = 0 → ¬ ((op p).1.readers = 0 ∧ (op p).1.writers = 0)) :
    pStep op e (some p) = (some (if (op p).2 = 0 then (op p).1 else p), (op p).2, if (op p).2 = 0 ∧ (op p).1 ≠ p then 1 else 0) := by
  simp only [pStep]
  rw [if_neg (fun h => h he)]
  by_cases h0 : (op p).2 = 0
  · rw [if_neg (fun h => h h0), if_pos h0, h0]
    by_cases h1 : (op p).1 = p
    · rw [if_pos h1, h1, if_neg (by simp)]
    · rw [if_neg h1, if_neg (hz h0), if_pos ⟨rfl, h1⟩]
  · rw [if_pos h0, if_neg h0, if_neg (fun h => h0 h.1)]
theorem cut_extract (s : ByteArray) {m : Nat} (h : m ≤ (cut600 s).size) : (cut600 s).extract 0 m = s.extract 0 m := by
  apply pba_ext
  have hz : (cut600 s).size = min s.size 600 := by unfold cut600; rw [ByteArray.size_extract]; omega
  rw [hz] at h
  rw [pl_extract, pl_extract]
  unfold cut600
  rw [pl_extract]
  simp only [List.drop_zero, Nat.sub_zero]
  rw [List.take_take, Nat.min_eq_left h]
theorem writeN_le (s : ByteArray) (p : PipeT) : writeN s p ≤ s.size ∧ writeN s p ≤ 256 := by
  unfold writeN
  split <;> omega
theorem pHas_at {p : PipeT} {e : Int} (h : p.epoch = e) : pHas e (some p) = (p, 0) := if_neg (fun h' => h' h)
theorem ite_le {c : Prop} [Decidable c] : (if c then 1 else 0) ≤ 1 := by split <;> omega

theorem ostep (kd : Nat) (n : Int) (s : ByteArray) (x : Bool) (p : PipeT) (hp : p.epoch = 1) (hc : checkP p = 0) (hk : kd % 8 ≠ 6) : OStep kd s p (doR kd 1 n s x (some p)).1 (doR kd 1 n s x (some p)).2.1 (doR kd 1 n s x (some p)).2.2 := by
  obtain ⟨h1, h2, h3, h4, h5⟩ := checkP_ok hc
  have hz0 : (⟨#[]⟩ : ByteArray).size = 0 := rfl
  unfold doR
  split
  · rename_i k0
    rw [if_pos (show (some p).isSome = true from rfl)]
    exact ⟨⟨p, rfl, hp, fun h => by omega, fun _ => emp_append _⟩, ⟨Nat.zero_le _, Nat.zero_le _⟩, Nat.zero_le _, Nat.zero_le _⟩
  · split
    · rename_i k0
      have hlive : (opRead n p).2 = 0 → ¬ ((opRead n p).1.readers = 0 ∧ (opRead n p).1.writers = 0) := fun _ => by
        unfold opRead
        split
        · exact h4
        · split
          · exact h4
          · exact h4
      rw [pStep_live hp hlive, pHas_at hp]
      dsimp only
      by_cases hq : (opRead n p).2 = 0
      · have e : opRead n p = (⟨p.epoch, p.readers, p.writers, p.bytes.extract (min n.toNat p.bytes.size) p.bytes.size⟩, 0) := by
          unfold opRead at hq ⊢
          split at hq
          · cases hq
          · rename_i ha
            split at hq
            · cases hq
            · rename_i hb
              rw [if_neg ha, if_neg hb]
        rw [if_pos hq, if_pos hq, e]
        refine ⟨⟨_, rfl, hp, fun h => by omega, fun _ => ?_⟩, ⟨Nat.zero_le _, Nat.zero_le _⟩, ?_, ite_le⟩
        · exact split_at _ _
        · show (readB n p).size ≤ 256
          unfold readB
          rw [ByteArray.size_extract]
          omega
      · rw [if_neg hq, if_neg hq]
        exact ⟨⟨p, rfl, hp, fun h => by omega, fun _ => emp_append _⟩, ⟨Nat.zero_le _, Nat.zero_le _⟩, Nat.zero_le _, ite_le⟩
    · split
      · rename_i k0
        have hlive : (opWrite (cut600 s) p).2 = 0 → ¬ ((opWrite (cut600 s) p).1.readers = 0 ∧ (opWrite (cut600 s) p).1.writers = 0) := fun _ => by
          unfold opWrite
          split
          · exact h4
          · split
            · exact h4
            · split
              · exact h4
              · exact h4
        rw [pStep_live hp hlive, pHas_at hp]
        dsimp only
        have hcs : (cut600 s).size ≤ s.size := by unfold cut600; rw [ByteArray.size_extract]; omega
        have hwn := writeN_le (cut600 s) p
        by_cases hq : (opWrite (cut600 s) p).2 = 0
        · rw [if_pos hq, if_pos hq]
          refine ⟨⟨_, rfl, ?_, fun _ => ⟨rfl, ?_⟩, fun h => absurd k0 h⟩, ⟨by dsimp only; omega, hwn.2⟩, Nat.zero_le _, ite_le⟩
          · unfold opWrite
            split
            · exact hp
            · split
              · exact hp
              · split
                · exact hp
                · exact hp
          · dsimp only
            rw [← cut_extract s hwn.1]
            unfold opWrite at hq ⊢
            split at hq
            · rename_i ha
              rw [if_pos ha, append_emp]
              rw [ByteArray.size_extract]
              omega
            · rename_i ha
              split at hq
              · cases hq
              · rename_i hb
                split at hq
                · cases hq
                · rename_i hd
                  rw [if_neg ha, if_neg hb, if_neg hd]
        · rw [if_neg hq, if_neg hq]
          refine ⟨⟨p, rfl, hp, fun _ => ⟨rfl, ?_⟩, fun h => absurd k0 h⟩, ⟨Nat.zero_le _, Nat.zero_le _⟩, Nat.zero_le _, ite_le⟩
          rw [append_emp]
          rw [ByteArray.size_extract]
          simp
      · rename_i k3
        split
        · rename_i k0
          have hlive : (opJoin x p).2 = 0 → ¬ ((opJoin x p).1.readers = 0 ∧ (opJoin x p).1.writers = 0) := fun _ => by
            unfold opJoin
            split
            · split
              · exact h4
              · split
                · exact h4
                · dsimp only; omega
            · split
              · exact h4
              · split
                · exact h4
                · dsimp only; omega
          have hby : (opJoin x p).1.bytes = p.bytes ∧ (opJoin x p).1.epoch = p.epoch := by
            unfold opJoin
            split
            · split
              · exact ⟨rfl, rfl⟩
              · split <;> exact ⟨rfl, rfl⟩
            · split
              · exact ⟨rfl, rfl⟩
              · split <;> exact ⟨rfl, rfl⟩
          rw [pStep_live hp hlive]
          dsimp only
          refine ⟨⟨_, rfl, ?_, fun h => absurd h k3, fun _ => ?_⟩, ⟨Nat.zero_le _, Nat.zero_le _⟩, Nat.zero_le _, ite_le⟩
          · split
            · rw [hby.2]; exact hp
            · exact hp
          · split
            · rw [hby.1]; exact emp_append _
            · exact emp_append _
        · rw [pHas_at hp]
          exact ⟨⟨p, rfl, hp, fun h => absurd h k3, fun _ => emp_append _⟩, ⟨Nat.zero_le _, Nat.zero_le _⟩, Nat.zero_le _, Nat.zero_le _⟩

end Go.Proofs.YtmknhokjpmjkkaaDoor
