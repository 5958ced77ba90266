/- lineage: the plain functions; isDigit, first. -/
import Derived.Test.YtemmeopaihmlcaaDoorMem
import Derived.Test.YtemmeopaihmlcaaDoorProg
import Derived.WalkLawsBesides
import Derived.WalkSpells
namespace Go.Proofs.YtemmeopaihmlcaaDoor
open Go.RowKit

structure PartT where
  ord : Nat
  pos : Nat
  err : Nat

def isDig (b : UInt8) : Bool := decide (48 ≤ b.toNat) && decide (b.toNat ≤ 57)
def digCount : Nat → List UInt8 → Nat
  | 0, _ => 0
  | _ + 1, [] => 0
  | m + 1, b :: r => if isDig b then digCount m r + 1 else 0
def decVal (l : List UInt8) : Nat := l.foldl (fun a b => a * 10 + (b.toNat - 48)) 0
def firstErr (bs : List UInt8) (pos count : Nat) : Nat :=
  if count = 8 then 9 else if pos = bs.length then 4 else if digCount 7 (bs.drop pos) = 0 then 6 else if (bs.getD pos 0).toNat = 48 then 3 else if 6 < digCount 7 (bs.drop pos) then 2 else 0
def firstP (bs : List UInt8) (pos count : Nat) : PartT × Nat :=
  if firstErr bs pos count ≠ 0 then (⟨0, pos, firstErr bs pos count⟩, pos)
  else (⟨decVal ((bs.drop pos).take (digCount 7 (bs.drop pos))), pos, 0⟩, pos + digCount 7 (bs.drop pos))

def partV (p : PartT) : Value := .agg #[.int .i64 p.ord, .int .i64 p.pos, .int .i64 p.err]

theorem digCount_eq (m k : Nat) (bs : List UInt8) (hk : k ≤ m) (hn : k ≤ bs.length) (hlo : ∀ j, j < k → isDig (bs.getD j 0) = true) (hend : k = m ∨ k = bs.length ∨ isDig (bs.getD k 0) = false) : digCount m bs = k := by
  induction m generalizing bs k with
  | zero => simp [digCount]; omega
  | succ m ih =>
    cases bs with
    | nil => simp [digCount] at *; omega
    | cons b r =>
      simp only [digCount]
      cases k with
      | zero =>
        rw [if_neg]
        simp at hend
        simp [hend]
      | succ k =>
        rw [if_pos (by simpa using hlo 0 (by omega))]
        congr 1
        refine ih k r (by omega) (by simp at hn; omega) (fun j hj => by simpa using hlo (j + 1) (by omega)) ?_
        simpa using hend
theorem decVal_snoc (l : List UInt8) (b : UInt8) : decVal (l ++ [b]) = decVal l * 10 + (b.toNat - 48) := by simp [decVal]

set_option maxHeartbeats 400000 in
theorem isDigit_any (b : UInt8) (w : World) : Calls Tryd.prog 117 #[.int .u8 b.toNat] w fun r w' => r = .returned (.bool (isDig b)) ∧ w = w' := by
  unfold isDig
  generalize b.toNat = x at *
  by_cases h1 : 48 ≤ x
  · go_enter Tryd.func117, Tryd.ntmps117
    go_wp2
    go_ret
    refine ⟨?_, rfl⟩
    simp [h1]
    omega
  · go_enter Tryd.func117, Tryd.ntmps117
    go_wp2
    go_ret
    refine ⟨?_, rfl⟩
    simp

theorem isDigit_is (b : UInt8) (v : Bool) (h : isDig b = v) (w : World) : Calls Tryd.prog 117 #[.int .u8 b.toNat] w fun r w' => r = .returned (.bool v) ∧ w = w' := by
  subst h; exact isDigit_any b w

theorem at_byte (s : ByteArray) (i : Nat) (h : i < s.size) : s[i] = s.data.toList.getD i 0 := by
  have h' : i < s.data.toList.length := by rw [Array.length_toList]; exact h
  rw [List.getD_eq_getElem?_getD, List.getElem?_eq_getElem h']
  rfl
theorem size_toList (s : ByteArray) : s.data.toList.length = s.size := by rw [Array.length_toList]; rfl
theorem toList_empty (s : ByteArray) : s.toList.isEmpty = decide (s.size = 0) := by
  rw [ByteArray.toList_eq, ← size_toList]
  cases s.data.toList <;> simp
theorem getD_drop (l : List UInt8) (p k : Nat) : (l.drop p).getD k 0 = l.getD (p + k) 0 := by simp
theorem isDig_iff (b : UInt8) : isDig b = true ↔ 48 ≤ b.toNat ∧ b.toNat ≤ 57 := by simp [isDig]

/-- The ways on which first ends. -/
theorem first_ways (s : ByteArray) (pos count k : Nat) (hk7 : k ≤ 7) (hks : pos + k ≤ s.size) (hp : pos ≤ s.size) (hc : count ≤ 8) (hdc : digCount 7 (s.data.toList.drop pos) = k) (_hnd : pos + k < s.size → k ≤ 6 → isDig (s.data.toList.getD (pos + k) 0) = false)
    (_hd : ∀ j, j < k → isDig ((s.data.toList.drop pos).getD j 0) = true) :
    (8 ≤ count ∧ Hid (firstP s.data.toList pos count = (⟨0, pos, 9⟩, pos))) ∨
    (count < 8 ∧ s.size ≤ pos ∧ Hid (firstP s.data.toList pos count = (⟨0, pos, 4⟩, pos))) ∨
    (count < 8 ∧ pos < s.size ∧ k ≤ 0 ∧ Hid (firstP s.data.toList pos count = (⟨0, pos, 6⟩, pos))) ∨
    (count < 8 ∧ 0 < k ∧ (∃ h : pos < s.size, (((s[pos]'h).toNat : Int) == 48) = true) ∧ Hid (firstP s.data.toList pos count = (⟨0, pos, 3⟩, pos))) ∨
    (count < 8 ∧ 7 ≤ k ∧ (∃ h : pos < s.size, (((s[pos]'h).toNat : Int) == 48) = false) ∧ Hid (firstP s.data.toList pos count = (⟨0, pos, 2⟩, pos))) ∨
    (count < 8 ∧ 0 < k ∧ k ≤ 6 ∧ (∃ h : pos < s.size, (((s[pos]'h).toNat : Int) == 48) = false) ∧ Hid (firstP s.data.toList pos count = (⟨decVal ((s.data.toList.drop pos).take k), pos, 0⟩, pos + k))) := by
  have hsz := size_toList s
  by_cases h1 : count = 8
  · exact .inl ⟨by omega, by show _ = _; simp [firstP, firstErr, h1]⟩
  by_cases h2 : pos = s.size
  · exact .inr (.inl ⟨by omega, by omega, by show _ = _; simp [firstP, firstErr, h1, h2, hsz]⟩)
  have h2' : pos < s.size := by omega
  by_cases h3 : k = 0
  · exact .inr (.inr (.inl ⟨by omega, h2', by omega, by show _ = _; simp [firstP, firstErr, h1, h2, hsz, hdc, h3]⟩))
  have hb := at_byte s pos h2'
  by_cases h4 : (s.data.toList.getD pos 0).toNat = 48
  · refine .inr (.inr (.inr (.inl ⟨by omega, by omega, ⟨h2', by rw [hb, beq_iff_eq]; omega⟩, ?_⟩)))
    have he : firstErr s.data.toList pos count = 3 := by unfold firstErr; rw [if_neg h1, if_neg (by omega), if_neg (by omega), if_pos h4]
    show _ = _
    simp [firstP, he]
  have hne : (((s[pos]'h2').toNat : Int) == 48) = false := by rw [hb, beq_eq_false_iff_ne]; omega
  by_cases h5 : 6 < k
  · refine .inr (.inr (.inr (.inr (.inl ⟨by omega, by omega, ⟨h2', hne⟩, ?_⟩))))
    have he : firstErr s.data.toList pos count = 2 := by unfold firstErr; rw [if_neg h1, if_neg (by omega), if_neg (by omega), if_neg h4, if_pos (by omega)]
    show _ = _
    simp [firstP, he]
  · refine .inr (.inr (.inr (.inr (.inr ⟨by omega, by omega, by omega, ⟨h2', hne⟩, ?_⟩))))
    have he : firstErr s.data.toList pos count = 0 := by unfold firstErr; rw [if_neg h1, if_neg (by omega), if_neg (by omega), if_neg h4, if_neg (by omega)]
    show _ = _
    simp [firstP, he, hdc]

set_option maxRecDepth 100000 in
set_option maxHeartbeats 1000000 in
theorem first_any (s : ByteArray) (pos count : Nat) (w : World) (hs : s.size ≤ 70368744177664) (hp : pos ≤ s.size) (hc : count ≤ 8) :
    Calls Tryd.prog 108 #[.string s, .int .i64 pos, .int .i64 count] w fun r w' =>
      r = .returned (.tuple #[partV (firstP s.data.toList pos count).1, .int .i64 (firstP s.data.toList pos count).2]) ∧ Below w.heap.size w w' := by
  go_enter Tryd.func108, Tryd.ntmps108
  go_wp2
  go_loop [8, 9] (fun i o => ∃ (k v : Nat), k ≤ 7 ∧ pos + k ≤ s.size ∧ i = .int .i64 ((pos : Int) + k) ∧ o = .int .i64 v ∧ v < 10 ^ k ∧ Hid (v = decVal ((s.data.toList.drop pos).take k)) ∧ Hid (∀ j, j < k → isDig ((s.data.toList.drop pos).getD j 0) = true)) (fun i _ => s.size - (intOf i).toNat)
  case atStart => exact ⟨0, 0, by omega, by omega, by go_num, rfl, by simp, rfl, fun j hj => by omega⟩
  case round =>
    obtain ⟨k, v, hk7, hks, rfl, rfl, hv, Hv, Hd⟩ := hrel
    have Hvb := Lib.hid hv; clear hv
    by_cases h1 : pos + k < s.size
    · have hgb := at_byte s (pos + k) h1
      by_cases h2 : k ≤ 6
      · by_cases h3 : isDig (s.data.toList.getD (pos + k) 0) = true
        · have hx := (isDig_iff _).1 h3
          rw [← hgb] at hx
          have Hgb := Lib.hid hgb; clear hgb
          have H3 := Lib.hid h3; clear h3
          have hv7 : v < 10000000 := Nat.lt_of_lt_of_le Hvb.out (Nat.le_trans (Nat.pow_le_pow_right (by decide) hk7) (by decide))
          go_wp2_with fail
          refine (isDigit_is _ true (by rw [Hgb.out]; exact H3.out) _).mono ?_
          rintro e w1 ⟨rfl, rfl⟩
          go_wp2
          go_round
          case rel =>
            refine ⟨k + 1, v * 10 + (s[pos + k].toNat - 48), by omega, by omega, by go_num, ?_, ?_, ?_, ?_⟩
            · have e : ((v * 10 + (s[pos + k].toNat - 48) : Nat) : Int) = (v : Int) * 10 + ((s[pos + k].toNat : Int) - 48) := by omega
              rw [e]
            · have h := Hvb.out
              rw [Nat.pow_succ]
              omega
            · show _ = _
              have hl : k < (s.data.toList.drop pos).length := by rw [List.length_drop, size_toList]; omega
              have hg : (s.data.toList.drop pos)[k] = s[pos + k] := by
                rw [Hgb.out, ← getD_drop, List.getD_eq_getElem?_getD, List.getElem?_eq_getElem hl]; rfl
              rw [List.take_succ_eq_append_getElem hl, decVal_snoc, ← Hv.out, hg]
            · intro j hj
              by_cases hjk : j = k
              · subst hjk; rw [getD_drop]; exact H3.out
              · exact Hd.out j (by omega)
          case measure => simp [intOf]; omega
        · have hnd : Hid (isDig (s[pos + k]) = false) := by show _ = _; rw [hgb]; simpa using h3
          have Hgb := Lib.hid hgb; clear hgb
          have hsz := size_toList s
          have hdc : digCount 7 (s.data.toList.drop pos) = k := digCount_eq 7 k _ hk7 (by rw [List.length_drop]; omega) Hd.out (.inr (.inr (by simpa using h3)))
          have hways := first_ways s pos count k hk7 hks hp hc hdc (fun _ _ => by simpa using h3) Hd.out
          clear hsz hdc h3
          rcases hways with ⟨ha, hf⟩ | ⟨ha, hb, hf⟩ | ⟨ha, hb, hd, hf⟩ | ⟨ha, hb, ⟨hl, hd⟩, hf⟩ | ⟨ha, hb, ⟨hl, hd⟩, hf⟩ | ⟨ha, hb, hd, ⟨hl, he⟩, hf⟩
          all_goals first | (exfalso; omega) | skip
          all_goals
            go_wp2_with (go_at_call 117; refine (isDigit_is _ false hnd.out _).mono ?_; rintro e w1 ⟨rfl, rfl⟩)
            refine bodyPost_ret (v := .tuple #[partV (firstP s.data.toList pos count).1, .int .i64 (firstP s.data.toList pos count).2]) (by rw [hf.out]; simp [results, Tryd.results108, go_sem, partV, Hv.out]) rfl ⟨rfl, ?_⟩
            exact ((Below.refl _ _).alloc (Nat.le_refl _) _)
      · clear hgb
        have hsz := size_toList s
        have hdc : digCount 7 (s.data.toList.drop pos) = k := digCount_eq 7 k _ hk7 (by rw [List.length_drop]; omega) Hd.out (.inl (by omega))
        have hways := first_ways s pos count k hk7 hks hp hc hdc (fun _ h => by omega) Hd.out
        clear hsz hdc
        rcases hways with ⟨ha, hf⟩ | ⟨ha, hb, hf⟩ | ⟨ha, hb, hd, hf⟩ | ⟨ha, hb, ⟨hl, hd⟩, hf⟩ | ⟨ha, hb, ⟨hl, hd⟩, hf⟩ | ⟨ha, hb, hd, ⟨hl, he⟩, hf⟩
        all_goals first | (exfalso; omega) | skip
        all_goals
          go_wp2
          refine bodyPost_ret (v := .tuple #[partV (firstP s.data.toList pos count).1, .int .i64 (firstP s.data.toList pos count).2]) (by rw [hf.out]; simp [results, Tryd.results108, go_sem, partV, Hv.out]) rfl ⟨rfl, ?_⟩
          exact ((Below.refl _ _).alloc (Nat.le_refl _) _)
    · have hsz := size_toList s
      have hdc : digCount 7 (s.data.toList.drop pos) = k := digCount_eq 7 k _ hk7 (by rw [List.length_drop]; omega) Hd.out (.inr (.inl (by rw [List.length_drop]; omega)))
      have hways := first_ways s pos count k hk7 hks hp hc hdc (fun h _ => by omega) Hd.out
      clear hsz hdc
      rcases hways with ⟨ha, hf⟩ | ⟨ha, hb, hf⟩ | ⟨ha, hb, hd, hf⟩ | ⟨ha, hb, ⟨hl, hd⟩, hf⟩ | ⟨ha, hb, ⟨hl, hd⟩, hf⟩ | ⟨ha, hb, hd, ⟨hl, he⟩, hf⟩
      all_goals first | (exfalso; omega) | skip
      all_goals
        go_wp2
        refine bodyPost_ret (v := .tuple #[partV (firstP s.data.toList pos count).1, .int .i64 (firstP s.data.toList pos count).2]) (by rw [hf.out]; simp [results, Tryd.results108, go_sem, partV, Hv.out]) rfl ⟨rfl, ?_⟩
        exact ((Below.refl _ _).alloc (Nat.le_refl _) _)

end Go.Proofs.YtemmeopaihmlcaaDoor
