/- lineage: the plain functions; isDigit, first. lineage: the iterator parts, Parse, Valid. -/
import Derived.Test.YtfchfjipkggnkaaGreatDoorMem
import Derived.Test.YtfchfjipkggnkaaGreatDoorProg
import Derived.WalkLawsBesides
import Derived.WalkSpells
import Derived.RangeFuncNested
import Derived.RangeFuncBound
import Derived.RangeFuncCalls
import Derived.RangeFuncLeaves
import Derived.Shelf.Abstract
import Derived.Shelf.RegionOpen
import Derived.OwnWalkIn
import Derived.TacticsInMore
import Derived.LoopNIn
import Derived.LoopIn
namespace Go.Proofs.YtfchfjipkggnkaaGreatDoor
open Go.RowKit

structure PartT where
  ord : Nat
  pos : Nat
  err : Nat

def isDig (b : UInt8) : Bool := decide (48 ≤ b.toNat) && decide (b.toNat ≤ 57)
def digCount : Nat → List UInt8 → Nat
  | 0, _ => 0
  | _ + 1, [] => 0
  | m + 1, b :: r => if isDig b then digCount m r + 1 else 0
def decVal (l : List UInt8) : Nat := l.foldl (fun a b => a * 10 + (b.toNat - 48)) 0
def firstErr (bs : List UInt8) (pos count : Nat) : Nat :=
  if count = 8 then 9 else if pos = bs.length then 4 else if digCount 7 (bs.drop pos) = 0 then 6 else if (bs.getD pos 0).toNat = 48 then 3 else if 6 < digCount 7 (bs.drop pos) then 2 else 0
def firstP (bs : List UInt8) (pos count : Nat) : PartT × Nat :=
  if firstErr bs pos count ≠ 0 then (⟨0, pos, firstErr bs pos count⟩, pos)
  else (⟨decVal ((bs.drop pos).take (digCount 7 (bs.drop pos))), pos, 0⟩, pos + digCount 7 (bs.drop pos))

def partV (p : PartT) : Value := .agg #[.int .i64 p.ord, .int .i64 p.pos, .int .i64 p.err]

theorem digCount_eq (m k : Nat) (bs : List UInt8) (hk : k ≤ m) (hn : k ≤ bs.length) (hlo : ∀ j, j < k → isDig (bs.getD j 0) = true) (hend : k = m ∨ k = bs.length ∨ isDig (bs.getD k 0) = false) : digCount m bs = k := by
  induction m generalizing bs k with
  | zero => simp [digCount]; omega
  | succ m ih =>
    cases bs with
    | nil => simp [digCount] at *; omega
    | cons b r =>
      simp only [digCount]
      cases k with
      | zero =>
        rw [if_neg]
        simp at hend
        simp [hend]
      | succ k =>
        rw [if_pos (by simpa using hlo 0 (by omega))]
        congr 1
        refine ih k r (by omega) (by simp at hn; omega) (fun j hj => by simpa using hlo (j + 1) (by omega)) ?_
        simpa using hend
theorem decVal_snoc (l : List UInt8) (b : UInt8) : decVal (l ++ [b]) = decVal l * 10 + (b.toNat - 48) := by simp [decVal]

set_option maxHeartbeats 400000 in
theorem isDigit_any (b : UInt8) (w : World) : Calls Tryz.prog 132 #[.int .u8 b.toNat] w fun r w' => r = .returned (.bool (isDig b)) ∧ w = w' := by
  unfold isDig
  generalize b.toNat = x at *
  by_cases h1 : 48 ≤ x
  · go_enter Tryz.func132, Tryz.ntmps132
    go_wp2
    go_ret
    refine ⟨?_, rfl⟩
    simp [h1]
    omega
  · go_enter Tryz.func132, Tryz.ntmps132
    go_wp2
    go_ret
    refine ⟨?_, rfl⟩
    simp

theorem isDigit_is (b : UInt8) (v : Bool) (h : isDig b = v) (w : World) : Calls Tryz.prog 132 #[.int .u8 b.toNat] w fun r w' => r = .returned (.bool v) ∧ w = w' := by
  subst h; exact isDigit_any b w

theorem at_byte (s : ByteArray) (i : Nat) (h : i < s.size) : s[i] = s.data.toList.getD i 0 := by
  have h' : i < s.data.toList.length := by rw [Array.length_toList]; exact h
  rw [List.getD_eq_getElem?_getD, List.getElem?_eq_getElem h']
  rfl
theorem size_toList (s : ByteArray) : s.data.toList.length = s.size := by rw [Array.length_toList]; rfl
theorem toList_empty (s : ByteArray) : s.toList.isEmpty = decide (s.size = 0) := by
  rw [ByteArray.toList_eq, ← size_toList]
  cases s.data.toList <;> simp
theorem getD_drop (l : List UInt8) (p k : Nat) : (l.drop p).getD k 0 = l.getD (p + k) 0 := by simp
theorem isDig_iff (b : UInt8) : isDig b = true ↔ 48 ≤ b.toNat ∧ b.toNat ≤ 57 := by simp [isDig]

/-- The ways on which first ends. -/
theorem first_ways (s : ByteArray) (pos count k : Nat) (hk7 : k ≤ 7) (hks : pos + k ≤ s.size) (hp : pos ≤ s.size) (hc : count ≤ 8) (hdc : digCount 7 (s.data.toList.drop pos) = k) (_hnd : pos + k < s.size → k ≤ 6 → isDig (s.data.toList.getD (pos + k) 0) = false)
    (_hd : ∀ j, j < k → isDig ((s.data.toList.drop pos).getD j 0) = true) :
    (8 ≤ count ∧ Hid (firstP s.data.toList pos count = (⟨0, pos, 9⟩, pos))) ∨
    (count < 8 ∧ s.size ≤ pos ∧ Hid (firstP s.data.toList pos count = (⟨0, pos, 4⟩, pos))) ∨
    (count < 8 ∧ pos < s.size ∧ k ≤ 0 ∧ Hid (firstP s.data.toList pos count = (⟨0, pos, 6⟩, pos))) ∨
    (count < 8 ∧ 0 < k ∧ (∃ h : pos < s.size, (((s[pos]'h).toNat : Int) == 48) = true) ∧ Hid (firstP s.data.toList pos count = (⟨0, pos, 3⟩, pos))) ∨
    (count < 8 ∧ 7 ≤ k ∧ (∃ h : pos < s.size, (((s[pos]'h).toNat : Int) == 48) = false) ∧ Hid (firstP s.data.toList pos count = (⟨0, pos, 2⟩, pos))) ∨
    (count < 8 ∧ 0 < k ∧ k ≤ 6 ∧ (∃ h : pos < s.size, (((s[pos]'h).toNat : Int) == 48) = false) ∧ Hid (firstP s.data.toList pos count = (⟨decVal ((s.data.toList.drop pos).take k), pos, 0⟩, pos + k))) := by
  have hsz := size_toList s
  by_cases h1 : count = 8
  · exact .inl ⟨by omega, by show _ = _; simp [firstP, firstErr, h1]⟩
  by_cases h2 : pos = s.size
  · exact .inr (.inl ⟨by omega, by omega, by show _ = _; simp [firstP, firstErr, h1, h2, hsz]⟩)
  have h2' : pos < s.size := by omega
  by_cases h3 : k = 0
  · exact .inr (.inr (.inl ⟨by omega, h2', by omega, by show _ = _; simp [firstP, firstErr, h1, h2, hsz, hdc, h3]⟩))
  have hb := at_byte s pos h2'
  by_cases h4 : (s.data.toList.getD pos 0).toNat = 48
  · refine .inr (.inr (.inr (.inl ⟨by omega, by omega, ⟨h2', by rw [hb, beq_iff_eq]; omega⟩, ?_⟩)))
    have he : firstErr s.data.toList pos count = 3 := by unfold firstErr; rw [if_neg h1, if_neg (by omega), if_neg (by omega), if_pos h4]
    show _ = _
    simp [firstP, he]
  have hne : (((s[pos]'h2').toNat : Int) == 48) = false := by rw [hb, beq_eq_false_iff_ne]; omega
  by_cases h5 : 6 < k
  · refine .inr (.inr (.inr (.inr (.inl ⟨by omega, by omega, ⟨h2', hne⟩, ?_⟩))))
    have he : firstErr s.data.toList pos count = 2 := by unfold firstErr; rw [if_neg h1, if_neg (by omega), if_neg (by omega), if_neg h4, if_pos (by omega)]
    show _ = _
    simp [firstP, he]
  · refine .inr (.inr (.inr (.inr (.inr ⟨by omega, by omega, by omega, ⟨h2', hne⟩, ?_⟩))))
    have he : firstErr s.data.toList pos count = 0 := by unfold firstErr; rw [if_neg h1, if_neg (by omega), if_neg (by omega), if_neg h4, if_neg (by omega)]
    show _ = _
    simp [firstP, he, hdc]

set_option maxRecDepth 100000 in
set_option maxHeartbeats 1000000 in
theorem first_any (s : ByteArray) (pos count : Nat) (w : World) (hs : s.size ≤ 70368744177664) (hp : pos ≤ s.size) (hc : count ≤ 8) :
    Calls Tryz.prog 116 #[.string s, .int .i64 pos, .int .i64 count] w fun r w' =>
      r = .returned (.tuple #[partV (firstP s.data.toList pos count).1, .int .i64 (firstP s.data.toList pos count).2]) ∧ Below w.heap.size w w' := by
  go_enter Tryz.func116, Tryz.ntmps116
  go_wp2
  go_loop [8, 9] (fun i o => ∃ (k v : Nat), k ≤ 7 ∧ pos + k ≤ s.size ∧ i = .int .i64 ((pos : Int) + k) ∧ o = .int .i64 v ∧ v < 10 ^ k ∧ Hid (v = decVal ((s.data.toList.drop pos).take k)) ∧ Hid (∀ j, j < k → isDig ((s.data.toList.drop pos).getD j 0) = true)) (fun i _ => s.size - (intOf i).toNat)
  case atStart => exact ⟨0, 0, by omega, by omega, by go_num, rfl, by simp, rfl, fun j hj => by omega⟩
  case round =>
    obtain ⟨k, v, hk7, hks, rfl, rfl, hv, Hv, Hd⟩ := hrel
    have Hvb := Lib.hid hv; clear hv
    by_cases h1 : pos + k < s.size
    · have hgb := at_byte s (pos + k) h1
      by_cases h2 : k ≤ 6
      · by_cases h3 : isDig (s.data.toList.getD (pos + k) 0) = true
        · have hx := (isDig_iff _).1 h3
          rw [← hgb] at hx
          have Hgb := Lib.hid hgb; clear hgb
          have H3 := Lib.hid h3; clear h3
          have hv7 : v < 10000000 := Nat.lt_of_lt_of_le Hvb.out (Nat.le_trans (Nat.pow_le_pow_right (by decide) hk7) (by decide))
          go_wp2_with fail
          refine (isDigit_is _ true (by rw [Hgb.out]; exact H3.out) _).mono ?_
          rintro e w1 ⟨rfl, rfl⟩
          go_wp2
          go_round
          case rel =>
            refine ⟨k + 1, v * 10 + (s[pos + k].toNat - 48), by omega, by omega, by go_num, ?_, ?_, ?_, ?_⟩
            · have e : ((v * 10 + (s[pos + k].toNat - 48) : Nat) : Int) = (v : Int) * 10 + ((s[pos + k].toNat : Int) - 48) := by omega
              rw [e]
            · have h := Hvb.out
              rw [Nat.pow_succ]
              omega
            · show _ = _
              have hl : k < (s.data.toList.drop pos).length := by rw [List.length_drop, size_toList]; omega
              have hg : (s.data.toList.drop pos)[k] = s[pos + k] := by
                rw [Hgb.out, ← getD_drop, List.getD_eq_getElem?_getD, List.getElem?_eq_getElem hl]; rfl
              rw [List.take_succ_eq_append_getElem hl, decVal_snoc, ← Hv.out, hg]
            · intro j hj
              by_cases hjk : j = k
              · subst hjk; rw [getD_drop]; exact H3.out
              · exact Hd.out j (by omega)
          case measure => simp [intOf]; omega
        · have hnd : Hid (isDig (s[pos + k]) = false) := by show _ = _; rw [hgb]; simpa using h3
          have Hgb := Lib.hid hgb; clear hgb
          have hsz := size_toList s
          have hdc : digCount 7 (s.data.toList.drop pos) = k := digCount_eq 7 k _ hk7 (by rw [List.length_drop]; omega) Hd.out (.inr (.inr (by simpa using h3)))
          have hways := first_ways s pos count k hk7 hks hp hc hdc (fun _ _ => by simpa using h3) Hd.out
          clear hsz hdc h3
          rcases hways with ⟨ha, hf⟩ | ⟨ha, hb, hf⟩ | ⟨ha, hb, hd, hf⟩ | ⟨ha, hb, ⟨hl, hd⟩, hf⟩ | ⟨ha, hb, ⟨hl, hd⟩, hf⟩ | ⟨ha, hb, hd, ⟨hl, he⟩, hf⟩
          all_goals first | (exfalso; omega) | skip
          all_goals
            go_wp2_with (go_at_call 132; refine (isDigit_is _ false hnd.out _).mono ?_; rintro e w1 ⟨rfl, rfl⟩)
            refine bodyPost_ret (v := .tuple #[partV (firstP s.data.toList pos count).1, .int .i64 (firstP s.data.toList pos count).2]) (by rw [hf.out]; simp [results, Tryz.results116, go_sem, partV, Hv.out]) rfl ⟨rfl, ?_⟩
            exact ((Below.refl _ _).alloc (Nat.le_refl _) _)
      · clear hgb
        have hsz := size_toList s
        have hdc : digCount 7 (s.data.toList.drop pos) = k := digCount_eq 7 k _ hk7 (by rw [List.length_drop]; omega) Hd.out (.inl (by omega))
        have hways := first_ways s pos count k hk7 hks hp hc hdc (fun _ h => by omega) Hd.out
        clear hsz hdc
        rcases hways with ⟨ha, hf⟩ | ⟨ha, hb, hf⟩ | ⟨ha, hb, hd, hf⟩ | ⟨ha, hb, ⟨hl, hd⟩, hf⟩ | ⟨ha, hb, ⟨hl, hd⟩, hf⟩ | ⟨ha, hb, hd, ⟨hl, he⟩, hf⟩
        all_goals first | (exfalso; omega) | skip
        all_goals
          go_wp2
          refine bodyPost_ret (v := .tuple #[partV (firstP s.data.toList pos count).1, .int .i64 (firstP s.data.toList pos count).2]) (by rw [hf.out]; simp [results, Tryz.results116, go_sem, partV, Hv.out]) rfl ⟨rfl, ?_⟩
          exact ((Below.refl _ _).alloc (Nat.le_refl _) _)
    · have hsz := size_toList s
      have hdc : digCount 7 (s.data.toList.drop pos) = k := digCount_eq 7 k _ hk7 (by rw [List.length_drop]; omega) Hd.out (.inr (.inl (by rw [List.length_drop]; omega)))
      have hways := first_ways s pos count k hk7 hks hp hc hdc (fun h _ => by omega) Hd.out
      clear hsz hdc
      rcases hways with ⟨ha, hf⟩ | ⟨ha, hb, hf⟩ | ⟨ha, hb, hd, hf⟩ | ⟨ha, hb, ⟨hl, hd⟩, hf⟩ | ⟨ha, hb, ⟨hl, hd⟩, hf⟩ | ⟨ha, hb, hd, ⟨hl, he⟩, hf⟩
      all_goals first | (exfalso; omega) | skip
      all_goals
        go_wp2
        refine bodyPost_ret (v := .tuple #[partV (firstP s.data.toList pos count).1, .int .i64 (firstP s.data.toList pos count).2]) (by rw [hf.out]; simp [results, Tryz.results116, go_sem, partV, Hv.out]) rfl ⟨rfl, ?_⟩
        exact ((Below.refl _ _).alloc (Nat.le_refl _) _)

end Go.Proofs.YtfchfjipkggnkaaGreatDoor

namespace Go.Proofs.YtfchfjipkggnkaaGreatDoor
open Go.RowKit Go.Shelf
attribute [local go_sem] Oper.semAt_some

def partsL (bs : List UInt8) : Nat → Nat → Nat → List PartT
  | 0, _, _ => []
  | f + 1, pos, count =>
    if (firstP bs pos count).1.err ≠ 0 ∨ (firstP bs pos count).2 = bs.length then [(firstP bs pos count).1]
    else if (bs.getD (firstP bs pos count).2 0).toNat ≠ 46 then [(firstP bs pos count).1, ⟨0, (firstP bs pos count).2, 6⟩]
    else (firstP bs pos count).1 :: partsL bs f ((firstP bs pos count).2 + 1) (count + 1)
def partsOf (bs : List UInt8) : List PartT := if bs = [] then [] else partsL bs 9 0 0

/-- What a round keeps: the boxes of parts and of strings. -/
structure KpT (W W' : World) : Prop where
  size : W.heap.size ≤ W'.heap.size
  same : ∀ (k : Nat) (c : Array Value) (t : TypeId) (fr : Nat × Nat), W.heap[k]? = some (.cells c t fr) → (t = 136 ∨ t = 9) → W'.heap[k]? = some (.cells c t fr)

theorem KpT.refl (W : World) : KpT W W := ⟨Nat.le_refl _, fun _ _ _ _ h _ => h⟩
theorem KpT.trans {A B C : World} (h : KpT A B) (k : KpT B C) : KpT A C := ⟨Nat.le_trans h.size k.size, fun i c t fr hi ht => k.same i c t fr (h.same i c t fr hi ht) ht⟩
theorem KpT.of_below {W W' : World} (h : Below W.heap.size W W') : KpT W W' := ⟨h.size, fun k _ _ _ hk _ => (h.block k (lt_of_heap hk)).trans hk⟩
theorem KpT.putObj {w : World} (W : World) (l : Nat) (o o' : Obj) (_ : w.heap.size ≤ l) (h : W.heap[l]? = some o) (hc : o.isCells = false) (_ : o.isWalk = false) : KpT W (W.putObj l o') :=
  ⟨by simp, fun k c t fr hk _ => by
    by_cases e : k = l
    · subst e; rw [h] at hk; cases hk; cases hc
    · exact (World.putObj_heap_other e).trans hk⟩

theorem first_le (bs : List UInt8) (pos count : Nat) (hp : pos ≤ bs.length) : (firstP bs pos count).2 ≤ bs.length ∧ (firstP bs pos count).1.pos = pos := by
  unfold firstP
  split
  · exact ⟨hp, rfl⟩
  · refine ⟨?_, rfl⟩
    have h : ∀ (m : Nat) (l : List UInt8), digCount m l ≤ l.length := by
      intro m
      induction m with
      | zero => intro l; simp [digCount]
      | succ m ih =>
        intro l
        cases l with
        | nil => simp [digCount]
        | cons b r => simp only [digCount]; split; have := ih r; simp; omega; simp
    have := h 7 (bs.drop pos)
    rw [List.length_drop] at this
    dsimp only
    omega
theorem first_err8 (bs : List UInt8) (pos : Nat) : (firstP bs pos 8).1.err = 9 := by simp [firstP, firstErr]

set_option maxRecDepth 100000 in
set_option maxHeartbeats 2000000 in
theorem parts1_in (n : Nat) (hn : 1 ≤ n) (l Bn : Nat) (s : ByteArray) (hs : s.size ≤ 70368744177664) (J Jx : List PartT → World → Prop) (W : World)
    (hJ : AbidesFrom W.heap.size J)
    (hY : ∀ pre (x : PartT) W1, J pre W1 → pre.length < 10 → YieldAt Fence.wide (n - 1) Tryz.prog l #[.agg #[.int .i64 x.ord, .int .i64 x.pos, .int .i64 x.err]] W1 fun e W' =>
      (e = .returned (.bool true) ∧ J (pre ++ [x]) W' ∧ KpT W1 W') ∨ (e = .returned (.bool false) ∧ Jx (pre ++ [x]) W'))
    (hBn : W.heap[Bn]? = some (.cells #[.string s] 9 (0, 0))) (h0 : J [] W) :
    CallsIn Fence.wide n Tryz.prog 115 #[.func (.yield l) #[] #[], .pointer (some ⟨Bn, 0, none⟩)] W fun e W' => (∃ v, e = .returned v) ∧
      ((∃ ys, ys = partsOf s.data.toList ∧ J ys W') ∨ (∃ pre, pre <+: partsOf s.data.toList ∧ Jx pre W')) := by
  refine callsIn_of_wp Tryz.func115 rfl trivial ?_ rfl
  simp only [Tryz.ntmps115, List.size_toArray, List.length_cons, List.length_nil, Nat.reduceAdd, Nat.reduceSub, Array.replicate_succ, Array.replicate_zero, List.push_toArray, List.append_toArray, List.nil_append, List.cons_append]
  have hc0 : W.cell? ⟨Bn, 0, none⟩ = some (.string s) := cell_of_heap hBn 0
  have HBn := Lib.hid hBn; clear hBn
  gi_wp2
  gi_loopw [3, 4] (fun a c wr => ∃ (pre : List PartT) (pos count : Nat), a = .int .i64 pos ∧ c = .int .i64 count ∧ pos ≤ s.size ∧ count ≤ 8 ∧ pre.length = count ∧ Hid (0 < s.size → partsOf s.data.toList = pre ++ partsL s.data.toList (9 - count) pos count) ∧ (s.size = 0 → count = 0) ∧ J pre wr ∧ wr.heap[Bn]? = some (.cells #[.string s] 9 (0, 0))) (fun _ c _ => 9 - (intOf c).toNat)
  case atStart =>
    refine ⟨[], 0, 0, rfl, rfl, Nat.zero_le _, Nat.zero_le _, rfl, fun h => ?_, fun _ => rfl, h0, HBn.out⟩
    have : s.data.toList ≠ [] := fun e => by have := size_toList s; rw [e] at this; simp at this; omega
    simp [partsOf, this]
  case round =>
    obtain ⟨pre, pos, count, rfl, rfl, hpos, hcount, hpl, Hparts, hz, hJr, hBr⟩ := hrel
    have hcr : wr.cell? ⟨Bn, 0, none⟩ = some (.string s) := cell_of_heap hBr 0
    have HBr := Lib.hid hBr; clear hBr
    have Hpl := Lib.hid hpl; clear hpl
    have Hz := Lib.hid hz; clear hz
    have hem := toList_empty s
    by_cases hse : s.size = 0
    · have hem' : s.toList.isEmpty = true := by rw [hem]; simp [hse]
      clear hem
      gi_wp2
      go_end0
      have hc0 := Hz.out hse
      have : pre = [] := List.eq_nil_of_length_eq_zero (by rw [Hpl.out, hc0])
      have hnil : s.data.toList = [] := List.eq_nil_of_length_eq_zero (by rw [size_toList]; exact hse)
      exact ⟨⟨_, rfl⟩, .inl ⟨pre, by rw [this, hnil]; rfl, hJr⟩⟩
    · have hem' : s.toList.isEmpty = false := by rw [hem]; simp [hse]
      have Hp := Lib.hid (Hparts.out (by omega)); clear Hparts
      have Hse := Lib.hid hse; clear hse
      clear hem
      gi_wp2_with fail
      refine ⟨trivial, (callsIn_wide.2 (first_any s pos count _ hs hpos hcount)).mono ?_⟩
      rintro e w1 ⟨rfl, hb1⟩
      have Hle := Lib.hid (first_le s.data.toList pos count (by rw [size_toList]; exact hpos))
      have H8 : Hid (count = 8 → (firstP s.data.toList pos count).1.err = 9) := fun e => by rw [e]; exact first_err8 _ _
      obtain ⟨f, hf⟩ : ∃ f, 9 - count = f + 1 := ⟨8 - count, by omega⟩
      have HpL : Hid (partsOf s.data.toList = pre ++ (if (firstP s.data.toList pos count).1.err ≠ 0 ∨ (firstP s.data.toList pos count).2 = s.data.toList.length then [(firstP s.data.toList pos count).1]
        else if (s.data.toList.getD (firstP s.data.toList pos count).2 0).toNat ≠ 46 then [(firstP s.data.toList pos count).1, ⟨0, (firstP s.data.toList pos count).2, 6⟩]
        else (firstP s.data.toList pos count).1 :: partsL s.data.toList f ((firstP s.data.toList pos count).2 + 1) (count + 1))) := by
        show _ = _
        rw [Hp.out, hf]; rfl
      have Hf := Lib.hid hf; clear hf
      clear Hp
      generalize hq : firstP s.data.toList pos count = q at *
      clear hq
      obtain ⟨⟨x1, x2, x3⟩, en⟩ := q
      dsimp only [partV] at *
      have hen : en ≤ s.size := by have := Hle.out.1; rw [size_toList] at this; exact this
      rw [size_toList] at HpL
      have hg1 : wr.grownBy (w1.alloc (.cells #[.int .i64 x1, .int .i64 x2, .int .i64 x3] 136)) none :=
        ⟨hb1.os, hb1.tape, hb1.output, Nat.le_trans hb1.size (by simp), fun k hk _ => (Below.heap_alloc _ _ _ (Nat.lt_of_lt_of_le hk hb1.size)).trans (hb1.block k hk)⟩
      have hBn1 : (w1.alloc (.cells #[.int .i64 x1, .int .i64 x2, .int .i64 x3] 136)).heap[Bn]? = some (.cells #[.string s] 9 (0, 0)) := (hg1.block Bn (lt_of_heap HBr.out) (by simp)).trans HBr.out
      have hpx : (w1.alloc (.cells #[.int .i64 x1, .int .i64 x2, .int .i64 x3] 136)).heap[w1.heap.size]? = some (.cells #[.int .i64 x1, .int .i64 x2, .int .i64 x3] 136 (0, 0)) := heap_alloc_new w1 _
      have hJ1 := hJ pre wr _ none hJr hg1 (fun r e => by cases e)
      obtain ⟨fn, tmps, assign, body, hy, hR⟩ := hY pre ⟨x1, x2, x3⟩ _ hJ1 (by have := Hpl.out; omega)
      dsimp only at hy
      have Hg1 := Lib.hid hg1; clear hg1
      have HBn1 := Lib.hid hBn1; clear hBn1
      have Hpx := Lib.hid hpx; clear hpx
      have Hb1 := Lib.hid hb1; clear hb1
      gi_wp2_with fail
      refine hR.mono ?_
      rintro e W3 (⟨rfl, hJ3, hk3⟩ | ⟨rfl, hJx3⟩)
      · have hp3 := hk3.same _ _ _ _ Hpx.out (.inl rfl)
        have hB3 := hk3.same _ _ _ _ HBn1.out (.inr rfl)
        have hc3 : W3.cell? ⟨w1.heap.size, 2, none⟩ = some (.int .i64 x3) := cell_of_heap hp3 2
        have hs3 : W3.cell? ⟨Bn, 0, none⟩ = some (.string s) := cell_of_heap hB3 0
        have HB3 := Lib.hid hB3; clear hB3
        clear hp3 hk3
        by_cases he : x3 = 0
        · have He := Lib.hid he
          have he' : ((x3 : Int) != 0) = false := by rw [he]; rfl
          clear he
          by_cases hfull : en = s.size
          · have hfull' : ((en : Int) == (s.size : Int)) = true := beq_iff_eq.2 (by omega)
            have Hfull := Lib.hid hfull; clear hfull
            gi_wp2
            refine bodyPost_ret (results_none rfl _ _ _) rfl ?_
            refine ⟨⟨_, rfl⟩, .inl ⟨pre ++ [⟨x1, x2, x3⟩], ?_, hJ3⟩⟩
            rw [HpL.out, if_pos (.inr Hfull.out)]
          · have hfull' : ((en : Int) == (s.size : Int)) = false := beq_eq_false_iff_ne.2 (by omega)
            have hlt : en < s.size := by omega
            have hbyte := at_byte s en hlt
            have Hfull := Lib.hid hfull; clear hfull
            by_cases hdot : (s.data.toList.getD en 0).toNat = 46
            · have hdot' : (((s[en]'hlt).toNat : Int) != 46) = false := by rw [hbyte, hdot]; rfl
              have Hdot := Lib.hid hdot; clear hdot
              clear hbyte
              have hc8 : count < 8 := by
                rcases Nat.lt_or_ge count 8 with h | h
                · exact h
                · have := H8.out (by omega); have := He.out; omega
              gi_wp2
              go_roundw
              case rel =>
                refine ⟨pre ++ [⟨x1, x2, x3⟩], en + 1, count + 1, by go_num, by go_num, by omega, by omega, by have := Hpl.out; simp; omega, fun _ => ?_, fun h => absurd h Hse.out, hJ3, HB3.out⟩
                rw [HpL.out, if_neg (by have := He.out; have := Hfull.out; omega), if_neg (by have := Hdot.out; omega)]
                have : 9 - (count + 1) = f := by have := Hf.out; omega
                rw [this]
                simp
              case measure => simp [intOf]; omega
            · have hdot' : (((s[en]'hlt).toNat : Int) != 46) = true := by rw [hbyte, bne_iff_ne]; omega
              have Hdot := Lib.hid hdot; clear hdot
              clear hbyte
              obtain ⟨fn2, tmps2, assign2, body2, hy2, hR2⟩ := hY (pre ++ [⟨x1, x2, x3⟩]) ⟨0, en, 6⟩ W3 hJ3 (by have := Hpl.out; simp; omega)
              dsimp only at hy2
              have hy2' : (Instr.yield l #[.agg #[.int .i64 0, .int .i64 en, .int .i64 6]]).run Tryz.prog W3 = .ok (.round l fn2 tmps2 assign2 body2) W3 := hy2
              clear hy2
              have hfin : Hid (partsOf s.data.toList = pre ++ [⟨x1, x2, x3⟩] ++ [⟨0, en, 6⟩]) := by
                show _ = _
                rw [HpL.out, if_neg (by have := He.out; have := Hfull.out; omega), if_pos (by have := Hdot.out; omega)]
                simp
              gi_wp2_with fail
              refine hR2.mono ?_
              rintro e W4 (⟨rfl, hJ4, hk4⟩ | ⟨rfl, hJx4⟩)
              · clear hk4
                gi_wp2
                refine bodyPost_ret (results_none rfl _ _ _) rfl ?_
                exact ⟨⟨_, rfl⟩, .inl ⟨_, hfin.out.symm, hJ4⟩⟩
              · gi_wp2
                refine bodyPost_ret (results_none rfl _ _ _) rfl ?_
                exact ⟨⟨_, rfl⟩, .inr ⟨_, by rw [hfin.out]; exact List.prefix_refl _, hJx4⟩⟩
        · have he' : ((x3 : Int) != 0) = true := bne_iff_ne.2 (by omega)
          have He := Lib.hid he; clear he
          gi_wp2
          refine bodyPost_ret (results_none rfl _ _ _) rfl ?_
          refine ⟨⟨_, rfl⟩, .inl ⟨pre ++ [⟨x1, x2, x3⟩], ?_, hJ3⟩⟩
          rw [HpL.out, if_pos (.inl He.out)]
      · gi_wp2
        refine bodyPost_ret (results_none rfl _ _ _) rfl ?_
        refine ⟨⟨_, rfl⟩, .inr ⟨pre ++ [⟨x1, x2, x3⟩], ?_, hJx3⟩⟩
        rw [HpL.out]
        split
        · exact List.prefix_refl _
        · split
          · exact ⟨[⟨0, en, 6⟩], by simp⟩
          · exact ⟨partsL s.data.toList f (en + 1) (count + 1), by simp⟩

end Go.Proofs.YtfchfjipkggnkaaGreatDoor
