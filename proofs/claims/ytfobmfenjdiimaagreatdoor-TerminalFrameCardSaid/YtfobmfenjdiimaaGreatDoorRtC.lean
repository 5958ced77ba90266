/- Law 36, plain: what the reference's Decode of a terminal answers is what the program's answers. Reference 36: CheckLine, Check. Reference 36: take, piece, Encode. Reference 36: Decode. -/
import Derived.Test.YtfobmfenjdiimaaGreatDoorCanon
import Derived.Test.YtfobmfenjdiimaaGreatDoorPlainA
import Derived.Test.YtfobmfenjdiimaaGreatDoorRefF
import Derived.Test.YtfobmfenjdiimaaGreatDoorTermB
import Derived.Test.YtfobmfenjdiimaaGreatDoorRfD
import Derived.Test.YtfobmfenjdiimaaGreatDoorTermD
import Derived.BigQuiet
import Derived.Deep.RegionHeld3
import Derived.Deep.DeepCutAuto
namespace Go.Proofs.YtfobmfenjdiimaaGreatDoor
open Go.RowKit

theorem rTake_small (s : ByteArray) : (rTake s).2.size ≤ s.size ∧ -1 ≤ (rTake s).1 ∧ (rTake s).1 ≤ 9223372036854775807 := by
  unfold rTake
  have h := parse9_small s.data.toList
  split
  · refine ⟨by simp [ByteArray.size_extract], by dsimp only; omega, by dsimp only; omega⟩
  · exact ⟨Nat.zero_le _, by decide, by decide⟩
/-- The text at the beginning of a string, and the rest. -/
def rPiece (s : ByteArray) : ByteArray × ByteArray :=
  if (rTake s).1 < 0 ∨ ((rTake s).2.size : Int) < (rTake s).1 then (⟨#[]⟩, ⟨#[]⟩) else ((rTake s).2.extract 0 (rTake s).1.toNat, (rTake s).2.extract (rTake s).1.toNat (rTake s).2.size)
theorem rPiece_small (s : ByteArray) : (rPiece s).1.size ≤ s.size ∧ (rPiece s).2.size ≤ s.size := by
  have h := (rTake_small s).1
  unfold rPiece
  split
  · exact ⟨Nat.zero_le _, Nat.zero_le _⟩
  · constructor <;> (simp only [ByteArray.size_extract]; omega)
/-- The texts that follow each other. -/
def rPieces : Nat → ByteArray → List ByteArray × ByteArray
  | 0, s => ([], s)
  | k + 1, s => ((rPieces k s).1 ++ [(rPiece (rPieces k s).2).1], (rPiece (rPieces k s).2).2)
theorem rPieces_length (k : Nat) (s : ByteArray) : (rPieces k s).1.length = k := by
  induction k with
  | zero => rfl
  | succ k ih => simp [rPieces, ih]
theorem rPieces_small (k : Nat) (s : ByteArray) : (rPieces k s).2.size ≤ s.size ∧ ∀ x ∈ (rPieces k s).1, x.size ≤ s.size := by
  induction k with
  | zero => exact ⟨Nat.le_refl _, fun x hx => by simp [rPieces] at hx⟩
  | succ k ih =>
    have h := rPiece_small (rPieces k s).2
    refine ⟨Nat.le_trans h.2 ih.1, fun x hx => ?_⟩
    simp only [rPieces, List.mem_append, List.mem_singleton] at hx
    rcases hx with hx | rfl
    · exact ih.2 x hx
    · exact Nat.le_trans h.1 ih.1
def rt2 (s : ByteArray) := rPiece (rTake s).2
def rt3 (s : ByteArray) := rTake (rt2 s).2
def rt4 (s : ByteArray) := rPieces (rt3 s).1.toNat (rt3 s).2
def rt5 (s : ByteArray) := rPiece (rt4 s).2
/-- The terminal that the reference guesses. -/
def gT (s : ByteArray) : TermT := ⟨(rTake s).1, (rt2 s).1, (rt4 s).1, (rt5 s).1⟩
/-- What the reference's Decode answers. -/
def rDecT (s : ByteArray) : TermT × Nat :=
  if (rt3 s).1 < 0 ∨ 16 < (rt3 s).1 then (zeroT, 3)
  else if encT (gT s) = (s, 0) ∧ (rt5 s).2 = ⟨#[]⟩ then (gT s, 0) else (zeroT, 3)

theorem strOf_size (bs : List UInt8) : (strOf bs).size = bs.length := by rw [← size_toList]; simp [strOf]
theorem strOf_left (a b : List UInt8) : (strOf (a ++ b)).extract 0 a.length = strOf a := by
  unfold strOf
  apply ByteArray.ext
  apply Array.toList_inj.1
  simp [ByteArray.data_extract]
theorem strOf_right (a b : List UInt8) : (strOf (a ++ b)).extract a.length (strOf (a ++ b)).size = strOf b := by
  rw [strOf_size]
  unfold strOf
  apply ByteArray.ext
  apply Array.toList_inj.1
  simp [ByteArray.data_extract]
theorem rTake_nat (n : Nat) (rest : List UInt8) (hn : n < 9223372036854775808) : rTake (strOf (natBytes n ++ rest)) = ((n : Int), strOf rest) := by
  have hl : (strOf (natBytes n ++ rest)).data.toList = natBytes n ++ rest := by simp [strOf]
  have hp := parse_nat n rest hn
  unfold rTake
  rw [hl, hp, if_pos rfl]
  exact Prod.ext rfl (strOf_right _ _)
theorem rPiece_text (t : ByteArray) (rest : List UInt8) (ht : t.size < 9223372036854775808) : rPiece (strOf (textB t ++ rest)) = (t, strOf rest) := by
  have h : rTake (strOf (textB t ++ rest)) = ((t.size : Int), strOf (t.data.toList ++ rest)) := by
    have := rTake_nat t.size (t.data.toList ++ rest) ht
    rwa [← List.append_assoc] at this
  unfold rPiece
  rw [h]
  dsimp only
  rw [if_neg (by rw [strOf_size, List.length_append, size_toList]; omega), Int.toNat_natCast, ← size_toList t, strOf_left, strOf_right, strOf_toList]
theorem rPieces_lines (ls : List ByteArray) (rest : List UInt8) (hs : ∀ s ∈ ls, s.size ≤ 1024) (k : Nat) (hk : k ≤ ls.length) : rPieces k (strOf (linesB ls ++ rest)) = (ls.take k, strOf (linesB (ls.drop k) ++ rest)) := by
  induction k with
  | zero => simp [rPieces]
  | succ k ih =>
    have hk' : k < ls.length := by omega
    have hd : ls.drop k = ls[k] :: ls.drop (k + 1) := List.drop_eq_getElem_cons hk'
    have hl : linesB (ls.drop k) ++ rest = textB ls[k] ++ (linesB (ls.drop (k + 1)) ++ rest) := by
      rw [hd]
      simp only [linesB, List.flatMap_cons, List.append_assoc]
    have ht := rPiece_text ls[k] (linesB (ls.drop (k + 1)) ++ rest) (by have := hs _ (List.getElem_mem hk'); omega)
    simp only [rPieces, ih (by omega)]
    rw [hl]
    rw [ht, List.take_succ_eq_append_getElem hk']

theorem rDecT_enc (t : TermT) (h : checkT t = 0) (hse : t.session.size ≤ 65536) : rDecT (strOf (encB t)) = (t, 0) := by
  obtain ⟨h1, _, h3, h4, _, h6⟩ := checkT_ok h
  have he : encT t = (strOf (encB t), 0) := if_pos h
  obtain ⟨ep, se, ls, sc⟩ := t
  dsimp only at *
  have hlines : ∀ s ∈ ls, s.size ≤ 1024 := fun s hm => lineE_size (linesE_size h4 s hm)
  have e0 : encB ⟨ep, se, ls, sc⟩ = natBytes ep.toNat ++ (textB se ++ (natBytes ls.length ++ (linesB ls ++ (textB sc ++ [])))) := by
    simp [encB, headB]
  have e1 : rTake (strOf (encB ⟨ep, se, ls, sc⟩)) = (ep, strOf (textB se ++ (natBytes ls.length ++ (linesB ls ++ (textB sc ++ []))))) := by
    rw [e0, rTake_nat _ _ (by omega), Int.toNat_of_nonneg h1.1]
  have e2 : rt2 (strOf (encB ⟨ep, se, ls, sc⟩)) = (se, strOf (natBytes ls.length ++ (linesB ls ++ (textB sc ++ [])))) := by
    unfold rt2
    rw [e1]
    exact rPiece_text _ _ (by omega)
  have e3 : rt3 (strOf (encB ⟨ep, se, ls, sc⟩)) = ((ls.length : Int), strOf (linesB ls ++ (textB sc ++ []))) := by
    unfold rt3
    rw [e2]
    exact rTake_nat _ _ (by omega)
  have e4 : rt4 (strOf (encB ⟨ep, se, ls, sc⟩)) = (ls, strOf (textB sc ++ [])) := by
    unfold rt4
    rw [e3]
    dsimp only
    rw [Int.toNat_natCast, rPieces_lines ls _ hlines _ (Nat.le_refl _)]
    simp [linesB]
  have e5 : rt5 (strOf (encB ⟨ep, se, ls, sc⟩)) = (sc, strOf []) := by
    unfold rt5
    rw [e4]
    exact rPiece_text _ _ (by omega)
  have eg : gT (strOf (encB ⟨ep, se, ls, sc⟩)) = ⟨ep, se, ls, sc⟩ := by
    unfold gT
    rw [e1, e2, e4, e5]
  unfold rDecT
  rw [e3, e5, eg, if_neg (by dsimp only; omega), if_pos ⟨he, rfl⟩]

theorem rdTexts_canon (k : Nat) (s : RdS) (h : (rdTexts k s).2.fail = 0) : s.fail = 0 ∧ s.rest = linesB (rdTexts k s).1 ++ (rdTexts k s).2.rest := by
  induction k with
  | zero => exact ⟨h, by simp [rdTexts, linesB]⟩
  | succ k ih =>
    obtain ⟨h1, h2⟩ := rdText_canon 1024 (rdTexts k s).2.rest (rdTexts k s).2.fail h
    obtain ⟨h3, h4⟩ := ih h1
    refine ⟨h3, h4.trans ?_⟩
    have h2' : (rdTexts k s).2.rest = textB (strOf (rdText 1024 (rdTexts k s).2).1) ++ (rdText 1024 (rdTexts k s).2).2.rest := h2
    rw [h2']
    simp [rdTexts, linesB]
theorem rdText_can (most : Int) (s : RdS) (h : (rdText most s).2.fail = 0) : s.fail = 0 ∧ s.rest = textB (strOf (rdText most s).1) ++ (rdText most s).2.rest := by
  cases s
  exact rdText_canon _ _ _ h
theorem rdNum_can (most : Int) (s : RdS) (h : (rdNum most s).2.fail = 0) : s.fail = 0 ∧ s.rest = natBytes (rdNum most s).1 ++ (rdNum most s).2.rest := by
  cases s
  exact rdNum_canon _ _ _ h
theorem rd4_eq (bs : List UInt8) : rdTexts (rd3 bs).1 (rd3 bs).2 = rd4 bs := rfl
theorem decT_canon (s : ByteArray) (h : rdClose (rd5 s.data.toList).2 = 0 ∧ checkT (decP s.data.toList) = 0) : s = strOf (encB (decP s.data.toList)) := by
  obtain ⟨h1, h2⟩ := rdClose_ok _ h.1
  obtain ⟨f4, e5⟩ := rdText_can 2048 (rd4 s.data.toList).2 h1
  obtain ⟨f3, e4⟩ := rdTexts_canon (rd3 s.data.toList).1 (rd3 s.data.toList).2 (by rw [rd4_eq]; exact f4)
  rw [rd4_eq] at e4
  obtain ⟨f2, e3⟩ := rdNum_can 16 (rd2 s.data.toList).2 f3
  obtain ⟨f1, e2⟩ := rdText_can 65536 (rd1 s.data.toList).2 f2
  obtain ⟨-, e1⟩ := rdNum_canon 1073741824 s.data.toList 0 f1
  have e : s.data.toList = encB (decP s.data.toList) := by
    have e5' : (rd4 s.data.toList).2.rest = textB (strOf (rd5 s.data.toList).1) ++ (rd5 s.data.toList).2.rest := e5
    have e4' : (rd3 s.data.toList).2.rest = linesB (rd4 s.data.toList).1 ++ (rd4 s.data.toList).2.rest := e4
    have e3' : (rd2 s.data.toList).2.rest = natBytes (rd3 s.data.toList).1 ++ (rd3 s.data.toList).2.rest := e3
    have e2' : (rd1 s.data.toList).2.rest = textB (strOf (rd2 s.data.toList).1) ++ (rd2 s.data.toList).2.rest := e2
    have e1' : s.data.toList = natBytes (rd1 s.data.toList).1 ++ (rd1 s.data.toList).2.rest := e1
    have hl : (rd4 s.data.toList).1.length = (rd3 s.data.toList).1 := by rw [← rd4_eq]; exact rdTexts_length _ _
    rw [h2] at e5'
    have : natBytes (rd1 s.data.toList).1 ++ (rd1 s.data.toList).2.rest = encB (decP s.data.toList) := by
      rw [e2', e3', e4', e5']
      simp [encB, headB, decP, hl]
    exact e1'.trans this
  rw [← e]
  exact (strOf_toList s).symm
theorem encT_err (t : TermT) : (encT t).2 = checkT t := by
  unfold encT
  by_cases h : checkT t = 0
  · rw [if_pos h, h]
  · rw [if_neg h]
theorem rDecT_is (s : ByteArray) (hs : s.size ≤ 65536) : rDecT s = decT s := by
  by_cases h : rdClose (rd5 s.data.toList).2 = 0 ∧ checkT (decP s.data.toList) = 0
  · have hs2 := decT_canon s h
    have hd : decT s = (decP s.data.toList, 0) := if_pos h
    rw [hd]
    have hsz : (decP s.data.toList).session.size ≤ 65536 := by
      have h0 : s.size = (encB (decP s.data.toList)).length := by rw [← strOf_size, ← hs2]
      have h1 : (decP s.data.toList).session.size ≤ (encB (decP s.data.toList)).length := by
        simp only [encB, headB, textB, List.length_append, size_toList]
        omega
      omega
    have hr := rDecT_enc _ h.2 hsz
    rw [← hs2] at hr
    exact hr
  · have hd : decT s = (zeroT, 3) := if_neg h
    unfold rDecT
    by_cases h1 : (rt3 s).1 < 0 ∨ 16 < (rt3 s).1
    · rw [if_pos h1, hd]
    rw [if_neg h1]
    by_cases h2 : encT (gT s) = (s, 0) ∧ (rt5 s).2 = ⟨#[]⟩
    · exfalso
      have hc : checkT (gT s) = 0 := by rw [← encT_err, h2.1]
      have hs2 : strOf (encB (gT s)) = s := by
        have : encT (gT s) = (strOf (encB (gT s)), 0) := if_pos hc
        rw [this] at h2
        exact (Prod.mk.inj h2.1).1
      have hsz : (gT s).session.size ≤ 65536 := Nat.le_trans (Nat.le_trans (rPiece_small _).1 (rTake_small s).1) hs
      have := dec_enc _ hc hsz
      rw [hs2, hd] at this
      cases (Prod.mk.inj this).2
    · rw [if_neg h2, hd]
end Go.Proofs.YtfobmfenjdiimaaGreatDoor

namespace Go.Proofs.YtfobmfenjdiimaaGreatDoor
open Go.RowKit
attribute [local go_sem ↓] Go.wp_at_zero Go.wp_at_succ

set_option maxRecDepth 100000 in
set_option maxHeartbeats 1000000 in
theorem rLine_any (s : ByteArray) (w : World) (hs : s.size ≤ 9223372036854775807) : Calls Tryz.prog 102 #[.string s] w fun r w' => r = .returned (.int .i64 (lineE s)) ∧ w = w' := by
  by_cases hl : 1024 < s.size
  · have he : Hid (lineE s = 5) := by show _ = _; simp [lineE, hl]
    go_enter Tryz.func102, Tryz.ntmps102
    go_wp2
    go_ret
    rw [he.out]
    exact ⟨rfl, rfl⟩
  · go_enter Tryz.func102, Tryz.ntmps102
    go_wp2
    go_loop [3] (fun i => ∃ k : Nat, k ≤ s.size ∧ i = .int .i64 k ∧ Hid (∀ j, j < k → badByte (s.data.toList.getD j 0) = false)) (fun i => s.size - (intOf i).toNat)
    case atStart => exact ⟨0, by omega, rfl, fun j hj => by omega⟩
    case round =>
      obtain ⟨k, hk, rfl, Hd⟩ := hrel
      by_cases h1 : k < s.size
      · have hgb := at_byte s k h1
        have hlt : k < s.data.toList.length := by rw [size_toList]; exact h1
        have Hlt := Lib.hid hlt; clear hlt
        by_cases h2 : (s.data.toList.getD k 0).toNat < 32
        · have he : Hid (lineE s = 6) := by
            show _ = _
            have : s.data.toList.any badByte = true := any_getD.2 ⟨k, Hlt.out, by unfold badByte; rw [decide_eq_true h2]; rfl⟩
            simp [lineE, hl, this]
          rw [← hgb] at h2
          clear hgb
          go_wp2
          go_ret
          rw [he.out]
          exact ⟨rfl, rfl⟩
        · by_cases h3 : (s.data.toList.getD k 0).toNat = 127
          · have he : Hid (lineE s = 6) := by
              show _ = _
              have : s.data.toList.any badByte = true := any_getD.2 ⟨k, Hlt.out, by unfold badByte; rw [decide_eq_true h3, Bool.or_true]⟩
              simp [lineE, hl, this]
            rw [← hgb] at h2 h3
            have h3' : (((s[k]'h1).toNat : Int) == 127) = true := beq_iff_eq.2 (by omega)
            clear hgb h3
            go_wp2
            go_ret
            rw [he.out]
            exact ⟨rfl, rfl⟩
          · have hb : Hid (badByte (s.data.toList.getD k 0) = false) := by show _ = _; unfold badByte; rw [decide_eq_false h2, decide_eq_false h3]; rfl
            rw [← hgb] at h2 h3
            have h3' : (((s[k]'h1).toNat : Int) == 127) = false := beq_eq_false_iff_ne.2 (by omega)
            clear hgb h3
            go_wp2
            go_round
            case rel =>
              refine ⟨k + 1, by omega, by go_num, fun j hj => ?_⟩
              by_cases hjk : j = k
              · subst hjk; exact hb.out
              · exact Hd.out j (by omega)
            case measure => simp [intOf]; omega
      · have he : Hid (lineE s = 0) := by
          show _ = _
          have : s.data.toList.any badByte = false := by
            cases h : s.data.toList.any badByte with
            | false => rfl
            | true =>
              obtain ⟨j, hj, hb⟩ := any_getD.1 h
              rw [size_toList] at hj
              rw [Hd.out j (by omega)] at hb
              cases hb
          simp [lineE, hl, this]
        go_wp2
        go_ret
        rw [he.out]
        exact ⟨rfl, rfl⟩
theorem rLine_is (s : ByteArray) (e : Nat) (h : lineE s = e) (w : World) (hs : s.size ≤ 9223372036854775807) : Calls Tryz.prog 102 #[.string s] w fun r w' => r = .returned (.int .i64 e) ∧ w = w' := by
  subst h; exact rLine_any s w hs

set_option maxRecDepth 100000 in
set_option maxHeartbeats 2000000 in
theorem rTermCheck_any (ep : Int) (se sc : ByteArray) (a : Option Addr) (n c : Nat) (ls : List ByteArray) (w : World) (hs : SSl w a n ls) (hse : se.size ≤ 70368744177664) (hsc : sc.size ≤ 70368744177664) (hn : n ≤ 70368744177664) (hls : ∀ s ∈ ls, s.size ≤ 70368744177664) :
    Calls Tryz.prog 66 #[.agg #[.int .i64 ep, .string se, .slice a n c, .string sc]] w fun r w' => r = .returned (.int .i64 (checkT ⟨ep, se, ls, sc⟩)) ∧ Below w.heap.size w w' := by
  have Hs := Lib.hid hs; clear hs
  have Hls := Lib.hid hls; clear hls
  have Hbx : Hid (∀ v t, Below w.heap.size w (w.alloc (.cells v t))) := fun v t => (Below.refl _ _).alloc (Nat.le_refl _) _
  cases h1 : epochB ep with
  | false =>
    have he : Hid (checkT ⟨ep, se, ls, sc⟩ = 2) := by show _ = _; simp [checkT, h1]
    have hways : ep < 0 ∨ (¬ ep < 0 ∧ 1073741824 < ep) := by
      unfold epochB at h1
      have := of_decide_eq_false h1
      omega
    clear h1
    rcases hways with h2 | ⟨h2, h3⟩
    all_goals
      go_enter Tryz.func66, Tryz.ntmps66
      go_wp2
      go_ret
      rw [he.out]
      exact ⟨rfl, Hbx.out _ _⟩
  | true =>
    have h1a : 0 ≤ ep ∧ ep ≤ 1073741824 := of_decide_eq_true h1
    obtain ⟨h1b, h1c⟩ := h1a
    have H1 := Lib.hid h1; clear h1
    go_enter Tryz.func66, Tryz.ntmps66
    go_wp2_with fail
    cases h2 : validB se with
    | false =>
      refine (rValid_is se _ h2 hse _).mono ?_
      rintro e w1 ⟨rfl, hb1⟩
      have he : Hid (checkT ⟨ep, se, ls, sc⟩ = 12) := by show _ = _; simp [checkT, H1.out, h2]
      go_wp2
      go_ret
      rw [he.out]
      exact ⟨rfl, (Hbx.out _ _).trans (hb1.mono (by simp))⟩
    | true =>
      refine (rValid_is se _ h2 hse _).mono ?_
      rintro e w1 ⟨rfl, hb1⟩
      have q : ∀ j, w1.cell? ⟨w.heap.size, j, none⟩ = (#[.int .i64 ep, .string se, .slice a n c, .string sc] : Array Value)[j]? := fun j => ((bcell hb1).1 _ _ (by simp)).trans (cell_of_heap (World.alloc_heap_new w _) j)
      have q1 := q 1
      have q2 := q 2
      have q3 := q 3
      dsimp at q1 q2 q3
      have Hb1 : Hid (Below w.heap.size w w1) := (Hbx.out _ _).trans (hb1.mono (by simp))
      have HS1 : Hid (SSl w1 a n ls) := Hs.out.later Hb1.out
      have hln := HS1.out.1
      have Hln := Lib.hid hln; clear hln
      have H2 := Lib.hid h2; clear h2
      clear q hb1 Hs Hbx
      by_cases h3 : 16 < n
      · have he : Hid (checkT ⟨ep, se, ls, sc⟩ = 9) := by show _ = _; simp [checkT, H1.out, H2.out, Hln.out, h3]
        go_wp2
        go_ret
        rw [he.out]
        exact ⟨rfl, Hb1.out⟩
      · go_wp2
        go_loop [3] (fun i => ∃ k : Nat, k ≤ n ∧ i = .int .i64 k ∧ Hid (∀ j, j < k → lineE (ls.getD j ⟨#[]⟩) = 0)) (fun i => n - (intOf i).toNat)
        case atStart => exact ⟨0, by omega, rfl, fun j hj => by omega⟩
        case round =>
          obtain ⟨k, hk, rfl, Hd⟩ := hrel
          by_cases h4 : k < n
          · obtain ⟨g, off, rfl, hcell⟩ := HS1.out.2 (by omega)
            have hck := hcell k h4
            clear hcell
            have hszk : (ls.getD k ⟨#[]⟩).size ≤ 70368744177664 := by
              rw [List.getD_eq_getElem?_getD, List.getElem?_eq_getElem (by rw [Hln.out]; exact h4)]
              exact Hls.out _ (List.getElem_mem _)
            by_cases h5 : lineE (ls.getD k ⟨#[]⟩) = 0
            · have Hstep : Hid (∀ j, j < k + 1 → lineE (ls.getD j ⟨#[]⟩) = 0) := fun j hj => by
                by_cases hjk : j = k
                · subst hjk; exact h5
                · exact Hd.out j (by omega)
              generalize ls.getD k ⟨#[]⟩ = lk at *
              go_wp2_with fail
              refine (rLine_is lk 0 h5 _ (by omega)).mono ?_
              rintro e w2 ⟨rfl, rfl⟩
              go_wp2
              go_round
              case rel => exact ⟨k + 1, by omega, by go_num, Hstep.out⟩
              case measure => simp [intOf]; omega
            · have he : Hid (checkT ⟨ep, se, ls, sc⟩ = lineE (ls.getD k ⟨#[]⟩)) := by
                have hbad := linesE_bad (by rw [Hln.out]; exact h4) Hd.out h5
                show _ = _
                rw [← hbad]
                rw [← hbad] at h5
                simp [checkT, H1.out, H2.out, Hln.out, h3, h5]
              generalize ls.getD k ⟨#[]⟩ = lk at *
              generalize hq : lineE lk = q at *
              have Hq := Lib.hid hq; clear hq
              have h5' : ((q : Int) != 0) = true := bne_iff_ne.2 (by omega)
              go_wp2_with fail
              refine (rLine_is lk q Hq.out _ (by omega)).mono ?_
              rintro e w2 ⟨rfl, rfl⟩
              go_wp2
              go_ret
              rw [he.out]
              exact ⟨rfl, Hb1.out⟩
          · have hall : Hid (linesE ls = 0) := linesE_ok (fun j hj => Hd.out j (by rw [Hln.out] at hj; omega))
            have hte := toList_empty se
            by_cases h7 : 0 < n
            · by_cases h6 : se.size = 0
              · have he : Hid (checkT ⟨ep, se, ls, sc⟩ = 10) := by show _ = _; simp [checkT, H1.out, H2.out, Hln.out, h3, hall.out, h6, h7]
                rw [h6] at hte
                have hte' : se.toList.isEmpty = true := by simpa using hte
                clear hte
                go_wp2
                all_goals
                  go_ret
                  rw [he.out]
                  exact ⟨rfl, Hb1.out⟩
              · have hte' : se.toList.isEmpty = false := by simpa [h6] using hte
                clear hte
                by_cases h8 : 2048 < sc.size
                · have he : Hid (checkT ⟨ep, se, ls, sc⟩ = 5) := by show _ = _; simp [checkT, H1.out, H2.out, Hln.out, h3, hall.out, h6, h8]
                  go_wp2
                  all_goals
                    go_ret
                    rw [he.out]
                    exact ⟨rfl, Hb1.out⟩
                · have he : Hid (checkT ⟨ep, se, ls, sc⟩ = 0) := by show _ = _; simp [checkT, H1.out, H2.out, Hln.out, h3, hall.out, h6, h8]
                  go_wp2
                  all_goals
                    go_ret
                    rw [he.out]
                    exact ⟨rfl, Hb1.out⟩
            · clear hte
              by_cases h8 : 2048 < sc.size
              · have he : Hid (checkT ⟨ep, se, ls, sc⟩ = 5) := by show _ = _; simp [checkT, H1.out, H2.out, Hln.out, h3, hall.out, h7, h8]
                go_wp2
                all_goals
                  go_ret
                  rw [he.out]
                  exact ⟨rfl, Hb1.out⟩
              · have he : Hid (checkT ⟨ep, se, ls, sc⟩ = 0) := by show _ = _; simp [checkT, H1.out, H2.out, Hln.out, h3, hall.out, h7, h8]
                go_wp2
                all_goals
                  go_ret
                  rw [he.out]
                  exact ⟨rfl, Hb1.out⟩
theorem rTermCheck_is (ep : Int) (se sc : ByteArray) (a : Option Addr) (n c : Nat) (ls : List ByteArray) (e : Nat) (he : checkT ⟨ep, se, ls, sc⟩ = e) (w : World) (hs : SSl w a n ls) (hse : se.size ≤ 70368744177664) (hsc : sc.size ≤ 70368744177664) (hn : n ≤ 70368744177664) (hls : ∀ s ∈ ls, s.size ≤ 70368744177664) :
    Calls Tryz.prog 66 #[.agg #[.int .i64 ep, .string se, .slice a n c, .string sc]] w fun r w' => r = .returned (.int .i64 e) ∧ Below w.heap.size w w' := by
  subst he; exact rTermCheck_any ep se sc a n c ls w hs hse hsc hn hls
end Go.Proofs.YtfobmfenjdiimaaGreatDoor

namespace Go.Proofs.YtfobmfenjdiimaaGreatDoor
open Go.RowKit
attribute [local go_sem ↓] Go.wp_at_zero Go.wp_at_succ

set_option maxRecDepth 100000 in
set_option maxHeartbeats 1000000 in
theorem take36_any (s : ByteArray) (w : World) (hs : s.size ≤ 35184372088832) :
    Calls Tryz.prog 30 #[.string s] w fun r w' => r = .returned (.tuple #[.int .i64 (rTake s).1, .string (rTake s).2]) ∧ Below w.heap.size w w' := by
  have hconv := Lib.run_convert_string_bytes (P := Tryz.prog) w 9 48 5 s Tryz.underlying9 Tryz.underlying48 Tryz.underlying5
  have Hsl := Lib.hid (bytes_BSl w s)
  have Hb := Lib.hid (pBytes_below w 5 s)
  have Hlen : Hid (s.data.toList.length ≤ 70368744177664) := by show _ ≤ _; rw [size_toList]; omega
  go_enter Tryz.func30, Tryz.ntmps30
  go_wp2_with fail
  refine (rfParse_any _ _ _ _ _ _ Hlen.out Hsl.out).mono ?_
  rintro e w1 ⟨rfl, rfl⟩
  clear hconv Hsl
  obtain ⟨h1, h2, h3, h4⟩ := parse9_small s.data.toList
  rw [size_toList] at h2
  have T1 := Lib.hid (rfTake_fst s)
  have T2 := Lib.hid (rfTake_bad s)
  generalize hq : parseNat 9 s.data.toList = q at *
  obtain ⟨q1, q2, q3⟩ := q
  dsimp only at *
  clear hq
  by_cases h0 : q3 = 0
  · have he := Lib.hid (T1.out h0)
    subst h0
    clear T1 T2
    go_wp2_with fail
    go_quiet (fail)
    go_wp2
    go_ret2
    rw [he.out]
    exact ⟨rfl, Hb.out.trans ((below_drewN (Below.refl _ _) _).mono Hb.out.size)⟩
  · have he := Lib.hid (T2.out h0)
    have h0' : ((q3 : Int) == 0) = false := beq_eq_false_iff_ne.2 (by omega)
    clear T1 T2 h0
    go_wp2
    go_ret2
    rw [he.out]
    exact ⟨rfl, Hb.out⟩

theorem rPiece_bad (s : ByteArray) (h : (rTake s).1 < 0 ∨ ((rTake s).2.size : Int) < (rTake s).1) : rPiece s = (⟨#[]⟩, ⟨#[]⟩) := if_pos h
theorem rPiece_good (s : ByteArray) (h : ¬ ((rTake s).1 < 0 ∨ ((rTake s).2.size : Int) < (rTake s).1)) : rPiece s = ((rTake s).2.extract 0 (rTake s).1.toNat, (rTake s).2.extract (rTake s).1.toNat (rTake s).2.size) := if_neg h
set_option maxRecDepth 100000 in
set_option maxHeartbeats 1000000 in
theorem piece36_any (s : ByteArray) (w : World) (hs : s.size ≤ 35184372088832) :
    Calls Tryz.prog 31 #[.string s] w fun r w' => r = .returned (.tuple #[.string (rPiece s).1, .string (rPiece s).2]) ∧ Below w.heap.size w w' := by
  have T1 := Lib.hid (rPiece_bad s)
  have T2 := Lib.hid (rPiece_good s)
  have T3 := rTake_small s
  have Hsz : Hid ((rTake s).2.size ≤ 35184372088832) := Nat.le_trans T3.1 hs
  have Hs := Lib.hid hs
  clear hs T3
  go_enter Tryz.func31, Tryz.ntmps31
  go_wp2_with fail
  refine (take36_any s _ Hs.out).mono ?_
  rintro e w1 ⟨rfl, hb⟩
  have Hb := Lib.hid hb
  clear hb
  generalize rTake s = t at *
  obtain ⟨n, rest⟩ := t
  dsimp only at *
  by_cases h0 : n < 0 ∨ (rest.size : Int) < n
  · have he := Lib.hid (T1.out h0)
    have hways : n < 0 ∨ (¬ n < 0 ∧ (rest.size : Int) < n) := by omega
    clear T1 T2 h0
    rcases hways with h1 | ⟨h1, h2⟩
    all_goals
      go_wp2
      go_ret2
      rw [he.out]
      exact ⟨rfl, Hb.out⟩
  · have he := Lib.hid (T2.out h0)
    obtain ⟨m, rfl⟩ := Int.eq_ofNat_of_zero_le (a := n) (by omega)
    have hm : m ≤ rest.size := by omega
    have hz := Hsz.out
    clear T1 T2 h0
    go_wp2_with fail
    go_quiet (fail)
    go_wp2
    go_ret2
    rw [he.out]
    exact ⟨rfl, Hb.out.trans ((below_drewN (Below.refl _ _) _).mono Hb.out.size)⟩

theorem text_ne (s : ByteArray) : natBytes s.size ++ s.data.toList ≠ [] := fun h => pNat_ne _ (List.append_eq_nil_iff.1 h).1
theorem rfText_w (s : ByteArray) (w : World) (hs : s.size ≤ 1099511627776) : Calls Tryz.prog 68 #[.string s] w (Appended w (.slice none 0 0) (natBytes s.size ++ s.data.toList)) := rfText_any s w hs
theorem encB_len1 {t : TermT} (h1 : t.session.size ≤ 56) : (natBytes t.epoch.toNat ++ (natBytes t.session.size ++ t.session.data.toList)).length ≤ 1000 := by
  have a1 := natBytes_length t.epoch.toNat
  have a2 := natBytes_length t.session.size
  simp only [List.length_append, size_toList]
  omega
theorem linesB_le {ls : List ByteArray} (h3 : ls.length ≤ 16) (h : ∀ s ∈ ls, s.size ≤ 1024) (k : Nat) : (linesB (ls.take k)).length ≤ 20000 := by
  have h1 := linesB_length (ls := ls.take k) (fun s hs => h s (List.mem_of_mem_take hs))
  have h2 : (ls.take k).length ≤ 16 := Nat.le_trans (List.length_take_le' _ _) h3
  omega
/-- The row out in the midst of Encode. -/
structure EnR (w1 wr : World) (v : Value) (bs : List UInt8) : Prop where
  row : BRow wr v bs
  low : Below w1.heap.size w1 wr
  own : ∀ g, v.ownBlock = some g → w1.heap.size ≤ g
theorem EnR.keep {w1 wr w2 : World} {v : Value} {bs : List UInt8} (h : EnR w1 wr v bs) (hg : wr.grownBy w2 none) : EnR w1 w2 v bs := ⟨brow_kept h.row hg, pBelow_row h.low hg (Nat.le_refl _) (fun k hk => by cases hk), h.own⟩
theorem EnR.grow {w1 wr w2 : World} {g m cap g' m' cap' : Nat} {bs bs' : List UInt8} (h : EnR w1 wr (.slice (some ⟨g, 0, none⟩) m cap) bs) (hr : BRow w2 (.slice (some ⟨g', 0, none⟩) m' cap') bs') (hg : wr.grownBy w2 (Value.slice (some ⟨g, 0, none⟩) m cap).ownBlock) (hl : LiesAt wr (.slice (some ⟨g, 0, none⟩) m cap) g') : EnR w1 w2 (.slice (some ⟨g', 0, none⟩) m' cap') bs' := by
  have h0 : w1.heap.size ≤ g := h.own g rfl
  refine ⟨hr, pBelow_row h.low hg (Nat.le_refl _) (fun k hk => h.own k hk), fun k hk => ?_⟩
  have hk : some g' = some k := hk
  cases hk
  rcases hl with h1 | h1
  · have h1 : some g = some g' := h1
    cases h1; exact h0
  · exact Nat.le_trans h.low.size h1
theorem EnR.new {w1 w2 w3 : World} {g m cap : Nat} {bs : List UInt8} (hb : Below w1.heap.size w1 w2) (hr : BRow w3 (.slice (some ⟨g, 0, none⟩) m cap) bs) (hg : w2.grownBy w3 none) (hl : LiesAt w2 (.slice none 0 0) g) : EnR w1 w3 (.slice (some ⟨g, 0, none⟩) m cap) bs :=
  ⟨hr, pBelow_row hb hg (Nat.le_refl _) (fun k hk => by cases hk), fun k hk => by
    have hk : some g = some k := hk
    cases hk
    exact Nat.le_trans hb.size (lies_new hl)⟩

set_option maxRecDepth 100000 in
set_option maxHeartbeats 4000000 in
theorem rEnc36_any (ep : Int) (se sc : ByteArray) (a : Option Addr) (n c : Nat) (ls : List ByteArray) (w : World) (hs : SSl w a n ls) (hse : se.size ≤ 70368744177664) (hsc : sc.size ≤ 70368744177664) (hn : n ≤ 70368744177664) (hls : ∀ s ∈ ls, s.size ≤ 70368744177664) :
    Calls Tryz.prog 32 #[.agg #[.int .i64 ep, .string se, .slice a n c, .string sc]] w fun r w' => r = .returned (.tuple #[.string (encT ⟨ep, se, ls, sc⟩).1, .int .i64 (encT ⟨ep, se, ls, sc⟩).2]) ∧ Below w.heap.size w w' := by
  have Hbx : Hid (∀ v t, Below w.heap.size w (w.alloc (.cells v t))) := fun v t => (Below.refl _ _).alloc (Nat.le_refl _) _
  have HS : Hid (∀ W, Below w.heap.size w W → SSl W a n ls) := fun W hW => hs.later hW
  generalize hq : checkT ⟨ep, se, ls, sc⟩ = q at *
  have Hq := Lib.hid hq
  have Hck : Hid (∀ W, Below w.heap.size w W → Calls Tryz.prog 66 #[.agg #[.int .i64 ep, .string se, .slice a n c, .string sc]] W fun r w' => r = .returned (.int .i64 q) ∧ Below W.heap.size W w') := fun W hW => rTermCheck_is ep se sc a n c ls q hq W (hs.later hW) hse hsc hn hls
  clear hq hs hse hsc hn hls
  go_enter Tryz.func32, Tryz.ntmps32
  go_wp2_with fail
  refine (Hck.out _ (Hbx.out _ _)).mono ?_
  rintro e w1 ⟨rfl, hb1⟩
  have hqc : ∀ j, w1.cell? ⟨w.heap.size, j, none⟩ = (#[.int .i64 ep, .string se, .slice a n c, .string sc] : Array Value)[j]? := fun j => ((bcell hb1).1 _ _ (by simp)).trans (cell_of_heap (World.alloc_heap_new w _) j)
  have Hb1 : Hid (Below w.heap.size w w1) := (Hbx.out _ _).trans (hb1.mono (by simp))
  have hsz1 : w.heap.size < w1.heap.size := by have := hb1.size; simp at this; omega
  clear hb1 Hck
  by_cases h0 : q = 0
  · obtain ⟨hep, hva, hln, hli, -, hsc2⟩ := checkT_ok (Hq.out.trans h0)
    dsimp only at hep hva hln hli hsc2
    subst h0
    have he : Hid (encT ⟨ep, se, ls, sc⟩ = (strOf (encB ⟨ep, se, ls, sc⟩), 0)) := if_pos Hq.out
    have hse2 := valid_small hva
    have hlines : ∀ s ∈ ls, s.size ≤ 1024 := fun s hm => lineE_size (linesE_size hli s hm)
    have hnl : ls.length = n := (HS.out w (Below.refl _ _)).1
    have hn16 : n ≤ 16 := by omega
    clear Hq hva hli
    obtain ⟨me, rfl⟩ := Int.eq_ofNat_of_zero_le hep.1
    have Hme : Hid (me < 18446744073709551616) := by show _ < _; omega
    have Hse : Hid (se.size ≤ 1099511627776) := by show _ ≤ _; omega
    have Hsc : Hid (sc.size ≤ 1099511627776) := by show _ ≤ _; omega
    have HC : Hid (∀ W, Below w1.heap.size w1 W → W.cell? ⟨w.heap.size, 0, none⟩ = some (.int .i64 me) ∧ W.cell? ⟨w.heap.size, 1, none⟩ = some (.string se) ∧ W.cell? ⟨w.heap.size, 2, none⟩ = some (.slice a n c) ∧ W.cell? ⟨w.heap.size, 3, none⟩ = some (.string sc)) := fun W hW => by
      have h : ∀ j, W.cell? ⟨w.heap.size, j, none⟩ = w1.cell? ⟨w.heap.size, j, none⟩ := fun j => (bcell hW).1 _ _ hsz1
      exact ⟨(h 0).trans (hqc 0), (h 1).trans (hqc 1), (h 2).trans (hqc 2), (h 3).trans (hqc 3)⟩
    have HL1 : Hid ((natBytes me).length + (natBytes se.size ++ se.data.toList).length ≤ 35184372088832) := by
      show _ ≤ _
      have a1 := natBytes_length me
      have a2 := natBytes_length se.size
      simp only [List.length_append, size_toList]
      omega
    have HL2 : Hid ((natBytes me ++ (natBytes se.size ++ se.data.toList)).length + (natBytes n).length ≤ 2000) := by
      show _ ≤ _
      have a1 := natBytes_length me
      have a2 := natBytes_length se.size
      have a3 := natBytes_length n
      simp only [List.length_append, size_toList]
      omega
    have HLk : Hid (∀ k, (linesB (ls.take k)).length ≤ 20000) := linesB_le (by omega) hlines
    have HLs : Hid (∀ k, k < n → (ls.getD k ⟨#[]⟩).size ≤ 1024) := fun k hk => by
      rw [List.getD_eq_getElem?_getD, List.getElem?_eq_getElem (by omega)]
      exact hlines _ (List.getElem_mem _)
    have Hnl := Lib.hid hnl
    have hHead : encB ⟨me, se, ls, sc⟩ = ((natBytes me ++ (natBytes se.size ++ se.data.toList)) ++ natBytes n) ++ linesB ls ++ (natBytes sc.size ++ sc.data.toList) := by
      simp [encB, headB, textB, hnl]
    have HHead := Lib.hid hHead
    clear hep hln hlines hnl hHead hse2 hsc2 hqc
    obtain ⟨c0, c1, -, -⟩ := HC.out _ (Below.refl _ _)
    have D0 : Hid (Below w1.heap.size w1 w1.drew) := (Below.refl _ _).drew
    go_wp2_with fail
    go_region_held3 (fun w' => w'.cell? ⟨w.heap.size, 0, none⟩ = some (.int .i64 me) ∧ w'.cell? ⟨w.heap.size, 1, none⟩ = some (.string se)) (first | with_reducible exact S4.out | with_reducible exact S3.out | with_reducible exact S2.out | go_keep)
      (first
        | (go_at_call 67; refine (rfNatural_w me _ Hme.out).mono ?_; rintro r w2 ⟨g2, n2, k2, rfl, row2, gr2, lie2⟩; have E2 := Lib.hid (EnR.new D0.out row2 gr2 lie2); have S2 : Hid (w2.cell? ⟨w.heap.size, 0, none⟩ = some (.int .i64 me) ∧ w2.cell? ⟨w.heap.size, 1, none⟩ = some (.string se)) := ⟨(HC.out _ E2.out.low).1, (HC.out _ E2.out.low).2.1⟩; clear row2 gr2 lie2)
        | (go_at_call 68; refine (rfText_w se _ Hse.out).mono ?_; rintro r w3 ⟨g3, n3, k3, rfl, row3, gr3, lie3⟩; have E3 := Lib.hid (E2.out.keep gr3); have R3 := Lib.hid row3; have S3 : Hid (w3.cell? ⟨w.heap.size, 0, none⟩ = some (.int .i64 me) ∧ w3.cell? ⟨w.heap.size, 1, none⟩ = some (.string se)) := ⟨(HC.out _ E3.out.low).1, (HC.out _ E3.out.low).2.1⟩; clear row3 gr3 lie3)
        | (refine step_append_row rfl _ _ rfl (.slice (some ⟨g2, 0, none⟩) n2 k2) (natBytes me) rfl E3.out.row _ _ _ _ rfl R3.out (text_ne _) HL1.out ?_; intro g4 n4 k4 w4 row4 gr4 lie4; have E4 := Lib.hid (E3.out.grow row4 gr4 lie4); have S4 : Hid (w4.cell? ⟨w.heap.size, 0, none⟩ = some (.int .i64 me) ∧ w4.cell? ⟨w.heap.size, 1, none⟩ = some (.string se)) := ⟨(HC.out _ E4.out.low).1, (HC.out _ E4.out.low).2.1⟩; clear row4 gr4 lie4)
        | fail)
    clear S2 S3 S4 E2 E3 R3 c0 c1 D0
    obtain ⟨-, -, c2, -⟩ := HC.out _ E4.out.low
    have hnw : IntKind.u64.wrap (n : Int) = n := IntWalk.u64_in _ ⟨by omega, by omega⟩
    go_wp2_with fail
    refine (rfNatural_any n _ (by omega)).mono ?_
    rintro r w5 ⟨g5, n5, k5, rfl, row5, gr5, lie5⟩
    have R5 := Lib.hid row5
    have E5 := Lib.hid (E4.out.keep gr5)
    clear row5 gr5 lie5 c2 hnw E4
    go_wp2_with (at_builtin; refine wpList_append_row rfl _ _ rfl (.slice (some ⟨g4, 0, none⟩) n4 k4) _ rfl E5.out.row _ _ _ _ rfl R5.out (pNat_ne _) (Nat.le_trans HL2.out (by decide)) ?_; intro g6 n6 k6 w6 row6 gr6 lie6)
    have E6 := Lib.hid (E5.out.grow row6 gr6 lie6)
    clear row6 gr6 lie6 E5 R5
    have HL3 : Hid (((natBytes me ++ (natBytes se.size ++ se.data.toList)) ++ natBytes n).length ≤ 2000) := by
      show _ ≤ _
      rw [List.length_append]
      exact HL2.out
    clear HL1 HL2 Hme Hse
    generalize (natBytes me ++ (natBytes se.size ++ se.data.toList)) ++ natBytes n = HD at *
    go_loopg [5, 6] n (fun gk ov iv wr => ∃ (k g m cap : Nat), k + gk = n ∧ ov = .slice (some ⟨g, 0, none⟩) m cap ∧ iv = .int .i64 k ∧ Hid (EnR w1 wr (.slice (some ⟨g, 0, none⟩) m cap) (HD ++ linesB (ls.take k))))
    case atStart => exact ⟨0, g6, n6, k6, by omega, rfl, rfl, by have := E6.out; show EnR _ _ _ _; simpa [linesB] using this⟩
    case round =>
      clear E6
      obtain ⟨k, g, m, cap, hk, rfl, rfl, E⟩ := hrel
      have Hk := Lib.hid hk
      have hkn : k ≤ n := by omega
      clear hk
      obtain ⟨-, -, c2, c3⟩ := HC.out _ E.out.low
      by_cases h4 : k < n
      · clear c3
        obtain ⟨ga, off, rfl, hcell⟩ := (HS.out _ (Hb1.out.trans (E.out.low.mono Hb1.out.size))).2 (by omega)
        have hck := hcell k h4
        have hszk := HLs.out k h4
        have Hsn : Hid (linesB (ls.take (k + 1)) = linesB (ls.take k) ++ (natBytes (ls.getD k ⟨#[]⟩).size ++ (ls.getD k ⟨#[]⟩).data.toList)) := by
          have := linesB_snoc ls k (by rw [Hnl.out]; exact h4)
          rw [List.append_assoc] at this
          exact this
        clear hcell
        generalize ls.getD k ⟨#[]⟩ = lk at *
        have HLt : Hid ((HD ++ linesB (ls.take k)).length + (natBytes lk.size ++ lk.data.toList).length ≤ 35184372088832) := by
          show _ ≤ _
          have a1 := natBytes_length lk.size
          have a2 := HLk.out k
          have a3 := HL3.out
          simp only [List.length_append, size_toList]
          omega
        go_wp2_with fail
        refine (rfText_w lk _ (by omega)).mono ?_
        rintro r w7 ⟨g7, n7, k7, rfl, row7, gr7, lie7⟩
        have R7 := Lib.hid row7
        have E7 := Lib.hid (E.out.keep gr7)
        clear row7 gr7 lie7 c2 E hck
        go_wp2_with (at_builtin; refine wpList_append_row rfl _ _ rfl (.slice (some ⟨g, 0, none⟩) m cap) _ rfl E7.out.row _ _ _ _ rfl R7.out (text_ne _) HLt.out ?_; intro g8 n8 k8 w8 row8 gr8 lie8)
        have E8 := Lib.hid (E7.out.grow row8 gr8 lie8)
        clear row8 gr8 lie8 E7 R7 HLt
        rw [List.append_assoc, ← Hsn.out] at E8
        go_roundg (n - (k + 1))
        case measure => have := Hk.out; omega
        case rel => exact ⟨k + 1, g8, n8, k8, by have := Hk.out; omega, rfl, by go_num, E8⟩
      · obtain rfl : k = n := by omega
        clear Hk h4 hkn
        have Hfull : Hid (linesB (ls.take k) = linesB ls) := by
          show _ = _
          rw [List.take_of_length_le (by have := Hnl.out; omega)]
        have HLt : Hid ((HD ++ linesB (ls.take k)).length + (natBytes sc.size ++ sc.data.toList).length ≤ 35184372088832) := by
          show _ ≤ _
          have a1 := natBytes_length sc.size
          have a2 := HLk.out k
          have a3 := HL3.out
          have a4 := Hsc.out
          simp only [List.length_append, size_toList]
          omega
        go_wp2_with fail
        refine (rfText_w sc _ Hsc.out).mono ?_
        rintro r w7 ⟨g7, n7, k7, rfl, row7, gr7, lie7⟩
        have R7 := Lib.hid row7
        have E7 := Lib.hid (E.out.keep gr7)
        clear row7 gr7 lie7 c3 E
        go_wp2_with (at_builtin; refine wpList_append_row rfl _ _ rfl (.slice (some ⟨g, 0, none⟩) m cap) _ rfl E7.out.row _ _ _ _ rfl R7.out (text_ne _) HLt.out ?_; intro g8 n8 k8 w8 row8 gr8 lie8; have hconv := run_bytes_str w8 g8 0 n8 k8 _ row8.sl.1)
        have E8 := Lib.hid (E7.out.grow row8 gr8 lie8)
        go_ret2
        rw [he.out, HHead.out, ← Hfull.out, List.append_assoc]
        exact ⟨rfl, Hb1.out.trans (E8.out.low.mono Hb1.out.size)⟩
  · have he : Hid (encT ⟨ep, se, ls, sc⟩ = (⟨#[]⟩, q)) := by show _ = _; simp [encT, Hq.out, h0]
    have h0' : ((q : Int) != 0) = true := bne_iff_ne.2 (by omega)
    clear h0
    go_wp2
    go_ret2
    rw [he.out]
    exact ⟨rfl, Hb1.out⟩
theorem rEnc36_is (ep : Int) (se sc : ByteArray) (a : Option Addr) (n c : Nat) (ls : List ByteArray) (x : ByteArray) (q : Nat) (he : encT ⟨ep, se, ls, sc⟩ = (x, q)) (w : World) (hs : SSl w a n ls) (hse : se.size ≤ 70368744177664) (hsc : sc.size ≤ 70368744177664) (hn : n ≤ 70368744177664) (hls : ∀ s ∈ ls, s.size ≤ 70368744177664) :
    Calls Tryz.prog 32 #[.agg #[.int .i64 ep, .string se, .slice a n c, .string sc]] w fun r w' => r = .returned (.tuple #[.string x, .int .i64 q]) ∧ Below w.heap.size w w' := by
  have h := rEnc36_any ep se sc a n c ls w hs hse hsc hn hls
  rw [he] at h
  exact h
end Go.Proofs.YtfobmfenjdiimaaGreatDoor

namespace Go.Proofs.YtfobmfenjdiimaaGreatDoor
open Go.RowKit
attribute [local go_sem ↓] Go.wp_at_zero Go.wp_at_succ

/-- In the midst of the reference's Decode. -/
structure RD36 (w W : World) (ep : Int) (se : ByteArray) (ls : List ByteArray) (sc : ByteArray) (tv : Value) : Prop where
  res : W.heap[w.heap.size]? = some (.cells #[.int .i64 0, .string ⟨#[]⟩, .slice none 0 0, .string ⟨#[]⟩] 42 (0, 0))
  box : W.heap[w.heap.size + 1]? = some (.cells #[.int .i64 ep, .string se, tv, .string sc] 42 (0, 0))
  low : Below w.heap.size w W
  row : SRow W tv ls
  own : ∀ g, tv.ownBlock = some g → w.heap.size + 1 < g
theorem RD36.start (w : World) : RD36 w ((w.alloc (.cells #[.int .i64 0, .string ⟨#[]⟩, .slice none 0 0, .string ⟨#[]⟩] 42)).alloc (.cells #[.int .i64 0, .string ⟨#[]⟩, .slice none 0 0, .string ⟨#[]⟩] 42)) 0 ⟨#[]⟩ [] ⟨#[]⟩ (.slice none 0 0) :=
  ⟨(Below.heap_alloc _ _ _ (by simp)).trans (World.alloc_heap_new w _), by have := World.alloc_heap_new (w.alloc (.cells #[.int .i64 0, .string ⟨#[]⟩, .slice none 0 0, .string ⟨#[]⟩] 42)) (.cells #[.int .i64 0, .string ⟨#[]⟩, .slice none 0 0, .string ⟨#[]⟩] 42); rw [World.size_alloc] at this; exact this, ((Below.refl _ _).alloc (Nat.le_refl _) _).alloc (by simp) _, World.ownsRow_nil _ _ _ _, fun g hg => by cases hg⟩
section
variable {w W W' w2 : World} {ep ep' : Int} {se se' sc sc' : ByteArray} {ls ls' : List ByteArray} {tv : Value}
theorem RD36.later (h : RD36 w W ep se ls sc tv) (hb : Below W.heap.size W W') : RD36 w W' ep se ls sc tv :=
  ⟨(hb.block _ (lt_of_heap h.res)).trans h.res, (hb.block _ (lt_of_heap h.box)).trans h.box, h.low.trans (hb.mono h.low.size), row_kept h.row (fun g hg => by
    obtain ⟨cur, hc⟩ := row_lt h.row hg
    exact hb.block g (lt_of_heap hc)), h.own⟩
theorem RD36.store (h : RD36 w W ep se ls sc tv) (i : Nat) (v : Value) (ep' : Int) (se' sc' : ByteArray) (he : (#[.int .i64 ep, .string se, tv, .string sc] : Array Value).setIfInBounds i v = #[.int .i64 ep', .string se', tv, .string sc']) : RD36 w (W.setCell ⟨w.heap.size + 1, i, none⟩ v) ep' se' ls sc' tv :=
  ⟨(Below.heap_setCell _ _ _ _ (by show w.heap.size ≠ w.heap.size + 1; omega)).trans h.res, by rw [← he]; exact heap_setCell_same h.box i v, pBelow_row h.low (grown_setCell _ _ _ _) (Nat.le_refl _) (fun k hk => by cases hk; omega), h.row.grown (grown_setCell _ _ _ _) (fun k hk e => by cases hk; exact absurd (h.own _ e) (Nat.lt_irrefl _)), h.own⟩
theorem RD36.append {o : Obj} {g n cap : Nat} (h : RD36 w W ep se ls sc tv) (hrow : SRow w2 (.slice (some ⟨g, 0, none⟩) n cap) ls') (hg : (W.alloc o).grownBy w2 tv.ownBlock) (hat : tv.ownBlock = some g ∨ g = (W.alloc o).heap.size) :
    RD36 w (w2.setCell ⟨w.heap.size + 1, 2, none⟩ (.slice (some ⟨g, 0, none⟩) n cap)) ep se ls' sc (.slice (some ⟨g, 0, none⟩) n cap) := by
  have hT := lt_of_heap h.box
  have hgT : w.heap.size + 1 < g := by
    rcases hat with e | e
    · exact h.own g e
    · rw [e]; simp; omega
  have hg' : W.grownBy w2 tv.ownBlock := ⟨hg.os, hg.tape, hg.output, Nat.le_trans (by simp) hg.size, fun k hk hne => (hg.block k (by simp; omega) hne).trans (Below.heap_alloc W _ k hk)⟩
  have h2 : w2.heap[w.heap.size + 1]? = _ := (hg'.block _ hT (fun e => absurd (h.own _ e.symm) (Nat.lt_irrefl _))).trans h.box
  have h3 : w2.heap[w.heap.size]? = _ := (hg'.block _ (by omega) (fun e => by have := h.own _ e.symm; omega)).trans h.res
  refine ⟨(Below.heap_setCell _ _ _ _ (by show w.heap.size ≠ w.heap.size + 1; omega)).trans h3, heap_setCell_same h2 2 _, ?_, hrow.grown (grown_setCell _ _ _ _) (fun k hk e => ?_), fun k hk => ?_⟩
  · exact pBelow_row (pBelow_row h.low hg' (Nat.le_refl _) (fun k hk => by have := h.own k hk; omega)) (grown_setCell _ _ _ _) (Nat.le_refl _) (fun k hk => by cases hk; omega)
  · cases hk
    simp [Value.ownBlock] at e
    omega
  · simp [Value.ownBlock] at hk
    omega
theorem RD36.cells (h : RD36 w W ep se ls sc tv) : (W.cell? ⟨w.heap.size + 1, 0, none⟩ = some (.int .i64 ep) ∧ W.cell? ⟨w.heap.size + 1, 1, none⟩ = some (.string se) ∧ W.cell? ⟨w.heap.size + 1, 2, none⟩ = some tv ∧ W.cell? ⟨w.heap.size + 1, 3, none⟩ = some (.string sc)) ∧ ∀ j, W.frozen? ⟨w.heap.size + 1, j, none⟩ = false :=
  ⟨⟨cell_of_heap h.box 0, cell_of_heap h.box 1, cell_of_heap h.box 2, cell_of_heap h.box 3⟩, fun j => frozen_of_heap h.box j⟩
theorem RD36.rcells (h : RD36 w W ep se ls sc tv) : (W.cell? ⟨w.heap.size, 0, none⟩ = some (.int .i64 0) ∧ W.cell? ⟨w.heap.size, 1, none⟩ = some (.string ⟨#[]⟩) ∧ W.cell? ⟨w.heap.size, 2, none⟩ = some (.slice none 0 0) ∧ W.cell? ⟨w.heap.size, 3, none⟩ = some (.string ⟨#[]⟩)) ∧ ∀ j, W.frozen? ⟨w.heap.size, j, none⟩ = false :=
  ⟨⟨cell_of_heap h.res 0, cell_of_heap h.res 1, cell_of_heap h.res 2, cell_of_heap h.res 3⟩, fun j => frozen_of_heap h.res j⟩
theorem RD36.fail (h : RD36 w W ep se ls sc tv) (e : Nat) (hg : W.grownBy W' (some w.heap.size)) : TermPost w zeroT e (.returned (.tuple #[.agg #[.int .i64 0, .string ⟨#[]⟩, .slice none 0 0, .string ⟨#[]⟩], .int .i64 e])) W' :=
  ⟨none, 0, 0, rfl, World.ownsRow_nil _ _ _ _, (fun g hg => by cases hg), pBelow_row h.low hg (Nat.le_refl _) (fun k hk => by cases hk; exact Nat.le_refl _)⟩
theorem RD36.done {a : Option Addr} {n c : Nat} (h : RD36 w W ep se ls sc (.slice a n c)) (e : Nat) (hg : W.grownBy W' (some w.heap.size)) : TermPost w ⟨ep, se, ls, sc⟩ e (.returned (.tuple #[.agg #[.int .i64 ep, .string se, .slice a n c, .string sc], .int .i64 e])) W' :=
  ⟨a, n, c, rfl, h.row.grown hg (fun k hk e => by cases hk; have := h.own _ e; omega), (fun g hg => by have := h.own g hg; omega), pBelow_row h.low hg (Nat.le_refl _) (fun k hk => by cases hk; exact Nat.le_refl _)⟩
end

set_option maxRecDepth 100000 in
set_option maxHeartbeats 4000000 in
theorem rDec36_any (s : ByteArray) (w : World) (hs : s.size ≤ 35184372088832) : Calls Tryz.prog 11 #[.string s] w (TermPost w (rDecT s).1 (rDecT s).2) := by
  have D0 := Lib.hid (RD36.start w)
  have Hs := Lib.hid hs; clear hs
  have Hdec0 : Hid (rDecT s = if (rTake (rPiece (rTake s).2).2).1 < 0 ∨ 16 < (rTake (rPiece (rTake s).2).2).1 then (zeroT, 3) else if encT ⟨(rTake s).1, (rPiece (rTake s).2).1, (rPieces (rTake (rPiece (rTake s).2).2).1.toNat (rTake (rPiece (rTake s).2).2).2).1, (rPiece (rPieces (rTake (rPiece (rTake s).2).2).1.toNat (rTake (rPiece (rTake s).2).2).2).2).1⟩ = (s, 0) ∧ (rPiece (rPieces (rTake (rPiece (rTake s).2).2).1.toNat (rTake (rPiece (rTake s).2).2).2).2).2 = ⟨#[]⟩ then (⟨(rTake s).1, (rPiece (rTake s).2).1, (rPieces (rTake (rPiece (rTake s).2).2).1.toNat (rTake (rPiece (rTake s).2).2).2).1, (rPiece (rPieces (rTake (rPiece (rTake s).2).2).1.toNat (rTake (rPiece (rTake s).2).2).2).2).1⟩, 0) else (zeroT, 3)) := rfl
  go_enter Tryz.func11, Tryz.ntmps11
  go_wp2_with fail
  generalize (w.alloc (.cells #[.int .i64 0, .string ⟨#[]⟩, .slice none 0 0, .string ⟨#[]⟩] 42)).alloc (.cells #[.int .i64 0, .string ⟨#[]⟩, .slice none 0 0, .string ⟨#[]⟩] 42) = W0 at *
  refine (take36_any s _ Hs.out).mono ?_
  rintro e w1 ⟨rfl, hb⟩
  have D1 := Lib.hid (D0.out.later hb); clear hb D0
  obtain ⟨⟨c0, -, -, -⟩, hf⟩ := D1.out.cells
  have f0 := hf 0; clear hf
  have T1 := Lib.hid (Nat.le_trans (rTake_small s).1 Hs.out)
  generalize rTake s = t1 at *
  obtain ⟨a1, s1⟩ := t1
  dsimp only at T1
  go_wp2_with fail
  have D2 := Lib.hid (D1.out.store 0 (.int .i64 a1) a1 _ _ rfl); clear D1 c0 f0
  refine (piece36_any s1 _ T1.out).mono ?_
  rintro e w2 ⟨rfl, hb⟩
  have D3 := Lib.hid (D2.out.later hb); clear hb D2
  obtain ⟨⟨-, c1, -, -⟩, hf⟩ := D3.out.cells
  have f1 := hf 1; clear hf
  have T2 := Lib.hid (rPiece_small s1)
  generalize rPiece s1 = t2 at *
  obtain ⟨a2, s2⟩ := t2
  dsimp only at T2
  go_wp2_with fail
  have D4 := Lib.hid (D3.out.store 1 (.string a2) a1 a2 _ rfl); clear D3 c1 f1
  have T2' : Hid (s2.size ≤ 35184372088832) := Nat.le_trans T2.out.2 T1.out
  have T2a : Hid (a2.size ≤ 35184372088832) := Nat.le_trans T2.out.1 T1.out
  clear T2
  refine (take36_any s2 _ T2'.out).mono ?_
  rintro e w3 ⟨rfl, hb⟩
  have D5 := Lib.hid (D4.out.later hb); clear hb D4
  have T3 := Lib.hid (Nat.le_trans (rTake_small s2).1 T2'.out)
  generalize rTake s2 = t3 at *
  obtain ⟨a3, s3⟩ := t3
  dsimp only at T3
  have Hdec : Hid (rDecT s = if a3 < 0 ∨ 16 < a3 then (zeroT, 3) else if encT ⟨a1, a2, (rPieces a3.toNat s3).1, (rPiece (rPieces a3.toNat s3).2).1⟩ = (s, 0) ∧ (rPiece (rPieces a3.toNat s3).2).2 = ⟨#[]⟩ then (⟨a1, a2, (rPieces a3.toNat s3).1, (rPiece (rPieces a3.toNat s3).2).1⟩, 0) else (zeroT, 3)) := Hdec0.out
  clear Hdec0
  by_cases h5 : a3 < 0 ∨ 16 < a3
  · have he : Hid (rDecT s = (zeroT, 3)) := Hdec.out.trans (if_pos h5)
    have hways : a3 < 0 ∨ (0 ≤ a3 ∧ 16 < a3) := by omega
    clear h5 Hdec
    obtain ⟨⟨r0, r1, r2, r3⟩, hf⟩ := D5.out.rcells
    have g0 := hf 0
    have g1 := hf 1
    have g2 := hf 2
    have g3 := hf 3
    clear hf
    rcases hways with h6 | ⟨h6, h7⟩
    all_goals
      go_wp2
      refine bodyPost_ret (v := .tuple #[.agg #[.int .i64 0, .string ⟨#[]⟩, .slice none 0 0, .string ⟨#[]⟩], .int .i64 3]) (by simp [results, Tryz.results11, go_sem, r0, r1, r2, r3]) rfl ?_
      rw [he.out]
      exact D5.out.fail 3 (grown_set4 _ _ _ _ _ _)
  · obtain ⟨m, rfl⟩ := Int.eq_ofNat_of_zero_le (a := a3) (by omega)
    have Hdec2 := Lib.hid (Hdec.out.trans (if_neg h5))
    have hm : m ≤ 16 := by omega
    have hmt : ((m : Nat) : Int).toNat = m := Int.toNat_natCast m
    rw [hmt] at Hdec2
    have h5a : ¬ ((m : Int) < 0) := by omega
    have h5b : ¬ (16 < (m : Int)) := by omega
    clear h5 Hdec hmt
    go_wp2
    go_loopg [5, 7] m (fun gk rv iv wr => ∃ (k : Nat) (tv : Value), k + gk = m ∧ rv = .string (rPieces k s3).2 ∧ iv = .int .i64 k ∧ Hid (RD36 w wr a1 a2 (rPieces k s3).1 ⟨#[]⟩ tv))
    case atStart => exact ⟨0, _, by omega, rfl, rfl, D5.out⟩
    case round =>
      clear D5
      obtain ⟨k, tv, hk, rfl, rfl, D⟩ := hrel
      have Hk := Lib.hid hk
      have hkm : k ≤ m := by omega
      clear hk
      have T4 := Lib.hid (Nat.le_trans (rPieces_small k s3).1 T3.out)
      by_cases h4 : k < m
      · have Hl : Hid ((rPieces k s3).1.length ≤ 1000000) := by show _ ≤ _; rw [rPieces_length]; omega
        have hsn : rPieces (k + 1) s3 = ((rPieces k s3).1 ++ [(rPiece (rPieces k s3).2).1], (rPiece (rPieces k s3).2).2) := rfl
        have Hsn := Lib.hid hsn
        clear hsn
        generalize rPieces k s3 = pk at *
        obtain ⟨lk, sk⟩ := pk
        dsimp only at *
        go_wp2_with fail
        refine (piece36_any sk _ T4.out).mono ?_
        rintro e w5 ⟨rfl, hb⟩
        have D6 := Lib.hid (D.out.later hb); clear hb D
        obtain ⟨⟨-, -, c2, -⟩, -⟩ := D6.out.cells
        have hlt5 := lt_of_heap D6.out.box
        have hne5 := World.new_ne w5 ⟨w.heap.size + 1, 2, none⟩ c2
        have Drow : Hid (∀ o, SRow (w5.alloc o) tv lk) := fun o => World.ownsRow.alloc D6.out.row o
        generalize rPiece sk = t at *
        obtain ⟨x1, x2⟩ := t
        dsimp only at *
        go_wp2_with (at_builtin; refine wpList_append_string rfl _ _ rfl tv lk rfl (Drow.out _) _ w5.heap.size rfl (heap_alloc_new w5 _) Hl.out ?_; intro g m' cap w6 hrow6 hg6 hat6; have D7 := Lib.hid (D6.out.append hrow6 hg6 hat6); have hh6 := (hg6.block (w.heap.size + 1) (by simp; omega) (fun e => absurd (D6.out.own _ e.symm) (Nat.lt_irrefl _))).trans ((Below.heap_alloc w5 _ (w.heap.size + 1) hlt5).trans D6.out.box); have c6 : w6.cell? ⟨w.heap.size + 1, 2, none⟩ = some tv := cell_of_heap hh6 2; have f6 : w6.frozen? ⟨w.heap.size + 1, 2, none⟩ = false := frozen_of_heap hh6 2; clear hrow6 hg6 hat6 hh6)
        clear D6 c2 hlt5 hne5 Drow c6 f6
        go_roundg (m - (k + 1))
        case measure => have := Hk.out; omega
        case rel => exact ⟨k + 1, _, by have := Hk.out; omega, by rw [Hsn.out], by go_num, by rw [Hsn.out]; exact D7⟩
      · obtain rfl : k = m := by omega
        clear Hk hkm h4
        have T5 := Lib.hid (rPieces_small k s3).2
        have Hpl := Lib.hid (rPieces_length k s3)
        generalize rPieces k s3 = pk at *
        obtain ⟨ls, s4⟩ := pk
        dsimp only at *
        have T6 := Lib.hid (rPiece_small s4)
        have hlt : ¬ ((k : Int) < (k : Int)) := by omega
        go_wp2_with fail
        refine (piece36_any s4 _ T4.out).mono ?_
        rintro e w5 ⟨rfl, hb⟩
        have D6 := Lib.hid (D.out.later hb); clear hb D
        generalize rPiece s4 = t at *
        obtain ⟨sc, s5⟩ := t
        dsimp only at *
        obtain ⟨⟨c0, c1, c2, c3⟩, hf⟩ := D6.out.cells
        have f3 := hf 3
        clear hf
        obtain ⟨av, cv, hcv, hform⟩ := row_form D6.out.row
        rw [Hpl.out] at hcv
        subst hcv
        clear hform
        go_wp2_with fail
        have D8 := Lib.hid (D6.out.store 3 (.string sc) a1 a2 sc rfl)
        generalize w5.setCell ⟨w.heap.size + 1, 3, none⟩ (.string sc) = W8 at *
        refine (rEnc36_any a1 a2 sc av k cv ls _ D8.out.row.sl (Nat.le_trans T2a.out (by decide)) (Nat.le_trans T6.out.1 (Nat.le_trans T4.out (by decide))) (by omega) (fun x hx => Nat.le_trans (T5.out x hx) (Nat.le_trans T3.out (by decide)))).mono ?_
        rintro e w6 ⟨rfl, hb⟩
        have D9 := Lib.hid (D8.out.later hb); clear hb D8 D6 c0 c1 c2 c3 f3
        obtain ⟨⟨c0, c1, c2, c3⟩, -⟩ := D9.out.cells
        generalize encT ⟨a1, a2, ls, sc⟩ = q at *
        obtain ⟨es, q⟩ := q
        dsimp only at *
        obtain ⟨⟨r0, r1, r2, r3⟩, hf⟩ := D9.out.rcells
        have g0 := hf 0
        have g1 := hf 1
        have g2 := hf 2
        have g3 := hf 3
        clear hf
        have hte := toList_empty s5
        by_cases h8 : q = 0
        · subst h8
          by_cases h9 : es = s
          · subst h9
            have hx : (es.toList != es.toList) = false := by simp
            by_cases h10 : s5.size = 0
            · have h11 : s5 = ⟨#[]⟩ := ByteArray.ext (Array.eq_empty_of_size_eq_zero h10)
              have he : Hid (rDecT es = (⟨a1, a2, ls, sc⟩, 0)) := Hdec2.out.trans (if_pos ⟨rfl, h11⟩)
              have hte' : s5.toList.isEmpty = true := by simpa [h10] using hte
              clear Hdec2 hte h11 h10
              go_wp2
              refine bodyPost_ret (v := .tuple #[.agg #[.int .i64 a1, .string a2, .slice av k cv, .string sc], .int .i64 0]) (by simp [results, Tryz.results11, go_sem, r0, r1, r2, r3]) rfl ?_
              rw [he.out]
              exact D9.out.done 0 (grown_set4 _ _ _ _ _ _)
            · have he : Hid (rDecT es = (zeroT, 3)) := Hdec2.out.trans (if_neg (fun h => h10 (by rw [h.2]; rfl)))
              have hte' : s5.toList.isEmpty = false := by simpa [h10] using hte
              clear Hdec2 hte h10
              go_wp2
              refine bodyPost_ret (v := .tuple #[.agg #[.int .i64 0, .string ⟨#[]⟩, .slice none 0 0, .string ⟨#[]⟩], .int .i64 3]) (by simp [results, Tryz.results11, go_sem, r0, r1, r2, r3]) rfl ?_
              rw [he.out]
              exact D9.out.fail 3 (grown_set4 _ _ _ _ _ _)
          · have he : Hid (rDecT s = (zeroT, 3)) := Hdec2.out.trans (if_neg (fun h => h9 (Prod.mk.inj h.1).1))
            have hx : (es.toList == s.toList) = false := beq_eq_false_iff_ne.2 (fun h => h9 (by have := str_beq es s; rw [h, beq_self_eq_true] at this; exact of_decide_eq_true this.symm))
            clear Hdec2 h9 hte
            go_wp2
            refine bodyPost_ret (v := .tuple #[.agg #[.int .i64 0, .string ⟨#[]⟩, .slice none 0 0, .string ⟨#[]⟩], .int .i64 3]) (by simp [results, Tryz.results11, go_sem, r0, r1, r2, r3]) rfl ?_
            rw [he.out]
            exact D9.out.fail 3 (grown_set4 _ _ _ _ _ _)
        · have he : Hid (rDecT s = (zeroT, 3)) := Hdec2.out.trans (if_neg (fun h => h8 (Prod.mk.inj h.1).2))
          have hx : ((q : Int) != 0) = true := bne_iff_ne.2 (by omega)
          clear Hdec2 h8 hte
          go_wp2
          refine bodyPost_ret (v := .tuple #[.agg #[.int .i64 0, .string ⟨#[]⟩, .slice none 0 0, .string ⟨#[]⟩], .int .i64 3]) (by simp [results, Tryz.results11, go_sem, r0, r1, r2, r3]) rfl ?_
          rw [he.out]
          exact D9.out.fail 3 (grown_set4 _ _ _ _ _ _)
end Go.Proofs.YtfobmfenjdiimaaGreatDoor
