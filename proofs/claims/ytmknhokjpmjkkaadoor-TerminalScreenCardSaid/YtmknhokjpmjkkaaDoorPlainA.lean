/- Plain: what Encode writes, Decode reads. -/
import Derived.Test.YtmknhokjpmjkkaaDoorTermI
namespace Go.Proofs.YtmknhokjpmjkkaaDoor
open Go.RowKit

theorem nat7_shape : ∀ (g f n : Nat), n < 128 ^ (g + 1) → g ≤ f → ∃ (init : List UInt8) (b : UInt8), nat7 (f + 1) n = init ++ [b] ∧ init.length ≤ g ∧ (∀ x ∈ init, 128 ≤ x.toNat) ∧ b.toNat < 128 ∧ (0 < n → b.toNat ≠ 0) ∧ natVal (init ++ [b]) = n ∧ (n = 0 → init = []) := by
  intro g
  induction g with
  | zero =>
    intro f n hn _
    have h : n < 128 := by simpa using hn
    refine ⟨[], n.toUInt8, by simp [nat7, h], by simp, by simp, by simp; omega, fun h0 => by simp; omega, by simp [natVal]; omega, fun _ => rfl⟩
  | succ g ih =>
    intro f n hn hf
    by_cases h : n < 128
    · refine ⟨[], n.toUInt8, by simp [nat7, h], by simp, by simp, by simp; omega, fun h0 => by simp; omega, by simp [natVal]; omega, fun _ => rfl⟩
    · obtain ⟨f', rfl⟩ : ∃ f', f = f' + 1 := ⟨f - 1, by omega⟩
      have hn' : n / 128 < 128 ^ (g + 1) := by
        rw [Nat.div_lt_iff_lt_mul (by decide)]
        rw [Nat.pow_succ] at hn
        exact hn
      obtain ⟨init, b, h1, h2, h3, h4, h5, h6, _⟩ := ih f' (n / 128) hn' (by omega)
      refine ⟨(128 + n % 128).toUInt8 :: init, b, ?_, by simp; omega, ?_, h4, fun _ => h5 (by omega), ?_, fun h0 => by omega⟩
      · rw [nat7, if_neg h, h1]; rfl
      · intro x hx
        rcases List.mem_cons.1 hx with rfl | hx
        · simp; omega
        · exact h3 x hx
      · simp only [List.cons_append, natVal, h6]
        have : ((128 + n % 128).toUInt8).toNat = 128 + n % 128 := by simp; omega
        rw [this]
        omega

theorem parse_nat (n : Nat) (rest : List UInt8) (hn : n < 9223372036854775808) : parseNat 9 (natBytes n ++ rest) = (n, (natBytes n).length, 0) := by
  obtain ⟨init, b, h1, h2, h3, h4, h5, h6, h7⟩ := nat7_shape 8 9 n (by omega) (by omega)
  have hb : natBytes n = init ++ [b] := h1
  have hget : ∀ j, j < init.length → 128 ≤ (((init ++ [b]) ++ rest).getD j 0).toNat := fun j hj => by
    rw [List.getD_eq_getElem?_getD, List.append_assoc, List.getElem?_append_left hj, List.getElem?_eq_getElem hj]
    exact h3 _ (List.getElem_mem hj)
  have hlast : ((init ++ [b]) ++ rest).getD init.length 0 = b := by
    rw [List.getD_eq_getElem?_getD, List.append_assoc, List.getElem?_append_right (Nat.le_refl _)]
    simp
  have hscan : scan7 9 ((init ++ [b]) ++ rest) = init.length := scan7_eq 9 init.length _ (by omega) (by simp) hget (.inr (.inr (by rw [hlast]; exact h4)))
  rw [hb]
  unfold parseNat
  simp only [hscan, hlast]
  rw [if_neg (by omega), if_neg (by simp), if_neg, if_neg (fun h => by omega)]
  · have : ((init ++ [b]) ++ rest).take (init.length + 1) = init ++ [b] := by
      have : init.length + 1 = (init ++ [b]).length := by simp
      rw [this]
      exact List.take_left
    rw [this, h6]
    simp
  · rintro ⟨h8, h9⟩
    have : n ≠ 0 := fun e => by rw [h7 e] at h8; simp at h8
    exact h5 (by omega) h9

theorem rdNum_nat (most : Int) (n : Nat) (rest : List UInt8) (hn : n < 9223372036854775808) (hm : (n : Int) ≤ most) : rdNum most ⟨natBytes n ++ rest, 0⟩ = (n, ⟨rest, 0⟩) := by
  have hp : numParse most (natBytes n ++ rest) = (n, (natBytes n).length, 0) := by
    unfold numParse
    rw [parse_nat n rest hn, if_neg]
    simp only
    omega
  unfold rdNum
  simp only [hp]
  simp
theorem rdText_text (most : Int) (s : ByteArray) (rest : List UInt8) (hs : (s.size : Int) ≤ most) (hm : most ≤ 16777216) : rdText most ⟨textB s ++ rest, 0⟩ = (s.data.toList, ⟨rest, 0⟩) := by
  have hsz := size_toList s
  have hp : textParse most (textB s ++ rest) = (s.data.toList, (natBytes s.size).length + s.size, 0) := by
    unfold textParse textB
    rw [List.append_assoc, parse_nat s.size _ (by omega)]
    simp only
    rw [if_neg (by simp), if_neg (by omega), if_neg (by simp)]
    rw [List.drop_left]
    have : s.size = s.data.toList.length := hsz.symm
    rw [show (s.data.toList ++ rest).take s.size = s.data.toList by rw [this]; exact List.take_left]
  unfold rdText
  simp only [hp]
  have hd : (textB s ++ rest).drop ((natBytes s.size).length + s.size) = rest := by
    have : (natBytes s.size).length + s.size = (textB s).length := by simp [textB]
    rw [this]
    exact List.drop_left
  simp [hd]
theorem strOf_toList (s : ByteArray) : strOf s.data.toList = s := by
  cases s
  simp [strOf]
theorem rdTexts_lines (ls : List ByteArray) (rest : List UInt8) (hs : ∀ s ∈ ls, s.size ≤ 1024) (k : Nat) (hk : k ≤ ls.length) : rdTexts k ⟨linesB ls ++ rest, 0⟩ = (ls.take k, ⟨linesB (ls.drop k) ++ rest, 0⟩) := by
  induction k with
  | zero => simp [rdTexts]
  | succ k ih =>
    have hk' : k < ls.length := by omega
    have hd : ls.drop k = ls[k] :: ls.drop (k + 1) := List.drop_eq_getElem_cons hk'
    have hl : linesB (ls.drop k) ++ rest = textB ls[k] ++ (linesB (ls.drop (k + 1)) ++ rest) := by
      rw [hd]
      simp only [linesB, List.flatMap_cons, List.append_assoc]
    have ht := rdText_text 1024 ls[k] (linesB (ls.drop (k + 1)) ++ rest) (by have := hs _ (List.getElem_mem hk'); omega) (by decide)
    simp only [rdTexts, ih (by omega)]
    rw [hl]
    rw [ht, strOf_toList, List.take_succ_eq_append_getElem hk']

set_option maxHeartbeats 1000000 in
theorem dec_enc (t : TermT) (h : checkT t = 0) (hse : t.session.size ≤ 65536) : decT (strOf (encB t)) = (t, 0) := by
  obtain ⟨h1, _, h3, h4, _, h6⟩ := checkT_ok h
  obtain ⟨ep, se, ls, sc⟩ := t
  dsimp only at *
  have hlines : ∀ s ∈ ls, s.size ≤ 1024 := fun s hm => lineE_size (linesE_size h4 s hm)
  have e0 : (strOf (encB ⟨ep, se, ls, sc⟩)).data.toList = natBytes ep.toNat ++ (textB se ++ (natBytes ls.length ++ (linesB ls ++ (textB sc ++ [])))) := by
    simp [strOf, encB, headB]
  have e1 : rd1 (strOf (encB ⟨ep, se, ls, sc⟩)).data.toList = (ep.toNat, ⟨textB se ++ (natBytes ls.length ++ (linesB ls ++ (textB sc ++ []))), 0⟩) := by
    unfold rd1
    rw [e0]
    exact rdNum_nat 1073741824 _ _ (by omega) (by omega)
  have e2 : rd2 (strOf (encB ⟨ep, se, ls, sc⟩)).data.toList = (se.data.toList, ⟨natBytes ls.length ++ (linesB ls ++ (textB sc ++ [])), 0⟩) := by
    unfold rd2
    rw [e1]
    exact rdText_text 65536 _ _ (by omega) (by decide)
  have e3 : rd3 (strOf (encB ⟨ep, se, ls, sc⟩)).data.toList = (ls.length, ⟨linesB ls ++ (textB sc ++ []), 0⟩) := by
    unfold rd3
    rw [e2]
    exact rdNum_nat 16 _ _ (by omega) (by omega)
  have e4 : rd4 (strOf (encB ⟨ep, se, ls, sc⟩)).data.toList = (ls, ⟨textB sc ++ [], 0⟩) := by
    unfold rd4
    rw [e3]
    dsimp only
    rw [rdTexts_lines ls _ hlines _ (Nat.le_refl _)]
    simp [linesB]
  have e5 : rd5 (strOf (encB ⟨ep, se, ls, sc⟩)).data.toList = (sc.data.toList, ⟨[], 0⟩) := by
    unfold rd5
    rw [e4]
    exact rdText_text 2048 _ _ (by omega) (by decide)
  have ep0 : decP (strOf (encB ⟨ep, se, ls, sc⟩)).data.toList = ⟨ep, se, ls, sc⟩ := by
    unfold decP
    rw [e1, e2, e4, e5]
    dsimp only
    have hep : ((ep.toNat : Nat) : Int) = ep := by omega
    rw [strOf_toList, strOf_toList, hep]
  unfold decT
  rw [e5, ep0, if_pos ⟨by simp [rdClose], h⟩]

/-- The view holds terminal number, in epoch, as t. -/
structure Holds (V : AV) (number epoch : Int) (N : Nat) (t : TermT) : Prop where
  range : inRange number epoch = true
  get : tGet V number epoch = (t, 0)
  size : (avGet V (ofTerm number)).1.size ≤ 65536
  len : V.calls.length ≤ N
  small : Small t
  ok : checkT t = 0
  ep : t.epoch = epoch

theorem Holds.ready {V : AV} {number epoch : Int} {N : Nat} {t : TermT} (h : Holds V number epoch N t) (hN : N < 1000000) : Ready V number epoch :=
  ⟨Nat.le_trans h.size (by decide), by have := h.len; omega, by rw [h.get]; exact h.small⟩

theorem avGet_seen (V : AV) (n m : NameT) : avGet (avSeen V n) m = avGet V m := by
  unfold avSeen
  split <;> rfl
theorem tGet_seen (V : AV) (number epoch number' epoch' : Int) : tGet (tSeen V number epoch) number' epoch' = tGet V number' epoch' ∧ avGet (tSeen V number epoch) (ofTerm number') = avGet V (ofTerm number') := by
  unfold tSeen
  split
  · exact ⟨rfl, rfl⟩
  · unfold tGet
    rw [avGet_seen]
    exact ⟨rfl, rfl⟩
theorem Holds.seen {V : AV} {number epoch : Int} {N : Nat} {t : TermT} (h : Holds V number epoch N t) (number' epoch' : Int) : Holds (tSeen V number' epoch') number epoch N t :=
  ⟨h.range, by rw [(tGet_seen V number' epoch' number epoch).1]; exact h.get, by rw [(tGet_seen V number' epoch' number epoch).2]; exact h.size, by rw [tSeen_calls]; exact h.len, h.small, h.ok, h.ep⟩

/-- A step with an error. -/
theorem Holds.fails {V : AV} {number epoch : Int} {N : Nat} {t : TermT} (h : Holds V number epoch N t) {op : TermT → TermT × Nat} {t' : TermT} {e : Nat} (ho : op t = (t', e)) (he : e ≠ 0) : (tChange op V number epoch).2 = e ∧ Holds (tChange op V number epoch).1 number epoch N t := by
  have : tChange op V number epoch = (tSeen V number epoch, e) := by simp [tChange, h.get, ho, he]
  rw [this]
  exact ⟨rfl, h.seen _ _⟩
/-- A step that goes. -/
theorem Holds.goes {V : AV} {number epoch : Int} {N : Nat} {t : TermT} (h : Holds V number epoch N t) {op : TermT → TermT × Nat} {t' : TermT} (ho : op t = (t', 0)) (hs : Small t') (hc : checkT t' = 0) (hep : t'.epoch = epoch) :
    (tChange op V number epoch).2 = 0 ∧ Holds (tChange op V number epoch).1 number epoch (N + 1) t' := by
  have he : encT t' = (strOf (encB t'), 0) := by simp [encT, hc]
  have : tChange op V number epoch = (⟨(tSeen V number epoch).base, (tSeen V number epoch).reads, (tSeen V number epoch).calls ++ [⟨ofTerm number, strOf (encB t'), false⟩]⟩, 0) := by simp [tChange, h.get, ho, he]
  rw [this]
  have hg : avGet ⟨(tSeen V number epoch).base, (tSeen V number epoch).reads, (tSeen V number epoch).calls ++ [⟨ofTerm number, strOf (encB t'), false⟩]⟩ (ofTerm number) = (strOf (encB t'), true) := by
    simp [avGet, lastCall_snoc]
  have hd := dec_enc t' hc (Nat.le_trans hs.session (by decide))
  refine ⟨rfl, h.range, ?_, ?_, ?_, hs, hc, hep⟩
  · unfold tGet
    rw [h.range, hg]
    simp [ofValue, hd, hep]
  · rw [hg]
    have := encT_size (t := t') hs.session
    rw [he] at this
    exact this
  · have := h.len
    simp [tSeen_calls]
    omega

end Go.Proofs.YtmknhokjpmjkkaaDoor
