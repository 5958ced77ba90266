/- Plain: what Encode writes, Decode reads. -/
import Derived.Test.YtfobmfenjdiimaaGreatDoorTermI
namespace Go.Proofs.YtfobmfenjdiimaaGreatDoor
open Go.RowKit

theorem rdTexts_lines (ls : List ByteArray) (rest : List UInt8) (hs : ∀ s ∈ ls, s.size ≤ 1024) (k : Nat) (hk : k ≤ ls.length) : rdTexts k ⟨linesB ls ++ rest, 0⟩ = (ls.take k, ⟨linesB (ls.drop k) ++ rest, 0⟩) := by
  induction k with
  | zero => simp [rdTexts]
  | succ k ih =>
    have hk' : k < ls.length := by omega
    have hd : ls.drop k = ls[k] :: ls.drop (k + 1) := List.drop_eq_getElem_cons hk'
    have hl : linesB (ls.drop k) ++ rest = textB ls[k] ++ (linesB (ls.drop (k + 1)) ++ rest) := by
      rw [hd]
      simp only [linesB, List.flatMap_cons, List.append_assoc]
    have ht := rdText_text 1024 ls[k] (linesB (ls.drop (k + 1)) ++ rest) (by have := hs _ (List.getElem_mem hk'); omega) (by decide)
    simp only [rdTexts, ih (by omega)]
    rw [hl]
    rw [ht, strOf_toList, List.take_succ_eq_append_getElem hk']

set_option maxHeartbeats 1000000 in
theorem dec_enc (t : TermT) (h : checkT t = 0) (hse : t.session.size ≤ 65536) : decT (strOf (encB t)) = (t, 0) := by
  obtain ⟨h1, _, h3, h4, _, h6⟩ := checkT_ok h
  obtain ⟨ep, se, ls, sc⟩ := t
  dsimp only at *
  have hlines : ∀ s ∈ ls, s.size ≤ 1024 := fun s hm => lineE_size (linesE_size h4 s hm)
  have e0 : (strOf (encB ⟨ep, se, ls, sc⟩)).data.toList = natBytes ep.toNat ++ (textB se ++ (natBytes ls.length ++ (linesB ls ++ (textB sc ++ [])))) := by
    simp [strOf, encB, headB]
  have e1 : rd1 (strOf (encB ⟨ep, se, ls, sc⟩)).data.toList = (ep.toNat, ⟨textB se ++ (natBytes ls.length ++ (linesB ls ++ (textB sc ++ []))), 0⟩) := by
    unfold rd1
    rw [e0]
    exact rdNum_nat 1073741824 _ _ (by omega) (by omega)
  have e2 : rd2 (strOf (encB ⟨ep, se, ls, sc⟩)).data.toList = (se.data.toList, ⟨natBytes ls.length ++ (linesB ls ++ (textB sc ++ [])), 0⟩) := by
    unfold rd2
    rw [e1]
    exact rdText_text 65536 _ _ (by omega) (by decide)
  have e3 : rd3 (strOf (encB ⟨ep, se, ls, sc⟩)).data.toList = (ls.length, ⟨linesB ls ++ (textB sc ++ []), 0⟩) := by
    unfold rd3
    rw [e2]
    exact rdNum_nat 16 _ _ (by omega) (by omega)
  have e4 : rd4 (strOf (encB ⟨ep, se, ls, sc⟩)).data.toList = (ls, ⟨textB sc ++ [], 0⟩) := by
    unfold rd4
    rw [e3]
    dsimp only
    rw [rdTexts_lines ls _ hlines _ (Nat.le_refl _)]
    simp [linesB]
  have e5 : rd5 (strOf (encB ⟨ep, se, ls, sc⟩)).data.toList = (sc.data.toList, ⟨[], 0⟩) := by
    unfold rd5
    rw [e4]
    exact rdText_text 2048 _ _ (by omega) (by decide)
  have ep0 : decP (strOf (encB ⟨ep, se, ls, sc⟩)).data.toList = ⟨ep, se, ls, sc⟩ := by
    unfold decP
    rw [e1, e2, e4, e5]
    dsimp only
    have hep : ((ep.toNat : Nat) : Int) = ep := by omega
    rw [strOf_toList, strOf_toList, hep]
  unfold decT
  rw [e5, ep0, if_pos ⟨by simp [rdClose], h⟩]

/-- The view holds terminal number, in epoch, as t. -/
structure Holds (V : AV) (number epoch : Int) (N : Nat) (t : TermT) : Prop where
  range : inRange number epoch = true
  get : tGet V number epoch = (t, 0)
  size : (avGet V (ofTerm number)).1.size ≤ 65536
  len : V.calls.length ≤ N
  small : Small t
  ok : checkT t = 0
  ep : t.epoch = epoch

theorem Holds.ready {V : AV} {number epoch : Int} {N : Nat} {t : TermT} (h : Holds V number epoch N t) (hN : N < 1000000) : Ready V number epoch :=
  ⟨Nat.le_trans h.size (by decide), by have := h.len; omega, by rw [h.get]; exact h.small⟩

theorem avGet_seen (V : AV) (n m : NameT) : avGet (avSeen V n) m = avGet V m := by
  unfold avSeen
  split <;> rfl
theorem tGet_seen (V : AV) (number epoch number' epoch' : Int) : tGet (tSeen V number epoch) number' epoch' = tGet V number' epoch' ∧ avGet (tSeen V number epoch) (ofTerm number') = avGet V (ofTerm number') := by
  unfold tSeen
  split
  · exact ⟨rfl, rfl⟩
  · unfold tGet
    rw [avGet_seen]
    exact ⟨rfl, rfl⟩
theorem Holds.seen {V : AV} {number epoch : Int} {N : Nat} {t : TermT} (h : Holds V number epoch N t) (number' epoch' : Int) : Holds (tSeen V number' epoch') number epoch N t :=
  ⟨h.range, by rw [(tGet_seen V number' epoch' number epoch).1]; exact h.get, by rw [(tGet_seen V number' epoch' number epoch).2]; exact h.size, by rw [tSeen_calls]; exact h.len, h.small, h.ok, h.ep⟩

/-- A step with an error. -/
theorem Holds.fails {V : AV} {number epoch : Int} {N : Nat} {t : TermT} (h : Holds V number epoch N t) {op : TermT → TermT × Nat} {t' : TermT} {e : Nat} (ho : op t = (t', e)) (he : e ≠ 0) : (tChange op V number epoch).2 = e ∧ Holds (tChange op V number epoch).1 number epoch N t := by
  have : tChange op V number epoch = (tSeen V number epoch, e) := by simp [tChange, h.get, ho, he]
  rw [this]
  exact ⟨rfl, h.seen _ _⟩
/-- A step that goes. -/
theorem Holds.goes {V : AV} {number epoch : Int} {N : Nat} {t : TermT} (h : Holds V number epoch N t) {op : TermT → TermT × Nat} {t' : TermT} (ho : op t = (t', 0)) (hs : Small t') (hc : checkT t' = 0) (hep : t'.epoch = epoch) :
    (tChange op V number epoch).2 = 0 ∧ Holds (tChange op V number epoch).1 number epoch (N + 1) t' := by
  have he : encT t' = (strOf (encB t'), 0) := by simp [encT, hc]
  have : tChange op V number epoch = (⟨(tSeen V number epoch).base, (tSeen V number epoch).reads, (tSeen V number epoch).calls ++ [⟨ofTerm number, strOf (encB t'), false⟩]⟩, 0) := by simp [tChange, h.get, ho, he]
  rw [this]
  have hg : avGet ⟨(tSeen V number epoch).base, (tSeen V number epoch).reads, (tSeen V number epoch).calls ++ [⟨ofTerm number, strOf (encB t'), false⟩]⟩ (ofTerm number) = (strOf (encB t'), true) := by
    simp [avGet, lastCall_snoc]
  have hd := dec_enc t' hc (Nat.le_trans hs.session (by decide))
  refine ⟨rfl, h.range, ?_, ?_, ?_, hs, hc, hep⟩
  · unfold tGet
    rw [h.range, hg]
    simp [ofValue, hd, hep]
  · rw [hg]
    have := encT_size (t := t') hs.session
    rw [he] at this
    exact this
  · have := h.len
    simp [tSeen_calls]
    omega

end Go.Proofs.YtfobmfenjdiimaaGreatDoor
