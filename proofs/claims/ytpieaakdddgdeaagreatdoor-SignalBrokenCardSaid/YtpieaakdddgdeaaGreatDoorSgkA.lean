/- Law 33, plain: a view whose records are all valid; what Kill does to a record; values that are no records. -/
import Derived.Test.YtpieaakdddgdeaaGreatDoorSgmQ
import Derived.Test.YtpieaakdddgdeaaGreatDoorPlainN
import Derived.Test.YtpieaakdddgdeaaGreatDoorAftB
namespace Go.Proofs.YtpieaakdddgdeaaGreatDoor
open Go.RowKit

/-- Every record that the view shows is valid. -/
def RecOk (V : AV) : Prop := ∀ m, (avGet V (ofPendN m)).2 = true → ∃ r, checkR r = 0 ∧ (avGet V (ofPendN m)).1 = strOf (encRB r)
def RecOkF (f : NameT → Option ByteArray) : Prop := ∀ m x, f (ofPendN m) = some x → ∃ r, checkR r = 0 ∧ x = strOf (encRB r)
theorem ofPendN_inj {a c : ByteArray} (h : ofPendN a = ofPendN c) : a = c := by
  unfold ofPendN at h
  injection h
theorem avGet_one {V V' : AV} {c : ChangeT} (hb : V'.base = V.base) (hc : V'.calls = V.calls ++ [c]) (n : NameT) : avGet V' n = if n = c.name then (c.value, !c.absent) else avGet V n := by
  unfold avGet
  rw [hc, hb, lastCall_snoc]
  by_cases h : n = c.name
  · rw [if_pos h, if_pos h]
  · rw [if_neg h, if_neg h]
theorem RecOk.call {V : AV} (h : RecOk V) (kd wh to : Nat) (sg nn : Int) (iss : Bool) : RecOk (sCall V kd wh to sg nn iss).1 := by
  obtain ⟨ds, h1, h2⟩ := sCall_fit V kd wh to sg nn iss
  have hb : (sCall V kd wh to sg nn iss).1.base = V.base := by rw [← sCallT_run]; exact Vp.run_base _ _
  generalize sCall V kd wh to sg nn iss = X at *
  rcases h2 with rfl | ⟨-, m, rfl | ⟨x, hx, rfl⟩⟩
  · intro k hk
    rw [avGet_same hb (by rw [h1, List.append_nil])] at hk ⊢
    exact h k hk
  · intro k hk
    rw [avGet_one hb h1] at hk ⊢
    by_cases e : ofPendN k = ofPendN m
    · rw [if_pos e] at hk; cases hk
    · rw [if_neg e] at hk ⊢; exact h k hk
  · intro k hk
    rw [avGet_one hb h1] at hk ⊢
    by_cases e : ofPendN k = ofPendN m
    · rw [if_pos e]; exact ⟨x, hx, rfl⟩
    · rw [if_neg e] at hk ⊢; exact h k hk
theorem sCall_len (V : AV) (kd wh to : Nat) (sg nn : Int) (iss : Bool) : (sCall V kd wh to sg nn iss).1.calls.length ≤ V.calls.length + 1 := by
  obtain ⟨ds, h1, h2⟩ := sCall_fit V kd wh to sg nn iss
  rw [h1]
  rcases h2 with rfl | ⟨-, m, rfl | ⟨x, hx, rfl⟩⟩ <;> simp
theorem RecOk.after {V : AV} (h : RecOk V) : RecOkF (stOf V) := by
  intro m x hx
  unfold stOf at hx
  split at hx
  · rename_i h1
    obtain ⟨r, h2, h3⟩ := h m h1
    injection hx with hx
    exact ⟨r, h2, by rw [← hx, h3]⟩
  · cases hx
theorem RecOkF.view {f : NameT → Option ByteArray} (h : RecOkF f) : RecOk ⟨f, [], []⟩ := by
  intro m hm
  have h1 : avGet ⟨f, [], []⟩ (ofPendN m) = ((f (ofPendN m)).getD ⟨#[]⟩, (f (ofPendN m)).isSome) := rfl
  rw [h1] at hm ⊢
  cases hf : f (ofPendN m) with
  | none => rw [hf] at hm; cases hm
  | some x =>
    obtain ⟨r, h2, h3⟩ := h m x hf
    exact ⟨r, h2, h3⟩
theorem RecOk.get {V : AV} (h : RecOk V) (m : ByteArray) : sGet V m = (zeroR, 8) ∨ ∃ r, sGet V m = (r, 0) ∧ checkR r = 0 := by
  unfold sGet sGetV
  cases hv : (avGet V (ofPendN m)).2 with
  | false => exact .inl (if_pos rfl)
  | true =>
    obtain ⟨r, h1, h2⟩ := h m hv
    refine .inr ⟨r, ?_, h1⟩
    rw [if_neg (by simp), h2]
    exact rdec_enc r h1

theorem setB_cases {n : Int} (h : setB n = true) : ∃ k : Fin 255, n = (k.val : Int) ∧ setB (k.val : Int) = true := by
  have h1 := setB_ok h
  exact ⟨⟨n.toNat, by omega⟩, by simp; omega, by rw [show ((n.toNat : Nat) : Int) = n by omega]; exact h⟩
theorem kill_bits : ∀ k : Fin 255, setB (k.val : Int) = true → setB (orP k.val 3) = true ∧ hasB (orP k.val 3) 3 = true := by decide +kernel
theorem andn_bits : ∀ (j : Fin 8) (k : Fin 255), setB (k.val : Int) = true → setB (andnP k.val j.val) = true := by decide +kernel
theorem checkR_p {r : RecT} (h : checkR r = 0) {q : Int} (hq : setB q = true) : checkR { r with p := q } = 0 := by
  obtain ⟨⟨h1, h2, h3, h4⟩, h5, ⟨h6, h7, h8⟩, h9⟩ := checkR_ok h
  have e1 : allH (fun _ x => addrB x) r.hs = true := allH_true h5
  have e2 : allH (fun k x => !clashB r.i k x) r.hs = true := allH_true (fun k hk => by rw [h9 k hk]; rfl)
  have e3 : ({ r with p := q } : RecT).hs = r.hs := rfl
  unfold checkR
  rw [e3, if_neg (by simp [hq, h2, h3, h4]), if_neg (by rw [e1]; simp), if_neg (by simp [h6, h7, h8]), if_neg (by show ¬ allH (fun k x => !clashB r.i k x) r.hs = false; rw [e2]; simp)]
theorem leftP_set {r : RecT} (h : setB r.p = true) (sig : Int) : ∀ k, k ≤ 7 → setB (leftP r sig k) = true := by
  intro k
  induction k with
  | zero => intro _; exact h
  | succ k ih =>
    intro hk
    have h1 := ih (by omega)
    unfold leftP
    split
    · obtain ⟨j, hj, hj2⟩ := setB_cases h1
      rw [hj]
      exact andn_bits ⟨k + 1, by omega⟩ j hj2
    · exact h1
/-- What Kill does. -/
theorem kill_plain {V : AV} {m : ByteArray} {r : RecT} (hg : sGet V m = (r, 0)) (hc : checkR r = 0) (hn : nearB m m = true) :
    (sSend V m m 3).2 = 0 ∧ (sSend V m m 3).1.calls.length ≤ V.calls.length + 1 ∧ (sTake (sSend V m m 3).1 m).2 = ⟨3, 1, 0, 0⟩ := by
  obtain ⟨⟨h1, h2, h3, h4⟩, h5, ⟨h6, h7, h8⟩, h9⟩ := checkR_ok hc
  obtain ⟨k, hk, hk2⟩ := setB_cases h1
  obtain ⟨b1, b2⟩ := kill_bits k hk2
  rw [← hk] at b1 b2
  have hwo : withoutB r 3 = false := by unfold withoutB; rw [h7]; rfl
  have hc' := checkR_p hc b1
  have hs : sSend V m m 3 = (sSet (sSeen V m) m (strOf (encRB { r with p := orP r.p 3 })), 0) := by
    unfold sSend
    rw [if_neg (by decide), if_neg (by rw [hn]; simp), hg, if_neg (by simp), if_neg (by rw [hwo]; simp)]
    exact if_pos hc'
  have hg2 : sGet (sSet (sSeen V m) m (strOf (encRB { r with p := orP r.p 3 }))) m = ({ r with p := orP r.p 3 }, 0) := by
    unfold sGet sSet
    rw [avGet_callR]
    unfold sGetV
    rw [if_neg (by simp)]
    exact rdec_enc _ hc'
  have htk : takesB { r with p := orP r.p 3 } 3 = true := by
    unfold takesB
    rw [show hasB (orP r.p 3) 3 = true from b2, show hasB r.b 3 = false from h6, show withoutB { r with p := orP r.p 3 } 3 = false from hwo]
    rfl
  have hnx : nextB { r with p := orP r.p 3 } = 3 := if_pos htk
  have hl : checkR (leftR { r with p := orP r.p 3 }) = 0 := checkR_p hc' (leftP_set (r := { r with p := orP r.p 3 }) b1 _ 7 (Nat.le_refl _))
  have ht : tkOf { r with p := orP r.p 3 } = ⟨3, 1, 0, 0⟩ := by
    unfold tkOf
    rw [hnx, if_neg (by decide), if_neg]
    show ¬ (RecT.hs r).getD 3 0 ≠ 0
    rw [show (RecT.hs r).getD 3 0 = r.h3 from rfl, h8]
    simp
  rw [hs]
  refine ⟨rfl, by simp [sSet, sSeen_calls], ?_⟩
  unfold sTake
  rw [hg2, if_neg (by simp), ht]
  split
  · rfl
  · rw [if_neg]
    unfold sPut
    rw [if_pos hl]
    simp
/-- A value that is no record: nothing is written. -/
theorem broken_plain {V : AV} {r : RecT} {q : Nat} (hg : sGet V (whoS 1) = (r, q)) (hq : q ≠ 0) (kd : Nat) (hk : 3 ≤ kd ∧ kd ≤ 9) (sg nn : Int) (iss : Bool) :
    (sCall V kd 1 1 sg nn iss).1.calls = V.calls ∧ (sCall V kd 1 1 sg nn iss).2.is = false ∧ ((sCall V kd 1 1 sg nn iss).2.e ≠ 0 ∨ kd = 9) := by
  have hch : ∀ op, sChange op V (whoS 1) = (sSeen V (whoS 1), q) := fun op => by unfold sChange; rw [hg, if_neg hq]
  have hsn : (sSeen V (whoS 1)).calls = V.calls := sSeen_calls _ _
  rcases (by omega : kd = 3 ∨ kd = 4 ∨ kd = 5 ∨ kd = 6 ∨ kd = 7 ∨ kd = 8 ∨ kd = 9) with rfl | rfl | rfl | rfl | rfl | rfl | rfl
  · have h : sCall V 3 1 1 sg nn iss = ((sChange opExec V (whoS 1)).1, ⟨0, 0, 0, false, (sChange opExec V (whoS 1)).2⟩) := rfl
    rw [h, hch]
    exact ⟨hsn, rfl, .inl hq⟩
  · have h : sCall V 4 1 1 sg nn iss = ((sSend V (whoS 1) (whoS 1) sg).1, ⟨0, 0, 0, false, (sSend V (whoS 1) (whoS 1) sg).2⟩) := rfl
    rw [h]
    unfold sSend
    rw [hg]
    split
    · exact ⟨rfl, rfl, .inl (by simp)⟩
    split
    · exact ⟨rfl, rfl, .inl (by simp)⟩
    exact ⟨hsn, rfl, .inl hq⟩
  · have h : sCall V 5 1 1 sg nn iss = ((sHandler V (whoS 1) sg nn).1, ⟨0, 0, 0, false, (sHandler V (whoS 1) sg nn).2⟩) := rfl
    rw [h]
    unfold sHandler
    rw [hch]
    split
    · exact ⟨rfl, rfl, .inl (by simp)⟩
    split
    · exact ⟨rfl, rfl, .inl (by simp)⟩
    exact ⟨hsn, rfl, .inl hq⟩
  · have h : sCall V 6 1 1 sg nn iss = ((sIgnored V (whoS 1) sg iss).1, ⟨0, 0, 0, false, (sIgnored V (whoS 1) sg iss).2⟩) := rfl
    rw [h]
    unfold sIgnored
    rw [hch]
    split
    · exact ⟨rfl, rfl, .inl (by simp)⟩
    split
    · exact ⟨rfl, rfl, .inl (by simp)⟩
    exact ⟨hsn, rfl, .inl hq⟩
  · have h : sCall V 7 1 1 sg nn iss = ((sBlocked V (whoS 1) nn).1, ⟨0, 0, 0, false, (sBlocked V (whoS 1) nn).2⟩) := rfl
    rw [h]
    unfold sBlocked
    rw [hch]
    split
    · exact ⟨rfl, rfl, .inl (by simp)⟩
    split
    · exact ⟨rfl, rfl, .inl (by simp)⟩
    exact ⟨hsn, rfl, .inl hq⟩
  · have h : sCall V 8 1 1 sg nn iss = ((sTake V (whoS 1)).1, ⟨(sTake V (whoS 1)).2.sg, (sTake V (whoS 1)).2.ac, (sTake V (whoS 1)).2.ad, false, (sTake V (whoS 1)).2.e⟩) := rfl
    rw [h]
    have ht : sTake V (whoS 1) = (sSeen V (whoS 1), ⟨0, 0, 0, q⟩) := by unfold sTake; rw [hg, if_pos hq]
    rw [ht]
    exact ⟨hsn, rfl, .inl hq⟩
  · have h : sCall V 9 1 1 sg nn iss = ((sWait V (whoS 1)).1, ⟨0, 0, 0, (sWait V (whoS 1)).2, 0⟩) := rfl
    rw [h]
    have ht : sWait V (whoS 1) = (sSeen V (whoS 1), false) := by unfold sWait; rw [hg]; simp [hq]
    rw [ht]
    exact ⟨hsn, rfl, .inr rfl⟩
end Go.Proofs.YtpieaakdddgdeaaGreatDoor
