/- Law 33, plain: a view whose records are all valid; what Kill does to a record; values that are no records. Law 33: base; SignalKills. -/
import Derived.Test.YtpieaakdddgdeaaGreatDoorSgmQ
import Derived.Test.YtpieaakdddgdeaaGreatDoorPlainN
import Derived.Test.YtpieaakdddgdeaaGreatDoorAftB
import Derived.Test.YtpieaakdddgdeaaGreatDoorSigN
import Derived.Test.YtpieaakdddgdeaaGreatDoorQmW
import Derived.Deep.LoopGhost
namespace Go.Proofs.YtpieaakdddgdeaaGreatDoor
open Go.RowKit

/-- Every record that the view shows is valid. -/
def RecOk (V : AV) : Prop := ∀ m, (avGet V (ofPendN m)).2 = true → ∃ r, checkR r = 0 ∧ (avGet V (ofPendN m)).1 = strOf (encRB r)
def RecOkF (f : NameT → Option ByteArray) : Prop := ∀ m x, f (ofPendN m) = some x → ∃ r, checkR r = 0 ∧ x = strOf (encRB r)
theorem ofPendN_inj {a c : ByteArray} (h : ofPendN a = ofPendN c) : a = c := by
  unfold ofPendN at h
  injection h
theorem avGet_one {V V' : AV} {c : ChangeT} (hb : V'.base = V.base) (hc : V'.calls = V.calls ++ [c]) (n : NameT) : avGet V' n = if n = c.name then (c.value, !c.absent) else avGet V n := by
  unfold avGet
  rw [hc, hb, lastCall_snoc]
  by_cases h : n = c.name
  · rw [if_pos h, if_pos h]
  · rw [if_neg h, if_neg h]
theorem RecOk.call {V : AV} (h : RecOk V) (kd wh to : Nat) (sg nn : Int) (iss : Bool) : RecOk (sCall V kd wh to sg nn iss).1 := by
  obtain ⟨ds, h1, h2⟩ := sCall_fit V kd wh to sg nn iss
  have hb : (sCall V kd wh to sg nn iss).1.base = V.base := by rw [← sCallT_run]; exact Vp.run_base _ _
  generalize sCall V kd wh to sg nn iss = X at *
  rcases h2 with rfl | ⟨-, m, rfl | ⟨x, hx, rfl⟩⟩
  · intro k hk
    rw [avGet_same hb (by rw [h1, List.append_nil])] at hk ⊢
    exact h k hk
  · intro k hk
    rw [avGet_one hb h1] at hk ⊢
    by_cases e : ofPendN k = ofPendN m
    · rw [if_pos e] at hk; cases hk
    · rw [if_neg e] at hk ⊢; exact h k hk
  · intro k hk
    rw [avGet_one hb h1] at hk ⊢
    by_cases e : ofPendN k = ofPendN m
    · rw [if_pos e]; exact ⟨x, hx, rfl⟩
    · rw [if_neg e] at hk ⊢; exact h k hk
theorem sCall_len (V : AV) (kd wh to : Nat) (sg nn : Int) (iss : Bool) : (sCall V kd wh to sg nn iss).1.calls.length ≤ V.calls.length + 1 := by
  obtain ⟨ds, h1, h2⟩ := sCall_fit V kd wh to sg nn iss
  rw [h1]
  rcases h2 with rfl | ⟨-, m, rfl | ⟨x, hx, rfl⟩⟩ <;> simp
theorem RecOk.after {V : AV} (h : RecOk V) : RecOkF (stOf V) := by
  intro m x hx
  unfold stOf at hx
  split at hx
  · rename_i h1
    obtain ⟨r, h2, h3⟩ := h m h1
    injection hx with hx
    exact ⟨r, h2, by rw [← hx, h3]⟩
  · cases hx
theorem RecOkF.view {f : NameT → Option ByteArray} (h : RecOkF f) : RecOk ⟨f, [], []⟩ := by
  intro m hm
  have h1 : avGet ⟨f, [], []⟩ (ofPendN m) = ((f (ofPendN m)).getD ⟨#[]⟩, (f (ofPendN m)).isSome) := rfl
  rw [h1] at hm ⊢
  cases hf : f (ofPendN m) with
  | none => rw [hf] at hm; cases hm
  | some x =>
    obtain ⟨r, h2, h3⟩ := h m x hf
    exact ⟨r, h2, h3⟩
theorem RecOk.get {V : AV} (h : RecOk V) (m : ByteArray) : sGet V m = (zeroR, 8) ∨ ∃ r, sGet V m = (r, 0) ∧ checkR r = 0 := by
  unfold sGet sGetV
  cases hv : (avGet V (ofPendN m)).2 with
  | false => exact .inl (if_pos rfl)
  | true =>
    obtain ⟨r, h1, h2⟩ := h m hv
    refine .inr ⟨r, ?_, h1⟩
    rw [if_neg (by simp), h2]
    exact rdec_enc r h1

theorem setB_cases {n : Int} (h : setB n = true) : ∃ k : Fin 255, n = (k.val : Int) ∧ setB (k.val : Int) = true := by
  have h1 := setB_ok h
  exact ⟨⟨n.toNat, by omega⟩, by simp; omega, by rw [show ((n.toNat : Nat) : Int) = n by omega]; exact h⟩
theorem kill_bits : ∀ k : Fin 255, setB (k.val : Int) = true → setB (orP k.val 3) = true ∧ hasB (orP k.val 3) 3 = true := by decide +kernel
theorem andn_bits : ∀ (j : Fin 8) (k : Fin 255), setB (k.val : Int) = true → setB (andnP k.val j.val) = true := by decide +kernel
theorem checkR_p {r : RecT} (h : checkR r = 0) {q : Int} (hq : setB q = true) : checkR { r with p := q } = 0 := by
  obtain ⟨⟨h1, h2, h3, h4⟩, h5, ⟨h6, h7, h8⟩, h9⟩ := checkR_ok h
  have e1 : allH (fun _ x => addrB x) r.hs = true := allH_true h5
  have e2 : allH (fun k x => !clashB r.i k x) r.hs = true := allH_true (fun k hk => by rw [h9 k hk]; rfl)
  have e3 : ({ r with p := q } : RecT).hs = r.hs := rfl
  unfold checkR
  rw [e3, if_neg (by simp [hq, h2, h3, h4]), if_neg (by rw [e1]; simp), if_neg (by simp [h6, h7, h8]), if_neg (by show ¬ allH (fun k x => !clashB r.i k x) r.hs = false; rw [e2]; simp)]
theorem leftP_set {r : RecT} (h : setB r.p = true) (sig : Int) : ∀ k, k ≤ 7 → setB (leftP r sig k) = true := by
  intro k
  induction k with
  | zero => intro _; exact h
  | succ k ih =>
    intro hk
    have h1 := ih (by omega)
    unfold leftP
    split
    · obtain ⟨j, hj, hj2⟩ := setB_cases h1
      rw [hj]
      exact andn_bits ⟨k + 1, by omega⟩ j hj2
    · exact h1
/-- What Kill does. -/
theorem kill_plain {V : AV} {m : ByteArray} {r : RecT} (hg : sGet V m = (r, 0)) (hc : checkR r = 0) (hn : nearB m m = true) :
    (sSend V m m 3).2 = 0 ∧ (sSend V m m 3).1.calls.length ≤ V.calls.length + 1 ∧ (sTake (sSend V m m 3).1 m).2 = ⟨3, 1, 0, 0⟩ := by
  obtain ⟨⟨h1, h2, h3, h4⟩, h5, ⟨h6, h7, h8⟩, h9⟩ := checkR_ok hc
  obtain ⟨k, hk, hk2⟩ := setB_cases h1
  obtain ⟨b1, b2⟩ := kill_bits k hk2
  rw [← hk] at b1 b2
  have hwo : withoutB r 3 = false := by unfold withoutB; rw [h7]; rfl
  have hc' := checkR_p hc b1
  have hs : sSend V m m 3 = (sSet (sSeen V m) m (strOf (encRB { r with p := orP r.p 3 })), 0) := by
    unfold sSend
    rw [if_neg (by decide), if_neg (by rw [hn]; simp), hg, if_neg (by simp), if_neg (by rw [hwo]; simp)]
    exact if_pos hc'
  have hg2 : sGet (sSet (sSeen V m) m (strOf (encRB { r with p := orP r.p 3 }))) m = ({ r with p := orP r.p 3 }, 0) := by
    unfold sGet sSet
    rw [avGet_callR]
    unfold sGetV
    rw [if_neg (by simp)]
    exact rdec_enc _ hc'
  have htk : takesB { r with p := orP r.p 3 } 3 = true := by
    unfold takesB
    rw [show hasB (orP r.p 3) 3 = true from b2, show hasB r.b 3 = false from h6, show withoutB { r with p := orP r.p 3 } 3 = false from hwo]
    rfl
  have hnx : nextB { r with p := orP r.p 3 } = 3 := if_pos htk
  have hl : checkR (leftR { r with p := orP r.p 3 }) = 0 := checkR_p hc' (leftP_set (r := { r with p := orP r.p 3 }) b1 _ 7 (Nat.le_refl _))
  have ht : tkOf { r with p := orP r.p 3 } = ⟨3, 1, 0, 0⟩ := by
    unfold tkOf
    rw [hnx, if_neg (by decide), if_neg]
    show ¬ (RecT.hs r).getD 3 0 ≠ 0
    rw [show (RecT.hs r).getD 3 0 = r.h3 from rfl, h8]
    simp
  rw [hs]
  refine ⟨rfl, by simp [sSet, sSeen_calls], ?_⟩
  unfold sTake
  rw [hg2, if_neg (by simp), ht]
  split
  · rfl
  · rw [if_neg]
    unfold sPut
    rw [if_pos hl]
    simp
/-- A value that is no record: nothing is written. -/
theorem broken_plain {V : AV} {r : RecT} {q : Nat} (hg : sGet V (whoS 1) = (r, q)) (hq : q ≠ 0) (kd : Nat) (hk : 3 ≤ kd ∧ kd ≤ 9) (sg nn : Int) (iss : Bool) :
    (sCall V kd 1 1 sg nn iss).1.calls = V.calls ∧ (sCall V kd 1 1 sg nn iss).2.is = false ∧ ((sCall V kd 1 1 sg nn iss).2.e ≠ 0 ∨ kd = 9) := by
  have hch : ∀ op, sChange op V (whoS 1) = (sSeen V (whoS 1), q) := fun op => by unfold sChange; rw [hg, if_neg hq]
  have hsn : (sSeen V (whoS 1)).calls = V.calls := sSeen_calls _ _
  rcases (by omega : kd = 3 ∨ kd = 4 ∨ kd = 5 ∨ kd = 6 ∨ kd = 7 ∨ kd = 8 ∨ kd = 9) with rfl | rfl | rfl | rfl | rfl | rfl | rfl
  · have h : sCall V 3 1 1 sg nn iss = ((sChange opExec V (whoS 1)).1, ⟨0, 0, 0, false, (sChange opExec V (whoS 1)).2⟩) := rfl
    rw [h, hch]
    exact ⟨hsn, rfl, .inl hq⟩
  · have h : sCall V 4 1 1 sg nn iss = ((sSend V (whoS 1) (whoS 1) sg).1, ⟨0, 0, 0, false, (sSend V (whoS 1) (whoS 1) sg).2⟩) := rfl
    rw [h]
    unfold sSend
    rw [hg]
    split
    · exact ⟨rfl, rfl, .inl (by simp)⟩
    split
    · exact ⟨rfl, rfl, .inl (by simp)⟩
    exact ⟨hsn, rfl, .inl hq⟩
  · have h : sCall V 5 1 1 sg nn iss = ((sHandler V (whoS 1) sg nn).1, ⟨0, 0, 0, false, (sHandler V (whoS 1) sg nn).2⟩) := rfl
    rw [h]
    unfold sHandler
    rw [hch]
    split
    · exact ⟨rfl, rfl, .inl (by simp)⟩
    split
    · exact ⟨rfl, rfl, .inl (by simp)⟩
    exact ⟨hsn, rfl, .inl hq⟩
  · have h : sCall V 6 1 1 sg nn iss = ((sIgnored V (whoS 1) sg iss).1, ⟨0, 0, 0, false, (sIgnored V (whoS 1) sg iss).2⟩) := rfl
    rw [h]
    unfold sIgnored
    rw [hch]
    split
    · exact ⟨rfl, rfl, .inl (by simp)⟩
    split
    · exact ⟨rfl, rfl, .inl (by simp)⟩
    exact ⟨hsn, rfl, .inl hq⟩
  · have h : sCall V 7 1 1 sg nn iss = ((sBlocked V (whoS 1) nn).1, ⟨0, 0, 0, false, (sBlocked V (whoS 1) nn).2⟩) := rfl
    rw [h]
    unfold sBlocked
    rw [hch]
    split
    · exact ⟨rfl, rfl, .inl (by simp)⟩
    split
    · exact ⟨rfl, rfl, .inl (by simp)⟩
    exact ⟨hsn, rfl, .inl hq⟩
  · have h : sCall V 8 1 1 sg nn iss = ((sTake V (whoS 1)).1, ⟨(sTake V (whoS 1)).2.sg, (sTake V (whoS 1)).2.ac, (sTake V (whoS 1)).2.ad, false, (sTake V (whoS 1)).2.e⟩) := rfl
    rw [h]
    have ht : sTake V (whoS 1) = (sSeen V (whoS 1), ⟨0, 0, 0, q⟩) := by unfold sTake; rw [hg, if_pos hq]
    rw [ht]
    exact ⟨hsn, rfl, .inl hq⟩
  · have h : sCall V 9 1 1 sg nn iss = ((sWait V (whoS 1)).1, ⟨0, 0, 0, (sWait V (whoS 1)).2, 0⟩) := rfl
    rw [h]
    have ht : sWait V (whoS 1) = (sSeen V (whoS 1), false) := by unfold sWait; rw [hg]; simp [hq]
    rw [ht]
    exact ⟨hsn, rfl, .inr rfl⟩
end Go.Proofs.YtpieaakdddgdeaaGreatDoor

namespace Go.Proofs.YtpieaakdddgdeaaGreatDoor
open Go.RowKit
attribute [local go_sem ↓] Go.wp_at_zero Go.wp_at_succ

structure OpS where
  kd : Nat
  wh : Nat
  to : Nat
  sg : Int
  nn : Int
  is : Bool
instance : Inhabited OpS := ⟨⟨0, 0, 0, 0, 0, false⟩⟩
/-- A slice of law 33's operations that can be read. -/
def OpSlS (w : World) (a : Option Addr) (n : Nat) (f : Nat → OpS) : Prop :=
  0 < n → ∃ g off, a = some ⟨g, off, none⟩ ∧ ∀ j, j < n → w.cell? ⟨g, off + j * 6, none⟩ = some (.int .u8 (f j).kd) ∧ w.cell? ⟨g, off + j * 6 + 1, none⟩ = some (.int .u8 (f j).wh) ∧ w.cell? ⟨g, off + j * 6 + 2, none⟩ = some (.int .u8 (f j).to) ∧
    w.cell? ⟨g, off + j * 6 + 3, none⟩ = some (.int .i64 (f j).sg) ∧ w.cell? ⟨g, off + j * 6 + 4, none⟩ = some (.int .i64 (f j).nn) ∧ w.cell? ⟨g, off + j * 6 + 5, none⟩ = some (.bool (f j).is) ∧ (f j).kd ≤ 255 ∧ (f j).wh ≤ 255 ∧ (f j).to ≤ 255
theorem OpSlS.later {w w' : World} {a : Option Addr} {n : Nat} {f : Nat → OpS} (h : OpSlS w a n f) (hb : Below w.heap.size w w') : OpSlS w' a n f := fun h0 => by
  obtain ⟨g, off, rfl, hc⟩ := h h0
  have hg : g < w.heap.size := World.block_lt_of_cell? w _ (hc 0 h0).1
  refine ⟨g, off, rfl, fun j hj => ?_⟩
  obtain ⟨c0, c1, c2, c3, c4, c5, c6⟩ := hc j hj
  exact ⟨((bcell hb).1 _ _ hg).trans c0, ((bcell hb).1 _ _ hg).trans c1, ((bcell hb).1 _ _ hg).trans c2, ((bcell hb).1 _ _ hg).trans c3, ((bcell hb).1 _ _ hg).trans c4, ((bcell hb).1 _ _ hg).trans c5, c6⟩
/-- A new view of the empty state. -/
theorem qmEmpty (w : World) (hu : Usages w) :
    Calls Tryz.prog 17 #[] w fun r w1 => r = .returned (.pointer (some ⟨w.heap.size, 0, none⟩)) ∧ Calls Tryz.prog 12 #[.pointer (some ⟨w.heap.size, 0, none⟩)] w1 fun r w2 => r = .returned (.pointer (some ⟨w.heap.size + 3, 0, none⟩)) ∧ QM w w2 (w.heap.size + 3) 0 ⟨fun _ => none, [], []⟩ (fun _ => False) := by
  refine (stateNew_any w).mono ?_
  rintro r w1 ⟨rfl, rfl⟩
  refine ⟨rfl, ?_⟩
  have hb1 : Below w.heap.size w (w.alloc (.cells #[.pointer none] 109)) := (Below.refl _ _).alloc (Nat.le_refl _) _
  have hbn := baseN_empty w
  have hsz : (w.alloc (.cells #[.pointer none] 109)).heap.size = w.heap.size + 1 := by simp
  refine (qmNew (w0 := w) (hu.below hb1 hu.pos) hb1 hbn).mono ?_
  rintro r w2 ⟨rfl, s, -⟩
  rw [hsz] at s
  exact ⟨by rw [hsz], s⟩
/-- What base leaves. -/
def BasePost (w : World) (r : Ending) (w' : World) : Prop := ∃ sp f, r = .returned (.pointer (some ⟨sp, 0, none⟩)) ∧ Below w.heap.size w w' ∧ BaseN 20 w'.heap.size w' sp f ∧ RecOkF f

set_option maxRecDepth 100000 in
set_option maxHeartbeats 3200000 in
theorem base33_any (a : Option Addr) (n c : Nat) (fo : Nat → OpS) (w : World) (hu : Usages w) (hn : n ≤ 9223372036854775807) (hl : OpSlS w a n fo) :
    Calls Tryz.prog 13 #[.slice a n c] w (BasePost w) := by
  have Hl := Lib.hid hl; clear hl
  have Hu := Lib.hid hu; clear hu
  go_enter Tryz.func13, Tryz.ntmps13
  go_wp2_with fail
  refine (qmEmpty w Hu.out).mono ?_
  rintro r w1 ⟨rfl, hnext⟩
  have Hnext := Lib.hid hnext; clear hnext
  go_wp2_with fail
  refine Hnext.out.mono ?_
  rintro r w2 ⟨rfl, s2⟩
  have I0 : Hid (QM w w2 (w.heap.size + 3) 0 ⟨fun _ => none, [], []⟩ (fun _ => False) ∧ (⟨fun _ => none, [], []⟩ : AV).calls.length ≤ 0 ∧ RecOk ⟨fun _ => none, [], []⟩) := ⟨s2, Nat.le_refl _, fun m hm => by cases hm⟩
  clear s2 Hnext
  generalize w.heap.size + 3 = b at *
  go_wp2_with fail
  go_loopg [4] n (fun gk iv wr => ∃ (k : Nat) (V : AV), k + gk = n ∧ iv = .int .i64 k ∧ k ≤ 20 ∧ Hid (QM w wr b 0 V (fun _ => False) ∧ V.calls.length ≤ k ∧ RecOk V))
  case atStart => exact ⟨0, _, by omega, rfl, by omega, I0.out⟩
  case round =>
    clear I0
    obtain ⟨k, V, hk, rfl, hk20, HI⟩ := hrel
    have Hk := Lib.hid hk
    have hkn : k ≤ n := by omega
    clear hk
    by_cases hlt : k < n ∧ k < 20
    · obtain ⟨hlt, hlt20⟩ := hlt
      obtain ⟨g, off, rfl, hc⟩ := Hl.out.later HI.out.1.below (by omega)
      obtain ⟨c0, c1, c2, c3, c4, c5, hkd, hwh, hto⟩ := hc k hlt
      clear hc
      generalize fo k = o at *
      obtain ⟨kd, wh, to, sg, nn, is⟩ := o
      dsimp only at *
      have HN : Hid (V.calls.length < 1000000) := by show _ < _; have := HI.out.2.1; omega
      go_wp2_with fail
      refine (sCall_any HI.out.1 HN.out kd wh to sg nn is hwh hto hkd).mono ?_
      rintro r w3 ⟨rfl, s3, -⟩
      have HI3 : Hid (QM w w3 b 0 (sCall V kd wh to sg nn is).1 (fun _ => False) ∧ (sCall V kd wh to sg nn is).1.calls.length ≤ k + 1 ∧ RecOk (sCall V kd wh to sg nn is).1) := ⟨s3, Nat.le_trans (sCall_len _ _ _ _ _ _ _) (by have := HI.out.2.1; omega), HI.out.2.2.call _ _ _ _ _ _⟩
      clear s3 HI c0 c1 c2 c3 c4 c5
      generalize sCall V kd wh to sg nn is = X at *
      go_wp2
      go_roundg (n - (k + 1))
      case measure => have := Hk.out; omega
      case rel => exact ⟨k + 1, X.1, by have := Hk.out; omega, by go_num, by omega, HI3.out⟩
    · have hways : ¬ k < n ∨ (k < n ∧ ¬ k < 20) := by omega
      clear hlt
      have HF : Hid (0 + V.calls.length < 60000) := by show _ < _; have := HI.out.2.1; omega
      have HL : Hid (0 + V.calls.length ≤ 20) := by show _ ≤ _; have := HI.out.2.1; omega
      rcases hways with h5 | ⟨h5, h5'⟩
      all_goals
        go_wp2_with fail
        refine (qmAfter HI.out.1 HF.out).mono ?_
        rintro r w7 ⟨sp', rfl, hb7, hbn⟩
        have HP : Hid (BasePost w (.returned (.pointer (some ⟨sp', 0, none⟩))) w7) := ⟨sp', stOf V, rfl, HI.out.1.below.trans (hb7.mono HI.out.1.below.size), hbn.more HL.out, HI.out.2.2.after⟩
        clear hb7 hbn
        go_wp2
        go_ret
        exact HP.out

set_option maxRecDepth 100000 in
set_option maxHeartbeats 3200000 in
theorem kills_any (a : Option Addr) (n c : Nat) (fo : Nat → OpS) (w : World) (hu : Usages w) (hn : n ≤ 9223372036854775807) (hl : OpSlS w a n fo) :
    Calls Tryz.prog 3 #[.slice a n c] w (TruePost w) := by
  have Hl := Lib.hid hl; clear hl
  have Hu := Lib.hid hu; clear hu
  go_enter Tryz.func3, Tryz.ntmps3
  go_wp2_with fail
  refine (known33 _ Hu.out).mono ?_
  rintro r w1 ⟨rfl, hb1⟩
  have HB1 := Lib.hid hb1; clear hb1
  go_wp2_with fail
  refine (base33_any a n c fo w1 (Hu.out.below HB1.out Hu.out.pos) hn (Hl.out.later HB1.out)).mono ?_
  rintro r w2 ⟨sp, f, rfl, hb2, hbn, hf⟩
  have HB2 : Hid (Below w.heap.size w w2) := HB1.out.trans (hb2.mono HB1.out.size)
  have Hbn := Lib.hid hbn
  have Hf := Lib.hid hf.view
  clear hb2 hbn hf HB1
  go_wp2_with fail
  refine (qmNew (w0 := w) (Hu.out.below HB2.out Hu.out.pos) HB2.out Hbn.out).mono ?_
  rintro r w3 ⟨rfl, s3, -⟩
  have S3 := Lib.hid s3
  clear s3 Hbn HB2
  generalize w2.heap.size + 2 = b at *
  go_wp2_with fail
  have Hx := Lib.hid (Hf.out.get ⟨#[49]⟩)
  obtain ⟨⟨⟨p, bl, i, h0, h1, h2, h3, h4, h5, h6, h7⟩, q⟩, hd⟩ : ∃ d, sGet ⟨f, [], []⟩ ⟨#[49]⟩ = d := ⟨_, rfl⟩
  rw [hd] at Hx
  have Hd := Lib.hid hd; clear hd
  refine (qmSGet' S3.out one_ok Hd.out).mono ?_
  rintro r w4 ⟨rfl, s4, -⟩
  have S4 : Hid (∀ o', QM w (w4.alloc o') b 20 (sSeen ⟨f, [], []⟩ ⟨#[49]⟩) (fun _ => False)) := fun o' => s4.later ((Below.refl _ _).alloc (Nat.le_refl _) _)
  clear s4 S3
  dsimp only [recV, rCells] at *
  by_cases hq : q = 0
  · subst hq
    have hck : checkR ⟨p, bl, i, h0, h1, h2, h3, h4, h5, h6, h7⟩ = 0 := by
      rcases Hx.out with h | ⟨r, h, hc⟩
      · cases h
      · rw [(Prod.mk.inj h).1]; exact hc
    have hg2 : sGet (sSeen ⟨f, [], []⟩ ⟨#[49]⟩) ⟨#[49]⟩ = (⟨p, bl, i, h0, h1, h2, h3, h4, h5, h6, h7⟩, 0) := by
      have := Hd.out
      unfold sGet at this ⊢
      unfold sSeen
      rw [avGet_seenR]
      exact this
    obtain ⟨k1, k2, k3⟩ := kill_plain hg2 hck (by decide +kernel)
    have hlen : (sSeen ⟨f, [], []⟩ ⟨#[49]⟩).calls.length = 0 := by rw [sSeen_calls]; rfl
    have Hlen : Hid ((sSeen ⟨f, [], []⟩ ⟨#[49]⟩).calls.length < 1000000) := by show _ < _; omega
    have Hlen2 : Hid ((sSend (sSeen ⟨f, [], []⟩ ⟨#[49]⟩) ⟨#[49]⟩ ⟨#[49]⟩ 3).1.calls.length < 1000000) := by show _ < _; omega
    have K1 := Lib.hid k1
    have K3 := Lib.hid k3
    clear hck hg2 k1 k2 k3 hlen Hx Hd
    go_wp2_with fail
    have hcall := qmSSend (S4.out (.cells #[.int .i64 p, .int .i64 bl, .int .i64 i, .int .i64 h0, .int .i64 h1, .int .i64 h2, .int .i64 h3, .int .i64 h4, .int .i64 h5, .int .i64 h6, .int .i64 h7] 30)) one_ok one_ok Hlen.out 3
    rw [K1.out] at hcall
    generalize (sSend (sSeen ⟨f, [], []⟩ ⟨#[49]⟩) ⟨#[49]⟩ ⟨#[49]⟩ 3).1 = V5 at *
    refine hcall.mono ?_
    rintro r w5 ⟨rfl, s5, -⟩
    have S5 := Lib.hid s5
    clear s5 S4 hcall
    go_wp2_with fail
    have hcall := qmSTake S5.out one_ok Hlen2.out
    rw [K3.out] at hcall
    refine hcall.mono ?_
    rintro r w6 ⟨rfl, s6, -⟩
    have HB := Lib.hid s6.below
    clear s6 S5 hcall
    dsimp only
    go_wp2
    go_ret
    exact ⟨rfl, HB.out⟩
  · have hq8 : q = 8 := by
      rcases Hx.out with h | ⟨r, h, hc⟩
      · exact (Prod.mk.inj h).2
      · exact absurd (Prod.mk.inj h).2 hq
    subst hq8
    clear hq
    go_wp2
    go_ret
    exact ⟨rfl, (S4.out _).below⟩
end Go.Proofs.YtpieaakdddgdeaaGreatDoor
