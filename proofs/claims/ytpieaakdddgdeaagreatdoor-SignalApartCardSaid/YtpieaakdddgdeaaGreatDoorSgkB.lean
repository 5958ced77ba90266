/- Law 33: base; SignalKills. -/
import Derived.Test.YtpieaakdddgdeaaGreatDoorSgkA
import Derived.Test.YtpieaakdddgdeaaGreatDoorSigN
import Derived.Test.YtpieaakdddgdeaaGreatDoorQmW
import Derived.Deep.LoopGhost
namespace Go.Proofs.YtpieaakdddgdeaaGreatDoor
open Go.RowKit
attribute [local go_sem ↓] Go.wp_at_zero Go.wp_at_succ

structure OpS where
  kd : Nat
  wh : Nat
  to : Nat
  sg : Int
  nn : Int
  is : Bool
instance : Inhabited OpS := ⟨⟨0, 0, 0, 0, 0, false⟩⟩
/-- A slice of law 33's operations that can be read. -/
def OpSlS (w : World) (a : Option Addr) (n : Nat) (f : Nat → OpS) : Prop :=
  0 < n → ∃ g off, a = some ⟨g, off, none⟩ ∧ ∀ j, j < n → w.cell? ⟨g, off + j * 6, none⟩ = some (.int .u8 (f j).kd) ∧ w.cell? ⟨g, off + j * 6 + 1, none⟩ = some (.int .u8 (f j).wh) ∧ w.cell? ⟨g, off + j * 6 + 2, none⟩ = some (.int .u8 (f j).to) ∧
    w.cell? ⟨g, off + j * 6 + 3, none⟩ = some (.int .i64 (f j).sg) ∧ w.cell? ⟨g, off + j * 6 + 4, none⟩ = some (.int .i64 (f j).nn) ∧ w.cell? ⟨g, off + j * 6 + 5, none⟩ = some (.bool (f j).is) ∧ (f j).kd ≤ 255 ∧ (f j).wh ≤ 255 ∧ (f j).to ≤ 255
theorem OpSlS.later {w w' : World} {a : Option Addr} {n : Nat} {f : Nat → OpS} (h : OpSlS w a n f) (hb : Below w.heap.size w w') : OpSlS w' a n f := fun h0 => by
  obtain ⟨g, off, rfl, hc⟩ := h h0
  have hg : g < w.heap.size := World.block_lt_of_cell? w _ (hc 0 h0).1
  refine ⟨g, off, rfl, fun j hj => ?_⟩
  obtain ⟨c0, c1, c2, c3, c4, c5, c6⟩ := hc j hj
  exact ⟨((bcell hb).1 _ _ hg).trans c0, ((bcell hb).1 _ _ hg).trans c1, ((bcell hb).1 _ _ hg).trans c2, ((bcell hb).1 _ _ hg).trans c3, ((bcell hb).1 _ _ hg).trans c4, ((bcell hb).1 _ _ hg).trans c5, c6⟩
/-- A new view of the empty state. -/
theorem qmEmpty (w : World) (hu : Usages w) :
    Calls Tryz.prog 17 #[] w fun r w1 => r = .returned (.pointer (some ⟨w.heap.size, 0, none⟩)) ∧ Calls Tryz.prog 12 #[.pointer (some ⟨w.heap.size, 0, none⟩)] w1 fun r w2 => r = .returned (.pointer (some ⟨w.heap.size + 3, 0, none⟩)) ∧ QM w w2 (w.heap.size + 3) 0 ⟨fun _ => none, [], []⟩ (fun _ => False) := by
  refine (stateNew_any w).mono ?_
  rintro r w1 ⟨rfl, rfl⟩
  refine ⟨rfl, ?_⟩
  have hb1 : Below w.heap.size w (w.alloc (.cells #[.pointer none] 109)) := (Below.refl _ _).alloc (Nat.le_refl _) _
  have hbn := baseN_empty w
  have hsz : (w.alloc (.cells #[.pointer none] 109)).heap.size = w.heap.size + 1 := by simp
  refine (qmNew (w0 := w) (hu.below hb1 hu.pos) hb1 hbn).mono ?_
  rintro r w2 ⟨rfl, s, -⟩
  rw [hsz] at s
  exact ⟨by rw [hsz], s⟩
/-- What base leaves. -/
def BasePost (w : World) (r : Ending) (w' : World) : Prop := ∃ sp f, r = .returned (.pointer (some ⟨sp, 0, none⟩)) ∧ Below w.heap.size w w' ∧ BaseN 20 w'.heap.size w' sp f ∧ RecOkF f

set_option maxRecDepth 100000 in
set_option maxHeartbeats 3200000 in
theorem base33_any (a : Option Addr) (n c : Nat) (fo : Nat → OpS) (w : World) (hu : Usages w) (hn : n ≤ 9223372036854775807) (hl : OpSlS w a n fo) :
    Calls Tryz.prog 13 #[.slice a n c] w (BasePost w) := by
  have Hl := Lib.hid hl; clear hl
  have Hu := Lib.hid hu; clear hu
  go_enter Tryz.func13, Tryz.ntmps13
  go_wp2_with fail
  refine (qmEmpty w Hu.out).mono ?_
  rintro r w1 ⟨rfl, hnext⟩
  have Hnext := Lib.hid hnext; clear hnext
  go_wp2_with fail
  refine Hnext.out.mono ?_
  rintro r w2 ⟨rfl, s2⟩
  have I0 : Hid (QM w w2 (w.heap.size + 3) 0 ⟨fun _ => none, [], []⟩ (fun _ => False) ∧ (⟨fun _ => none, [], []⟩ : AV).calls.length ≤ 0 ∧ RecOk ⟨fun _ => none, [], []⟩) := ⟨s2, Nat.le_refl _, fun m hm => by cases hm⟩
  clear s2 Hnext
  generalize w.heap.size + 3 = b at *
  go_wp2_with fail
  go_loopg [4] n (fun gk iv wr => ∃ (k : Nat) (V : AV), k + gk = n ∧ iv = .int .i64 k ∧ k ≤ 20 ∧ Hid (QM w wr b 0 V (fun _ => False) ∧ V.calls.length ≤ k ∧ RecOk V))
  case atStart => exact ⟨0, _, by omega, rfl, by omega, I0.out⟩
  case round =>
    clear I0
    obtain ⟨k, V, hk, rfl, hk20, HI⟩ := hrel
    have Hk := Lib.hid hk
    have hkn : k ≤ n := by omega
    clear hk
    by_cases hlt : k < n ∧ k < 20
    · obtain ⟨hlt, hlt20⟩ := hlt
      obtain ⟨g, off, rfl, hc⟩ := Hl.out.later HI.out.1.below (by omega)
      obtain ⟨c0, c1, c2, c3, c4, c5, hkd, hwh, hto⟩ := hc k hlt
      clear hc
      generalize fo k = o at *
      obtain ⟨kd, wh, to, sg, nn, is⟩ := o
      dsimp only at *
      have HN : Hid (V.calls.length < 1000000) := by show _ < _; have := HI.out.2.1; omega
      go_wp2_with fail
      refine (sCall_any HI.out.1 HN.out kd wh to sg nn is hwh hto hkd).mono ?_
      rintro r w3 ⟨rfl, s3, -⟩
      have HI3 : Hid (QM w w3 b 0 (sCall V kd wh to sg nn is).1 (fun _ => False) ∧ (sCall V kd wh to sg nn is).1.calls.length ≤ k + 1 ∧ RecOk (sCall V kd wh to sg nn is).1) := ⟨s3, Nat.le_trans (sCall_len _ _ _ _ _ _ _) (by have := HI.out.2.1; omega), HI.out.2.2.call _ _ _ _ _ _⟩
      clear s3 HI c0 c1 c2 c3 c4 c5
      generalize sCall V kd wh to sg nn is = X at *
      go_wp2
      go_roundg (n - (k + 1))
      case measure => have := Hk.out; omega
      case rel => exact ⟨k + 1, X.1, by have := Hk.out; omega, by go_num, by omega, HI3.out⟩
    · have hways : ¬ k < n ∨ (k < n ∧ ¬ k < 20) := by omega
      clear hlt
      have HF : Hid (0 + V.calls.length < 60000) := by show _ < _; have := HI.out.2.1; omega
      have HL : Hid (0 + V.calls.length ≤ 20) := by show _ ≤ _; have := HI.out.2.1; omega
      rcases hways with h5 | ⟨h5, h5'⟩
      all_goals
        go_wp2_with fail
        refine (qmAfter HI.out.1 HF.out).mono ?_
        rintro r w7 ⟨sp', rfl, hb7, hbn⟩
        have HP : Hid (BasePost w (.returned (.pointer (some ⟨sp', 0, none⟩))) w7) := ⟨sp', stOf V, rfl, HI.out.1.below.trans (hb7.mono HI.out.1.below.size), hbn.more HL.out, HI.out.2.2.after⟩
        clear hb7 hbn
        go_wp2
        go_ret
        exact HP.out

set_option maxRecDepth 100000 in
set_option maxHeartbeats 3200000 in
theorem kills_any (a : Option Addr) (n c : Nat) (fo : Nat → OpS) (w : World) (hu : Usages w) (hn : n ≤ 9223372036854775807) (hl : OpSlS w a n fo) :
    Calls Tryz.prog 3 #[.slice a n c] w (TruePost w) := by
  have Hl := Lib.hid hl; clear hl
  have Hu := Lib.hid hu; clear hu
  go_enter Tryz.func3, Tryz.ntmps3
  go_wp2_with fail
  refine (known33 _ Hu.out).mono ?_
  rintro r w1 ⟨rfl, hb1⟩
  have HB1 := Lib.hid hb1; clear hb1
  go_wp2_with fail
  refine (base33_any a n c fo w1 (Hu.out.below HB1.out Hu.out.pos) hn (Hl.out.later HB1.out)).mono ?_
  rintro r w2 ⟨sp, f, rfl, hb2, hbn, hf⟩
  have HB2 : Hid (Below w.heap.size w w2) := HB1.out.trans (hb2.mono HB1.out.size)
  have Hbn := Lib.hid hbn
  have Hf := Lib.hid hf.view
  clear hb2 hbn hf HB1
  go_wp2_with fail
  refine (qmNew (w0 := w) (Hu.out.below HB2.out Hu.out.pos) HB2.out Hbn.out).mono ?_
  rintro r w3 ⟨rfl, s3, -⟩
  have S3 := Lib.hid s3
  clear s3 Hbn HB2
  generalize w2.heap.size + 2 = b at *
  go_wp2_with fail
  have Hx := Lib.hid (Hf.out.get ⟨#[49]⟩)
  obtain ⟨⟨⟨p, bl, i, h0, h1, h2, h3, h4, h5, h6, h7⟩, q⟩, hd⟩ : ∃ d, sGet ⟨f, [], []⟩ ⟨#[49]⟩ = d := ⟨_, rfl⟩
  rw [hd] at Hx
  have Hd := Lib.hid hd; clear hd
  refine (qmSGet' S3.out one_ok Hd.out).mono ?_
  rintro r w4 ⟨rfl, s4, -⟩
  have S4 : Hid (∀ o', QM w (w4.alloc o') b 20 (sSeen ⟨f, [], []⟩ ⟨#[49]⟩) (fun _ => False)) := fun o' => s4.later ((Below.refl _ _).alloc (Nat.le_refl _) _)
  clear s4 S3
  dsimp only [recV, rCells] at *
  by_cases hq : q = 0
  · subst hq
    have hck : checkR ⟨p, bl, i, h0, h1, h2, h3, h4, h5, h6, h7⟩ = 0 := by
      rcases Hx.out with h | ⟨r, h, hc⟩
      · cases h
      · rw [(Prod.mk.inj h).1]; exact hc
    have hg2 : sGet (sSeen ⟨f, [], []⟩ ⟨#[49]⟩) ⟨#[49]⟩ = (⟨p, bl, i, h0, h1, h2, h3, h4, h5, h6, h7⟩, 0) := by
      have := Hd.out
      unfold sGet at this ⊢
      unfold sSeen
      rw [avGet_seenR]
      exact this
    obtain ⟨k1, k2, k3⟩ := kill_plain hg2 hck (by decide +kernel)
    have hlen : (sSeen ⟨f, [], []⟩ ⟨#[49]⟩).calls.length = 0 := by rw [sSeen_calls]; rfl
    have Hlen : Hid ((sSeen ⟨f, [], []⟩ ⟨#[49]⟩).calls.length < 1000000) := by show _ < _; omega
    have Hlen2 : Hid ((sSend (sSeen ⟨f, [], []⟩ ⟨#[49]⟩) ⟨#[49]⟩ ⟨#[49]⟩ 3).1.calls.length < 1000000) := by show _ < _; omega
    have K1 := Lib.hid k1
    have K3 := Lib.hid k3
    clear hck hg2 k1 k2 k3 hlen Hx Hd
    go_wp2_with fail
    have hcall := qmSSend (S4.out (.cells #[.int .i64 p, .int .i64 bl, .int .i64 i, .int .i64 h0, .int .i64 h1, .int .i64 h2, .int .i64 h3, .int .i64 h4, .int .i64 h5, .int .i64 h6, .int .i64 h7] 30)) one_ok one_ok Hlen.out 3
    rw [K1.out] at hcall
    generalize (sSend (sSeen ⟨f, [], []⟩ ⟨#[49]⟩) ⟨#[49]⟩ ⟨#[49]⟩ 3).1 = V5 at *
    refine hcall.mono ?_
    rintro r w5 ⟨rfl, s5, -⟩
    have S5 := Lib.hid s5
    clear s5 S4 hcall
    go_wp2_with fail
    have hcall := qmSTake S5.out one_ok Hlen2.out
    rw [K3.out] at hcall
    refine hcall.mono ?_
    rintro r w6 ⟨rfl, s6, -⟩
    have HB := Lib.hid s6.below
    clear s6 S5 hcall
    dsimp only
    go_wp2
    go_ret
    exact ⟨rfl, HB.out⟩
  · have hq8 : q = 8 := by
      rcases Hx.out with h | ⟨r, h, hc⟩
      · exact (Prod.mk.inj h).2
      · exact absurd (Prod.mk.inj h).2 hq
    subst hq8
    clear hq
    go_wp2
    go_ret
    exact ⟨rfl, (S4.out _).below⟩
end Go.Proofs.YtpieaakdddgdeaaGreatDoor
