/- Law 37: an operation upon any view: what it reads, writes, returns. Law 37: base; slices of operations. (printed by wip/gen_pqb.py) -/
import Derived.Test.YtijfdgoeppehlaaGreatDoorPwC
import Derived.Test.YtijfdgoeppehlaaGreatDoorQmW
import Derived.Test.YtijfdgoeppehlaaGreatDoorRdsE
namespace Go.Proofs.YtijfdgoeppehlaaGreatDoor
open Go.RowKit

/-- The port that a view shows, if it can be read. -/
def oOf (V : AV) (m : Int) : Option PortT := if (avGet V (ofPortN m)).2 = true ∧ (decQ (avGet V (ofPortN m)).1).2 = 0 then some (decQ (avGet V (ofPortN m)).1).1 else none
theorem holdsW_of {V : AV} {m : Int} {x : ByteArray × Bool} (hx : avGet V (ofPortN m) = x) (hz : x.1.size ≤ 65536) : HoldsW V m (if x.2 = true ∧ (decQ x.1).2 = 0 then some (decQ x.1).1 else none) := by
  obtain ⟨d, hd⟩ : ∃ d, decQ x.1 = d := ⟨_, rfl⟩
  rw [hd]
  by_cases h : x.2 = true ∧ d.2 = 0
  · rw [if_pos h]
    have h0 : (decQ x.1).2 = 0 := by rw [hd]; exact h.2
    obtain ⟨h1, h2, h3⟩ := decQ_canon _ h0
    rw [hd] at h1 h2 h3
    refine ⟨(fun e => nomatch e), fun p e => ?_⟩
    have e := Option.some.inj e
    rw [e] at h1 h2 h3
    refine ⟨?_, h2, h3⟩
    rw [hx, h1]
    exact Prod.ext rfl h.1
  · rw [if_neg h]
    refine ⟨fun _ => ?_, fun p e => nomatch e⟩
    rw [hx, hd]
    cases hc : x.2 with
    | false => exact .inl rfl
    | true => exact .inr ⟨fun h2 => h ⟨hc, h2⟩, hz⟩
theorem oOf_holds {w0 w : World} {b : Nat} {N : NV} {G : Nat → Prop} (s : QM w0 w b N.M N.V G) (m : Int) : HoldsW N.V m (oOf N.V m) :=
  holdsW_of rfl (s.size _)
theorem oOf_same {V V' : AV} {m : Int} (h : avGet V' (ofPortN m) = avGet V (ofPortN m)) : oOf V' m = oOf V m := by
  unfold oOf
  rw [h]
/-- What an operation makes of a view. -/
def pCallN (N : NV) (kd wh us : Nat) (nu ep : Int) (sr by_ : ByteArray) : NV × PRes :=
  (N.step nu (pCallW kd wh us nu ep sr by_ (oOf N.V nu)).2.2 (pCallW kd wh us nu ep sr by_ (oOf N.V nu)).1, (pCallW kd wh us nu ep sr by_ (oOf N.V nu)).2.1)
theorem step_M (N : NV) (m : Int) (d : Nat) (o : Option PortT) : (N.step m d o).M = N.M := by
  unfold NV.step
  split
  · rfl
  · rfl
  · split <;> rfl
theorem pCall_any {w0 w : World} {b : Nat} {N : NV} {G : Nat → Prop} (s : QM w0 w b N.M N.V G) (hN : N.V.calls.length < 1000000) (kd wh us : Nat) (nu ep : Int) (sr by_ : ByteArray) (hwh : wh ≤ 255) (hsr : sr.size ≤ 9223372036854775807) (hby : by_.size ≤ 9223372036854775807) :
    Calls Tryz.prog 12 #[.agg #[.int .u8 kd, .int .u8 wh, .int .u8 us, .int .i64 nu, .int .i64 ep, .string sr, .string by_], .pointer (some ⟨b, 0, none⟩)] w (QMP w0 b N.M (pCallN N kd wh us nu ep sr by_).1.V G w (.agg (presCells (pCallN N kd wh us nu ep sr by_).2))) := by
  refine (pw_any (s := ⟨s, oOf_holds s nu⟩) hN hwh hsr hby).mono ?_
  rintro r w' ⟨rfl, hs, hk⟩
  refine ⟨rfl, ?_, hk⟩
  have := hs.qm
  rw [step_M] at this
  exact this

/-- Codes: nothing asked, whatever the port is. -/
theorem pCallW_zero {kd wh us : Nat} {nu ep : Int} {sr by_ : ByteArray} {o : Option PortT} (h : (pCallW kd wh us nu ep sr by_ o).2.2 = 0) (o2 : Option PortT) : pCallW kd wh us nu ep sr by_ o2 = (o2, (pCallW kd wh us nu ep sr by_ o).2.1, 0) := by
  unfold pCallW at h ⊢
  by_cases k0 : kd % 5 = 0
  · simp only [if_pos k0] at h ⊢
    unfold openW at h ⊢
    by_cases a : qArgs (whoN wh) nu ep ≠ 0
    · simp only [if_pos a] at h ⊢
    · simp only [if_neg a] at h ⊢
      by_cases c : nu ≤ 99 ∧ ((us : Int) % 3) ≠ 0
      · simp only [if_pos c] at h ⊢
      · simp only [if_neg c] at h
        split at h <;> simp at h
  by_cases k1 : kd % 5 = 1
  · simp only [if_neg k0, if_pos k1] at h ⊢
    unfold closeW at h ⊢
    by_cases a : qArgs (whoN wh) nu ep ≠ 0
    · simp only [if_pos a] at h ⊢
    · simp only [if_neg a] at h
      split at h
      · simp at h
      · split at h <;> simp at h
  by_cases k2 : kd % 5 = 2
  · simp only [if_neg k0, if_neg k1, if_pos k2] at h ⊢
    unfold arriveW at h ⊢
    by_cases a : qArgs ⟨#[]⟩ nu ep ≠ 0
    · simp only [if_pos a] at h ⊢
    · simp only [if_neg a] at h ⊢
      by_cases c : packE ⟨cut sr 60, cut by_ 600⟩ ≠ 0
      · simp only [if_pos c] at h ⊢
      · simp only [if_neg c] at h
        split at h
        · simp at h
        · split at h
          · simp at h
          · split at h <;> simp at h
  by_cases k3 : kd % 5 = 3
  · simp only [if_neg k0, if_neg k1, if_neg k2, if_pos k3] at h ⊢
    unfold receiveW at h ⊢
    by_cases a : qArgs (whoN wh) nu ep ≠ 0
    · simp only [if_pos a] at h ⊢
    · simp only [if_neg a] at h
      unfold recvW at h
      split at h
      · simp at h
      · split at h
        · simp at h
        · split at h <;> simp at h
  · simp only [if_neg k0, if_neg k1, if_neg k2, if_neg k3] at h ⊢
    unfold getW at h ⊢
    by_cases a : qArgs ⟨#[]⟩ nu ep ≠ 0
    · simp only [if_pos a] at h ⊢
    · simp only [if_neg a] at h
      simp at h
/-- An error writes nothing, but Arrive's of a full queue. -/
theorem pCallW_err {kd wh us : Nat} {nu ep : Int} {sr by_ : ByteArray} {o : Option PortT} (h : (pCallW kd wh us nu ep sr by_ o).2.1.e ≠ 0) : (pCallW kd wh us nu ep sr by_ o).2.2 ≤ 1 ∨ (kd % 5 = 2 ∧ (pCallW kd wh us nu ep sr by_ o).2.1.e = 9) := by
  unfold pCallW at h ⊢
  by_cases k0 : kd % 5 = 0
  · simp only [if_pos k0] at h ⊢
    unfold openW at h ⊢
    left
    split
    · simp
    · split
      · simp
      · split
        · simp
        · rename_i h1 h2 h3
          simp [h1, h2, h3] at h
  by_cases k1 : kd % 5 = 1
  · simp only [if_neg k0, if_pos k1] at h ⊢
    unfold closeW at h ⊢
    left
    split
    · simp
    · split
      · simp
      · split
        · simp
        · rename_i h1 h2 h3
          simp [h1, h2, h3] at h
  by_cases k2 : kd % 5 = 2
  · simp only [if_neg k0, if_neg k1, if_pos k2] at h ⊢
    unfold arriveW at h ⊢
    split
    · left; simp
    · split
      · left; simp
      · split
        · left; simp
        · split
          · rename_i h1 h2 h3 h4
            simp [h1, h2, h3, h4] at h
          · split
            · right; exact ⟨k2, rfl⟩
            · left; simp
  by_cases k3 : kd % 5 = 3
  · simp only [if_neg k0, if_neg k1, if_neg k2, if_pos k3] at h ⊢
    unfold receiveW at h ⊢
    left
    split
    · simp
    · unfold recvW at h ⊢
      split
      · simp
      · split
        · simp
        · split
          · simp
          · rename_i h0 h1 h2 h3
            simp [h0, h1, h2, h3] at h
  · simp only [if_neg k0, if_neg k1, if_neg k2, if_neg k3] at h ⊢
    unfold getW
    left
    split <;> simp
/-- What a step adds to a view. -/
theorem step_touch (N : NV) (m : Int) (d : Nat) (o : Option PortT) :
    (∀ p ∈ (N.step m d o).V.reads, p ∈ N.V.reads ∨ p.1 = ofPortN m) ∧ ∃ ds, (N.step m d o).V.calls = N.V.calls ++ ds ∧ ds.length ≤ 1 ∧ (∀ c ∈ ds, c.name = ofPortN m) ∧ (d ≤ 1 → ds = []) ∧ (N.step m d o).V.base = N.V.base := by
  have hseen : ∀ p ∈ (N.seen m).V.reads, p ∈ N.V.reads ∨ p.1 = ofPortN m := fun p hp => by
    unfold NV.seen avSeen at hp
    split at hp
    · exact .inl hp
    · rcases aSet_mem _ _ _ hp with h | h
      · right; rw [h]
      · exact .inl h
  have hcalls : (N.seen m).V.calls = N.V.calls := avSeen_callsQ _ _
  have hbase : (N.seen m).V.base = N.V.base := avSeen_base _ _
  unfold NV.step
  split
  · exact ⟨fun p hp => .inl hp, [], by simp, by simp, by simp, fun _ => rfl, rfl⟩
  · exact ⟨hseen, [], by rw [hcalls]; simp, by simp, by simp, fun _ => rfl, hbase⟩
  · rename_i h0 h1
    split
    · refine ⟨hseen, _, by unfold NV.put; rw [hcalls], by simp, by simp, fun h => ?_, hbase⟩
      rcases (by omega : d = 0 ∨ d = 1) with e | e
      · exact absurd e h0
      · exact absurd e h1
    · refine ⟨hseen, _, by unfold NV.del; rw [hcalls], by simp, by simp, fun h => ?_, hbase⟩
      rcases (by omega : d = 0 ∨ d = 1) with e | e
      · exact absurd e h0
      · exact absurd e h1
/-- Two fresh views whose bases agree at the port, if it was read. -/
theorem pframe_plain {M M' : Nat} {f g : NameT → Option ByteArray} {kd wh us : Nat} {nu ep : Int} {sr by_ : ByteArray} (h : ∀ n ∈ (pCallN ⟨M, ⟨f, [], []⟩⟩ kd wh us nu ep sr by_).1.V.reads.map Prod.fst, g n = f n) :
    (pCallN ⟨M', ⟨g, [], []⟩⟩ kd wh us nu ep sr by_).2 = (pCallN ⟨M, ⟨f, [], []⟩⟩ kd wh us nu ep sr by_).2 ∧ (pCallN ⟨M', ⟨g, [], []⟩⟩ kd wh us nu ep sr by_).1.V.reads = (pCallN ⟨M, ⟨f, [], []⟩⟩ kd wh us nu ep sr by_).1.V.reads ∧ (pCallN ⟨M', ⟨g, [], []⟩⟩ kd wh us nu ep sr by_).1.V.calls = (pCallN ⟨M, ⟨f, [], []⟩⟩ kd wh us nu ep sr by_).1.V.calls := by
  unfold pCallN at h ⊢
  dsimp only at h ⊢
  by_cases h0 : (pCallW kd wh us nu ep sr by_ (oOf ⟨f, [], []⟩ nu)).2.2 = 0
  · rw [pCallW_zero h0 (oOf ⟨g, [], []⟩ nu), h0]
    exact ⟨rfl, rfl, rfl⟩
  · have hread : g (ofPortN nu) = f (ofPortN nu) := by
      apply h
      have hs : (ofPortN nu) ∈ (((⟨M, ⟨f, [], []⟩⟩ : NV).seen nu).V.reads.map Prod.fst) := by simp [NV.seen, avSeen, lastCall, aSet]
      unfold NV.step
      split
      · rename_i e; exact absurd e h0
      · exact hs
      · split
        · exact hs
        · exact hs
    have hg : avGet ⟨g, [], []⟩ (ofPortN nu) = avGet ⟨f, [], []⟩ (ofPortN nu) := by simp [avGet, lastCall, hread]
    rw [oOf_same hg]
    have hsn : (((⟨M', ⟨g, [], []⟩⟩ : NV).seen nu).V.reads) = (((⟨M, ⟨f, [], []⟩⟩ : NV).seen nu).V.reads) := by simp [NV.seen, avSeen, lastCall, aSet, hread]
    have hsc : (((⟨M', ⟨g, [], []⟩⟩ : NV).seen nu).V.calls) = (((⟨M, ⟨f, [], []⟩⟩ : NV).seen nu).V.calls) := by simp [NV.seen, avSeen, lastCall]
    refine ⟨rfl, ?_, ?_⟩
    · unfold NV.step
      split
      · rename_i e; exact absurd e h0
      · exact hsn
      · split
        · exact hsn
        · exact hsn
    · unfold NV.step
      split
      · rename_i e; exact absurd e h0
      · exact hsc
      · split
        · show _ ++ _ = _ ++ _; rw [hsc]
        · show _ ++ _ = _ ++ _; rw [hsc]
end Go.Proofs.YtijfdgoeppehlaaGreatDoor

namespace Go.Proofs.YtijfdgoeppehlaaGreatDoor
open Go.RowKit
attribute [local go_sem ↓] Go.wp_at_zero Go.wp_at_succ

theorem lastCall_in {cs : List ChangeT} {n : NameT} {c : ChangeT} (h : lastCall cs n = some c) : c ∈ cs := by
  induction cs with
  | nil => cases h
  | cons d cs ih =>
    unfold lastCall at h
    split at h
    · rename_i e he
      cases h
      exact List.mem_cons_of_mem _ (ih he)
    · split at h
      · cases h; exact List.mem_cons_self
      · cases h
theorem writes_in {cs : List ChangeT} {c : ChangeT} (h : c ∈ writesU cs) : c ∈ cs := lastCall_in (writes_mem.1 h)
theorem QM.rdk {w0 w : World} {b M : Nat} {V : AV} {G : Nat → Prop} (s : QM w0 w b M V G) : ReadsOk V.reads := by
  obtain ⟨⟨h, hv, _⟩, _⟩ := s
  exact hv.rdk
theorem two_names {l : List NameT} {x y : NameT} (hn : l.Nodup) (h : ∀ n ∈ l, n = x ∨ n = y) : l.length ≤ 2 := by
  match l, hn, h with
  | [], _, _ => simp
  | [_], _, _ => simp
  | [_, _], _, _ => simp
  | a :: b :: c :: r, hn, h =>
    exfalso
    simp only [List.nodup_cons, List.mem_cons, not_or] at hn
    obtain ⟨⟨h1, h2, _⟩, ⟨h3, _⟩, _⟩ := hn
    have ha := h a (by simp)
    have hb := h b (by simp)
    have hc := h c (by simp)
    rcases ha with rfl | rfl <;> rcases hb with rfl | rfl <;> rcases hc with rfl | rfl <;> simp_all
structure OpP where
  kd : Nat
  wh : Nat
  us : Nat
  nu : Int
  ep : Int
  sr : ByteArray
  by_ : ByteArray
instance : Inhabited OpP := ⟨⟨0, 0, 0, 0, 0, ⟨#[]⟩, ⟨#[]⟩⟩⟩
/-- A slice of law 37's operations that can be read. -/
def OpSlP (w : World) (a : Option Addr) (n : Nat) (f : Nat → OpP) : Prop :=
  0 < n → ∃ g off, a = some ⟨g, off, none⟩ ∧ ∀ j, j < n → w.cell? ⟨g, off + j * 7, none⟩ = some (.int .u8 (f j).kd) ∧ w.cell? ⟨g, off + j * 7 + 1, none⟩ = some (.int .u8 (f j).wh) ∧ w.cell? ⟨g, off + j * 7 + 2, none⟩ = some (.int .u8 (f j).us) ∧
    w.cell? ⟨g, off + j * 7 + 3, none⟩ = some (.int .i64 (f j).nu) ∧ w.cell? ⟨g, off + j * 7 + 4, none⟩ = some (.int .i64 (f j).ep) ∧ w.cell? ⟨g, off + j * 7 + 5, none⟩ = some (.string (f j).sr) ∧ w.cell? ⟨g, off + j * 7 + 6, none⟩ = some (.string (f j).by_) ∧ (f j).wh ≤ 255 ∧ (f j).sr.size ≤ 9223372036854775807 ∧ (f j).by_.size ≤ 9223372036854775807
theorem OpSlP.later {w w' : World} {a : Option Addr} {n : Nat} {f : Nat → OpP} (h : OpSlP w a n f) (hb : Below w.heap.size w w') : OpSlP w' a n f := fun h0 => by
  obtain ⟨g, off, rfl, hc⟩ := h h0
  have hg : g < w.heap.size := World.block_lt_of_cell? w _ (hc 0 h0).1
  refine ⟨g, off, rfl, fun j hj => ?_⟩
  obtain ⟨c0, c1, c2, c3, c4, c5, c6, c7⟩ := hc j hj
  exact ⟨((bcell hb).1 _ _ hg).trans c0, ((bcell hb).1 _ _ hg).trans c1, ((bcell hb).1 _ _ hg).trans c2, ((bcell hb).1 _ _ hg).trans c3, ((bcell hb).1 _ _ hg).trans c4, ((bcell hb).1 _ _ hg).trans c5, ((bcell hb).1 _ _ hg).trans c6, c7⟩
theorem pCallN_len (N : NV) (kd wh us : Nat) (nu ep : Int) (sr by_ : ByteArray) : (pCallN N kd wh us nu ep sr by_).1.V.calls.length ≤ N.V.calls.length + 1 := by
  obtain ⟨-, ds, h1, h2, -⟩ := step_touch N nu (pCallW kd wh us nu ep sr by_ (oOf N.V nu)).2.2 (pCallW kd wh us nu ep sr by_ (oOf N.V nu)).1
  unfold pCallN
  dsimp only
  rw [h1, List.length_append]
  omega
/-- A new view of the empty state. -/
theorem qmEmpty (w : World) (hu : Usages w) :
    Calls Tryz.prog 8 #[] w fun r w1 => r = .returned (.pointer (some ⟨w.heap.size, 0, none⟩)) ∧ Calls Tryz.prog 7 #[.pointer (some ⟨w.heap.size, 0, none⟩)] w1 fun r w2 => r = .returned (.pointer (some ⟨w.heap.size + 3, 0, none⟩)) ∧ QM w w2 (w.heap.size + 3) 0 ⟨fun _ => none, [], []⟩ (fun _ => False) := by
  refine (stateNew_any w).mono ?_
  rintro r w1 ⟨rfl, rfl⟩
  refine ⟨rfl, ?_⟩
  have hb1 : Below w.heap.size w (w.alloc (.cells #[.pointer none] 69)) := (Below.refl _ _).alloc (Nat.le_refl _) _
  have hbn := baseN_empty w
  have hsz : (w.alloc (.cells #[.pointer none] 69)).heap.size = w.heap.size + 1 := by simp
  refine (qmNew (w0 := w) (hu.below hb1 hu.pos) hb1 hbn).mono ?_
  rintro r w2 ⟨rfl, s, -⟩
  rw [hsz] at s
  exact ⟨by rw [hsz], s⟩
/-- What base leaves. -/
def BasePostQ (w : World) (r : Ending) (w' : World) : Prop := ∃ sp f, r = .returned (.pointer (some ⟨sp, 0, none⟩)) ∧ Below w.heap.size w w' ∧ BaseN 20 w'.heap.size w' sp f

set_option maxRecDepth 100000 in
set_option maxHeartbeats 3200000 in
theorem base37_any (a : Option Addr) (n c : Nat) (fo : Nat → OpP) (w : World) (hu : Usages w) (hn : n ≤ 9223372036854775807) (hl : OpSlP w a n fo) :
    Calls Tryz.prog 11 #[.slice a n c] w (BasePostQ w) := by
  have Hl := Lib.hid hl; clear hl
  have Hu := Lib.hid hu; clear hu
  go_enter Tryz.func11, Tryz.ntmps11
  go_wp2_with fail
  refine (qmEmpty w Hu.out).mono ?_
  rintro r w1 ⟨rfl, hnext⟩
  have Hnext := Lib.hid hnext; clear hnext
  go_wp2_with fail
  refine Hnext.out.mono ?_
  rintro r w2 ⟨rfl, s2⟩
  have I0 : Hid (QM w w2 (w.heap.size + 3) 0 ⟨fun _ => none, [], []⟩ (fun _ => False) ∧ (⟨fun _ => none, [], []⟩ : AV).calls.length ≤ 0) := ⟨s2, Nat.le_refl _⟩
  clear s2 Hnext
  generalize w.heap.size + 3 = b at *
  go_wp2_with fail
  go_loopg [4] n (fun gk iv wr => ∃ (k : Nat) (V : AV), k + gk = n ∧ iv = .int .i64 k ∧ k ≤ 20 ∧ Hid (QM w wr b 0 V (fun _ => False) ∧ V.calls.length ≤ k))
  case atStart => exact ⟨0, _, by omega, rfl, by omega, I0.out⟩
  case round =>
    clear I0
    obtain ⟨k, V, hk, rfl, hk20, HI⟩ := hrel
    have Hk := Lib.hid hk
    have hkn : k ≤ n := by omega
    clear hk
    by_cases hlt : k < n ∧ k < 20
    · obtain ⟨hlt, hlt20⟩ := hlt
      obtain ⟨g, off, rfl, hc⟩ := Hl.out.later HI.out.1.below (by omega)
      obtain ⟨c0, c1, c2, c3, c4, c5, c6, hwh, hsr, hby⟩ := hc k hlt
      clear hc
      generalize fo k = o at *
      obtain ⟨kd, wh, us, nu, ep, sr, by_⟩ := o
      dsimp only at *
      have HN : Hid (V.calls.length < 1000000) := by show _ < _; have := HI.out.2; omega
      go_wp2_with fail
      refine (pCall_any (N := ⟨0, V⟩) HI.out.1 HN.out kd wh us nu ep sr by_ hwh hsr hby).mono ?_
      rintro r w3 ⟨rfl, s3, -⟩
      have HI3 : Hid (QM w w3 b 0 (pCallN ⟨0, V⟩ kd wh us nu ep sr by_).1.V (fun _ => False) ∧ (pCallN ⟨0, V⟩ kd wh us nu ep sr by_).1.V.calls.length ≤ k + 1) := ⟨s3, Nat.le_trans (pCallN_len _ _ _ _ _ _ _ _) (by have := HI.out.2; show V.calls.length + 1 ≤ _; omega)⟩
      clear s3 HI c0 c1 c2 c3 c4 c5 c6
      generalize pCallN ⟨0, V⟩ kd wh us nu ep sr by_ = X at *
      go_wp2
      go_roundg (n - (k + 1))
      case measure => have := Hk.out; omega
      case rel => exact ⟨k + 1, X.1.V, by have := Hk.out; omega, by go_num, by omega, HI3.out⟩
    · have hways : ¬ k < n ∨ (k < n ∧ ¬ k < 20) := by omega
      clear hlt
      have HF : Hid (0 + V.calls.length < 60000) := by show _ < _; have := HI.out.2; omega
      have HL : Hid (0 + V.calls.length ≤ 20) := by show _ ≤ _; have := HI.out.2; omega
      rcases hways with h5 | ⟨h5, h5'⟩
      all_goals
        go_wp2_with fail
        refine (qmAfter HI.out.1 HF.out).mono ?_
        rintro r w7 ⟨sp', rfl, hb7, hbn⟩
        have HP : Hid (BasePostQ w (.returned (.pointer (some ⟨sp', 0, none⟩))) w7) := ⟨sp', stOf V, rfl, HI.out.1.below.trans (hb7.mono HI.out.1.below.size), hbn.more HL.out⟩
        clear hb7 hbn
        go_wp2
        go_ret
        exact HP.out

/-- What an operation upon a new view touches. -/
theorem qapart_plain (f : NameT → Option ByteArray) (kd wh us : Nat) (nu ep : Int) (sr by_ : ByteArray) :
    (∀ p ∈ (pCallN ⟨20, ⟨f, [], []⟩⟩ kd wh us nu ep sr by_).1.V.reads, p.1 = ofPortN nu) ∧ (∀ c ∈ (pCallN ⟨20, ⟨f, [], []⟩⟩ kd wh us nu ep sr by_).1.V.calls, c.name = ofPortN nu) ∧
      ((pCallN ⟨20, ⟨f, [], []⟩⟩ kd wh us nu ep sr by_).2.e ≠ 0 → (pCallN ⟨20, ⟨f, [], []⟩⟩ kd wh us nu ep sr by_).1.V.calls = [] ∨ (kd % 5 = 2 ∧ (pCallN ⟨20, ⟨f, [], []⟩⟩ kd wh us nu ep sr by_).2.e = 9)) ∧ (pCallN ⟨20, ⟨f, [], []⟩⟩ kd wh us nu ep sr by_).1.V.calls.length ≤ 1 := by
  obtain ⟨h1, ds, h2, h3, h4, h5, -⟩ := step_touch ⟨20, ⟨f, [], []⟩⟩ nu (pCallW kd wh us nu ep sr by_ (oOf ⟨f, [], []⟩ nu)).2.2 (pCallW kd wh us nu ep sr by_ (oOf ⟨f, [], []⟩ nu)).1
  unfold pCallN
  dsimp only
  have h2' : ((⟨20, ⟨f, [], []⟩⟩ : NV).step nu (pCallW kd wh us nu ep sr by_ (oOf ⟨f, [], []⟩ nu)).2.2 (pCallW kd wh us nu ep sr by_ (oOf ⟨f, [], []⟩ nu)).1).V.calls = ds := h2
  refine ⟨fun p hp => ?_, fun c hc => ?_, fun he => ?_, ?_⟩
  · rcases h1 p hp with h | h
    · cases h
    · exact h
  · rw [h2'] at hc
    exact h4 c hc
  · rcases pCallW_err he with h | h
    · left
      rw [h2']
      exact h5 h
    · exact .inr h
  · rw [h2']
    exact h3
/-- What the laws look at. -/
theorem qapart_names {f : NameT → Option ByteArray} {kd wh us : Nat} {nu ep : Int} {sr by_ : ByteArray} (hr : ReadsOk (pCallN ⟨20, ⟨f, [], []⟩⟩ kd wh us nu ep sr by_).1.V.reads) {c1 c2 : List ChangeT} (h1 : c1.Perm ((pCallN ⟨20, ⟨f, [], []⟩⟩ kd wh us nu ep sr by_).1.V.reads.map Prod.snd)) (h2 : c2.Perm (writesU (pCallN ⟨20, ⟨f, [], []⟩⟩ kd wh us nu ep sr by_).1.V.calls)) :
    (∀ c ∈ c1 ++ c2, c.name = ofPortN nu) ∧ c1.length ≤ 2 ∧ ((pCallN ⟨20, ⟨f, [], []⟩⟩ kd wh us nu ep sr by_).2.e ≠ 0 → c2 = [] ∨ (kd % 5 = 2 ∧ (pCallN ⟨20, ⟨f, [], []⟩⟩ kd wh us nu ep sr by_).2.e = 9)) ∧ c2.length ≤ 1 := by
  obtain ⟨p1, p2, p3, p4⟩ := qapart_plain f kd wh us nu ep sr by_
  refine ⟨fun c hc => ?_, ?_, fun he => ?_, ?_⟩
  · rcases List.mem_append.1 hc with h | h
    · obtain ⟨p, hp, rfl⟩ := List.mem_map.1 (h1.mem_iff.1 h)
      rw [(hr.2 p hp).1]
      exact p1 p hp
    · exact p2 c (writes_in (h2.mem_iff.1 h))
  · rw [h1.length_eq, List.length_map, ← List.length_map (f := Prod.fst)]
    exact two_names (x := ofPortN nu) (y := ofPortN nu) hr.1 (fun n hn => by
      obtain ⟨p, hp, rfl⟩ := List.mem_map.1 hn
      exact .inl (p1 p hp))
  · rcases p3 he with h | h
    · rw [h] at h2
      exact .inl (List.Perm.eq_nil h2)
    · exact .inr h
  · rw [h2.length_eq]
    generalize (pCallN ⟨20, ⟨f, [], []⟩⟩ kd wh us nu ep sr by_).1.V.calls = cs at p4
    match cs, p4 with
    | [], _ => simp [writesU, lastOf, lastFrom]
    | [c], _ => exact Nat.le_refl 1
    | _ :: _ :: _, h => simp at h
end Go.Proofs.YtijfdgoeppehlaaGreatDoor
