/- Law 32: do upon a view of whatever value; and against what a pipe does. Law 32: same in an epoch out of range; is. -/
import Derived.Test.YtemmeopaihmlcaaGreatDoorDovA
import Derived.Test.YtemmeopaihmlcaaGreatDoorPlyE
import Derived.Test.YtemmeopaihmlcaaGreatDoorSmeB
import Derived.Test.YtemmeopaihmlcaaGreatDoorSmeC
import Derived.Deep.QuietTactic
namespace Go.Proofs.YtemmeopaihmlcaaGreatDoor
open Go.RowKit

/-- What do makes of a view. -/
def doV (V : AV) (kd : Nat) (e n : Int) (s : ByteArray) (x : Bool) : AV × ResT :=
  if kd % 8 = 0 then ((pMake V oneM 2 e).1, ⟨(pMake V oneM 2 e).2, 0, ⟨#[]⟩, zeroP⟩)
  else if kd % 8 = 1 ∨ kd % 8 = 2 then ((pChange (opRead n) V oneM 2 e).1, ⟨(pChange (opRead n) V oneM 2 e).2, 0, pReadB n V oneM 2 e, zeroP⟩)
  else if kd % 8 = 3 ∨ kd % 8 = 4 then ((pChange (opWrite (cut600 s)) V oneM 2 e).1, ⟨(pChange (opWrite (cut600 s)) V oneM 2 e).2, pWriteN (cut600 s) V oneM 2 e, ⟨#[]⟩, zeroP⟩)
  else if kd % 8 = 5 then ((pChange (opJoin x) V oneM 2 e).1, ⟨(pChange (opJoin x) V oneM 2 e).2, 0, ⟨#[]⟩, zeroP⟩)
  else if kd % 8 = 6 then ((pChange (opLeave x) V oneM 2 e).1, ⟨(pChange (opLeave x) V oneM 2 e).2, 0, ⟨#[]⟩, zeroP⟩)
  else (pSeen V oneM 2 e, ⟨(pGet V oneM 2 e).2, 0, ⟨#[]⟩, (pGet V oneM 2 e).1⟩)
theorem doV_any (w0 w : World) (b M : Nat) (V : AV) (G : Nat → Prop) (kd : Nat) (e n : Int) (s : ByteArray) (x : Bool) (hkd : kd ≤ 255) (sp : QM w0 w b M V G) (hN : PReady V oneM 2) (hn : n ≤ 9223372036854775807) (hs : s.size ≤ 9223372036854775807) :
    Calls Tryz.prog 38 #[.pointer (some ⟨b, 0, none⟩), .agg #[.int .u8 kd, .int .i64 e, .int .i64 n, .string s, .bool x]] w (QMP w0 b M (doV V kd e n s x).1 G w (resV (doV V kd e n s x).2)) := by
  unfold doV
  split
  · rename_i h; exact dv_make w0 w b M V _ G kd e n s x h hkd sp hN _ rfl
  split
  · rename_i h; exact dv_read w0 w b M V _ G kd e n s x h hkd sp hN hn _ rfl _ rfl
  split
  · rename_i h
    by_cases hz : 600 < s.size
    · have := dv_write2 w0 w b M V _ G kd e n s x h hkd sp hN hs _ rfl _ rfl hz
      rw [cut_big hz]
      exact this
    · have := dv_write w0 w b M V _ G kd e n s x h hkd sp hN hs _ rfl _ rfl hz
      rw [cut_small (Nat.not_lt.1 hz)]
      exact this
  split
  · rename_i h; exact dv_join w0 w b M V _ G kd e n s x h hkd sp hN _ rfl
  split
  · rename_i h; exact dv_leave w0 w b M V _ G kd e n s x h hkd sp hN _ rfl
  · rename_i h0 h1 h2 h3 h4
    exact dv_get w0 w b M V _ G kd e n s x (by omega) hkd sp hN _ _ _ _ _ rfl rfl

theorem args_bad {e : Int} (h : pEpochB e = false) : pArgs oneM 2 e = 2 := by
  have hb : birthB oneM 2 = 0 := by
    unfold birthB
    rw [if_neg (by rw [one_valid]; decide), if_pos (by decide)]
  unfold pArgs
  rw [if_neg (by rw [hb]; decide), if_pos h]
theorem get_bad {e : Int} (h : pEpochB e = false) (V : AV) : pGet V oneM 2 e = (zeroP, 2) := by
  unfold pGet
  rw [if_pos (by rw [args_bad h]; decide), args_bad h]
theorem seen_bad {e : Int} (h : pEpochB e = false) (V : AV) : pSeen V oneM 2 e = V := by
  unfold pSeen
  rw [if_pos (by rw [args_bad h]; decide)]
theorem change_bad {e : Int} (h : pEpochB e = false) (op : PipeT → PipeT × Nat) (V : AV) : pChange op V oneM 2 e = (V, 2) := by
  unfold pChange
  rw [if_pos (by rw [get_bad h]; decide), seen_bad h, get_bad h]
theorem seen_good {e : Int} (h : pEpochB e = true) (V : AV) : pSeen V oneM 2 e = avSeen V (ofPipe oneM 2) := by
  unfold pSeen
  rw [one_args h, if_neg (by simp)]
/-- In an epoch out of range nothing changes. -/
theorem doV_bad {e : Int} (h : pEpochB e = false) (V : AV) (kd : Nat) (n : Int) (s : ByteArray) (x : Bool) : doV V kd e n s x = (V, ⟨2, 0, ⟨#[]⟩, zeroP⟩) := by
  unfold doV pReadB pWriteN
  rw [change_bad h, change_bad h, change_bad h, change_bad h, get_bad h, seen_bad h]
  have hm : pMake V oneM 2 e = (V, 2) := by
    unfold pMake
    rw [if_pos (by rw [args_bad h]; decide), args_bad h]
  rw [hm]
  split
  · rfl
  split
  · rfl
  split
  · rfl
  split
  · rfl
  split <;> rfl
theorem HoldsP.make {V : AV} {N : Nat} {o : Option PipeT} (h : HoldsP V N o) {e : Int} (he : pEpochB e = true) :
    (pMake V oneM 2 e).2 = (if o.isSome = true then 13 else 0) ∧ HoldsP (pMake V oneM 2 e).1 (N + if o.isSome = true then 0 else 1) (if o.isSome = true then o else some ⟨e, 1, 1, ⟨#[]⟩⟩) := by
  unfold pMake
  rw [one_args he, if_neg (by simp)]
  cases o with
  | none =>
    rw [if_neg (by rw [h.no rfl]; simp)]
    have hen : encP ⟨e, 1, 1, ⟨#[]⟩⟩ = (strOf (encPB ⟨e, 1, 1, ⟨#[]⟩⟩), 0) := by unfold encP; rw [if_pos (make_ok he)]
    rw [hen]
    exact ⟨rfl, h.set (make_ok he)⟩
  | some p =>
    rw [if_pos (by rw [(h.yes p rfl).1])]
    exact ⟨rfl, h.seen⟩
/-- Against what a pipe does. -/
theorem HoldsP.doV {V : AV} {N : Nat} {o : Option PipeT} (h : HoldsP V N o) {e : Int} (he : pEpochB e = true) (kd : Nat) (n : Int) (s : ByteArray) (x : Bool) :
    (doV V kd e n s x).2 = (doR kd e n s x o).2.1 ∧ HoldsP (doV V kd e n s x).1 (N + (doR kd e n s x o).2.2) (doR kd e n s x o).1 := by
  unfold Go.Proofs.YtemmeopaihmlcaaGreatDoor.doV doR
  by_cases h0 : kd % 8 = 0
  · have hm := h.make he
    rw [if_pos h0, if_pos h0]
    cases o with
    | none => exact ⟨by dsimp only; rw [hm.1]; rfl, hm.2⟩
    | some p => exact ⟨by dsimp only; rw [hm.1]; rfl, hm.2⟩
  rw [if_neg h0, if_neg h0]
  by_cases h1 : kd % 8 = 1 ∨ kd % 8 = 2
  · have hm := h.step (good_read n) he
    rw [if_pos h1, if_pos h1]
    unfold pReadB
    rw [hm.1, h.getV he]
    exact ⟨rfl, hm.2⟩
  rw [if_neg h1, if_neg h1]
  by_cases h2 : kd % 8 = 3 ∨ kd % 8 = 4
  · have hm := h.step (good_write (cut600 s)) he
    rw [if_pos h2, if_pos h2]
    unfold pWriteN
    rw [hm.1, h.getV he]
    exact ⟨rfl, hm.2⟩
  rw [if_neg h2, if_neg h2]
  by_cases h3 : kd % 8 = 5
  · have hm := h.step (good_join x) he
    rw [if_pos h3, if_pos h3, hm.1]
    exact ⟨rfl, hm.2⟩
  rw [if_neg h3, if_neg h3]
  by_cases h4 : kd % 8 = 6
  · have hm := h.step (good_leave x) he
    rw [if_pos h4, if_pos h4, hm.1]
    exact ⟨rfl, hm.2⟩
  rw [if_neg h4, if_neg h4, h.getV he, seen_good he]
  exact ⟨rfl, h.seen⟩
/-- The reference's operation. -/
def refR (kd : Nat) (e n : Int) (s : ByteArray) (x : Bool) (p : PipeT) : PipeT × ResT :=
  if kd % 8 = 0 then ((rMake p e).1, ⟨(rMake p e).2, 0, ⟨#[]⟩, zeroP⟩)
  else if kd % 8 = 1 ∨ kd % 8 = 2 then ((rRead n p e).1, ⟨(rRead n p e).2.2, 0, (rRead n p e).2.1, zeroP⟩)
  else if kd % 8 = 3 ∨ kd % 8 = 4 then ((rWrite (cut600 s) p e).1, ⟨(rWrite (cut600 s) p e).2.2, (rWrite (cut600 s) p e).2.1, ⟨#[]⟩, zeroP⟩)
  else if kd % 8 = 5 then ((rJoin x p e).1, ⟨(rJoin x p e).2, 0, ⟨#[]⟩, zeroP⟩)
  else if kd % 8 = 6 then ((rLeave x p e).1, ⟨(rLeave x p e).2, 0, ⟨#[]⟩, zeroP⟩)
  else (p, ⟨if isPB p e = true then 0 else 8, 0, ⟨#[]⟩, if isPB p e = true then p else zeroP⟩)
theorem pHas_pStep {op : PipeT → PipeT × Nat} {e : Int} {p : PipeT} (h : (pStep op e (optP p)).2.1 = 0) : (pHas e (optP p)).1 = p := by
  by_cases hc : checkP p = 0
  · rw [optP_ok hc] at h ⊢
    by_cases he : p.epoch = e
    · rw [pHas_at he]
    · simp only [pStep] at h
      rw [if_pos he] at h
      cases h
  · rw [optP_bad hc] at h
    cases h
/-- The reference's operation answers as that of the pipe. -/
theorem refR_is {e : Int} (he : pEpochB e = true) (kd : Nat) (n : Int) (s : ByteArray) (x : Bool) (p : PipeT) : optP (refR kd e n s x p).1 = (doR kd e n s x (optP p)).1 ∧ (refR kd e n s x p).2 = (doR kd e n s x (optP p)).2.1 := by
  unfold refR doR
  by_cases h0 : kd % 8 = 0
  · have hm := rMake_opt p e he
    rw [if_pos h0, if_pos h0, hm.1, hm.2]
    split <;> exact ⟨rfl, rfl⟩
  rw [if_neg h0, if_neg h0]
  by_cases h1 : kd % 8 = 1 ∨ kd % 8 = 2
  · have hm := rOp_is (good_read n) p e
    rw [if_pos h1, if_pos h1, rRead_is, hm.1, hm.2]
    refine ⟨rfl, ?_⟩
    dsimp only
    by_cases hq : (pStep (opRead n) e (optP p)).2.1 = 0
    · rw [if_pos hq, if_pos hq, pHas_pStep hq]
    · rw [if_neg hq, if_neg hq]
  rw [if_neg h1, if_neg h1]
  by_cases h2 : kd % 8 = 3 ∨ kd % 8 = 4
  · have hm := rOp_is (good_write (cut600 s)) p e
    rw [if_pos h2, if_pos h2, rWrite_is, hm.1, hm.2]
    refine ⟨rfl, ?_⟩
    dsimp only
    by_cases hq : (pStep (opWrite (cut600 s)) e (optP p)).2.1 = 0
    · rw [if_pos hq, if_pos hq, pHas_pStep hq]
    · rw [if_neg hq, if_neg hq]
  rw [if_neg h2, if_neg h2]
  by_cases h3 : kd % 8 = 5
  · have hm := rOp_is (good_join x) p e
    rw [if_pos h3, if_pos h3, rJoin_is, hm.1, hm.2]
    exact ⟨rfl, rfl⟩
  rw [if_neg h3, if_neg h3]
  by_cases h4 : kd % 8 = 6
  · have hm := rOp_is (good_leave x) p e
    rw [if_pos h4, if_pos h4, rLeave_is, hm.1, hm.2]
    exact ⟨rfl, rfl⟩
  rw [if_neg h4, if_neg h4, isPB_has]
  by_cases hi : isPB p e = true
  · exact ⟨rfl, by simp [hi]⟩
  · exact ⟨rfl, by simp [hi]⟩
end Go.Proofs.YtemmeopaihmlcaaGreatDoor

namespace Go.Proofs.YtemmeopaihmlcaaGreatDoor
open Go.RowKit
attribute [local go_sem ↓] Go.wp_at_zero Go.wp_at_succ
attribute [local go_sem ↓] run_eql_res

/-- What same answers: the reference's pipe. -/
def smeR (kd : Nat) (e n : Int) (s : ByteArray) (x : Bool) (p : PipeT) : PipeT × ResT := if pEpochB e = true then refR kd e n s x p else (p, ⟨2, 0, ⟨#[]⟩, zeroP⟩)

set_option maxRecDepth 100000 in
set_option maxHeartbeats 1600000 in
theorem sm_bad (ep re wr : Int) (by_ : ByteArray) (kd : Nat) (e n : Int) (s : ByteArray) (x : Bool) (he : pEpochB e = false) (w : World) :
    Calls Tryz.prog 37 #[.agg #[.int .i64 ep, .int .i64 re, .int .i64 wr, .string by_], .agg #[.int .u8 kd, .int .i64 e, .int .i64 n, .string s, .bool x], .agg #[.int .i64 2, .int .i64 0, .string ⟨#[]⟩, .int .i64 0, .int .i64 0, .int .i64 0, .string ⟨#[]⟩]] w (SmP w ⟨ep, re, wr, by_⟩) := by
  have hw := epoch_ways he
  clear he
  have hcmp : sameRB (2, 0, ⟨#[]⟩, 0, 0, 0, ⟨#[]⟩) (2, 0, ⟨#[]⟩, 0, 0, 0, ⟨#[]⟩) = true := decide_eq_true rfl
  have HS : Hid (∀ o1 o2 o3 o4, Below w.heap.size w ((((w.alloc o1).alloc o2).alloc o3).alloc o4)) := fun _ _ _ _ => ((((Below.refl _ _).alloc (Nat.le_refl _) _).alloc (by simp) _).alloc (by simp; omega) _).alloc (by simp; omega) _
  rcases hw with h1 | ⟨h1, h2⟩
  all_goals
    go_enter Tryz.func37, Tryz.ntmps37
    go_upto_region 2 with fail
    go_region
    go_wp2
    refine bodyPost_ret (v := .tuple #[.agg #[.int .i64 ep, .int .i64 re, .int .i64 wr, .string by_], .bool true]) (by simp [results, Tryz.results37, go_sem]) rfl ⟨rfl, ?_⟩
    first | exact HS.out _ _ _ _ | exact (HS.out _ _ _ _).drew

/-- same, for the result of the reference. -/
theorem same_any (ep re wr : Int) (by_ : ByteArray) (kd : Nat) (e n : Int) (s : ByteArray) (x : Bool) (hkd : kd ≤ 255) (hs : s.size ≤ 9223372036854775807) (w : World) :
    Calls Tryz.prog 37 #[.agg #[.int .i64 ep, .int .i64 re, .int .i64 wr, .string by_], .agg #[.int .u8 kd, .int .i64 e, .int .i64 n, .string s, .bool x], resV (smeR kd e n s x ⟨ep, re, wr, by_⟩).2] w (SmP w (smeR kd e n s x ⟨ep, re, wr, by_⟩).1) := by
  unfold smeR
  by_cases he : pEpochB e = true
  · rw [if_pos he]
    unfold refR
    have h8 : kd % 8 = 0 ∨ (kd % 8 = 1 ∨ kd % 8 = 2) ∨ (kd % 8 = 3 ∨ kd % 8 = 4) ∨ kd % 8 = 5 ∨ kd % 8 = 6 ∨ kd % 8 = 7 := by omega
    rcases h8 with h | h | h | h | h | h
    · rw [if_pos h]
      exact sm_make ep re wr by_ kd e n s x h hkd he _ _ _ _ _ rfl w
    · rw [if_neg (by omega), if_pos h]
      exact sm_read ep re wr by_ kd e n s x h hkd he _ _ _ _ _ _ rfl w
    · rw [if_neg (by omega), if_neg (by omega), if_pos h]
      by_cases hz : 600 < s.size
      · have h1 := sm_write2 ep re wr by_ kd e n s x h hkd he hs _ _ _ _ _ _ hz rfl w
        rw [cut_big hz]
        exact h1
      · have h1 := sm_write ep re wr by_ kd e n s x h hkd he hs _ _ _ _ _ _ hz rfl w
        rw [cut_small (Nat.not_lt.1 hz)]
        exact h1
    · rw [if_neg (by omega), if_neg (by omega), if_neg (by omega), if_pos h]
      exact sm_join ep re wr by_ kd e n s x h hkd he _ _ _ _ _ rfl w
    · rw [if_neg (by omega), if_neg (by omega), if_neg (by omega), if_neg (by omega), if_pos h]
      exact sm_leave ep re wr by_ kd e n s x h hkd he _ _ _ _ _ rfl w
    · rw [if_neg (by omega), if_neg (by omega), if_neg (by omega), if_neg (by omega), if_neg (by omega)]
      by_cases hi : isPB ⟨ep, re, wr, by_⟩ e = true
      · rw [if_pos hi, if_pos hi]
        exact sm_get1 ep re wr by_ kd e n s x h hkd he hi w
      · rw [if_neg hi, if_neg hi]
        exact sm_get0 ep re wr by_ kd e n s x h hkd he (by simpa using hi) w
  · rw [if_neg he]
    exact sm_bad ep re wr by_ kd e n s x (by simpa using he) w

theorem pStep_le (op : PipeT → PipeT × Nat) (e : Int) (o : Option PipeT) : (pStep op e o).2.2 ≤ 1 := by
  cases o with
  | none => exact Nat.zero_le _
  | some p =>
    simp only [pStep]
    split
    · exact Nat.zero_le _
    split
    · exact Nat.zero_le _
    split
    · exact Nat.zero_le _
    split <;> exact Nat.le_refl _
theorem doR_le (kd : Nat) (e n : Int) (s : ByteArray) (x : Bool) (o : Option PipeT) : (doR kd e n s x o).2.2 ≤ 1 := by
  unfold doR
  split
  · split
    · exact Nat.zero_le _
    · exact Nat.le_refl _
  split
  · exact pStep_le _ _ _
  split
  · exact pStep_le _ _ _
  split
  · exact pStep_le _ _ _
  split
  · exact pStep_le _ _ _
  · exact Nat.zero_le _
/-- The reference's answer is what do answers, and the view holds the reference's pipe again. -/
theorem holds_same {V : AV} {N : Nat} {p : PipeT} (h : HoldsP V N (optP p)) (kd : Nat) (e n : Int) (s : ByteArray) (x : Bool) :
    (doV V kd e n s x).2 = (smeR kd e n s x p).2 ∧ ∃ d, d ≤ 1 ∧ HoldsP (doV V kd e n s x).1 (N + d) (optP (smeR kd e n s x p).1) := by
  unfold smeR
  by_cases he : pEpochB e = true
  · rw [if_pos he]
    have h1 := h.doV he kd n s x
    have h2 := refR_is he kd n s x p
    refine ⟨h1.1.trans h2.2.symm, _, ?_, by rw [h2.1]; exact h1.2⟩
    exact doR_le _ _ _ _ _ _
  · rw [if_neg he, doV_bad (by simpa using he)]
    exact ⟨rfl, 0, Nat.zero_le _, h⟩
end Go.Proofs.YtemmeopaihmlcaaGreatDoor
