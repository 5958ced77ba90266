/- terminals upon a view whose value is known. Law 36, plain: an operation upon a view and upon a terminal of the reference. -/
import Derived.Test.YtfobmfenjdiimaaGreatDoorQmC
import Derived.Test.YtfobmfenjdiimaaGreatDoorTermI
import Derived.Test.YtfobmfenjdiimaaGreatDoorSess
namespace Go.Proofs.YtfobmfenjdiimaaGreatDoor
open Go.RowKit

theorem tSeen_base (V : AV) (number epoch : Int) : (tSeen V number epoch).base = V.base := by
  unfold tSeen
  split
  · rfl
  · exact avSeen_base _ _
theorem tChange_base (op : TermT → TermT × Nat) (V : AV) (number epoch : Int) : (tChange op V number epoch).1.base = V.base := by
  unfold tChange
  split
  · exact tSeen_base _ _ _
  · split
    · exact tSeen_base _ _ _
    · split
      · exact tSeen_base _ _ _
      · exact tSeen_base _ _ _
theorem checkT_small {t : TermT} (h : checkT t = 0) : Small t := by
  obtain ⟨_, h2, h3, h4, _, h6⟩ := checkT_ok h
  exact ⟨Nat.le_trans (valid_small h2) (by decide), Nat.le_trans h6 (by decide), Nat.le_trans h3 (by decide), fun s hs => Nat.le_trans (lineE_size (linesE_size h4 s hs)) (by decide)⟩
theorem small_zero (ep : Int) : Small ⟨ep, ⟨#[]⟩, [], ⟨#[]⟩⟩ := ⟨Nat.zero_le _, Nat.zero_le _, Nat.zero_le _, fun s hs => by simp at hs⟩
theorem decT_small (s : ByteArray) : Small (decT s).1 := by
  unfold decT
  split
  · rename_i h
    exact checkT_small h.2
  · exact small_zero 0
theorem tGet_small (V : AV) (number epoch : Int) : Small (tGet V number epoch).1 := by
  unfold tGet
  split
  · exact small_zero 0
  · unfold ofValue
    split
    · exact small_zero _
    · split
      · exact small_zero _
      · split
        · exact small_zero _
        · dsimp only
          exact decT_small _
/-- What terminal.Get leaves: a view that has seen the terminal, and the terminal. -/
def QTGet (w0 w : World) (b M : Nat) (V' : AV) (G : Nat → Prop) (t : TermT) (e : Nat) (r : Ending) (w' : World) : Prop :=
  ∃ a n c, r = .returned (.tuple #[.agg #[.int .i64 t.epoch, .string t.session, .slice a n c, .string t.screen], .int .i64 e]) ∧ SRow w' (.slice a n c) t.typed ∧ (∀ g, (Value.slice a n c).ownBlock = some g → w.heap.size ≤ g) ∧ QM w0 w' b M V' G ∧ ∀ k, G k → w'.heap[k]? = w.heap[k]?
section
variable {w0 w : World} {b M : Nat} {V : AV} {G : Nat → Prop} (s : QM w0 w b M V G) (hlen : V.calls.length < 1000000) (n e : Int)
include s
theorem tq_ready (hlen : V.calls.length < 1000000) (n e : Int) : Ready V n e := ⟨Nat.le_trans (s.size _) (by decide), hlen, tGet_small _ _ _⟩
theorem qtGet : Calls Tryz.prog 21 #[.pointer (some ⟨b, 0, none⟩), .int .i64 n, .int .i64 e] w (QTGet w0 w b M (tSeen V n e) G (tGet V n e).1 (tGet V n e).2) := by
  have hsz := s.size (ofTerm n)
  obtain ⟨⟨h, hv, hb, rfl, h2, h4⟩, h5⟩ := s
  refine (tGet_any h V n e w hv (Nat.le_trans hsz (by decide))).mono ?_
  rintro r w' ⟨a, m, c, h', rfl, hr, hl, hp⟩
  obtain ⟨h'', hp⟩ := hp.post.vq
  exact ⟨a, m, c, rfl, hr, fun g hg => (hl g hg).1, qm_post hv hb rfl h2 h4 h5 (tSeen_base _ _ _) hp⟩
include hlen
theorem qtBegin (l : ByteArray) (hl : l.size ≤ 1000) : Calls Tryz.prog 19 #[.pointer (some ⟨b, 0, none⟩), .int .i64 n, .int .i64 e, .string l] w (QMP w0 b M (tChange (opBegin l) V n e).1 G w (.int .i64 (tChange (opBegin l) V n e).2)) := by
  have hr := tq_ready s hlen n e
  obtain ⟨⟨h, hv, hb, rfl, h2, h4⟩, h5⟩ := s
  refine (tBegin_any h V n e l w hv hr hl).mono ?_
  rintro r w' ⟨rfl, hp⟩
  obtain ⟨h', hp⟩ := hp.vq
  exact ⟨rfl, qm_post hv hb rfl h2 h4 h5 (tChange_base _ _ _ _) hp⟩
theorem qtEnd (l : ByteArray) : Calls Tryz.prog 29 #[.pointer (some ⟨b, 0, none⟩), .int .i64 n, .int .i64 e, .string l] w (QMP w0 b M (tChange (opEnd l) V n e).1 G w (.int .i64 (tChange (opEnd l) V n e).2)) := by
  have hr := tq_ready s hlen n e
  obtain ⟨⟨h, hv, hb, rfl, h2, h4⟩, h5⟩ := s
  refine (tEnd_any h V n e l w hv hr).mono ?_
  rintro r w' ⟨rfl, hp⟩
  obtain ⟨h', hp⟩ := hp.vq
  exact ⟨rfl, qm_post hv hb rfl h2 h4 h5 (tChange_base _ _ _ _) hp⟩
theorem qtType (l : ByteArray) (hl : l.size ≤ 9223372036854775807) : Calls Tryz.prog 20 #[.pointer (some ⟨b, 0, none⟩), .int .i64 n, .int .i64 e, .string l] w (QMP w0 b M (tChange (opAdd l) V n e).1 G w (.int .i64 (tChange (opAdd l) V n e).2)) := by
  have hr := tq_ready s hlen n e
  obtain ⟨⟨h, hv, hb, rfl, h2, h4⟩, h5⟩ := s
  refine (tType_any h V n e l w hv hr hl).mono ?_
  rintro r w' ⟨rfl, hp⟩
  obtain ⟨h', hp⟩ := hp.vq
  exact ⟨rfl, qm_post hv hb rfl h2 h4 h5 (tChange_base _ _ _ _) hp⟩
theorem qtShow (l : ByteArray) (hl : l.size ≤ 35184372088832) : Calls Tryz.prog 13 #[.pointer (some ⟨b, 0, none⟩), .int .i64 n, .int .i64 e, .string l] w (QMP w0 b M (tShow l V n e).1 G w (.int .i64 (tShow l V n e).2)) := by
  have hr := tq_ready s hlen n e
  have hbase : (tShow l V n e).1.base = V.base := by
    unfold tShow
    split
    · exact tSeen_base _ _ _
    · exact tChange_base _ _ _ _
  obtain ⟨⟨h, hv, hb, rfl, h2, h4⟩, h5⟩ := s
  refine (tShow_any h V n e l w hv hr hl).mono ?_
  rintro r w' ⟨rfl, hp⟩
  obtain ⟨h', hp⟩ := hp.vq
  exact ⟨rfl, qm_post hv hb rfl h2 h4 h5 hbase hp⟩
theorem qtRead (l : ByteArray) (hl : l.size ≤ 35184372088832) : Calls Tryz.prog 23 #[.pointer (some ⟨b, 0, none⟩), .int .i64 n, .int .i64 e, .string l] w (QMP w0 b M (tRead l V n e).1 G w (.tuple #[.string (tRead l V n e).2.1, .int .i64 (tRead l V n e).2.2])) := by
  have hr := tq_ready s hlen n e
  obtain ⟨⟨h, hv, hb, rfl, h2, h4⟩, h5⟩ := s
  refine (tRead_any h V n e l w hv hr hl).mono ?_
  rintro r w' ⟨rfl, hp⟩
  obtain ⟨h', hp⟩ := hp.vq
  exact ⟨rfl, qm_post hv hb rfl h2 h4 h5 (tChange_base _ _ _ _) hp⟩
end
end Go.Proofs.YtfobmfenjdiimaaGreatDoor

namespace Go.Proofs.YtfobmfenjdiimaaGreatDoor
open Go.RowKit

/-- An operation of law 36. -/
structure OpU where
  kd : Nat
  num : Int
  ep : Int
  who : ByteArray
  text : ByteArray
def cutU (s : ByteArray) (k : Nat) : ByteArray := if (k : Int) < (s.size : Int) then s.extract 0 k else s
theorem cutU_size (s : ByteArray) (k : Nat) : (cutU s k).size ≤ k := by
  unfold cutU
  split
  · simp [ByteArray.size_extract]; omega
  · omega
theorem cutU_self (s : ByteArray) (k : Nat) (h : s.size ≤ k) : cutU s k = s := if_neg (by omega)
def shortU (o : OpU) : OpU := ⟨o.kd, o.num, o.ep, cutU o.who 100, cutU o.text 3000⟩
theorem shortU_short (o : OpU) : shortU (shortU o) = shortU o := by
  unfold shortU
  dsimp only
  rw [cutU_self (cutU o.who 100) 100 (cutU_size _ _), cutU_self (cutU o.text 3000) 3000 (cutU_size _ _)]
/-- What an operation makes of a terminal, and its error. -/
def uOp (o : OpU) : TermT → TermT × Nat :=
  if o.kd % 8 = 0 then opBegin o.who else if o.kd % 8 = 1 then opEnd o.who else if o.kd % 8 ≤ 3 then opAdd o.text else if o.kd % 8 ≤ 5 then opTake o.who else if o.kd % 8 = 6 then opShow o.text else fun t => (t, 0)
/-- The operation asks for a change. -/
def uCh (o : OpU) : Bool := decide (o.kd % 8 < 7) && !(decide (o.kd % 8 = 6) && decide (o.text.size = 0))
def uV (V : AV) (o : OpU) : AV := if uCh o = true then (tChange (uOp o) V o.num o.ep).1 else tSeen V o.num o.ep
def uE (V : AV) (o : OpU) : Nat := if uCh o = true then (tChange (uOp o) V o.num o.ep).2 else (tGet V o.num o.ep).2
def uLine (V : AV) (o : OpU) : ByteArray := if o.kd % 8 = 4 ∨ o.kd % 8 = 5 then (tRead o.who V o.num o.ep).2.1 else ⟨#[]⟩
def uGot (V : AV) (o : OpU) : TermT := if o.kd % 8 = 7 then (tGet V o.num o.ep).1 else zeroT
/-- A terminal in an epoch. -/
def inT (t : TermT) (e : Int) : TermT := if t.epoch = e then t else newT e
theorem zero_new : zeroT = newT 0 := rfl
theorem inT_zero (e : Int) : inT zeroT e = newT e := by
  unfold inT
  split
  · rename_i h
    rw [zero_new]
    have : (0 : Int) = e := h
    rw [this]
  · rfl
theorem uOp_good (o : OpU) (ho : o.who.size ≤ 1000) : GoodOp (uOp o) := by
  unfold uOp
  split
  · exact good_begin _ ho
  split
  · exact good_end _
  split
  · exact good_add _
  split
  · exact good_take _
  split
  · exact good_show _
  · intro t h1 h2 _
    exact ⟨h1, h2, rfl⟩
/-- A view's value of a terminal: none, or t's. -/
def HasT (V : AV) (n : Int) : Option TermT → Prop
  | none => (avGet V (ofTerm n)).2 = false
  | some t => avGet V (ofTerm n) = (strOf (encB t), true) ∧ checkT t = 0
theorem checkT_new {e : Int} (h : epochB e = true) : checkT (newT e) = 0 := by
  unfold epochB at h
  have h := of_decide_eq_true h
  exact checkT_mk h valid_empty (Nat.zero_le _) rfl (fun h => absurd h.2 (Nat.lt_irrefl _)) (Nat.zero_le _)
theorem hasT_get {V : AV} {n e : Int} {o : Option TermT} (h : HasT V n o) (hr : inRange n e = true) : tGet V n e = (inT (o.getD zeroT) e, 0) ∧ checkT (inT (o.getD zeroT) e) = 0 := by
  have he : epochB e = true := by
    unfold inRange at hr
    rw [Bool.and_eq_true] at hr
    exact hr.2
  cases o with
  | none =>
    have h : (avGet V (ofTerm n)).2 = false := h
    rw [Option.getD_none, inT_zero]
    refine ⟨?_, checkT_new he⟩
    unfold tGet ofValue
    rw [if_neg (by rw [hr]; exact fun h => nomatch h), if_pos h]
  | some t =>
    obtain ⟨h1, h2⟩ := h
    have hd := dec_enc t h2 (Nat.le_trans (checkT_small h2).session (by decide))
    rw [Option.getD_some]
    constructor
    · unfold tGet ofValue
      rw [if_neg (by rw [hr]; exact fun h => nomatch h), h1]
      dsimp only
      rw [if_neg (by exact fun h => nomatch h), hd]
      dsimp only
      rw [if_neg (by omega)]
      unfold inT
      by_cases hx : t.epoch = e
      · rw [if_neg (fun h => h hx), if_pos hx]
      · rw [if_pos hx, if_neg hx]
    · unfold inT
      split
      · exact h2
      · exact checkT_new he
end Go.Proofs.YtfobmfenjdiimaaGreatDoor
