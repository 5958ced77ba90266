/- terminal: isEpoch, CheckLine, Check. -/
import Derived.Test.YtfobmfenjdiimaaGreatDoorObjT
namespace Go.Proofs.YtfobmfenjdiimaaGreatDoor
open Go.RowKit

/-- A terminal as a value. -/
structure TermT where
  epoch : Int
  session : ByteArray
  typed : List ByteArray
  screen : ByteArray
  deriving DecidableEq

def badByte (b : UInt8) : Bool := decide (b.toNat < 32) || decide (b.toNat = 127)
def lineE (s : ByteArray) : Nat := if 1024 < s.size then 5 else if s.data.toList.any badByte then 6 else 0
def linesE : List ByteArray → Nat
  | [] => 0
  | s :: r => if lineE s ≠ 0 then lineE s else linesE r
def epochB (n : Int) : Bool := decide (0 ≤ n ∧ n ≤ 1073741824)
def checkT (t : TermT) : Nat :=
  if epochB t.epoch = false then 2 else if validB t.session = false then 12 else if 16 < t.typed.length then 9 else if linesE t.typed ≠ 0 then linesE t.typed
  else if t.session.size = 0 ∧ 0 < t.typed.length then 10 else if 2048 < t.screen.size then 5 else 0

/-- A slice of strings that can be read. -/
def SSl (w : World) (a : Option Addr) (n : Nat) (ls : List ByteArray) : Prop :=
  ls.length = n ∧ (0 < n → ∃ g off, a = some ⟨g, off, none⟩ ∧ ∀ j, j < n → w.cell? ⟨g, off + j, none⟩ = some (.string (ls.getD j ⟨#[]⟩)))

theorem SSl.later {w w' : World} {a : Option Addr} {n : Nat} {ls : List ByteArray} (h : SSl w a n ls) (hb : Below w.heap.size w w') : SSl w' a n ls := by
  refine ⟨h.1, fun h0 => ?_⟩
  obtain ⟨g, off, ha, hc⟩ := h.2 h0
  refine ⟨g, off, ha, fun j hj => ?_⟩
  exact ((bcell hb).1 g _ (World.block_lt_of_cell? w ⟨g, off, none⟩ (hc 0 h0))).trans (hc j hj)

set_option maxHeartbeats 400000 in
theorem isEpoch_any (n : Int) (w : World) : Calls Tryz.prog 47 #[.int .i64 n] w fun r w' => r = .returned (.bool (epochB n)) ∧ w = w' := by
  by_cases h1 : 0 ≤ n
  · by_cases h2 : n ≤ 1073741824
    · go_enter Tryz.func47, Tryz.ntmps47
      go_wp2
      go_ret
      exact ⟨by simp [epochB, h1, h2], rfl⟩
    · go_enter Tryz.func47, Tryz.ntmps47
      go_wp2
      go_ret
      exact ⟨by simp [epochB, h2], rfl⟩
  · go_enter Tryz.func47, Tryz.ntmps47
    go_wp2
    go_ret
    exact ⟨by simp [epochB]; omega, rfl⟩
theorem isEpoch_is (n : Int) (v : Bool) (h : epochB n = v) (w : World) : Calls Tryz.prog 47 #[.int .i64 n] w fun r w' => r = .returned (.bool v) ∧ w = w' := by
  subst h; exact isEpoch_any n w

theorem any_getD {l : List UInt8} {p : UInt8 → Bool} : l.any p = true ↔ ∃ j, j < l.length ∧ p (l.getD j 0) = true := by
  rw [List.any_eq_true]
  constructor
  · rintro ⟨x, hx, hp⟩
    obtain ⟨j, hj, rfl⟩ := List.getElem_of_mem hx
    exact ⟨j, hj, by simpa [hj] using hp⟩
  · rintro ⟨j, hj, hp⟩
    exact ⟨l[j], List.getElem_mem hj, by simpa [hj] using hp⟩

set_option maxRecDepth 100000 in
set_option maxHeartbeats 1000000 in
theorem checkLine_any (s : ByteArray) (w : World) (hs : s.size ≤ 9223372036854775807) : Calls Tryz.prog 82 #[.string s] w fun r w' => r = .returned (.int .i64 (lineE s)) ∧ w = w' := by
  by_cases hl : 1024 < s.size
  · have he : Hid (lineE s = 5) := by show _ = _; simp [lineE, hl]
    go_enter Tryz.func82, Tryz.ntmps82
    go_wp2
    go_ret
    rw [he.out]
    exact ⟨rfl, rfl⟩
  · go_enter Tryz.func82, Tryz.ntmps82
    go_wp2
    go_loop [9] (fun i => ∃ k : Nat, k ≤ s.size ∧ i = .int .i64 k ∧ Hid (∀ j, j < k → badByte (s.data.toList.getD j 0) = false)) (fun i => s.size - (intOf i).toNat)
    case atStart => exact ⟨0, by omega, rfl, fun j hj => by omega⟩
    case round =>
      obtain ⟨k, hk, rfl, Hd⟩ := hrel
      by_cases h1 : k < s.size
      · have hgb := at_byte s k h1
        have hlt : k < s.data.toList.length := by rw [size_toList]; exact h1
        have Hlt := Lib.hid hlt; clear hlt
        by_cases h2 : (s.data.toList.getD k 0).toNat < 32
        · have he : Hid (lineE s = 6) := by
            show _ = _
            have : s.data.toList.any badByte = true := any_getD.2 ⟨k, Hlt.out, by unfold badByte; rw [decide_eq_true h2]; rfl⟩
            simp [lineE, hl, this]
          rw [← hgb] at h2
          clear hgb
          go_wp2
          go_ret
          rw [he.out]
          exact ⟨rfl, rfl⟩
        · by_cases h3 : (s.data.toList.getD k 0).toNat = 127
          · have he : Hid (lineE s = 6) := by
              show _ = _
              have : s.data.toList.any badByte = true := any_getD.2 ⟨k, Hlt.out, by unfold badByte; rw [decide_eq_true h3, Bool.or_true]⟩
              simp [lineE, hl, this]
            rw [← hgb] at h2 h3
            have h3' : (((s[k]'h1).toNat : Int) == 127) = true := beq_iff_eq.2 (by omega)
            clear hgb h3
            go_wp2
            go_ret
            rw [he.out]
            exact ⟨rfl, rfl⟩
          · have hb : Hid (badByte (s.data.toList.getD k 0) = false) := by show _ = _; unfold badByte; rw [decide_eq_false h2, decide_eq_false h3]; rfl
            rw [← hgb] at h2 h3
            have h3' : (((s[k]'h1).toNat : Int) == 127) = false := beq_eq_false_iff_ne.2 (by omega)
            clear hgb h3
            go_wp2
            go_round
            case rel =>
              refine ⟨k + 1, by omega, by go_num, fun j hj => ?_⟩
              by_cases hjk : j = k
              · subst hjk; exact hb.out
              · exact Hd.out j (by omega)
            case measure => simp [intOf]; omega
      · have he : Hid (lineE s = 0) := by
          show _ = _
          have : s.data.toList.any badByte = false := by
            cases h : s.data.toList.any badByte with
            | false => rfl
            | true =>
              obtain ⟨j, hj, hb⟩ := any_getD.1 h
              rw [size_toList] at hj
              rw [Hd.out j (by omega)] at hb
              cases hb
          simp [lineE, hl, this]
        go_wp2
        go_ret
        rw [he.out]
        exact ⟨rfl, rfl⟩
theorem checkLine_is (s : ByteArray) (e : Nat) (h : lineE s = e) (w : World) (hs : s.size ≤ 9223372036854775807) : Calls Tryz.prog 82 #[.string s] w fun r w' => r = .returned (.int .i64 e) ∧ w = w' := by
  subst h; exact checkLine_any s w hs

theorem linesE_ok {ls : List ByteArray} (h : ∀ j, j < ls.length → lineE (ls.getD j ⟨#[]⟩) = 0) : linesE ls = 0 := by
  induction ls with
  | nil => rfl
  | cons s r ih =>
    have h0 : lineE s = 0 := by simpa using h 0 (by simp)
    simp only [linesE, h0]
    exact ih (fun j hj => by simpa using h (j + 1) (by simpa using hj))
theorem linesE_bad {ls : List ByteArray} {k : Nat} (hk : k < ls.length) (h : ∀ j, j < k → lineE (ls.getD j ⟨#[]⟩) = 0) (hb : lineE (ls.getD k ⟨#[]⟩) ≠ 0) : linesE ls = lineE (ls.getD k ⟨#[]⟩) := by
  induction ls generalizing k with
  | nil => simp at hk
  | cons s r ih =>
    cases k with
    | zero => simp at hb ⊢; simp [linesE, hb]
    | succ k =>
      have h0 : lineE s = 0 := by simpa using h 0 (by omega)
      simp only [linesE, h0]
      have := ih (k := k) (by simpa using hk) (fun j hj => by simpa using h (j + 1) (by omega)) (by simpa using hb)
      simpa using this

set_option maxRecDepth 100000 in
set_option maxHeartbeats 2000000 in
theorem termCheck_any (ep : Int) (se sc : ByteArray) (a : Option Addr) (n c : Nat) (ls : List ByteArray) (w : World) (hs : SSl w a n ls) (hse : se.size ≤ 70368744177664) (hsc : sc.size ≤ 70368744177664) (hn : n ≤ 70368744177664) (hls : ∀ s ∈ ls, s.size ≤ 70368744177664) :
    Calls Tryz.prog 50 #[.agg #[.int .i64 ep, .string se, .slice a n c, .string sc]] w fun r w' => r = .returned (.int .i64 (checkT ⟨ep, se, ls, sc⟩)) ∧ Below w.heap.size w w' := by
  have Hs := Lib.hid hs; clear hs
  have Hls := Lib.hid hls; clear hls
  have Hbx : Hid (∀ v t, Below w.heap.size w (w.alloc (.cells v t))) := fun v t => (Below.refl _ _).alloc (Nat.le_refl _) _
  cases h1 : epochB ep with
  | false =>
    have he : Hid (checkT ⟨ep, se, ls, sc⟩ = 2) := by show _ = _; simp [checkT, h1]
    go_enter Tryz.func50, Tryz.ntmps50
    go_wp2_with fail
    refine (isEpoch_is ep _ h1 _).mono ?_
    rintro e w1 ⟨rfl, rfl⟩
    go_wp2
    go_ret
    rw [he.out]
    exact ⟨rfl, Hbx.out _ _⟩
  | true =>
    go_enter Tryz.func50, Tryz.ntmps50
    go_wp2_with fail
    refine (isEpoch_is ep _ h1 _).mono ?_
    rintro e w1 ⟨rfl, rfl⟩
    go_wp2_with fail
    cases h2 : validB se with
    | false =>
      refine (valid_is se _ hse h2 _).mono ?_
      rintro e w1 ⟨rfl, hb1⟩
      have he : Hid (checkT ⟨ep, se, ls, sc⟩ = 12) := by show _ = _; simp [checkT, h1, h2]
      go_wp2
      go_ret
      rw [he.out]
      exact ⟨rfl, (Hbx.out _ _).trans (hb1.mono (by simp))⟩
    | true =>
      refine (valid_is se _ hse h2 _).mono ?_
      rintro e w1 ⟨rfl, hb1⟩
      have q : ∀ j, w1.cell? ⟨w.heap.size, j, none⟩ = (#[.int .i64 ep, .string se, .slice a n c, .string sc] : Array Value)[j]? := fun j => ((bcell hb1).1 _ _ (by simp)).trans (cell_of_heap (World.alloc_heap_new w _) j)
      have q1 := q 1
      have q2 := q 2
      have q3 := q 3
      dsimp at q1 q2 q3
      have Hb1 : Hid (Below w.heap.size w w1) := (Hbx.out _ _).trans (hb1.mono (by simp))
      have HS1 : Hid (SSl w1 a n ls) := Hs.out.later Hb1.out
      have hln := HS1.out.1
      have Hln := Lib.hid hln; clear hln
      clear q hb1 Hs Hbx
      by_cases h3 : 16 < n
      · have he : Hid (checkT ⟨ep, se, ls, sc⟩ = 9) := by show _ = _; simp [checkT, h1, h2, Hln.out, h3]
        go_wp2
        go_ret
        rw [he.out]
        exact ⟨rfl, Hb1.out⟩
      · go_wp2
        go_loop [21] (fun i => ∃ k : Nat, k ≤ n ∧ i = .int .i64 k ∧ Hid (∀ j, j < k → lineE (ls.getD j ⟨#[]⟩) = 0)) (fun i => n - (intOf i).toNat)
        case atStart => exact ⟨0, by omega, rfl, fun j hj => by omega⟩
        case round =>
          obtain ⟨k, hk, rfl, Hd⟩ := hrel
          by_cases h4 : k < n
          · obtain ⟨g, off, rfl, hcell⟩ := HS1.out.2 (by omega)
            have hck := hcell k h4
            clear hcell
            have hszk : (ls.getD k ⟨#[]⟩).size ≤ 70368744177664 := by
              rw [List.getD_eq_getElem?_getD, List.getElem?_eq_getElem (by rw [Hln.out]; exact h4)]
              exact Hls.out _ (List.getElem_mem _)
            by_cases h5 : lineE (ls.getD k ⟨#[]⟩) = 0
            · have Hstep : Hid (∀ j, j < k + 1 → lineE (ls.getD j ⟨#[]⟩) = 0) := fun j hj => by
                by_cases hjk : j = k
                · subst hjk; exact h5
                · exact Hd.out j (by omega)
              generalize ls.getD k ⟨#[]⟩ = lk at *
              go_wp2_with fail
              refine (checkLine_is lk 0 h5 _ (by omega)).mono ?_
              rintro e w2 ⟨rfl, rfl⟩
              go_wp2
              go_round
              case rel => exact ⟨k + 1, by omega, by go_num, Hstep.out⟩
              case measure => simp [intOf]; omega
            · have he : Hid (checkT ⟨ep, se, ls, sc⟩ = lineE (ls.getD k ⟨#[]⟩)) := by
                have hbad := linesE_bad (by rw [Hln.out]; exact h4) Hd.out h5
                show _ = _
                rw [← hbad]
                rw [← hbad] at h5
                simp [checkT, h1, h2, Hln.out, h3, h5]
              generalize ls.getD k ⟨#[]⟩ = lk at *
              generalize hq : lineE lk = q at *
              have Hq := Lib.hid hq; clear hq
              have h5' : ((q : Int) != 0) = true := bne_iff_ne.2 (by omega)
              go_wp2_with fail
              refine (checkLine_is lk q Hq.out _ (by omega)).mono ?_
              rintro e w2 ⟨rfl, rfl⟩
              go_wp2
              go_ret
              rw [he.out]
              exact ⟨rfl, Hb1.out⟩
          · have hall : Hid (linesE ls = 0) := linesE_ok (fun j hj => Hd.out j (by rw [Hln.out] at hj; omega))
            have hte := toList_empty se
            by_cases h6 : se.size = 0
            · by_cases h7 : 0 < n
              · have he : Hid (checkT ⟨ep, se, ls, sc⟩ = 10) := by show _ = _; simp [checkT, h1, h2, Hln.out, h3, hall.out, h6, h7]
                rw [h6] at hte
                have hte' : se.toList.isEmpty = true := by simpa using hte
                clear hte
                go_wp2
                all_goals
                  go_ret
                  rw [he.out]
                  exact ⟨rfl, Hb1.out⟩
              · have hte' : se.toList.isEmpty = true := by simpa [h6] using hte
                clear hte
                by_cases h8 : 2048 < sc.size
                · have he : Hid (checkT ⟨ep, se, ls, sc⟩ = 5) := by show _ = _; simp [checkT, h1, h2, Hln.out, h3, hall.out, h7, h8]
                  go_wp2
                  all_goals
                    go_ret
                    rw [he.out]
                    exact ⟨rfl, Hb1.out⟩
                · have he : Hid (checkT ⟨ep, se, ls, sc⟩ = 0) := by show _ = _; simp [checkT, h1, h2, Hln.out, h3, hall.out, h7, h8]
                  go_wp2
                  all_goals
                    go_ret
                    rw [he.out]
                    exact ⟨rfl, Hb1.out⟩
            · have hte' : se.toList.isEmpty = false := by simpa [h6] using hte
              clear hte
              by_cases h8 : 2048 < sc.size
              · have he : Hid (checkT ⟨ep, se, ls, sc⟩ = 5) := by show _ = _; simp [checkT, h1, h2, Hln.out, h3, hall.out, h6, h8]
                go_wp2
                all_goals
                  go_ret
                  rw [he.out]
                  exact ⟨rfl, Hb1.out⟩
              · have he : Hid (checkT ⟨ep, se, ls, sc⟩ = 0) := by show _ = _; simp [checkT, h1, h2, Hln.out, h3, hall.out, h6, h8]
                go_wp2
                all_goals
                  go_ret
                  rw [he.out]
                  exact ⟨rfl, Hb1.out⟩
theorem termCheck_is (ep : Int) (se sc : ByteArray) (a : Option Addr) (n c : Nat) (ls : List ByteArray) (e : Nat) (he : checkT ⟨ep, se, ls, sc⟩ = e) (w : World) (hs : SSl w a n ls) (hse : se.size ≤ 70368744177664) (hsc : sc.size ≤ 70368744177664) (hn : n ≤ 70368744177664) (hls : ∀ s ∈ ls, s.size ≤ 70368744177664) :
    Calls Tryz.prog 50 #[.agg #[.int .i64 ep, .string se, .slice a n c, .string sc]] w fun r w' => r = .returned (.int .i64 e) ∧ Below w.heap.size w w' := by
  subst he; exact termCheck_any ep se sc a n c ls w hs hse hsc hn hls

end Go.Proofs.YtfobmfenjdiimaaGreatDoor
