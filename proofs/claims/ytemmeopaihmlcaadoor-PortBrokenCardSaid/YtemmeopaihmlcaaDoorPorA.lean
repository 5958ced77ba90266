/- port: the plain words; OfPort; Word; isNumber. -/
import Derived.Test.YtemmeopaihmlcaaDoorViewD
import Derived.Test.YtemmeopaihmlcaaDoorCodecH
namespace Go.Proofs.YtemmeopaihmlcaaDoor
open Go.RowKit

/-- A packet, and a port, as values. -/
structure PackT where
  src : ByteArray
  bytes : ByteArray
  deriving DecidableEq
structure PortT where
  owner : ByteArray
  epoch : Int
  lost : Int
  queue : List PackT
  deriving DecidableEq
def zeroPk : PackT := ⟨⟨#[]⟩, ⟨#[]⟩⟩
def okByte (b : UInt8) : Bool := decide (33 ≤ b.toNat) && decide (b.toNat ≤ 126) && decide (b.toNat ≠ 47)
def wordB (s : ByteArray) : Bool := decide (0 < s.size) && decide (s.size ≤ 32) && s.data.toList.all okByte
def packE (p : PackT) : Nat := if wordB p.src = false then 12 else if 512 < p.bytes.size then 5 else 0
def packsE : List PackT → Nat
  | [] => 0
  | s :: r => if packE s ≠ 0 then packE s else packsE r
def numB (n : Int) : Bool := decide (0 ≤ n ∧ n ≤ 1073741824)
def checkQ (p : PortT) : Nat :=
  if validB p.owner = false then 12 else if numB p.epoch = false ∨ numB p.lost = false then 2 else if 16 < p.queue.length then 9 else packsE p.queue

/-- A slice of packets that can be read. -/
def PSl (w : World) (a : Option Addr) (n : Nat) (ls : List PackT) : Prop :=
  ls.length = n ∧ (0 < n → ∃ g off, a = some ⟨g, off, none⟩ ∧ ∀ j, j < n → w.cell? ⟨g, off + j * 2, none⟩ = some (.string (ls.getD j zeroPk).src) ∧ w.cell? ⟨g, off + j * 2 + 1, none⟩ = some (.string (ls.getD j zeroPk).bytes))
theorem PSl.later {w w' : World} {a : Option Addr} {n : Nat} {ls : List PackT} (h : PSl w a n ls) (hb : Below w.heap.size w w') : PSl w' a n ls := by
  refine ⟨h.1, fun h0 => ?_⟩
  obtain ⟨g, off, ha, hc⟩ := h.2 h0
  refine ⟨g, off, ha, fun j hj => ?_⟩
  have hlt := World.block_lt_of_cell? w ⟨g, _, none⟩ (hc j hj).1
  exact ⟨((bcell hb).1 g _ hlt).trans (hc j hj).1, ((bcell hb).1 g _ hlt).trans (hc j hj).2⟩
theorem PSl.nil (w : World) : PSl w none 0 [] := ⟨rfl, fun h => absurd h (Nat.lt_irrefl _)⟩

def ofPortN (number : Int) : NameT := ⟨16, ⟨#[]⟩, number, 0, ⟨#[]⟩⟩

set_option maxRecDepth 100000 in
set_option maxHeartbeats 1000000 in
theorem ofPort_any (n : Int) (w : World) : Calls Tryd.prog 18 #[.int .i64 n] w fun r w' => r = .returned (.agg #[.int .i64 16, .string ⟨#[]⟩, .int .i64 n, .int .i64 0, .string ⟨#[]⟩]) ∧ Below w.heap.size w w' := by
  go_enter Tryd.func18, Tryd.ntmps18
  go_wp2
  refine bodyPost_ret (v := .agg #[.int .i64 16, .string ⟨#[]⟩, .int .i64 n, .int .i64 0, .string ⟨#[]⟩]) (by simp [results, Tryd.results18, go_sem]) rfl ⟨rfl, ?_⟩
  exact (Below.refl _ _).alloc (Nat.le_refl _) _

set_option maxRecDepth 100000 in
set_option maxHeartbeats 2000000 in
theorem checkPort_any (n : Int) (w : World) (hu : Usages w) (h0 : 0 ≤ n) (h1 : n ≤ 1073741824) :
    Calls Tryd.prog 25 #[.agg #[.int .i64 16, .string ⟨#[]⟩, .int .i64 n, .int .i64 0, .string ⟨#[]⟩]] w fun r w' => r = .returned (.int .i64 0) ∧ Below w.heap.size w w' := by
  have hp := hu.pos
  obtain ⟨u0, u1, u2, u3, u4, u5⟩ := hu 16 (by decide)
  have v0 : w.cell? ⟨0, 96, none⟩ = some (.string ⟨#[112, 111, 114, 116]⟩) := u0
  have v1 : w.cell? ⟨0, 97, none⟩ = some (.bool false) := u1
  have v2 : w.cell? ⟨0, 98, none⟩ = some (.bool true) := u2
  have v3 : w.cell? ⟨0, 99, none⟩ = some (.bool false) := u3
  have v4 : w.cell? ⟨0, 100, none⟩ = some (.bool false) := u4
  have v5 : w.cell? ⟨0, 101, none⟩ = some (.int .i64 0) := u5
  clear u0 u1 u2 u3 u4 u5
  have Hu := Lib.hid hu; clear hu
  go_enter Tryd.func25, Tryd.ntmps25
  go_wp2_with fail
  refine (isKind_any 16 _ (by decide) (by decide)).mono ?_
  rintro e w1 ⟨rfl, rfl⟩
  go_wp2_with fail
  refine (oWithin_any n 1073741824 _).mono ?_
  rintro e w1 ⟨rfl, rfl⟩
  rw [show decide (0 ≤ n ∧ n ≤ 1073741824) = true by simp [h0, h1]]
  go_wp2
  go_ret
  refine ⟨rfl, ?_⟩
  exact ((Below.refl _ _).alloc (Nat.le_refl _) _).alloc (by simp) _
theorem nameOk_port (k : Int) (h0 : 0 ≤ k) (h1 : k ≤ 1073741824) : NameOk (ofPortN k) := ⟨⟨emp_le, emp_le⟩, fun W hu => checkPort_any k W hu h0 h1⟩

set_option maxHeartbeats 400000 in
theorem isNumber_any (n : Int) (w : World) : Calls Tryd.prog 95 #[.int .i64 n] w fun r w' => r = .returned (.bool (numB n)) ∧ w = w' := by
  by_cases h1 : 0 ≤ n
  · by_cases h2 : n ≤ 1073741824
    · go_enter Tryd.func95, Tryd.ntmps95
      go_wp2
      go_ret
      exact ⟨by simp [numB, h1, h2], rfl⟩
    · go_enter Tryd.func95, Tryd.ntmps95
      go_wp2
      go_ret
      exact ⟨by simp [numB, h2], rfl⟩
  · go_enter Tryd.func95, Tryd.ntmps95
    go_wp2
    go_ret
    exact ⟨by simp [numB]; omega, rfl⟩
theorem isNumber_is (n : Int) (v : Bool) (h : numB n = v) (w : World) : Calls Tryd.prog 95 #[.int .i64 n] w fun r w' => r = .returned (.bool v) ∧ w = w' := by
  subst h; exact isNumber_any n w

theorem all_getD {l : List UInt8} {p : UInt8 → Bool} : l.all p = true ↔ ∀ j, j < l.length → p (l.getD j 0) = true := by
  rw [List.all_eq_true]
  constructor
  · intro h j hj
    have := h l[j] (List.getElem_mem hj)
    simpa [hj] using this
  · intro h x hx
    obtain ⟨j, hj, rfl⟩ := List.getElem_of_mem hx
    simpa [hj] using h j hj
theorem all_bad {l : List UInt8} {p : UInt8 → Bool} {k : Nat} (hk : k < l.length) (h : p (l.getD k 0) = false) : l.all p = false := by
  cases h' : l.all p with
  | false => rfl
  | true => rw [all_getD.1 h' k hk] at h; cases h

set_option maxRecDepth 100000 in
set_option maxHeartbeats 1000000 in
theorem word_any (s : ByteArray) (w : World) (hs : s.size ≤ 9223372036854775807) : Calls Tryd.prog 63 #[.string s] w fun r w' => r = .returned (.bool (wordB s)) ∧ w = w' := by
  have hte := toList_empty s
  by_cases h0 : s.size = 0
  · have he : Hid (wordB s = false) := by show _ = _; simp [wordB, h0]
    have hte' : s.toList.isEmpty = true := by simpa [h0] using hte
    clear hte
    go_enter Tryd.func63, Tryd.ntmps63
    go_wp2
    go_ret
    rw [he.out]
    exact ⟨rfl, rfl⟩
  have hte' : s.toList.isEmpty = false := by simpa [h0] using hte
  clear hte
  by_cases hl : 32 < s.size
  · have he : Hid (wordB s = false) := by show _ = _; simp [wordB]; omega
    go_enter Tryd.func63, Tryd.ntmps63
    go_wp2
    go_ret
    rw [he.out]
    exact ⟨rfl, rfl⟩
  · have Hte := Lib.hid hte'
    go_enter Tryd.func63, Tryd.ntmps63
    go_wp2
    go_loop [13] (fun i => ∃ k : Nat, k ≤ s.size ∧ i = .int .i64 k ∧ Hid (∀ j, j < k → okByte (s.data.toList.getD j 0) = true)) (fun i => s.size - (intOf i).toNat)
    case atStart => exact ⟨0, by omega, rfl, fun j hj => by omega⟩
    case round =>
      obtain ⟨k, hk, rfl, Hd⟩ := hrel
      by_cases h1 : k < s.size
      · have hgb := at_byte s k h1
        have hlt : k < s.data.toList.length := by rw [size_toList]; exact h1
        have Hlt := Lib.hid hlt; clear hlt
        cases hb : okByte (s.data.toList.getD k 0) with
        | false =>
          have he : Hid (wordB s = false) := by show _ = _; unfold wordB; rw [all_bad Hlt.out hb, Bool.and_false]
          have hways : (s[k]'h1).toNat < 33 ∨ (33 ≤ (s[k]'h1).toNat ∧ 126 < (s[k]'h1).toNat) ∨ (33 ≤ (s[k]'h1).toNat ∧ (s[k]'h1).toNat ≤ 126 ∧ (((s[k]'h1).toNat : Int) == 47) = true) := by
            rw [hgb]
            simp only [okByte, Bool.and_eq_false_iff, decide_eq_false_iff_not] at hb
            by_cases a1 : (s.data.toList.getD k 0).toNat < 33
            · exact .inl a1
            · by_cases a2 : 126 < (s.data.toList.getD k 0).toNat
              · exact .inr (.inl ⟨by omega, a2⟩)
              · exact .inr (.inr ⟨by omega, by omega, beq_iff_eq.2 (by omega)⟩)
          clear hgb hb
          rcases hways with h2 | ⟨h2, h3⟩ | ⟨h2, h3, h4⟩
          all_goals
            go_wp2
            go_ret
            rw [he.out]
            exact ⟨rfl, rfl⟩
        | true =>
          have hok := hb
          simp only [okByte, Bool.and_eq_true, decide_eq_true_eq] at hok
          obtain ⟨⟨h2, h3⟩, h4⟩ := hok
          have Hb := Lib.hid hb; clear hb
          rw [← hgb] at h2 h3 h4
          have h4' : (((s[k]'h1).toNat : Int) == 47) = false := beq_eq_false_iff_ne.2 (by omega)
          clear hgb h4
          go_wp2
          go_round
          case rel =>
            refine ⟨k + 1, by omega, by go_num, fun j hj => ?_⟩
            by_cases hjk : j = k
            · subst hjk; exact Hb.out
            · exact Hd.out j (by omega)
          case measure => simp [intOf]; omega
      · have he : Hid (wordB s = true) := by
          show _ = _
          have : s.data.toList.all okByte = true := all_getD.2 (fun j hj => Hd.out j (by rw [size_toList] at hj; omega))
          simp [wordB, this]
          omega
        go_wp2
        go_ret
        rw [he.out]
        exact ⟨rfl, rfl⟩
theorem word_is (s : ByteArray) (v : Bool) (h : wordB s = v) (w : World) (hs : s.size ≤ 9223372036854775807) : Calls Tryd.prog 63 #[.string s] w fun r w' => r = .returned (.bool v) ∧ w = w' := by
  subst h; exact word_any s w hs

set_option maxRecDepth 100000 in
set_option maxHeartbeats 1000000 in
theorem packCheck_any (src by_ : ByteArray) (w : World) (hs : src.size ≤ 9223372036854775807) (hb : by_.size ≤ 9223372036854775807) :
    Calls Tryd.prog 85 #[.agg #[.string src, .string by_]] w fun r w' => r = .returned (.int .i64 (packE ⟨src, by_⟩)) ∧ Below w.heap.size w w' := by
  have Hbx : Hid (∀ v t, Below w.heap.size w (w.alloc (.cells v t))) := fun v t => (Below.refl _ _).alloc (Nat.le_refl _) _
  cases h1 : wordB src with
  | false =>
    have he : Hid (packE ⟨src, by_⟩ = 12) := by show _ = _; simp [packE, h1]
    go_enter Tryd.func85, Tryd.ntmps85
    go_wp2_with fail
    refine (word_is src _ h1 _ hs).mono ?_
    rintro e w1 ⟨rfl, rfl⟩
    go_wp2
    go_ret
    rw [he.out]
    exact ⟨rfl, Hbx.out _ _⟩
  | true =>
    by_cases h2 : 512 < by_.size
    · have he : Hid (packE ⟨src, by_⟩ = 5) := by show _ = _; simp [packE, h1, h2]
      go_enter Tryd.func85, Tryd.ntmps85
      go_wp2_with fail
      refine (word_is src _ h1 _ hs).mono ?_
      rintro e w1 ⟨rfl, rfl⟩
      go_wp2
      go_ret
      rw [he.out]
      exact ⟨rfl, Hbx.out _ _⟩
    · have he : Hid (packE ⟨src, by_⟩ = 0) := by show _ = _; simp [packE, h1, h2]
      go_enter Tryd.func85, Tryd.ntmps85
      go_wp2_with fail
      refine (word_is src _ h1 _ hs).mono ?_
      rintro e w1 ⟨rfl, rfl⟩
      go_wp2
      go_ret
      rw [he.out]
      exact ⟨rfl, Hbx.out _ _⟩
theorem packCheck_is (src by_ : ByteArray) (q : Nat) (h : packE ⟨src, by_⟩ = q) (w : World) (hs : src.size ≤ 9223372036854775807) (hb : by_.size ≤ 9223372036854775807) :
    Calls Tryd.prog 85 #[.agg #[.string src, .string by_]] w fun r w' => r = .returned (.int .i64 q) ∧ Below w.heap.size w w' := by
  subst h; exact packCheck_any src by_ w hs hb

end Go.Proofs.YtemmeopaihmlcaaDoor
