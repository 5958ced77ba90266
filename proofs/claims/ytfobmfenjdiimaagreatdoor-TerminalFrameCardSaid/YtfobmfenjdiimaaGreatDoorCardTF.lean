/- Comparisons of names and changes. The law's examples: known. Law 36: TerminalFrame, plain; Reads and Writes of one change. Law 36: TerminalFrame. (printed by wip/gen_tfr.py) TerminalFrame: the row and its card. -/
import Derived.Test.YtfobmfenjdiimaaGreatDoorViewC
import Derived.Test.YtfobmfenjdiimaaGreatDoorSess
import Derived.Test.YtfobmfenjdiimaaGreatDoorTfzA
import Derived.Test.YtfobmfenjdiimaaGreatDoorTfzC
import Derived.Test.YtfobmfenjdiimaaGreatDoorTfzB
import Derived.Test.YtfobmfenjdiimaaGreatDoorRowV
import Derived.Test.YtfobmfenjdiimaaGreatDoorRowU36
import Derived.Deep.RegionHeld3
import Derived.Deep.DeepCutAuto
namespace Go.Proofs.YtfobmfenjdiimaaGreatDoor
open Go.RowKit
def neqNB (a b : NameT) : Bool := !decide (a = b)
theorem run_neq_name (w : World) (a1 : Int) (a2 : ByteArray) (a3 a4 : Int) (a5 : ByteArray) (b1 : Int) (b2 : ByteArray) (b3 b4 : Int) (b5 : ByteArray) : (binOp .neq 32 (.agg #[.int .i64 a1, .string a2, .int .i64 a3, .int .i64 a4, .string a5]) (.agg #[.int .i64 b1, .string b2, .int .i64 b3, .int .i64 b4, .string b5])).run Tryz.prog w = .ok (.bool (neqNB ⟨a1, a2, a3, a4, a5⟩ ⟨b1, b2, b3, b4, b5⟩)) w := by
  have h := run_equal_name w ⟨a1, a2, a3, a4, a5⟩ ⟨b1, b2, b3, b4, b5⟩
  simp only [nameV] at h
  simp only [binOp]
  simp [h, neqNB]
theorem neqNB_self (a : NameT) : neqNB a a = false := by simp [neqNB]
set_option maxRecDepth 100000 in
theorem run_equal_change (w : World) (a b : ChangeT) : (Op.equal 58 (changeV a) (changeV b)).run Tryz.prog w = .ok (decide (a = b)) w := by
  have hu : Tryz.prog.underlying 58 = some (.struct (Tryz.prog.fieldsOf 58)) := by kernel_rfl
  have hst : Tryz.prog.stoodInHeld 58 = false := by kernel_rfl
  simp only [Op.equal, Op.maxDepth, changeV]
  rw [run_equalIn_struct w 9999 _ _ _ hu hst]
  simp [go_sem, Tryz.underlying32, Tryz.underlying3, Tryz.underlying9, Tryz.underlying30, Tryz.underlying4]
  have hb : ∀ x y : ByteArray, x.toList = y.toList ↔ x = y := fun x y => by have := str_beq x y; rw [Bool.eq_iff_iff] at this; simpa using this
  obtain ⟨⟨a1, a2, a3, a4, a5⟩, a6, a7⟩ := a
  obtain ⟨⟨b1, b2, b3, b4, b5⟩, b6, b7⟩ := b
  simp only [hb, ChangeT.mk.injEq, NameT.mk.injEq]
  by_cases h1 : a1 = b1
  case neg => simp [h1]
  by_cases h2 : a2 = b2
  case neg => simp [h2]
  by_cases h3 : a3 = b3
  case neg => simp [h3]
  by_cases h4 : a4 = b4
  case neg => simp [h4]
  by_cases h5 : a5 = b5
  case neg => simp [h5]
  by_cases h6 : a6 = b6
  case neg => simp [h6]
  by_cases h7 : a7 = b7
  case neg => simp [h7]
  simp [h1, h2, h3, h4, h5, h6, h7]
def neqCB (a b : ChangeT) : Bool := !decide (a = b)
theorem run_neq_change (w : World) (a1 : Int) (a2 : ByteArray) (a3 a4 : Int) (a5 a6 : ByteArray) (a7 : Bool) (b1 : Int) (b2 : ByteArray) (b3 b4 : Int) (b5 b6 : ByteArray) (b7 : Bool) : (binOp .neq 58 (.agg #[.int .i64 a1, .string a2, .int .i64 a3, .int .i64 a4, .string a5, .string a6, .bool a7]) (.agg #[.int .i64 b1, .string b2, .int .i64 b3, .int .i64 b4, .string b5, .string b6, .bool b7])).run Tryz.prog w = .ok (.bool (neqCB ⟨⟨a1, a2, a3, a4, a5⟩, a6, a7⟩ ⟨⟨b1, b2, b3, b4, b5⟩, b6, b7⟩)) w := by
  have h := run_equal_change w ⟨⟨a1, a2, a3, a4, a5⟩, a6, a7⟩ ⟨⟨b1, b2, b3, b4, b5⟩, b6, b7⟩
  simp only [changeV] at h
  simp only [binOp]
  simp [h, neqCB]
theorem neqCB_self (a : ChangeT) : neqCB a a = false := by simp [neqCB]
end Go.Proofs.YtfobmfenjdiimaaGreatDoor

namespace Go.Proofs.YtfobmfenjdiimaaGreatDoor
open Go.RowKit
attribute [local go_sem ↓] Go.wp_at_zero Go.wp_at_succ

theorem shBegin_is (w0 w : World) (b : Nat) (n e : Int) (N : Nat) (t : TermT) (G : Nat → Prop) (l : ByteArray) (s : SH w0 w b n e N t G) (hN : N < 1000000) (hl : l.size ≤ 1000) (q : Nat) (t' : TermT) (h1 : (opBegin l t).2 = q) (h2 : stepT (opBegin l) t = t') :
    Calls Tryz.prog 19 #[.pointer (some ⟨b, 0, none⟩), .int .i64 n, .int .i64 e, .string l] w (SPost w0 b n e (N + 1) t' G w (.int .i64 q)) := by
  subst h1 h2; exact shBegin w0 w b n e N t G l s hN hl
theorem shEnd_is (w0 w : World) (b : Nat) (n e : Int) (N : Nat) (t : TermT) (G : Nat → Prop) (l : ByteArray) (s : SH w0 w b n e N t G) (hN : N < 1000000) (q : Nat) (t' : TermT) (h1 : (opEnd l t).2 = q) (h2 : stepT (opEnd l) t = t') :
    Calls Tryz.prog 29 #[.pointer (some ⟨b, 0, none⟩), .int .i64 n, .int .i64 e, .string l] w (SPost w0 b n e (N + 1) t' G w (.int .i64 q)) := by
  subst h1 h2; exact shEnd w0 w b n e N t G l s hN
theorem shType_is (w0 w : World) (b : Nat) (n e : Int) (N : Nat) (t : TermT) (G : Nat → Prop) (l : ByteArray) (s : SH w0 w b n e N t G) (hN : N < 1000000) (hl : l.size ≤ 9223372036854775807) (q : Nat) (t' : TermT) (h1 : (opAdd l t).2 = q) (h2 : stepT (opAdd l) t = t') :
    Calls Tryz.prog 20 #[.pointer (some ⟨b, 0, none⟩), .int .i64 n, .int .i64 e, .string l] w (SPost w0 b n e (N + 1) t' G w (.int .i64 q)) := by
  subst h1 h2; exact shType w0 w b n e N t G l s hN hl
theorem shRead_is (w0 w : World) (b : Nat) (n e : Int) (N : Nat) (t : TermT) (G : Nat → Prop) (l : ByteArray) (s : SH w0 w b n e N t G) (hN : N < 1000000) (hl : l.size ≤ 35184372088832) (q : Nat) (t' : TermT) (x : ByteArray) (h1 : (opTake l t).2 = q) (h2 : stepT (opTake l) t = t') (h3 : readL l t = x) :
    Calls Tryz.prog 23 #[.pointer (some ⟨b, 0, none⟩), .int .i64 n, .int .i64 e, .string l] w (SPost w0 b n e (N + 1) t' G w (.tuple #[.string x, .int .i64 q])) := by
  subst h1 h2 h3; exact shRead w0 w b n e N t G l s hN hl
def SGet4 (w0 : World) (b : Nat) (n e : Int) (N : Nat) (t : TermT) (ep : Int) (se sc : ByteArray) (G : Nat → Prop) (w : World) (r : Ending) (w' : World) : Prop :=
  ∃ a m c, r = .returned (.tuple #[.agg #[.int .i64 ep, .string se, .slice a m c, .string sc], .int .i64 0]) ∧ SRow w' (.slice a m c) t.typed ∧ (∀ g, (Value.slice a m c).ownBlock = some g → w.heap.size ≤ g) ∧
    SH w0 w' b n e N t (fun k => G k ∨ (Value.slice a m c).ownBlock = some k) ∧ ∀ k, G k → w'.heap[k]? = w.heap[k]?
theorem shGet_is (w0 w : World) (b : Nat) (n e : Int) (N : Nat) (t : TermT) (G : Nat → Prop) (s : SH w0 w b n e N t G) (hN : N < 1000000) (ep : Int) (se sc : ByteArray) (h1 : t.epoch = ep) (h2 : t.session = se) (h3 : t.screen = sc) :
    Calls Tryz.prog 21 #[.pointer (some ⟨b, 0, none⟩), .int .i64 n, .int .i64 e] w (SGet4 w0 b n e N t ep se sc G w) := by
  subst h1 h2 h3; exact shGet w0 w b n e N t G s hN
theorem encode_is (ep : Int) (se sc : ByteArray) (a : Option Addr) (n c : Nat) (ls : List ByteArray) (w : World) (hs : SSl w a n ls) (hse : se.size ≤ 65536) (hsc : sc.size ≤ 70368744177664) (hn : n ≤ 70368744177664) (hls : ∀ s ∈ ls, s.size ≤ 70368744177664) (x : ByteArray) (q : Nat) (he : encT ⟨ep, se, ls, sc⟩ = (x, q)) :
    Calls Tryz.prog 22 #[.agg #[.int .i64 ep, .string se, .slice a n c, .string sc]] w fun r w' => r = .returned (.tuple #[.string x, .int .i64 q]) ∧ Below w.heap.size w w' := by
  have := encode_any ep se sc a n c ls w hs hse hsc hn hls
  rw [he] at this
  exact this

def kS : ByteArray := ⟨#[52]⟩
def k1 : TermT := ⟨1, ⟨#[52]⟩, [], ⟨#[]⟩⟩
def k2 : TermT := ⟨1, ⟨#[52]⟩, [⟨#[108, 115]⟩], ⟨#[108, 115, 10]⟩⟩
def k3 : TermT := ⟨1, ⟨#[52]⟩, [], ⟨#[108, 115, 10]⟩⟩
theorem k_begin : (opBegin ⟨#[52]⟩ (newT 1)).2 = 0 ∧ stepT (opBegin ⟨#[52]⟩) (newT 1) = k1 := by decide +kernel
theorem k_type : (opAdd ⟨#[108, 115]⟩ k1).2 = 0 ∧ stepT (opAdd ⟨#[108, 115]⟩) k1 = k2 := by decide +kernel
theorem k_enc : encT ⟨1, ⟨#[52]⟩, k2.typed, ⟨#[108, 115, 10]⟩⟩ = (⟨#[1, 1, 52, 1, 2, 108, 115, 3, 108, 115, 10]⟩, 0) := by decide +kernel
theorem k_read1 : (opTake ⟨#[53]⟩ k2).2 = 10 ∧ stepT (opTake ⟨#[53]⟩) k2 = k2 ∧ readL ⟨#[53]⟩ k2 = ⟨#[]⟩ := by decide +kernel
theorem k_read2 : (opTake ⟨#[52, 46, 49]⟩ k2).2 = 0 ∧ stepT (opTake ⟨#[52, 46, 49]⟩) k2 = k3 ∧ readL ⟨#[52, 46, 49]⟩ k2 = ⟨#[108, 115]⟩ := by decide +kernel
theorem k_read3 : (opTake ⟨#[52, 46, 49]⟩ k3).2 = 19 ∧ stepT (opTake ⟨#[52, 46, 49]⟩) k3 = k3 ∧ readL ⟨#[52, 46, 49]⟩ k3 = ⟨#[]⟩ := by decide +kernel
theorem k_range : inRange 7 1 = true := by decide +kernel
theorem k_eps : k2.epoch = 1 ∧ k2.session = ⟨#[52]⟩ ∧ k2.screen = ⟨#[108, 115, 10]⟩ := ⟨rfl, rfl, rfl⟩
theorem k_lines : ∀ s ∈ k2.typed, s.size ≤ 70368744177664 := by decide +kernel
theorem k_len : k2.typed.length = 1 := rfl
theorem le46 : 35184372088832 ≤ 9223372036854775807 := by decide
theorem sz1 (b : UInt8) : (⟨#[b]⟩ : ByteArray).size ≤ 35184372088832 ∧ (⟨#[b]⟩ : ByteArray).size ≤ 1000 ∧ (⟨#[b]⟩ : ByteArray).size ≤ 65536 := by
  have : (⟨#[b]⟩ : ByteArray).size = 1 := rfl
  rw [this]; decide
theorem sz2 (b c : UInt8) : (⟨#[b, c]⟩ : ByteArray).size ≤ 35184372088832 := by
  have : (⟨#[b, c]⟩ : ByteArray).size = 2 := rfl
  rw [this]; decide
theorem sz3 (b c d : UInt8) : (⟨#[b, c, d]⟩ : ByteArray).size ≤ 35184372088832 ∧ (⟨#[b, c, d]⟩ : ByteArray).size ≤ 70368744177664 := by
  have : (⟨#[b, c, d]⟩ : ByteArray).size = 3 := rfl
  rw [this]; decide

set_option maxRecDepth 100000 in
set_option maxHeartbeats 800000 in
theorem known_any (w : World) (hu : Usages w) : Calls Tryz.prog 5 #[] w fun r w' => r = .returned (.bool true) ∧ Below w.heap.size w w' := by
  have Hu := Lib.hid hu; clear hu
  go_enter Tryz.func5, Tryz.ntmps5
  go_wp2_with fail
  refine (shNew w Hu.out 7 1 k_range).mono ?_
  rintro e w1 ⟨rfl, hnew⟩
  have Hnew := Lib.hid hnew; clear hnew
  go_wp2_with fail
  refine Hnew.out.mono ?_
  rintro e w2 ⟨rfl, s0⟩
  clear Hnew
  have S0 := Lib.hid s0; clear s0
  go_wp2_with fail
  refine (shBegin_is w w2 _ 7 1 0 (newT 1) _ ⟨#[52]⟩ S0.out (by decide) (sz1 _).2.1 0 k1 k_begin.1 k_begin.2).mono ?_
  rintro e w3 ⟨rfl, s1, -⟩
  have S1 := Lib.hid s1; clear s1 S0
  go_wp2_with fail
  refine (shType_is w w3 _ 7 1 1 k1 _ ⟨#[108, 115]⟩ S1.out (by decide) (Nat.le_trans (sz2 _ _) le46) 0 k2 k_type.1 k_type.2).mono ?_
  rintro e w4 ⟨rfl, s2, -⟩
  have S2 := Lib.hid s2; clear s2 S1
  go_wp2_with fail
  refine (shGet_is w w4 _ 7 1 2 k2 _ S2.out (by decide) _ _ _ k_eps.1 k_eps.2.1 k_eps.2.2).mono ?_
  rintro e w5 ⟨a, m, c, rfl, hrow, hlie, s3, -⟩
  have hln := hrow.sl.1
  have HS : Hid (SSl w5 a m k2.typed) := hrow.sl
  have S3 : Hid (SH w (w5.alloc (.cells #[.int .i64 1, .string ⟨#[52]⟩, .slice a m c, .string ⟨#[108, 115, 10]⟩] 38)) (w.heap.size + 3) 7 1 2 k2 (fun k => k = w5.heap.size)) :=
    s3.fresh ((Below.refl _ _).alloc (Nat.le_refl _) _) (fun k hk => .inr (by subst hk; simp))
  have hX : (w5.alloc (.cells #[.int .i64 1, .string ⟨#[52]⟩, .slice a m c, .string ⟨#[108, 115, 10]⟩] 38)).heap[w5.heap.size]? = some (.cells #[.int .i64 1, .string ⟨#[52]⟩, .slice a m c, .string ⟨#[108, 115, 10]⟩] 38 (0, 0)) := heap_alloc_new w5 _
  have HX := Lib.hid hX
  have HS' : Hid (SSl (w5.alloc (.cells #[.int .i64 1, .string ⟨#[52]⟩, .slice a m c, .string ⟨#[108, 115, 10]⟩] 38)) a m k2.typed) := HS.out.later ((Below.refl _ _).alloc (Nat.le_refl _) _)
  rw [k_len] at hln
  have hm : m ≤ 70368744177664 := by omega
  clear hrow hlie s3 S2 hX HS hln
  go_wp2_with fail
  refine (encode_is 1 ⟨#[52]⟩ ⟨#[108, 115, 10]⟩ a m c k2.typed _ HS'.out (sz1 _).2.2 (sz3 _ _ _).2 hm k_lines _ _ k_enc).mono ?_
  rintro e w6 ⟨rfl, hb6⟩
  have S4 := Lib.hid (S3.out.later hb6)
  have HX6 := Lib.hid ((hb6.block _ (lt_of_heap HX.out)).trans HX.out)
  clear hb6 HX S3 HS'
  go_wp2_with fail
  refine (shRead_is w w6 _ 7 1 2 k2 _ ⟨#[53]⟩ S4.out (by decide) (sz1 _).1 10 k2 ⟨#[]⟩ k_read1.1 k_read1.2.1 k_read1.2.2).mono ?_
  rintro e w7 ⟨rfl, s5, hk⟩
  have S5 := Lib.hid s5; clear s5
  have HX7 := Lib.hid ((hk _ rfl).trans HX6.out); clear hk HX6 S4
  go_wp2_with fail
  refine (shRead_is w w7 _ 7 1 3 k2 _ ⟨#[52, 46, 49]⟩ S5.out (by decide) (sz3 _ _ _).1 0 k3 ⟨#[108, 115]⟩ k_read2.1 k_read2.2.1 k_read2.2.2).mono ?_
  rintro e w8 ⟨rfl, s6, hk⟩
  have S6 := Lib.hid s6; clear s6
  have HX8 := Lib.hid ((hk _ rfl).trans HX7.out); clear hk HX7 S5
  go_wp2_with fail
  refine (shRead_is w w8 _ 7 1 4 k3 _ ⟨#[52, 46, 49]⟩ S6.out (by decide) (sz3 _ _ _).1 19 k3 ⟨#[]⟩ k_read3.1 k_read3.2.1 k_read3.2.2).mono ?_
  rintro e w9 ⟨rfl, s7, hk⟩
  have c3 : w9.cell? ⟨w5.heap.size, 3, none⟩ = some (.string ⟨#[108, 115, 10]⟩) := cell_of_heap ((hk _ rfl).trans HX8.out) 3
  have S7 := Lib.hid s7.below; clear s7 hk HX8 S6
  go_wp2
  go_ret
  exact ⟨rfl, S7.out⟩

end Go.Proofs.YtfobmfenjdiimaaGreatDoor

namespace Go.Proofs.YtfobmfenjdiimaaGreatDoor
open Go.RowKit

theorem perm_one {α : Type} {l r : List α} (h : l.Perm r) (hr : r.length ≤ 1) : l = r := by
  match r, hr with
  | [], _ => exact h.eq_nil
  | [c], _ => exact List.perm_singleton.1 h

/-- A slice of no change or of one. -/
def Sl1 (W : World) (a : Option Addr) (R : List ChangeT) : Prop := ∀ c, R = [c] → ∃ g, a = some ⟨g, 0, none⟩ ∧ W.cell? ⟨g, 0, none⟩ = some (.int .i64 c.name.kind) ∧ W.cell? ⟨g, 1, none⟩ = some (.string c.name.owner) ∧ W.cell? ⟨g, 2, none⟩ = some (.int .i64 c.name.number) ∧ W.cell? ⟨g, 3, none⟩ = some (.int .i64 c.name.index) ∧ W.cell? ⟨g, 4, none⟩ = some (.string c.name.text) ∧ W.cell? ⟨g, 5, none⟩ = some (.string c.value) ∧ W.cell? ⟨g, 6, none⟩ = some (.bool c.absent)
theorem Sl1.of {W : World} {v : Value} {R : List ChangeT} (h : RowC W v R) : ∃ a cap, v = .slice a R.length cap ∧ Sl1 W a R := by
  obtain ⟨a, cap, rfl, hc⟩ := h
  refine ⟨a, cap, rfl, fun c hR => ?_⟩
  subst hR
  obtain ⟨g, rfl, hg⟩ := hc 0 c rfl
  have h0 := fun j u hu => hg j u hu
  simp only [Nat.zero_mul, Nat.zero_add] at h0
  exact ⟨g, rfl, h0 0 _ rfl, h0 1 _ rfl, h0 2 _ rfl, h0 3 _ rfl, h0 4 _ rfl, h0 5 _ rfl, h0 6 _ rfl⟩
theorem Sl1.later {W W' : World} {a : Option Addr} {R : List ChangeT} (h : Sl1 W a R) (hb : Below W.heap.size W W') : Sl1 W' a R := fun c hR => by
  obtain ⟨g, rfl, h0, h1, h2, h3, h4, h5, h6⟩ := h c hR
  have hlt := World.block_lt_of_cell? W ⟨g, _, none⟩ h0
  exact ⟨g, rfl, ((bcell hb).1 g _ hlt).trans h0, ((bcell hb).1 g _ hlt).trans h1, ((bcell hb).1 g _ hlt).trans h2, ((bcell hb).1 g _ hlt).trans h3, ((bcell hb).1 g _ hlt).trans h4, ((bcell hb).1 g _ hlt).trans h5, ((bcell hb).1 g _ hlt).trans h6⟩
section
variable {w0 w : World} {b M : Nat} {V : AV} {G : Nat → Prop} (s : QM w0 w b M V G)
include s
theorem qmReads1 {R : List ChangeT} (hR : V.reads.map Prod.snd = R) (h1 : R.length ≤ 1) : Calls Tryz.prog 16 #[.pointer (some ⟨b, 0, none⟩)] w fun r w' => ∃ a cap, r = .returned (.slice a R.length cap) ∧ RowC w' (.slice a R.length cap) R ∧ Sl1 w' a R ∧ Below w.heap.size w w' ∧ QM w0 w' b M V G := by
  have hl : V.reads.length ≤ 1 := by rw [← hR, List.length_map] at h1; exact h1
  refine (qmReads s (by omega)).mono ?_
  rintro r w' ⟨v, cs, rfl, hr, hp, hs, hb, hq⟩
  rw [hR] at hp
  have hcs := perm_one hp h1
  subst hcs
  obtain ⟨a, cap, rfl, h⟩ := Sl1.of hr
  exact ⟨a, cap, rfl, hr, h, hb, hq⟩
theorem qmWrites1 {R : List ChangeT} (hR : writesU V.calls = R) (h1 : R.length ≤ 1) : Calls Tryz.prog 12 #[.pointer (some ⟨b, 0, none⟩)] w fun r w' => ∃ a cap, r = .returned (.slice a R.length cap) ∧ Sl1 w' a R ∧ Below w.heap.size w w' ∧ QM w0 w' b M V G := by
  refine (qmWrites s).mono ?_
  rintro r w' ⟨v, cs, rfl, hr, hp, hs, hb, hq⟩
  rw [hR] at hp
  have hcs := perm_one hp h1
  subst hcs
  obtain ⟨a, cap, rfl, h⟩ := Sl1.of hr
  exact ⟨a, cap, rfl, h, hb, hq⟩
end

/-! ### What an operation on a terminal reads and writes, upon a fresh view -/
def fV (f : NameT → Option ByteArray) : AV := ⟨f, [], []⟩
def seenT (f : NameT → Option ByteArray) (n : Int) : ChangeT := ⟨ofTerm n, (f (ofTerm n)).getD ⟨#[]⟩, (f (ofTerm n)).isNone⟩
theorem fV_get (f : NameT → Option ByteArray) (n : NameT) : avGet (fV f) n = ((f n).getD ⟨#[]⟩, (f n).isSome) := rfl
theorem fV_seen {f : NameT → Option ByteArray} {n e : Int} (h : inRange n e = true) : tSeen (fV f) n e = ⟨f, [(ofTerm n, seenT f n)], []⟩ := by
  unfold tSeen
  rw [if_neg (by rw [h]; decide)]
  rfl
theorem tc_cases (op : TermT → TermT × Nat) (V : AV) (n e : Int) : (tChange op V n e).1 = tSeen V n e ∨ ∃ x, (tChange op V n e).1 = ⟨(tSeen V n e).base, (tSeen V n e).reads, (tSeen V n e).calls ++ [⟨ofTerm n, x, false⟩]⟩ := by
  unfold tChange
  split
  · exact .inl rfl
  split
  · exact .inl rfl
  split
  · exact .inl rfl
  · exact .inr ⟨_, rfl⟩
theorem tc_dep {f g : NameT → Option ByteArray} {n e : Int} (hr : inRange n e = true) (h : g (ofTerm n) = f (ofTerm n)) (op : TermT → TermT × Nat) :
    tGet (fV g) n e = tGet (fV f) n e ∧ (tSeen (fV g) n e).reads = (tSeen (fV f) n e).reads ∧ (tSeen (fV g) n e).calls = (tSeen (fV f) n e).calls ∧
    (tChange op (fV g) n e).2 = (tChange op (fV f) n e).2 ∧ (tChange op (fV g) n e).1.reads = (tChange op (fV f) n e).1.reads ∧ (tChange op (fV g) n e).1.calls = (tChange op (fV f) n e).1.calls := by
  have e1 : tGet (fV g) n e = tGet (fV f) n e := by
    unfold tGet
    rw [if_neg (by rw [hr]; decide), if_neg (by rw [hr]; decide), fV_get, fV_get, h]
  have e2 : (tSeen (fV g) n e).reads = (tSeen (fV f) n e).reads := by
    rw [fV_seen hr, fV_seen hr]
    unfold seenT
    rw [h]
  have e3 : (tSeen (fV g) n e).calls = (tSeen (fV f) n e).calls := by rw [fV_seen hr, fV_seen hr]
  refine ⟨e1, e2, e3, ?_⟩
  unfold tChange
  rw [e1]
  by_cases h1 : (tGet (fV f) n e).2 ≠ 0
  · rw [if_pos h1, if_pos h1]; exact ⟨rfl, e2, e3⟩
  rw [if_neg h1, if_neg h1]
  by_cases h2 : (op (tGet (fV f) n e).1).2 ≠ 0
  · rw [if_pos h2, if_pos h2]; exact ⟨rfl, e2, e3⟩
  rw [if_neg h2, if_neg h2]
  by_cases h3 : (encT (op (tGet (fV f) n e).1).1).2 ≠ 0
  · rw [if_pos h3, if_pos h3]; exact ⟨rfl, e2, e3⟩
  rw [if_neg h3, if_neg h3]
  exact ⟨rfl, e2, by dsimp only; rw [e3]⟩
theorem u_badL {V : AV} {o : OpU} (hr : inRange o.num o.ep = false) : uLine V o = ⟨#[]⟩ ∧ uGot V o = zeroT := by
  have h1 : tGet V o.num o.ep = (zeroT, 2) := if_pos hr
  have h3 : ∀ op, tChange op V o.num o.ep = (tSeen V o.num o.ep, 2) := fun op => by unfold tChange; rw [if_pos (by rw [h1]; exact (by decide : (2 : Nat) ≠ 0)), h1]
  constructor
  · unfold uLine tRead
    split
    · rw [h3]; rfl
    · rfl
  · unfold uGot
    split
    · rw [h1]
    · rfl
theorem uV_rw (f : NameT → Option ByteArray) (o : OpU) : ∃ R W, (uV (fV f) o).reads.map Prod.snd = R ∧ writesU (uV (fV f) o).calls = W ∧ (R = [] ∨ R = [seenT f o.num]) ∧ (W = [] ∨ ∃ v a, W = [⟨ofTerm o.num, v, a⟩]) ∧ (R ≠ [] → inRange o.num o.ep = true) ∧ (W ≠ [] → inRange o.num o.ep = true) ∧
    (∀ g, (R = [] ∨ g (ofTerm o.num) = f (ofTerm o.num)) → uE (fV g) o = uE (fV f) o ∧ uLine (fV g) o = uLine (fV f) o ∧ uGot (fV g) o = uGot (fV f) o ∧ (uV (fV g) o).reads.map Prod.snd = R ∧ writesU (uV (fV g) o).calls = W) := by
  cases hr : inRange o.num o.ep with
  | false =>
    refine ⟨[], [], by rw [(u_bad hr).2]; rfl, by rw [(u_bad hr).2]; rfl, .inl rfl, .inl rfl, fun h => absurd rfl h, fun h => absurd rfl h, fun g _ => ?_⟩
    rw [(u_bad hr).1, (u_bad hr).1, (u_badL hr).1, (u_badL hr).1, (u_badL hr).2, (u_badL hr).2, (u_bad hr).2]
    exact ⟨rfl, rfl, rfl, rfl, rfl⟩
  | true =>
    have hrd : (uV (fV f) o).reads = [(ofTerm o.num, seenT f o.num)] ∧ (writesU (uV (fV f) o).calls = [] ∨ ∃ v a, writesU (uV (fV f) o).calls = [⟨ofTerm o.num, v, a⟩]) := by
      unfold uV
      split
      · rcases tc_cases (uOp o) (fV f) o.num o.ep with h | ⟨x, h⟩
        · rw [h, fV_seen hr]; exact ⟨rfl, .inl rfl⟩
        · rw [h, fV_seen hr]; exact ⟨rfl, .inr ⟨x, false, rfl⟩⟩
      · rw [fV_seen hr]; exact ⟨rfl, .inl rfl⟩
    refine ⟨_, _, rfl, rfl, .inr (by rw [hrd.1]; rfl), hrd.2, fun _ => rfl, fun _ => rfl, fun g hg => ?_⟩
    have hg' : g (ofTerm o.num) = f (ofTerm o.num) := hg.resolve_left (by rw [hrd.1]; simp)
    obtain ⟨d1, d2, d3, d4, d5, d6⟩ := tc_dep hr hg' (uOp o)
    refine ⟨?_, ?_, ?_, ?_, ?_⟩
    · unfold uE
      rw [d4, d1]
    · unfold uLine tRead
      obtain ⟨c1, -, -, c4, -, -⟩ := tc_dep hr hg' (opTake o.who)
      rw [c4, c1]
    · unfold uGot
      rw [d1]
    · unfold uV
      split
      · rw [d5]
      · rw [d2]
    · unfold uV
      split
      · rw [d6]
      · rw [d3]
end Go.Proofs.YtfobmfenjdiimaaGreatDoor

namespace Go.Proofs.YtfobmfenjdiimaaGreatDoor
open Go.RowKit
attribute [local go_sem ↓] Go.wp_at_zero Go.wp_at_succ
attribute [local go_sem ↓] run_neq_name run_neq_change

theorem wpAnyH_monoF {P : Program} {md : Region.Mode} {ops : Array Oper} {Q : Exit → Act → World → Prop} {S1 S2 : World → Prop} (hS : ∀ w, S2 w → S1 w) : ∀ (fuel : Nat) (listed : Array Bool) (a : Act) (w : World), wpAnyH P md ops Q S2 fuel listed a w → wpAnyH P md ops Q S1 fuel listed a w
  | 0, _, _, _, h => h
  | fuel + 1, _, _, _, h => ⟨h.1, fun i hi => wpOp_mono (fun a' w' h' => ⟨hS _ h'.1, wpAnyH_monoF hS fuel _ a' w' h'.2⟩) (h.2 i hi)⟩
theorem StateIn.blocks {B : Nat} {w w' : World} {sp : Nat} {t : Tree} (h : StateIn B w sp t) (hb : ∀ k, k < B → w'.heap[k]? = w.heap[k]?) : StateIn B w' sp t :=
  ⟨(hb sp h.lt).trans h.cell, h.lt, h.at_.kept fun k _ => by
    by_cases hk : k < B
    · exact .inr (hb k hk)
    · exact .inl (Tr.all_mono h.all fun p hp => by omega), h.all, h.good, h.vals, h.sz⟩
theorem BaseN.blocks {N B : Nat} {w w' : World} {sp : Nat} {f : NameT → Option ByteArray} (h : BaseN N B w sp f) (hb : ∀ k, k < B → w'.heap[k]? = w.heap[k]?) : BaseN N B w' sp f := by
  obtain ⟨t, h1, h2⟩ := h
  exact ⟨t, h1.blocks hb, h2⟩
theorem ViewAt.blocks {w w' : World} {h : VH} {V : AV} (v : ViewAt w h V) (hb : ∀ k, k < h.bs → w'.heap[k]? = w.heap[k]?) (hk : ∀ k, h.fp k → w'.heap[k]? = w.heap[k]?) (hu : Usages w') (ht : h.bs ≤ w'.heap.size) : ViewAt w' h V where
  heap := (hk _ (.inl rfl)).trans v.heap
  reads := v.reads.kept (hk _ (.inr (.inl rfl)))
  last := v.last.kept (hk _ (.inr (.inr (.inl rfl))))
  calls := row_kept v.calls (fun g hg => hk g (.inr (.inr (.inr hg))))
  apart := v.apart
  usages := hu
  base := by
    obtain ⟨t, h1, h2⟩ := v.base
    exact ⟨t, h1.blocks hb, h2⟩
  lo := v.lo
  pos := v.pos
  top := ht
  len := v.len
  ok := v.ok
  rdk := v.rdk
def cutW (w : World) (B : Nat) : World := { w with heap := w.heap.extract 0 B }
theorem cutW_size {w : World} {B : Nat} (h : B ≤ w.heap.size) : (cutW w B).heap.size = B := by
  show (w.heap.extract 0 B).size = B
  rw [Array.size_extract]; omega
theorem cutW_below {w : World} {B : Nat} (h : B ≤ w.heap.size) : Below B (cutW w B) w := by
  refine ⟨rfl, rfl, rfl, by rw [cutW_size h]; exact h, fun k hk => ?_⟩
  show _ = (w.heap.extract 0 B)[k]?
  rw [Array.getElem?_extract]
  simp only [Nat.zero_add, Nat.sub_zero]
  rw [if_pos (by omega)]
theorem below_cut {w0 w w' ws : World} {B : Nat} (h0 : Below w0.heap.size w0 w) (hs : Below B ws w) (hs' : Below B ws w') (hB : w0.heap.size ≤ B) (hz : B ≤ ws.heap.size) : Below w0.heap.size w0 w' :=
  ⟨(hs'.os.trans hs.os.symm).trans h0.os, (hs'.tape.trans hs.tape.symm).trans h0.tape, (hs'.output.trans hs.output.symm).trans h0.output, Nat.le_trans hB (Nat.le_trans hz hs'.size), fun k hk => ((hs'.block k (Nat.lt_of_lt_of_le hk hB)).trans (hs.block k (Nat.lt_of_lt_of_le hk hB)).symm).trans (h0.block k hk)⟩
theorem baseN_nil {w : World} {B sp : Nat} (h : w.heap[sp]? = some (.cells #[.pointer none] 68 (0, 0))) (hB : sp < B) : BaseN 0 B w sp (fun _ => none) :=
  ⟨.nil, ⟨h, hB, trivial, trivial, ⟨trivial, List.Pairwise.nil, fun e he => by simp [Tr.ents] at he, fun e he => by simp [Tr.ents] at he⟩, fun e he => by simp [Tr.ents] at he, Nat.zero_le _⟩, Nat.le_refl _, fun _ => rfl⟩
/-- A new view of the empty state at p, what it consists of. -/
structure View2 (p : Nat) (w : World) : Prop where
  st : w.heap[p]? = some (.cells #[.pointer none] 68 (0, 0))
  v : ViewAt w ⟨p + 3, p + 1, p + 2, .slice none 0 0, p, p + 1⟩ ⟨fun _ => none, [], []⟩
theorem View2.lt {p : Nat} {w : World} (h : View2 p w) : p + 3 < w.heap.size := lt_of_heap h.v.heap
theorem newView2 (w : World) (hu : Usages w) :
    Calls Tryz.prog 6 #[] w fun r w1 => r = .returned (.pointer (some ⟨w.heap.size, 0, none⟩)) ∧ Calls Tryz.prog 9 #[.pointer (some ⟨w.heap.size, 0, none⟩)] w1 fun r w2 => r = .returned (.pointer (some ⟨w.heap.size + 3, 0, none⟩)) ∧ View2 w.heap.size w2 ∧ Below w.heap.size w w2 := by
  refine (stateNew_any w).mono ?_
  rintro r w1 ⟨rfl, rfl⟩
  refine ⟨rfl, ?_⟩
  have hb1 : Below w.heap.size w (w.alloc (.cells #[.pointer none] 68)) := (Below.refl _ _).alloc (Nat.le_refl _) _
  have hbn := baseN_empty w
  have hst := World.alloc_heap_new w (.cells #[.pointer none] 68)
  have hsz : (w.alloc (.cells #[.pointer none] 68)).heap.size = w.heap.size + 1 := by simp
  refine (viewNew_any w.heap.size _ _ (hu.below hb1 hu.pos) hbn.ok).mono ?_
  rintro r w2 ⟨rfl, hb2, hv⟩
  rw [hsz] at hv hb2
  rw [hsz]
  exact ⟨rfl, ⟨(hb2.block _ (by omega)).trans hst, hv⟩, hb1.trans (hb2.mono (by omega))⟩
theorem View2.back {p : Nat} {w w' : World} (h : View2 p w) (hk : ∀ k, p ≤ k → k < w.heap.size → w'.heap[k]? = w.heap[k]?) (hu : Usages w') (hs : w.heap.size ≤ w'.heap.size) : View2 p w' := by
  have hl := h.lt
  have hst := (hk p (Nat.le_refl _) (by omega)).trans h.st
  refine ⟨hst, ?_⟩
  have v := h.v
  exact { heap := (hk _ (by show p ≤ p + 3; omega) hl).trans v.heap, reads := v.reads.kept (hk _ (by show p ≤ p + 1; omega) (by show p + 1 < _; omega)), last := v.last.kept (hk _ (by show p ≤ p + 2; omega) (by show p + 2 < _; omega)), calls := row_kept v.calls (fun g hg => by cases hg), apart := v.apart, usages := hu, base := (baseN_nil hst (Nat.lt_succ_self p)).ok, lo := v.lo, pos := v.pos, top := by have := v.top; exact Nat.le_trans this hs, len := v.len, ok := v.ok, rdk := v.rdk }
theorem View2.qm {p : Nat} {w w0 : World} {G : Nat → Prop} (h : View2 p w) (hb : w0.heap.size ≤ p + 1) (hlow : Below w0.heap.size w0 w) (hG : ∀ k, G k → p + 1 ≤ k ∧ k < w.heap.size ∧ k ≠ p + 1 ∧ k ≠ p + 2 ∧ k ≠ p + 3) : QM w0 w (p + 3) 0 ⟨fun _ => none, [], []⟩ G :=
  ⟨⟨_, h.v, baseN_nil h.st (Nat.lt_succ_self p), rfl, hb, fun k hk => by
    obtain ⟨g1, g2, g3, g4, g5⟩ := hG k hk
    refine ⟨fun hf => ?_, g2, g1⟩
    rcases hf with hf | hf | hf | hf
    · exact g5 hf
    · exact g3 hf
    · exact g4 hf
    · cases hf⟩, hlow⟩
theorem apply_seenT (f g : NameT → Option ByteArray) (n : Int) : applyF g [seenT f n] (ofTerm n) = f (ofTerm n) := by
  unfold seenT
  cases hf : f (ofTerm n) with
  | none => simp [applyF, applyC, delF]
  | some v => simp [applyF, applyC, setF]
/-- The first view after the second has played. -/
theorem first_back {w1 w6 w7 : World} {b M : Nat} {V : AV} {G : Nat → Prop} (s : QM w1 w6 b M V G) {p : Nat} (hbp : b < p) (hG : ∀ k, p ≤ k → k < p + 4 → G k) (hk : ∀ k, k < w6.heap.size → k ≠ p + 1 → k ≠ p + 2 → k ≠ p + 3 → w7.heap[k]? = w6.heap[k]?) (hu : Usages w7) (hb : Below w1.heap.size w1 w7) (hs : w6.heap.size ≤ w7.heap.size) : QM w1 w7 b M V (fun _ => False) := by
  obtain ⟨⟨h, hv, hn, rfl, h2, h4⟩, -⟩ := s
  have hbs : h.bs ≤ h.b := hv.lo _ (.inl rfl)
  have hlt := lt_of_heap hv.heap
  have hlow : ∀ k, k < h.bs → w7.heap[k]? = w6.heap[k]? := fun k hk1 => hk k (by omega) (by omega) (by omega) (by omega)
  refine ⟨⟨h, hv.blocks hlow (fun k hf => ?_) hu (Nat.le_trans hv.top hs), hn.blocks hlow, rfl, h2, fun k hk => hk.elim⟩, hb⟩
  have hkl := hv.fp_lt hf
  have hng : ¬ (p ≤ k ∧ k < p + 4) := fun e => (h4 k (hG k e.1 e.2)).1 hf
  exact hk k hkl (by omega) (by omega) (by omega)
set_option linter.unusedSimpArgs false in
set_option maxRecDepth 100000 in
set_option maxHeartbeats 25600000 in
theorem tframe_any (a : Option Addr) (n c : Nat) (f1 : Nat → OpU) (a2 : Option Addr) (n2 c2 : Nat) (f2 : Nat → OpU) (kd : Nat) (num ep : Int) (who text : ByteArray) (hkd : kd ≤ 255) (hwho : who.size ≤ 9223372036854775807) (htext : text.size ≤ 9223372036854775807) (w : World) (hu : Usages w) (hops : OpSlU w a n f1) (hops2 : OpSlU w a2 n2 f2) :
    Calls Tryz.prog 4 #[.slice a n c, .slice a2 n2 c2, .agg #[.int .u8 kd, .int .i64 num, .int .i64 ep, .string who, .string text]] w fun r w' => r = .returned (.bool true) ∧ Below w.heap.size w w' := by
  have HU : Hid (∀ W, Below w.heap.size w W → Usages W) := fun W hW => hu.below hW hu.pos
  have HO : Hid (∀ W, Below w.heap.size w W → OpSlU W a n f1) := fun W hW => hops.later hW
  have HO2 : Hid (∀ W, Below w.heap.size w W → OpSlU W a2 n2 f2) := fun W hW => hops2.later hW
  have HB0 : Hid (Below w.heap.size w (w.alloc (.cells #[.int .u8 kd, .int .i64 num, .int .i64 ep, .string who, .string text] 23))) := (Below.refl _ _).alloc (Nat.le_refl _) _
  have HX0 : Hid ((w.alloc (.cells #[.int .u8 kd, .int .i64 num, .int .i64 ep, .string who, .string text] 23)).heap[w.heap.size]? = some (.cells #[.int .u8 kd, .int .i64 num, .int .i64 ep, .string who, .string text] 23 (0, 0))) := World.alloc_heap_new w _
  have Hsz : Hid (who.size ≤ 9223372036854775807 ∧ text.size ≤ 9223372036854775807 ∧ kd ≤ 255) := ⟨hwho, htext, hkd⟩
  clear hu hops hops2 hwho htext hkd
  go_enter Tryz.func4, Tryz.ntmps4
  go_wp2_with fail
  generalize w.alloc (.cells #[.int .u8 kd, .int .i64 num, .int .i64 ep, .string who, .string text] 23) = w0 at *
  refine (known_any w0 (HU.out _ HB0.out)).mono ?_
  rintro r w1 ⟨rfl, hb⟩
  have HB1 : Hid (Below w.heap.size w w1) := HB0.out.trans (hb.mono HB0.out.size)
  have HX1 := Lib.hid ((hb.block _ (lt_of_heap HX0.out)).trans HX0.out)
  clear hb HX0 HB0
  go_wp2_with fail
  refine (newView2 w1 (HU.out w1 HB1.out)).mono ?_
  rintro r w2 ⟨rfl, hnew⟩
  have HNew := Lib.hid hnew
  clear hnew
  go_wp2_with fail
  refine HNew.out.mono ?_
  rintro r w3 ⟨rfl, hv3, hb3⟩
  have HV3 := Lib.hid hv3
  have HB13 := Lib.hid hb3
  have HB3 : Hid (Below w.heap.size w w3) := HB1.out.trans (hb3.mono HB1.out.size)
  clear hv3 hb3 HNew
  go_wp2_with fail
  refine (newView2 w3 (HU.out w3 HB3.out)).mono ?_
  rintro r w4 ⟨rfl, hnew⟩
  have HNew := Lib.hid hnew
  clear hnew
  go_wp2_with fail
  refine HNew.out.mono ?_
  rintro r w5 ⟨rfl, hv5, hb5⟩
  have HV5 := Lib.hid hv5
  have HB35 := Lib.hid hb5
  have HB5 : Hid (Below w.heap.size w w5) := HB3.out.trans (hb5.mono HB3.out.size)
  clear hv5 hb5 HNew
  have hb15 : Below w1.heap.size w1 w5 := HB13.out.trans (HB35.out.mono HB13.out.size)
  have hp1 : w1.heap.size + 3 < w3.heap.size := HV3.out.lt
  have S5 : Hid (QM w1 w5 (w1.heap.size + 3) 0 ⟨fun _ => none, [], []⟩ (fun k => w3.heap.size ≤ k ∧ k < w5.heap.size)) := (HV3.out.qm (w0 := w1) (G := fun _ => False) (Nat.le_succ _) HB13.out (fun k hk => hk.elim)).fresh HB35.out (fun k hk => .inr hk)
  have Hp1 := Lib.hid hp1
  have Hb15 := Lib.hid hb15
  clear hp1 hb15 HV3 HB3 HB13
  go_wp2_with fail
  refine (play36_any S5.out relU_empty a n c f1 (fun W hW => HO.out W (HB1.out.trans (hW.mono HB1.out.size)))).mono ?_
  rintro r w6 ⟨V1, l1, rfl, hp, hr⟩
  have HP1 := Lib.hid hp
  have HR1 := Lib.hid hr.len
  have HB6 : Hid (Below w.heap.size w w6) := HB1.out.trans (hp.s.below.mono HB1.out.size)
  have hu6 := hp.s.usages
  have hsz6 : w5.heap.size ≤ w6.heap.size := Nat.le_of_lt hp.m.lt
  have HV6 := Lib.hid (HV5.out.back (fun k h1 h2 => hp.g k ⟨h1, h2⟩) hu6 hsz6)
  have Hs6 := Lib.hid hsz6
  clear hp hr hu6 hsz6 S5
  obtain ⟨p, hp⟩ : ∃ p, w3.heap.size = p := ⟨_, rfl⟩
  have hl5 := HV5.out.lt
  rw [hp] at HV6 hl5
  have hBp : w.heap.size ≤ p + 1 := by have := HB1.out.size; have := Hp1.out; omega
  have Hl5 := Lib.hid hl5
  clear HV5
  have HBp := Lib.hid hBp
  clear hBp hl5
  rw [hp]
  have Hcs : Hid ((cutW w6 (p + 1)).heap.size = p + 1) := cutW_size (by have := HV6.out.lt; omega)
  have Hcb : Hid (Below (p + 1) (cutW w6 (p + 1)) w6) := cutW_below (by have := HV6.out.lt; omega)
  have Hpp : Hid (w3.heap.size = p) := hp
  clear hp
  generalize cutW w6 (p + 1) = ws at *
  have S6 : Hid (QM ws w6 (p + 3) 0 ⟨fun _ => none, [], []⟩ (fun k => p + 1 ≤ k ∧ k < w6.heap.size ∧ k ≠ p + 1 ∧ k ≠ p + 2 ∧ k ≠ p + 3)) := HV6.out.qm (by rw [Hcs.out]; exact Nat.le_refl _) (by rw [Hcs.out]; exact Hcb.out) (fun k hk => hk)
  have HO2w : Hid (∀ W, Below ws.heap.size ws W → OpSlU W a2 n2 f2) := fun W hW => HO2.out W (below_cut HB6.out Hcb.out (by rw [Hcs.out] at hW; exact hW) HBp.out (by rw [Hcs.out]; exact Nat.le_refl _))
  go_wp2_with fail
  refine (play36_any S6.out relU_empty a2 n2 c2 f2 HO2w.out).mono ?_
  rintro r w7 ⟨V2, l2, rfl, hp, hr⟩
  have HR2 := Lib.hid hr.len
  have hb7 := hp.s.below
  rw [Hcs.out] at hb7
  have HB7 : Hid (Below w.heap.size w w7) := below_cut HB6.out Hcb.out hb7 HBp.out (by rw [Hcs.out]; exact Nat.le_refl _)
  have hbw7 : Below w1.heap.size w1 w7 := below_cut HP1.out.s.below Hcb.out hb7 (by have := Hp1.out; have := Hpp.out; omega) (by rw [Hcs.out]; exact Nat.le_refl _)
  have hs67 : w6.heap.size ≤ w7.heap.size := Nat.le_of_lt hp.m.lt
  have hkk : ∀ k, k < w6.heap.size → k ≠ p + 1 → k ≠ p + 2 → k ≠ p + 3 → w7.heap[k]? = w6.heap[k]? := fun k h1 h2 h3 h4 => by
    by_cases h : k < p + 1
    · exact (hb7.block k h).trans (Hcb.out.block k h).symm
    · exact hp.g k ⟨by omega, h1, h2, h3, h4⟩
  have S7a : Hid (QM w1 w7 (w1.heap.size + 3) 0 V1 (fun _ => False)) := first_back (p := p) HP1.out.s (by have := Hp1.out; have := Hpp.out; omega) (fun k h1 h2 => .inl ⟨by have := Hpp.out; omega, by have := Hl5.out; omega⟩) hkk hp.s.usages hbw7 hs67
  have S7b : Hid (QM ws w7 (p + 3) 0 V2 (fun _ => False)) := hp.s.fresh (Below.refl _ _) (fun k hk => hk.elim)
  have HX7 : Hid (w7.heap[w.heap.size]? = some (.cells #[.int .u8 kd, .int .i64 num, .int .i64 ep, .string who, .string text] 23 (0, 0))) := by
    have h1 := HX1.out
    have h2 := (hbw7.block _ (lt_of_heap h1)).trans h1
    exact h2
  clear hp hr hb7 hbw7 hs67 hkk S6 HP1 HO2w Hcb Hcs HV6 Hs6 HX1 HB6 Hl5 Hpp Hp1 HBp
  have hN1 : 0 + V1.calls.length < 60000 := by have := HR1.out; omega
  have hN2 : 0 + V2.calls.length < 60000 := by have := HR2.out; omega
  have HN1 := Lib.hid hN1
  have HN2 := Lib.hid hN2
  clear hN1 hN2
  go_wp2_with fail
  refine (qmAfter S7a.out HN1.out).mono ?_
  rintro r w8 ⟨sp1, rfl, hb8, hbn1⟩
  have S8 := Lib.hid (S7b.out.later hb8)
  have HB8 : Hid (Below w.heap.size w w8) := HB7.out.trans (hb8.mono HB7.out.size)
  have HX8 := Lib.hid ((hb8.block _ (lt_of_heap HX7.out)).trans HX7.out)
  have HBn1 := Lib.hid hbn1
  clear hb8 hbn1 S7a S7b HX7
  go_wp2_with fail
  refine (qmAfter S8.out HN2.out).mono ?_
  rintro r w9 ⟨sp2, rfl, hb9, hbn2⟩
  have HB9 : Hid (Below w.heap.size w w9) := HB8.out.trans (hb9.mono HB8.out.size)
  have HX9 := Lib.hid ((hb9.block _ (lt_of_heap HX8.out)).trans HX8.out)
  have HBn1b := Lib.hid ((HBn1.out.later hb9).up hb9.size)
  have HBn2 := Lib.hid hbn2
  have Hu9 : Hid (Usages w9) := HU.out _ HB9.out
  have Hlm : Hid (0 + V1.calls.length ≤ 30 ∧ 0 + V2.calls.length ≤ 30) := ⟨by have := HR1.out; omega, by have := HR2.out; omega⟩
  clear hb9 hbn2 S8 HX8 HBn1 HN1 HN2 HR1 HR2 HB7 HB8 HB1 HB5 HB35 Hb15
  generalize stOf V1 = f at *
  generalize stOf V2 = g0 at *
  generalize 0 + V1.calls.length = M1 at *
  generalize 0 + V2.calls.length = M2 at *
  go_wp2_with fail
  refine (qmNew (w0 := w9) Hu9.out (Below.refl _ _) HBn1b.out).mono ?_
  rintro r w10 ⟨rfl, s10, -⟩
  have S10 := Lib.hid s10
  have HFz : Hid ((seenT f num).value.size ≤ 65536) := s10.size (ofTerm num)
  clear s10 HBn1b
  have hx10 := (S10.out.below.block _ (lt_of_heap HX9.out)).trans HX9.out
  have o0 : w10.cell? ⟨w.heap.size, 0, none⟩ = some (.int .u8 kd) := cell_of_heap hx10 0
  have o1 : w10.cell? ⟨w.heap.size, 1, none⟩ = some (.int .i64 num) := cell_of_heap hx10 1
  have o2 : w10.cell? ⟨w.heap.size, 2, none⟩ = some (.int .i64 ep) := cell_of_heap hx10 2
  have o3 : w10.cell? ⟨w.heap.size, 3, none⟩ = some (.string who) := cell_of_heap hx10 3
  have o4 : w10.cell? ⟨w.heap.size, 4, none⟩ = some (.string text) := cell_of_heap hx10 4
  clear hx10
  obtain ⟨R, Wr, hR, hW, hR1, hW1, hRr, hWr, hdep⟩ := uV_rw f (shortU ⟨kd, num, ep, who, text⟩)
  have HDo : Hid (Calls Tryz.prog 10 #[.pointer (some ⟨w9.heap.size + 2, 0, none⟩), .agg #[.int .u8 kd, .int .i64 num, .int .i64 ep, .string who, .string text]] w10 (DoUPost w9 w10 (w9.heap.size + 2) M1 (fV f) (fun _ => False) (shortU ⟨kd, num, ep, who, text⟩))) := do36_any S10.out ⟨kd, num, ep, who, text⟩ Hsz.out.2.2 Hsz.out.1 Hsz.out.2.1 (by show 0 < 1000000; decide)
  unfold DoUPost at HDo
  have Hdep := Lib.hid hdep
  have HTl : Hid ((uGot (fV f) (shortU ⟨kd, num, ep, who, text⟩)).typed.length ≤ 70368744177664) := by
    unfold uGot
    split
    · exact Nat.le_trans (tGet_small _ _ _).typed (by decide)
    · exact Nat.zero_le _
  generalize uV (fV f) (shortU ⟨kd, num, ep, who, text⟩) = V3 at *
  generalize uE (fV f) (shortU ⟨kd, num, ep, who, text⟩) = e at *
  generalize uLine (fV f) (shortU ⟨kd, num, ep, who, text⟩) = line at *
  generalize uGot (fV f) (shortU ⟨kd, num, ep, who, text⟩) = gt at *
  obtain ⟨te, ts, tl, tc⟩ := gt
  have hRl : R.length ≤ 1 := by rcases hR1 with h | h <;> rw [h] <;> simp
  have hWl : Wr.length ≤ 1 := by
    rcases hW1 with h | ⟨v, x, h⟩ <;> rw [h] <;> simp
  have HRl := Lib.hid hRl
  have HWl := Lib.hid hWl
  have HR := Lib.hid hR
  have HW := Lib.hid hW
  have HR1 := Lib.hid hR1
  have HW1 := Lib.hid hW1
  have HRr := Lib.hid hRr
  have HWr := Lib.hid hWr
  clear hR hW hR1 hW1 hRr hWr hdep hRl hWl
  dsimp only at HDo
  go_wp2_with fail
  refine HDo.out.mono ?_
  rintro r w11 ⟨ga, gn, gc, rfl, hgr, s11, -⟩
  have HGs := Lib.hid hgr.sl
  have S11 := Lib.hid s11
  clear hgr s11 HDo o0 o1 o2 o3 o4 S10
  try dsimp only at HGs
  have hgn := HGs.out.1
  subst hgn
  have HA : Hid (∀ ob, Below w11.heap.size w11 (w11.alloc ob)) := fun ob => (Below.refl _ _).alloc (Nat.le_refl _) _
  have HXn : Hid (∀ ob, (w11.alloc ob).heap[w11.heap.size]? = some ob) := fun ob => World.alloc_heap_new w11 ob
  go_wp2_with fail
  refine (qmReads1 (S11.out.later (HA.out _)) HR.out HRl.out).mono ?_
  rintro r w12 ⟨ra, rcap, rfl, hrow, hsl, hb12, s12⟩
  have HRow := Lib.hid hrow
  have HSr := Lib.hid hsl
  have S12 := Lib.hid s12
  have HX12 := Lib.hid ((hb12.block _ (lt_of_heap (HXn.out (.cells #[.int .i64 te, .string ts, .slice ga tl.length gc, .string tc] 38)))).trans (HXn.out _))
  have HGs12 := Lib.hid ((HGs.out.later (HA.out (.cells #[.int .i64 te, .string ts, .slice ga tl.length gc, .string tc] 38))).later hb12)
  clear hrow hsl hb12 s12 HA HXn S11 HGs
  obtain ⟨X, hX⟩ : ∃ X, w11.heap.size = X := ⟨_, rfl⟩
  rw [hX] at HX12 ⊢
  clear hX
  go_wp2_with fail
  refine (qmWrites1 S12.out HW.out HWl.out).mono ?_
  rintro r w13 ⟨wa, wcap, rfl, hsl, hb13, s13⟩
  have HSw := Lib.hid hsl
  have HRow13 := Lib.hid (HRow.out.later hb13)
  have HSr13 := Lib.hid (HSr.out.later hb13)
  have HX13 := Lib.hid ((hb13.block _ (lt_of_heap HX12.out)).trans HX12.out)
  have HGs13 := Lib.hid (HGs12.out.later hb13)
  have HBz := Lib.hid s13.below
  have HB13 : Hid (Below w.heap.size w w13) := HB9.out.trans (s13.below.mono HB9.out.size)
  have HBn13 := Lib.hid ((HBn2.out.later s13.below).up s13.below.size)
  have Hu13 : Hid (Usages w13) := HU.out _ HB13.out
  have HXo13 := Lib.hid ((s13.below.block _ (lt_of_heap HX9.out)).trans HX9.out)
  clear hsl hb13 s13 S12 HRow HSr HX12 HGs12 HBz HX9 HBn2 Hu9 HB9
  obtain ⟨nr, hnr⟩ : ∃ nr, R.length = nr := ⟨_, rfl⟩
  obtain ⟨nw, hnw⟩ : ∃ nw, Wr.length = nw := ⟨_, rfl⟩
  have Hco : Hid (∀ c ∈ R, CallOk c) := fun c hc => by
    rcases HR1.out with h | h
    · rw [h] at hc; simp at hc
    · have hir := HRr.out (by rw [h]; simp)
      rw [h] at hc
      obtain rfl : c = seenT f num := List.mem_singleton.1 hc
      obtain ⟨n1, n2, -, -⟩ := inRange_iff.1 hir
      have n1 : 1 ≤ num := n1
      have n2 : num ≤ 99 := n2
      exact ⟨nameOk_term num (by omega) (by omega), HFz.out⟩
  have Hap : Hid (R = [] ∨ applyF g0 R (ofTerm num) = f (ofTerm num)) := by
    rcases HR1.out with h | h
    · exact .inl h
    · exact .inr (by rw [h]; exact apply_seenT f g0 num)
  have hNN : M2 + R.length < 60000 := by have := Hlm.out.2; have := HRl.out; omega
  have HNN := Lib.hid hNN
  clear hNN
  have hnr1 : nr ≤ 1 := by rw [← hnr]; exact HRl.out
  have hnw1 : nw ≤ 1 := by rw [← hnw]; exact HWl.out
  have Hnr := Lib.hid hnr
  have Hnw := Lib.hid hnw
  clear hnr hnw
  have hd1 : decide ((1 : Int) < (nr : Int)) = false := decide_eq_false (by omega)
  have hd2 : decide ((1 : Int) < (nw : Int)) = false := decide_eq_false (by omega)
  have HApp := Lib.hid (baseApply Hu13.out HBn13.out (Nat.le_refl _) HNN.out HRow13.out Hco.out)
  rw [Hnr.out] at HApp
  rw [Hnr.out, Hnw.out]
  go_wp2_with fail
  refine HApp.out.mono ?_
  rintro r w14 ⟨sp3, rfl, hb14, hbn3⟩
  obtain ⟨hd1, hd2, hd3, hd4, hd5⟩ := Hdep.out _ Hap.out
  have Hd := Lib.hid (And.intro hd1 (And.intro hd2 hd3))
  have Hd4 := Lib.hid hd4
  have Hd5 := Lib.hid hd5
  clear hd1 hd2 hd3 hd4 hd5
  have HB14 : Hid (Below w.heap.size w w14) := HB13.out.trans (hb14.mono HB13.out.size)
  have HSr14 := Lib.hid (HSr13.out.later hb14)
  have HSw14 := Lib.hid (HSw.out.later hb14)
  have HX14 := Lib.hid ((hb14.block _ (lt_of_heap HX13.out)).trans HX13.out)
  have HGs14 := Lib.hid (HGs13.out.later hb14)
  have HXo14 := Lib.hid ((hb14.block _ (lt_of_heap HXo13.out)).trans HXo13.out)
  have Hu14 : Hid (Usages w14) := HU.out _ HB14.out
  have HBn14 := Lib.hid hbn3
  clear hb14 hbn3 HApp HRow13 HSr13 HSw HX13 HGs13 HXo13 Hu13 HBn13 Hco Hap HNN Hdep HB13
  have ht1 : ¬ (1 : Int) < (nr : Int) := by omega
  have ht2 : ¬ (1 : Int) < (nw : Int) := by omega
  generalize applyF g0 R = g at *
  generalize M2 + R.length = M3 at *
  go_wp2_with fail
  refine (qmNew (w0 := w14) Hu14.out (Below.refl _ _) HBn14.out).mono ?_
  rintro r w15 ⟨rfl, s15, -⟩
  have S15 := Lib.hid s15
  clear s15 HBn14 ht1 ht2
  have hx15 := (S15.out.below.block _ (lt_of_heap HXo14.out)).trans HXo14.out
  have o0 : w15.cell? ⟨w.heap.size, 0, none⟩ = some (.int .u8 kd) := cell_of_heap hx15 0
  have o1 : w15.cell? ⟨w.heap.size, 1, none⟩ = some (.int .i64 num) := cell_of_heap hx15 1
  have o2 : w15.cell? ⟨w.heap.size, 2, none⟩ = some (.int .i64 ep) := cell_of_heap hx15 2
  have o3 : w15.cell? ⟨w.heap.size, 3, none⟩ = some (.string who) := cell_of_heap hx15 3
  have o4 : w15.cell? ⟨w.heap.size, 4, none⟩ = some (.string text) := cell_of_heap hx15 4
  clear hx15
  have HDo : Hid (Calls Tryz.prog 10 #[.pointer (some ⟨w14.heap.size + 2, 0, none⟩), .agg #[.int .u8 kd, .int .i64 num, .int .i64 ep, .string who, .string text]] w15 (DoUPost w14 w15 (w14.heap.size + 2) M3 (fV g) (fun _ => False) (shortU ⟨kd, num, ep, who, text⟩))) := do36_any S15.out ⟨kd, num, ep, who, text⟩ Hsz.out.2.2 Hsz.out.1 Hsz.out.2.1 (by show 0 < 1000000; decide)
  unfold DoUPost at HDo
  rw [Hd.out.1, Hd.out.2.1, Hd.out.2.2] at HDo
  dsimp only at HDo
  generalize uV (fV g) (shortU ⟨kd, num, ep, who, text⟩) = U3 at *
  clear Hd
  go_wp2_with fail
  refine HDo.out.mono ?_
  rintro r w16 ⟨ya, yn, yc, rfl, hyr, s16, -⟩
  have HYs := Lib.hid hyr.sl
  have S16 := Lib.hid s16
  clear hyr s16 HDo o0 o1 o2 o3 o4 S15
  try dsimp only at HYs
  have hyn := HYs.out.1
  subst hyn
  have HA : Hid (∀ ob, Below w16.heap.size w16 (w16.alloc ob)) := fun ob => (Below.refl _ _).alloc (Nat.le_refl _) _
  have HXn : Hid (∀ ob, (w16.alloc ob).heap[w16.heap.size]? = some ob) := fun ob => World.alloc_heap_new w16 ob
  have hx16 := (S16.out.below.block _ (lt_of_heap HX14.out)).trans HX14.out
  have hne16 := lt_of_heap hx16
  have x0 : w16.cell? ⟨X, 0, none⟩ = some (.int .i64 te) := cell_of_heap hx16 0
  have x1 : w16.cell? ⟨X, 1, none⟩ = some (.string ts) := cell_of_heap hx16 1
  have x2 : w16.cell? ⟨X, 2, none⟩ = some (.slice ga tl.length gc) := cell_of_heap hx16 2
  have x3 : w16.cell? ⟨X, 3, none⟩ = some (.string tc) := cell_of_heap hx16 3
  have HEq : Hid (∀ W, Below w16.heap.size w16 W → Calls Tryz.prog 18 #[.agg #[.int .i64 te, .string ts, .slice ga tl.length gc, .string tc], .agg #[.int .i64 te, .string ts, .slice ya tl.length yc, .string tc]] W fun r w' => r = .returned (.bool true) ∧ Below W.heap.size W w') := fun W hW => by
    have h1 : SSl W ga tl.length tl := (HGs14.out.later S16.out.below).later hW
    have h2 := HYs.out.later hW
    refine (tEqual_any te ts tc ga tl.length gc tl te ts tc ya tl.length yc tl W h1 h2 HTl.out).mono ?_
    rintro r w' ⟨rfl, h⟩
    exact ⟨by rw [decide_eq_true rfl], h⟩
  have hlr : (line.toList != line.toList) = false := by simp
  have her : ((e : Int) != (e : Int)) = false := by simp
  clear hx16
  go_wp2_with fail
  refine (HEq.out _ (HA.out _)).mono ?_
  rintro r w17 ⟨rfl, hb⟩
  have HB17 : Hid (Below w16.heap.size w16 w17) := (HA.out _).trans (hb.mono (HA.out _).size)
  have S17 := Lib.hid (S16.out.later HB17.out)
  clear hb HEq HA HXn S16 x0 x1 x2 x3 HGs14 HYs
  have hnn : ((nr : Int) != (nr : Int)) = false := by simp
  have hnm : ((nw : Int) != (nw : Int)) = false := by simp
  go_wp2_with fail
  refine (qmReads1 S17.out Hd4.out HRl.out).mono ?_
  rintro r w18 ⟨b12, c12, rfl, -, -, -, s18⟩
  have S18 := Lib.hid s18
  clear s18 S17
  rw [Hnr.out]
  go_wp2_with fail
  refine (qmWrites1 S18.out Hd5.out HWl.out).mono ?_
  rintro r w19 ⟨b13, c13, rfl, -, -, s19⟩
  have S19 := Lib.hid s19
  clear s19 S18
  rw [Hnw.out]
  clear hlr her HB17
  go_wp2_with fail
  go_loopg [27] nr (fun gk iv wr => ∃ (j : Nat), j + gk = nr ∧ iv = .int .i64 j ∧ Hid (QM w14 wr (w14.heap.size + 2) M3 U3 (fun _ => False)))
  case atStart => exact ⟨0, by omega, rfl, S19.out⟩
  case round =>
    obtain ⟨j, hj, rfl, T⟩ := hrel
    have Hj := Lib.hid hj
    have hjn : j ≤ nr := by omega
    clear hj
    by_cases hlj : j < nr
    · have hn1 : nr = 1 := by omega
      subst hn1
      obtain rfl : j = 0 := by omega
      obtain ⟨cv, cb, hRc⟩ : ∃ cv cb, R = [⟨⟨13, ⟨#[]⟩, num, 0, ⟨#[]⟩⟩, cv, cb⟩] := by
        rcases HR1.out with h | h
        · have := Hnr.out; rw [h] at this; simp at this
        · exact ⟨_, _, h⟩
      obtain ⟨g12, rfl, p0, p1, p2, p3, p4, p5, p6⟩ := (HSr14.out.later T.out.below) _ hRc
      have q0 : wr.cell? ⟨g12, 0, none⟩ = some (.int .i64 13) := p0
      have q1 : wr.cell? ⟨g12, 1, none⟩ = some (.string ⟨#[]⟩) := p1
      have q2 : wr.cell? ⟨g12, 2, none⟩ = some (.int .i64 num) := p2
      have q3 : wr.cell? ⟨g12, 3, none⟩ = some (.int .i64 0) := p3
      have q4 : wr.cell? ⟨g12, 4, none⟩ = some (.string ⟨#[]⟩) := p4
      have q5 : wr.cell? ⟨g12, 5, none⟩ = some (.string cv) := p5
      have q6 : wr.cell? ⟨g12, 6, none⟩ = some (.bool cb) := p6
      clear p0 p1 p2 p3 p4 p5 p6
      have hxo := (T.out.below.block _ (lt_of_heap HXo14.out)).trans HXo14.out
      have q7 : wr.cell? ⟨w.heap.size, 1, none⟩ = some (.int .i64 num) := cell_of_heap hxo 1
      clear hxo
      have S0 : Hid (wr.cell? ⟨g12, 0, none⟩ = some (.int .i64 13) ∧ wr.cell? ⟨g12, 1, none⟩ = some (.string ⟨#[]⟩) ∧ wr.cell? ⟨g12, 2, none⟩ = some (.int .i64 num) ∧ wr.cell? ⟨g12, 3, none⟩ = some (.int .i64 0) ∧ wr.cell? ⟨g12, 4, none⟩ = some (.string ⟨#[]⟩) ∧ wr.cell? ⟨g12, 5, none⟩ = some (.string cv) ∧ wr.cell? ⟨g12, 6, none⟩ = some (.bool cb) ∧ wr.cell? ⟨w.heap.size, 1, none⟩ = some (.int .i64 num)) := ⟨q0, q1, q2, q3, q4, q5, q6, q7⟩
      have HC2 : Hid (∀ W, Below w14.heap.size w14 W → (W.cell? ⟨g12, 0, none⟩ = some (.int .i64 13) ∧ W.cell? ⟨g12, 1, none⟩ = some (.string ⟨#[]⟩) ∧ W.cell? ⟨g12, 2, none⟩ = some (.int .i64 num) ∧ W.cell? ⟨g12, 3, none⟩ = some (.int .i64 0) ∧ W.cell? ⟨g12, 4, none⟩ = some (.string ⟨#[]⟩) ∧ W.cell? ⟨g12, 5, none⟩ = some (.string cv) ∧ W.cell? ⟨g12, 6, none⟩ = some (.bool cb) ∧ W.cell? ⟨w.heap.size, 1, none⟩ = some (.int .i64 num))) := fun W hb => by
        obtain ⟨g12x, hgx, r0, r1, r2, r3, r4, r5, r6⟩ := (HSr14.out.later hb) _ hRc
        cases hgx
        have hxo := (hb.block _ (lt_of_heap HXo14.out)).trans HXo14.out
        exact ⟨r0, r1, r2, r3, r4, r5, r6, cell_of_heap hxo 1⟩
      have hnq : neqNB ⟨13, ⟨#[]⟩, num, 0, ⟨#[]⟩⟩ ⟨13, ⟨#[]⟩, num, 0, ⟨#[]⟩⟩ = false := neqNB_self _
      have hcq : neqCB ⟨⟨13, ⟨#[]⟩, num, 0, ⟨#[]⟩⟩, cv, cb⟩ ⟨⟨13, ⟨#[]⟩, num, 0, ⟨#[]⟩⟩, cv, cb⟩ = false := neqCB_self _
      have Td := Lib.hid (T.out.later (Below.drew (Below.refl _ _)))
      have Hl1 : Hid (R.length = 1) := Hnr.out
      have HRc := Lib.hid hRc; clear hRc
      go_wp2_with fail
      refine wp_region_held_drew (S := (fun W => W.cell? ⟨g12, 0, none⟩ = some (.int .i64 13) ∧ W.cell? ⟨g12, 1, none⟩ = some (.string ⟨#[]⟩) ∧ W.cell? ⟨g12, 2, none⟩ = some (.int .i64 num) ∧ W.cell? ⟨g12, 3, none⟩ = some (.int .i64 0) ∧ W.cell? ⟨g12, 4, none⟩ = some (.string ⟨#[]⟩) ∧ W.cell? ⟨g12, 5, none⟩ = some (.string cv) ∧ W.cell? ⟨g12, 6, none⟩ = some (.bool cb) ∧ W.cell? ⟨w.heap.size, 1, none⟩ = some (.int .i64 num))) (by kernel_rfl) (S0.out) (fun hHeld0 => ?_)
      refine wpAnyH_take (i := 0) (v := ?_) rfl (by kernel_rfl) (by kernel_rfl) (by kernel_rfl) (fun _ _ _ h => h) (Or.inl ⟨by rfl, ?_⟩) (by assumption) ?_
      rotate_left
      · (intro wx hSw; (try dsimp only at hSw); go_simp <;> with_reducible rfl)
      try simp only [Act.put, List.setIfInBounds_toArray, List.set_cons_zero, List.set_cons_succ, List.getElem_toArray, List.getElem_cons_zero, List.getElem_cons_succ]
      refine wpAnyH_take (i := 1) (v := ?_) rfl (by kernel_rfl) (by kernel_rfl) (by kernel_rfl) (fun _ _ _ h => h) (Or.inl ⟨by rfl, ?_⟩) (by assumption) ?_
      rotate_left
      · (intro wx hSw; (try dsimp only at hSw); go_simp <;> with_reducible rfl)
      try simp only [Act.put, List.setIfInBounds_toArray, List.set_cons_zero, List.set_cons_succ, List.getElem_toArray, List.getElem_cons_zero, List.getElem_cons_succ]
      refine wpAnyH_take (i := 2) (v := ?_) rfl (by kernel_rfl) (by kernel_rfl) (by kernel_rfl) (fun _ _ _ h => h) (Or.inl ⟨by rfl, ?_⟩) (by assumption) ?_
      rotate_left
      · (intro wx hSw; (try dsimp only at hSw); go_simp <;> with_reducible rfl)
      try simp only [Act.put, List.setIfInBounds_toArray, List.set_cons_zero, List.set_cons_succ, List.getElem_toArray, List.getElem_cons_zero, List.getElem_cons_succ]
      refine wpAnyH_take (i := 3) (v := ?_) rfl (by kernel_rfl) (by kernel_rfl) (by kernel_rfl) (fun _ _ _ h => h) (Or.inl ⟨by rfl, ?_⟩) (by assumption) ?_
      rotate_left
      · (intro wx hSw; (try dsimp only at hSw); go_simp <;> with_reducible rfl)
      try simp only [Act.put, List.setIfInBounds_toArray, List.set_cons_zero, List.set_cons_succ, List.getElem_toArray, List.getElem_cons_zero, List.getElem_cons_succ]
      refine wpAnyH_take (i := 4) (v := ?_) rfl (by kernel_rfl) (by kernel_rfl) (by kernel_rfl) (fun _ _ _ h => h) (Or.inl ⟨by rfl, ?_⟩) (by assumption) ?_
      rotate_left
      · (intro wx hSw; (try dsimp only at hSw); go_simp <;> with_reducible rfl)
      try simp only [Act.put, List.setIfInBounds_toArray, List.set_cons_zero, List.set_cons_succ, List.getElem_toArray, List.getElem_cons_zero, List.getElem_cons_succ]
      refine wpAnyH_take (i := 5) (v := ?_) rfl (by kernel_rfl) (by kernel_rfl) (by kernel_rfl) (fun _ _ _ h => h) (Or.inl ⟨by rfl, ?_⟩) (by assumption) ?_
      rotate_left
      · (intro wx hSw; (try dsimp only at hSw); go_simp <;> with_reducible rfl)
      try simp only [Act.put, List.setIfInBounds_toArray, List.set_cons_zero, List.set_cons_succ, List.getElem_toArray, List.getElem_cons_zero, List.getElem_cons_succ]
      refine wpAnyH_take (i := 6) (v := ?_) rfl (by kernel_rfl) (by kernel_rfl) (by kernel_rfl) (fun _ _ _ h => h) (Or.inl ⟨by rfl, ?_⟩) (by assumption) ?_
      rotate_left
      · (intro wx hSw; (try dsimp only at hSw); go_simp <;> with_reducible rfl)
      try simp only [Act.put, List.setIfInBounds_toArray, List.set_cons_zero, List.set_cons_succ, List.getElem_toArray, List.getElem_cons_zero, List.getElem_cons_succ]
      refine wpAnyH_ready (rs := [7]) (by kernel_rfl) (by simp) ?_
      refine AllReadyH.cons rfl (fun K hK => ?_) AllReadyH.nil
      go_simp
      go_at_call 8
      refine (ofTerminal_any _ _).mono ?_
      rintro r wa ⟨rfl, hba⟩
      have Ta := Lib.hid (Td.out.later hba)
      clear hba
      go_wp2_with fail
      refine hK.out _ _ (HC2.out _ Ta.out.below) (fun hHeld1 => ?_)
      clear hK K hHeld0
      try simp only [Act.put, List.setIfInBounds_toArray, List.set_cons_zero, List.set_cons_succ, List.getElem_toArray, List.getElem_cons_zero, List.getElem_cons_succ]
      refine wpAnyH_take (i := 8) (v := ?_) rfl (by kernel_rfl) (by kernel_rfl) (by kernel_rfl) (fun _ _ _ h => h) (Or.inl ⟨by rfl, ?_⟩) (by assumption) ?_
      rotate_left
      · (intro wx hSw; (try dsimp only at hSw); go_simp <;> with_reducible rfl)
      try simp only [Act.put, List.setIfInBounds_toArray, List.set_cons_zero, List.set_cons_succ, List.getElem_toArray, List.getElem_cons_zero, List.getElem_cons_succ]
      refine wpAnyH_take (i := 9) (v := ?_) rfl (by kernel_rfl) (by kernel_rfl) (by kernel_rfl) (fun _ _ _ h => h) (Or.inl ⟨by rfl, ?_⟩) (by assumption) ?_
      rotate_left
      · (intro wx hSw; (try dsimp only at hSw); go_simp <;> with_reducible rfl)
      try simp only [Act.put, List.setIfInBounds_toArray, List.set_cons_zero, List.set_cons_succ, List.getElem_toArray, List.getElem_cons_zero, List.getElem_cons_succ]
      refine wpAnyH_take (i := 10) (v := ?_) rfl (by kernel_rfl) (by kernel_rfl) (by kernel_rfl) (fun _ _ _ h => h) (Or.inl ⟨by rfl, ?_⟩) (by assumption) ?_
      rotate_left
      · (intro wx hSw; (try dsimp only at hSw); go_simp <;> with_reducible rfl)
      try simp only [Act.put, List.setIfInBounds_toArray, List.set_cons_zero, List.set_cons_succ, List.getElem_toArray, List.getElem_cons_zero, List.getElem_cons_succ]
      refine wpAnyH_take (i := 12) (v := ?_) rfl (by kernel_rfl) (by kernel_rfl) (by kernel_rfl) (fun _ _ _ h => h) (Or.inl ⟨by rfl, ?_⟩) (by assumption) ?_
      rotate_left
      · (intro wx hSw; (try dsimp only at hSw); go_simp <;> with_reducible rfl)
      try simp only [Act.put, List.setIfInBounds_toArray, List.set_cons_zero, List.set_cons_succ, List.getElem_toArray, List.getElem_cons_zero, List.getElem_cons_succ]
      refine wpAnyH_take (i := 15) (v := ?_) rfl (by kernel_rfl) (by kernel_rfl) (by kernel_rfl) (fun _ _ _ h => h) (Or.inl ⟨by rfl, ?_⟩) (by assumption) ?_
      rotate_left
      · (intro wx hSw; (try dsimp only at hSw); go_simp <;> with_reducible rfl)
      try simp only [Act.put, List.setIfInBounds_toArray, List.set_cons_zero, List.set_cons_succ, List.getElem_toArray, List.getElem_cons_zero, List.getElem_cons_succ]
      refine wpAnyH_take (i := 16) (v := ?_) rfl (by kernel_rfl) (by kernel_rfl) (by kernel_rfl) (fun _ _ _ h => h) (Or.inl ⟨by rfl, ?_⟩) (by assumption) ?_
      rotate_left
      · (intro wx hSw; (try dsimp only at hSw); go_simp <;> with_reducible rfl)
      try simp only [Act.put, List.setIfInBounds_toArray, List.set_cons_zero, List.set_cons_succ, List.getElem_toArray, List.getElem_cons_zero, List.getElem_cons_succ]
      refine wpAnyH_take (i := 17) (v := ?_) rfl (by kernel_rfl) (by kernel_rfl) (by kernel_rfl) (fun _ _ _ h => h) (Or.inl ⟨by rfl, ?_⟩) (by assumption) ?_
      rotate_left
      · (intro wx hSw; (try dsimp only at hSw); go_simp <;> with_reducible rfl)
      try simp only [Act.put, List.setIfInBounds_toArray, List.set_cons_zero, List.set_cons_succ, List.getElem_toArray, List.getElem_cons_zero, List.getElem_cons_succ]
      refine wpAnyH_take (i := 18) (v := ?_) rfl (by kernel_rfl) (by kernel_rfl) (by kernel_rfl) (fun _ _ _ h => h) (Or.inl ⟨by rfl, ?_⟩) (by assumption) ?_
      rotate_left
      · (intro wx hSw; (try dsimp only at hSw); go_simp <;> with_reducible rfl)
      try simp only [Act.put, List.setIfInBounds_toArray, List.set_cons_zero, List.set_cons_succ, List.getElem_toArray, List.getElem_cons_zero, List.getElem_cons_succ]
      refine wpAnyH_ready (rs := [11]) (by kernel_rfl) (by simp) ?_
      refine AllReadyH.cons rfl (fun K hK => ?_) AllReadyH.nil
      go_simp
      go_at_call 16
      refine (qmReads1 Ta.out Hd4.out HRl.out).mono ?_
      rintro r wc ⟨b14, cc14, rfl, -, hs, -, sc⟩
      have Tc := Lib.hid sc
      clear sc
      obtain ⟨g13, rfl, t0, t1, t2, t3, t4, t5, t6⟩ := hs _ HRc.out
      rw [Hl1.out]
      go_wp2_with fail
      refine hK.out _ _ (HC2.out _ Tc.out.below) (fun hHeld2 => ?_)
      refine wpAnyH_monoF (S2 := fun W => W.cell? ⟨g12, 0, none⟩ = some (.int .i64 13) ∧ W.cell? ⟨g12, 1, none⟩ = some (.string ⟨#[]⟩) ∧ W.cell? ⟨g12, 2, none⟩ = some (.int .i64 num) ∧ W.cell? ⟨g12, 3, none⟩ = some (.int .i64 0) ∧ W.cell? ⟨g12, 4, none⟩ = some (.string ⟨#[]⟩) ∧ W.cell? ⟨g12, 5, none⟩ = some (.string cv) ∧ W.cell? ⟨g12, 6, none⟩ = some (.bool cb) ∧ W.cell? ⟨w.heap.size, 1, none⟩ = some (.int .i64 num) ∧ W.cell? ⟨g13, 0, none⟩ = some (.int .i64 13) ∧ W.cell? ⟨g13, 1, none⟩ = some (.string ⟨#[]⟩) ∧ W.cell? ⟨g13, 2, none⟩ = some (.int .i64 num) ∧ W.cell? ⟨g13, 3, none⟩ = some (.int .i64 0) ∧ W.cell? ⟨g13, 4, none⟩ = some (.string ⟨#[]⟩) ∧ W.cell? ⟨g13, 5, none⟩ = some (.string cv) ∧ W.cell? ⟨g13, 6, none⟩ = some (.bool cb)) (fun W h => ⟨h.1, h.2.1, h.2.2.1, h.2.2.2.1, h.2.2.2.2.1, h.2.2.2.2.2.1, h.2.2.2.2.2.2.1, h.2.2.2.2.2.2.2.1⟩) _ _ _ _ ?_
      have hHeld3 : (fun W : World => W.cell? ⟨g12, 0, none⟩ = some (.int .i64 13) ∧ W.cell? ⟨g12, 1, none⟩ = some (.string ⟨#[]⟩) ∧ W.cell? ⟨g12, 2, none⟩ = some (.int .i64 num) ∧ W.cell? ⟨g12, 3, none⟩ = some (.int .i64 0) ∧ W.cell? ⟨g12, 4, none⟩ = some (.string ⟨#[]⟩) ∧ W.cell? ⟨g12, 5, none⟩ = some (.string cv) ∧ W.cell? ⟨g12, 6, none⟩ = some (.bool cb) ∧ W.cell? ⟨w.heap.size, 1, none⟩ = some (.int .i64 num) ∧ W.cell? ⟨g13, 0, none⟩ = some (.int .i64 13) ∧ W.cell? ⟨g13, 1, none⟩ = some (.string ⟨#[]⟩) ∧ W.cell? ⟨g13, 2, none⟩ = some (.int .i64 num) ∧ W.cell? ⟨g13, 3, none⟩ = some (.int .i64 0) ∧ W.cell? ⟨g13, 4, none⟩ = some (.string ⟨#[]⟩) ∧ W.cell? ⟨g13, 5, none⟩ = some (.string cv) ∧ W.cell? ⟨g13, 6, none⟩ = some (.bool cb)) wc := ⟨hHeld2.1, hHeld2.2.1, hHeld2.2.2.1, hHeld2.2.2.2.1, hHeld2.2.2.2.2.1, hHeld2.2.2.2.2.2.1, hHeld2.2.2.2.2.2.2.1, hHeld2.2.2.2.2.2.2.2, t0, t1, t2, t3, t4, t5, t6⟩
      clear hK K hHeld1 hHeld2 hs t0 t1 t2 t3 t4 t5 t6
      try simp only [Act.put, List.setIfInBounds_toArray, List.set_cons_zero, List.set_cons_succ, List.getElem_toArray, List.getElem_cons_zero, List.getElem_cons_succ]
      refine wpAnyH_take (i := 13) (v := ?_) rfl (by kernel_rfl) (by kernel_rfl) (by kernel_rfl) (fun _ _ _ h => h) (Or.inl ⟨by rfl, ?_⟩) (by assumption) ?_
      rotate_left
      · (intro wx hSw; (try dsimp only at hSw); go_simp <;> with_reducible rfl)
      try simp only [Act.put, List.setIfInBounds_toArray, List.set_cons_zero, List.set_cons_succ, List.getElem_toArray, List.getElem_cons_zero, List.getElem_cons_succ]
      refine wpAnyH_take (i := 14) (v := ?_) rfl (by kernel_rfl) (by kernel_rfl) (by kernel_rfl) (fun _ _ _ h => h) (Or.inl ⟨by rfl, ?_⟩) (by assumption) ?_
      rotate_left
      · (intro wx hSw; (try dsimp only at hSw); go_simp <;> with_reducible rfl)
      try simp only [Act.put, List.setIfInBounds_toArray, List.set_cons_zero, List.set_cons_succ, List.getElem_toArray, List.getElem_cons_zero, List.getElem_cons_succ]
      refine wpAnyH_take (i := 19) (v := ?_) rfl (by kernel_rfl) (by kernel_rfl) (by kernel_rfl) (fun _ _ _ h => h) (Or.inl ⟨by rfl, ?_⟩) (by assumption) ?_
      rotate_left
      · (intro wx hSw; (try dsimp only at hSw); go_simp <;> with_reducible rfl)
      try simp only [Act.put, List.setIfInBounds_toArray, List.set_cons_zero, List.set_cons_succ, List.getElem_toArray, List.getElem_cons_zero, List.getElem_cons_succ]
      refine wpAnyH_take (i := 20) (v := ?_) rfl (by kernel_rfl) (by kernel_rfl) (by kernel_rfl) (fun _ _ _ h => h) (Or.inl ⟨by rfl, ?_⟩) (by assumption) ?_
      rotate_left
      · (intro wx hSw; (try dsimp only at hSw); go_simp <;> with_reducible rfl)
      try simp only [Act.put, List.setIfInBounds_toArray, List.set_cons_zero, List.set_cons_succ, List.getElem_toArray, List.getElem_cons_zero, List.getElem_cons_succ]
      refine wpAnyH_done (by kernel_rfl) ?_ _
      clear hHeld3 S0 HC2
      go_wp2
      go_roundg 0
      case measure => have := Hj.out; omega
      case rel => exact ⟨1, by omega, by go_num, Tc.out⟩
    · obtain rfl : j = nr := by omega
      clear Hj
      go_wp2_with fail
      go_loopg [28] nw (fun gk iv wr => ∃ (j : Nat), j + gk = nw ∧ iv = .int .i64 j ∧ Hid (QM w14 wr (w14.heap.size + 2) M3 U3 (fun _ => False)))
      case atStart => exact ⟨0, by omega, rfl, T.out⟩
      case round =>
        obtain ⟨j, hj, rfl, T⟩ := hrel
        have Hj := Lib.hid hj
        have hjn : j ≤ nw := by omega
        clear hj
        by_cases hlj : j < nw
        · have hn1 : nw = 1 := by omega
          subst hn1
          obtain rfl : j = 0 := by omega
          obtain ⟨cv, cb, hRc⟩ : ∃ cv cb, Wr = [⟨⟨13, ⟨#[]⟩, num, 0, ⟨#[]⟩⟩, cv, cb⟩] := by
            rcases HW1.out with h | ⟨v, x, h⟩
            · have := Hnw.out; rw [h] at this; simp at this
            · exact ⟨_, _, h⟩
          obtain ⟨g12, rfl, p0, p1, p2, p3, p4, p5, p6⟩ := (HSw14.out.later T.out.below) _ hRc
          have q0 : wr.cell? ⟨g12, 0, none⟩ = some (.int .i64 13) := p0
          have q1 : wr.cell? ⟨g12, 1, none⟩ = some (.string ⟨#[]⟩) := p1
          have q2 : wr.cell? ⟨g12, 2, none⟩ = some (.int .i64 num) := p2
          have q3 : wr.cell? ⟨g12, 3, none⟩ = some (.int .i64 0) := p3
          have q4 : wr.cell? ⟨g12, 4, none⟩ = some (.string ⟨#[]⟩) := p4
          have q5 : wr.cell? ⟨g12, 5, none⟩ = some (.string cv) := p5
          have q6 : wr.cell? ⟨g12, 6, none⟩ = some (.bool cb) := p6
          clear p0 p1 p2 p3 p4 p5 p6
          have hxo := (T.out.below.block _ (lt_of_heap HXo14.out)).trans HXo14.out
          have q7 : wr.cell? ⟨w.heap.size, 1, none⟩ = some (.int .i64 num) := cell_of_heap hxo 1
          clear hxo
          have S0 : Hid (wr.cell? ⟨g12, 0, none⟩ = some (.int .i64 13) ∧ wr.cell? ⟨g12, 1, none⟩ = some (.string ⟨#[]⟩) ∧ wr.cell? ⟨g12, 2, none⟩ = some (.int .i64 num) ∧ wr.cell? ⟨g12, 3, none⟩ = some (.int .i64 0) ∧ wr.cell? ⟨g12, 4, none⟩ = some (.string ⟨#[]⟩) ∧ wr.cell? ⟨g12, 5, none⟩ = some (.string cv) ∧ wr.cell? ⟨g12, 6, none⟩ = some (.bool cb) ∧ wr.cell? ⟨w.heap.size, 1, none⟩ = some (.int .i64 num)) := ⟨q0, q1, q2, q3, q4, q5, q6, q7⟩
          have HC2 : Hid (∀ W, Below w14.heap.size w14 W → (W.cell? ⟨g12, 0, none⟩ = some (.int .i64 13) ∧ W.cell? ⟨g12, 1, none⟩ = some (.string ⟨#[]⟩) ∧ W.cell? ⟨g12, 2, none⟩ = some (.int .i64 num) ∧ W.cell? ⟨g12, 3, none⟩ = some (.int .i64 0) ∧ W.cell? ⟨g12, 4, none⟩ = some (.string ⟨#[]⟩) ∧ W.cell? ⟨g12, 5, none⟩ = some (.string cv) ∧ W.cell? ⟨g12, 6, none⟩ = some (.bool cb) ∧ W.cell? ⟨w.heap.size, 1, none⟩ = some (.int .i64 num))) := fun W hb => by
            obtain ⟨g12x, hgx, r0, r1, r2, r3, r4, r5, r6⟩ := (HSw14.out.later hb) _ hRc
            cases hgx
            have hxo := (hb.block _ (lt_of_heap HXo14.out)).trans HXo14.out
            exact ⟨r0, r1, r2, r3, r4, r5, r6, cell_of_heap hxo 1⟩
          have hnq : neqNB ⟨13, ⟨#[]⟩, num, 0, ⟨#[]⟩⟩ ⟨13, ⟨#[]⟩, num, 0, ⟨#[]⟩⟩ = false := neqNB_self _
          have hcq : neqCB ⟨⟨13, ⟨#[]⟩, num, 0, ⟨#[]⟩⟩, cv, cb⟩ ⟨⟨13, ⟨#[]⟩, num, 0, ⟨#[]⟩⟩, cv, cb⟩ = false := neqCB_self _
          have Td := Lib.hid (T.out.later (Below.drew (Below.refl _ _)))
          have Hl1 : Hid (Wr.length = 1) := Hnw.out
          have HRc := Lib.hid hRc; clear hRc
          go_wp2_with fail
          refine wp_region_held_drew (S := (fun W => W.cell? ⟨g12, 0, none⟩ = some (.int .i64 13) ∧ W.cell? ⟨g12, 1, none⟩ = some (.string ⟨#[]⟩) ∧ W.cell? ⟨g12, 2, none⟩ = some (.int .i64 num) ∧ W.cell? ⟨g12, 3, none⟩ = some (.int .i64 0) ∧ W.cell? ⟨g12, 4, none⟩ = some (.string ⟨#[]⟩) ∧ W.cell? ⟨g12, 5, none⟩ = some (.string cv) ∧ W.cell? ⟨g12, 6, none⟩ = some (.bool cb) ∧ W.cell? ⟨w.heap.size, 1, none⟩ = some (.int .i64 num))) (by kernel_rfl) (S0.out) (fun hHeld0 => ?_)
          refine wpAnyH_take (i := 0) (v := ?_) rfl (by kernel_rfl) (by kernel_rfl) (by kernel_rfl) (fun _ _ _ h => h) (Or.inl ⟨by rfl, ?_⟩) (by assumption) ?_
          rotate_left
          · (intro wx hSw; (try dsimp only at hSw); go_simp <;> with_reducible rfl)
          try simp only [Act.put, List.setIfInBounds_toArray, List.set_cons_zero, List.set_cons_succ, List.getElem_toArray, List.getElem_cons_zero, List.getElem_cons_succ]
          refine wpAnyH_take (i := 1) (v := ?_) rfl (by kernel_rfl) (by kernel_rfl) (by kernel_rfl) (fun _ _ _ h => h) (Or.inl ⟨by rfl, ?_⟩) (by assumption) ?_
          rotate_left
          · (intro wx hSw; (try dsimp only at hSw); go_simp <;> with_reducible rfl)
          try simp only [Act.put, List.setIfInBounds_toArray, List.set_cons_zero, List.set_cons_succ, List.getElem_toArray, List.getElem_cons_zero, List.getElem_cons_succ]
          refine wpAnyH_take (i := 2) (v := ?_) rfl (by kernel_rfl) (by kernel_rfl) (by kernel_rfl) (fun _ _ _ h => h) (Or.inl ⟨by rfl, ?_⟩) (by assumption) ?_
          rotate_left
          · (intro wx hSw; (try dsimp only at hSw); go_simp <;> with_reducible rfl)
          try simp only [Act.put, List.setIfInBounds_toArray, List.set_cons_zero, List.set_cons_succ, List.getElem_toArray, List.getElem_cons_zero, List.getElem_cons_succ]
          refine wpAnyH_take (i := 3) (v := ?_) rfl (by kernel_rfl) (by kernel_rfl) (by kernel_rfl) (fun _ _ _ h => h) (Or.inl ⟨by rfl, ?_⟩) (by assumption) ?_
          rotate_left
          · (intro wx hSw; (try dsimp only at hSw); go_simp <;> with_reducible rfl)
          try simp only [Act.put, List.setIfInBounds_toArray, List.set_cons_zero, List.set_cons_succ, List.getElem_toArray, List.getElem_cons_zero, List.getElem_cons_succ]
          refine wpAnyH_take (i := 4) (v := ?_) rfl (by kernel_rfl) (by kernel_rfl) (by kernel_rfl) (fun _ _ _ h => h) (Or.inl ⟨by rfl, ?_⟩) (by assumption) ?_
          rotate_left
          · (intro wx hSw; (try dsimp only at hSw); go_simp <;> with_reducible rfl)
          try simp only [Act.put, List.setIfInBounds_toArray, List.set_cons_zero, List.set_cons_succ, List.getElem_toArray, List.getElem_cons_zero, List.getElem_cons_succ]
          refine wpAnyH_take (i := 5) (v := ?_) rfl (by kernel_rfl) (by kernel_rfl) (by kernel_rfl) (fun _ _ _ h => h) (Or.inl ⟨by rfl, ?_⟩) (by assumption) ?_
          rotate_left
          · (intro wx hSw; (try dsimp only at hSw); go_simp <;> with_reducible rfl)
          try simp only [Act.put, List.setIfInBounds_toArray, List.set_cons_zero, List.set_cons_succ, List.getElem_toArray, List.getElem_cons_zero, List.getElem_cons_succ]
          refine wpAnyH_take (i := 6) (v := ?_) rfl (by kernel_rfl) (by kernel_rfl) (by kernel_rfl) (fun _ _ _ h => h) (Or.inl ⟨by rfl, ?_⟩) (by assumption) ?_
          rotate_left
          · (intro wx hSw; (try dsimp only at hSw); go_simp <;> with_reducible rfl)
          try simp only [Act.put, List.setIfInBounds_toArray, List.set_cons_zero, List.set_cons_succ, List.getElem_toArray, List.getElem_cons_zero, List.getElem_cons_succ]
          refine wpAnyH_ready (rs := [7]) (by kernel_rfl) (by simp) ?_
          refine AllReadyH.cons rfl (fun K hK => ?_) AllReadyH.nil
          go_simp
          go_at_call 8
          refine (ofTerminal_any _ _).mono ?_
          rintro r wa ⟨rfl, hba⟩
          have Ta := Lib.hid (Td.out.later hba)
          clear hba
          go_wp2_with fail
          refine hK.out _ _ (HC2.out _ Ta.out.below) (fun hHeld1 => ?_)
          clear hK K hHeld0
          try simp only [Act.put, List.setIfInBounds_toArray, List.set_cons_zero, List.set_cons_succ, List.getElem_toArray, List.getElem_cons_zero, List.getElem_cons_succ]
          refine wpAnyH_take (i := 8) (v := ?_) rfl (by kernel_rfl) (by kernel_rfl) (by kernel_rfl) (fun _ _ _ h => h) (Or.inl ⟨by rfl, ?_⟩) (by assumption) ?_
          rotate_left
          · (intro wx hSw; (try dsimp only at hSw); go_simp <;> with_reducible rfl)
          try simp only [Act.put, List.setIfInBounds_toArray, List.set_cons_zero, List.set_cons_succ, List.getElem_toArray, List.getElem_cons_zero, List.getElem_cons_succ]
          refine wpAnyH_take (i := 9) (v := ?_) rfl (by kernel_rfl) (by kernel_rfl) (by kernel_rfl) (fun _ _ _ h => h) (Or.inl ⟨by rfl, ?_⟩) (by assumption) ?_
          rotate_left
          · (intro wx hSw; (try dsimp only at hSw); go_simp <;> with_reducible rfl)
          try simp only [Act.put, List.setIfInBounds_toArray, List.set_cons_zero, List.set_cons_succ, List.getElem_toArray, List.getElem_cons_zero, List.getElem_cons_succ]
          refine wpAnyH_take (i := 10) (v := ?_) rfl (by kernel_rfl) (by kernel_rfl) (by kernel_rfl) (fun _ _ _ h => h) (Or.inl ⟨by rfl, ?_⟩) (by assumption) ?_
          rotate_left
          · (intro wx hSw; (try dsimp only at hSw); go_simp <;> with_reducible rfl)
          try simp only [Act.put, List.setIfInBounds_toArray, List.set_cons_zero, List.set_cons_succ, List.getElem_toArray, List.getElem_cons_zero, List.getElem_cons_succ]
          refine wpAnyH_take (i := 12) (v := ?_) rfl (by kernel_rfl) (by kernel_rfl) (by kernel_rfl) (fun _ _ _ h => h) (Or.inl ⟨by rfl, ?_⟩) (by assumption) ?_
          rotate_left
          · (intro wx hSw; (try dsimp only at hSw); go_simp <;> with_reducible rfl)
          try simp only [Act.put, List.setIfInBounds_toArray, List.set_cons_zero, List.set_cons_succ, List.getElem_toArray, List.getElem_cons_zero, List.getElem_cons_succ]
          refine wpAnyH_take (i := 15) (v := ?_) rfl (by kernel_rfl) (by kernel_rfl) (by kernel_rfl) (fun _ _ _ h => h) (Or.inl ⟨by rfl, ?_⟩) (by assumption) ?_
          rotate_left
          · (intro wx hSw; (try dsimp only at hSw); go_simp <;> with_reducible rfl)
          try simp only [Act.put, List.setIfInBounds_toArray, List.set_cons_zero, List.set_cons_succ, List.getElem_toArray, List.getElem_cons_zero, List.getElem_cons_succ]
          refine wpAnyH_take (i := 16) (v := ?_) rfl (by kernel_rfl) (by kernel_rfl) (by kernel_rfl) (fun _ _ _ h => h) (Or.inl ⟨by rfl, ?_⟩) (by assumption) ?_
          rotate_left
          · (intro wx hSw; (try dsimp only at hSw); go_simp <;> with_reducible rfl)
          try simp only [Act.put, List.setIfInBounds_toArray, List.set_cons_zero, List.set_cons_succ, List.getElem_toArray, List.getElem_cons_zero, List.getElem_cons_succ]
          refine wpAnyH_take (i := 17) (v := ?_) rfl (by kernel_rfl) (by kernel_rfl) (by kernel_rfl) (fun _ _ _ h => h) (Or.inl ⟨by rfl, ?_⟩) (by assumption) ?_
          rotate_left
          · (intro wx hSw; (try dsimp only at hSw); go_simp <;> with_reducible rfl)
          try simp only [Act.put, List.setIfInBounds_toArray, List.set_cons_zero, List.set_cons_succ, List.getElem_toArray, List.getElem_cons_zero, List.getElem_cons_succ]
          refine wpAnyH_take (i := 18) (v := ?_) rfl (by kernel_rfl) (by kernel_rfl) (by kernel_rfl) (fun _ _ _ h => h) (Or.inl ⟨by rfl, ?_⟩) (by assumption) ?_
          rotate_left
          · (intro wx hSw; (try dsimp only at hSw); go_simp <;> with_reducible rfl)
          try simp only [Act.put, List.setIfInBounds_toArray, List.set_cons_zero, List.set_cons_succ, List.getElem_toArray, List.getElem_cons_zero, List.getElem_cons_succ]
          refine wpAnyH_ready (rs := [11]) (by kernel_rfl) (by simp) ?_
          refine AllReadyH.cons rfl (fun K hK => ?_) AllReadyH.nil
          go_simp
          go_at_call 12
          refine (qmWrites1 Ta.out Hd5.out HWl.out).mono ?_
          rintro r wc ⟨b14, cc14, rfl, hs, -, sc⟩
          have Tc := Lib.hid sc
          clear sc
          obtain ⟨g13, rfl, t0, t1, t2, t3, t4, t5, t6⟩ := hs _ HRc.out
          rw [Hl1.out]
          go_wp2_with fail
          refine hK.out _ _ (HC2.out _ Tc.out.below) (fun hHeld2 => ?_)
          refine wpAnyH_monoF (S2 := fun W => W.cell? ⟨g12, 0, none⟩ = some (.int .i64 13) ∧ W.cell? ⟨g12, 1, none⟩ = some (.string ⟨#[]⟩) ∧ W.cell? ⟨g12, 2, none⟩ = some (.int .i64 num) ∧ W.cell? ⟨g12, 3, none⟩ = some (.int .i64 0) ∧ W.cell? ⟨g12, 4, none⟩ = some (.string ⟨#[]⟩) ∧ W.cell? ⟨g12, 5, none⟩ = some (.string cv) ∧ W.cell? ⟨g12, 6, none⟩ = some (.bool cb) ∧ W.cell? ⟨w.heap.size, 1, none⟩ = some (.int .i64 num) ∧ W.cell? ⟨g13, 0, none⟩ = some (.int .i64 13) ∧ W.cell? ⟨g13, 1, none⟩ = some (.string ⟨#[]⟩) ∧ W.cell? ⟨g13, 2, none⟩ = some (.int .i64 num) ∧ W.cell? ⟨g13, 3, none⟩ = some (.int .i64 0) ∧ W.cell? ⟨g13, 4, none⟩ = some (.string ⟨#[]⟩) ∧ W.cell? ⟨g13, 5, none⟩ = some (.string cv) ∧ W.cell? ⟨g13, 6, none⟩ = some (.bool cb)) (fun W h => ⟨h.1, h.2.1, h.2.2.1, h.2.2.2.1, h.2.2.2.2.1, h.2.2.2.2.2.1, h.2.2.2.2.2.2.1, h.2.2.2.2.2.2.2.1⟩) _ _ _ _ ?_
          have hHeld3 : (fun W : World => W.cell? ⟨g12, 0, none⟩ = some (.int .i64 13) ∧ W.cell? ⟨g12, 1, none⟩ = some (.string ⟨#[]⟩) ∧ W.cell? ⟨g12, 2, none⟩ = some (.int .i64 num) ∧ W.cell? ⟨g12, 3, none⟩ = some (.int .i64 0) ∧ W.cell? ⟨g12, 4, none⟩ = some (.string ⟨#[]⟩) ∧ W.cell? ⟨g12, 5, none⟩ = some (.string cv) ∧ W.cell? ⟨g12, 6, none⟩ = some (.bool cb) ∧ W.cell? ⟨w.heap.size, 1, none⟩ = some (.int .i64 num) ∧ W.cell? ⟨g13, 0, none⟩ = some (.int .i64 13) ∧ W.cell? ⟨g13, 1, none⟩ = some (.string ⟨#[]⟩) ∧ W.cell? ⟨g13, 2, none⟩ = some (.int .i64 num) ∧ W.cell? ⟨g13, 3, none⟩ = some (.int .i64 0) ∧ W.cell? ⟨g13, 4, none⟩ = some (.string ⟨#[]⟩) ∧ W.cell? ⟨g13, 5, none⟩ = some (.string cv) ∧ W.cell? ⟨g13, 6, none⟩ = some (.bool cb)) wc := ⟨hHeld2.1, hHeld2.2.1, hHeld2.2.2.1, hHeld2.2.2.2.1, hHeld2.2.2.2.2.1, hHeld2.2.2.2.2.2.1, hHeld2.2.2.2.2.2.2.1, hHeld2.2.2.2.2.2.2.2, t0, t1, t2, t3, t4, t5, t6⟩
          clear hK K hHeld1 hHeld2 hs t0 t1 t2 t3 t4 t5 t6
          try simp only [Act.put, List.setIfInBounds_toArray, List.set_cons_zero, List.set_cons_succ, List.getElem_toArray, List.getElem_cons_zero, List.getElem_cons_succ]
          refine wpAnyH_take (i := 13) (v := ?_) rfl (by kernel_rfl) (by kernel_rfl) (by kernel_rfl) (fun _ _ _ h => h) (Or.inl ⟨by rfl, ?_⟩) (by assumption) ?_
          rotate_left
          · (intro wx hSw; (try dsimp only at hSw); go_simp <;> with_reducible rfl)
          try simp only [Act.put, List.setIfInBounds_toArray, List.set_cons_zero, List.set_cons_succ, List.getElem_toArray, List.getElem_cons_zero, List.getElem_cons_succ]
          refine wpAnyH_take (i := 14) (v := ?_) rfl (by kernel_rfl) (by kernel_rfl) (by kernel_rfl) (fun _ _ _ h => h) (Or.inl ⟨by rfl, ?_⟩) (by assumption) ?_
          rotate_left
          · (intro wx hSw; (try dsimp only at hSw); go_simp <;> with_reducible rfl)
          try simp only [Act.put, List.setIfInBounds_toArray, List.set_cons_zero, List.set_cons_succ, List.getElem_toArray, List.getElem_cons_zero, List.getElem_cons_succ]
          refine wpAnyH_take (i := 19) (v := ?_) rfl (by kernel_rfl) (by kernel_rfl) (by kernel_rfl) (fun _ _ _ h => h) (Or.inl ⟨by rfl, ?_⟩) (by assumption) ?_
          rotate_left
          · (intro wx hSw; (try dsimp only at hSw); go_simp <;> with_reducible rfl)
          try simp only [Act.put, List.setIfInBounds_toArray, List.set_cons_zero, List.set_cons_succ, List.getElem_toArray, List.getElem_cons_zero, List.getElem_cons_succ]
          refine wpAnyH_take (i := 20) (v := ?_) rfl (by kernel_rfl) (by kernel_rfl) (by kernel_rfl) (fun _ _ _ h => h) (Or.inl ⟨by rfl, ?_⟩) (by assumption) ?_
          rotate_left
          · (intro wx hSw; (try dsimp only at hSw); go_simp <;> with_reducible rfl)
          try simp only [Act.put, List.setIfInBounds_toArray, List.set_cons_zero, List.set_cons_succ, List.getElem_toArray, List.getElem_cons_zero, List.getElem_cons_succ]
          refine wpAnyH_done (by kernel_rfl) ?_ _
          clear hHeld3 S0 HC2
          go_wp2
          go_roundg 0
          case measure => have := Hj.out; omega
          case rel => exact ⟨1, by omega, by go_num, Tc.out⟩
        · obtain rfl : j = nw := by omega
          clear Hj
          have HF : Hid (Below w.heap.size w wr) := HB14.out.trans (T.out.below.mono HB14.out.size)
          go_wp2
          go_ret
          exact ⟨rfl, HF.out⟩
end Go.Proofs.YtfobmfenjdiimaaGreatDoor

namespace Go.Proofs.YtfobmfenjdiimaaGreatDoor
open Go.ChangeShapes Go.WideShapes Go.ChangeAt Go.ChangeMaps Go.RowKit
namespace terminalFrame

theorem params_ok : ∀ t ∈ Tryz.f4.params.toList, Tryz.prog.readableRec t = true ∧ t < Tryz.prog.types.size := by
  rw [Tryz.params4]
  intro t ht
  rcases (by simpa using ht : t = 50 ∨ t = 50 ∨ t = 23) with rfl | rfl | rfl
  all_goals exact ⟨by kernel_rfl, of_decide_eq_true (by kernel_rfl)⟩

set_option maxRecDepth 100000 in
theorem contract (H : Type) (enc : TypeId × Value → H) (W : World) (base : Nat) (args : Array Value) (ds gs : List (DataW H)) (before : List MemPlace)
    (hval : ∀ (j : Nat) t v, Tryz.f4.params[j]? = some t → args[j]? = some v → Value.okWide Tryz.prog W .any base t v)
    (hW : DataW.Whole enc Tryz.prog Tryz.f4.params.toList Rows.terminalFrameSpec.vars false W args.toList ds gs before) (hL : laidMetH Tryz.prog Rows.terminalFrameRow.laid W) :
    Calls Tryz.prog 4 args W fun e W' => ∃ v, e = .returned v ∧ Rows.terminalFrameSpec.post enc Tryz.prog Tryz.f4 false true false false W args v W' := by
  have hW' := hW
  obtain ⟨p, q, hA0, hV, rfl, hfz, hnd⟩ := hW
  have hA : DataW.TrodAll enc Tryz.prog W 0 (fun _ => true) true Tryz.f4.params.toList args.toList ds p := hA0
  rw [Tryz.params4] at hA hval
  obtain ⟨v0, vs0, d0, ds0, p0, q0, hargs, rfl, rfl, h0, r0⟩ := trodAll_cons hA
  obtain ⟨v1, vs1, d1, ds1, p1, q1, rfl, rfl, rfl, h1, r1⟩ := trodAll_cons r0
  obtain ⟨v2, vs2, d2, ds2, p2, q2, rfl, rfl, rfl, h2, r2⟩ := trodAll_cons r1
  obtain ⟨rfl, rfl, rfl⟩ := trodAll_nil r2
  obtain rfl : args = #[v0, v1, v2] := by cases args; simp_all
  have hu : Usages W := usages_of_laid hL
  obtain ⟨a0, n0, c0, rfl⟩ := okWide_slice Tryz.underlying50 (hval 0 _ v0 rfl rfl)
  obtain ⟨f0, hs0, hn0⟩ := open_opus h0
  unfold maxLen at hn0
  obtain ⟨a1, n1, c1, rfl⟩ := okWide_slice Tryz.underlying50 (hval 1 _ v1 rfl rfl)
  obtain ⟨f1, hs1, hn1⟩ := open_opus h1
  unfold maxLen at hn1
  obtain ⟨o2, rfl, hk2, hp2, hq2⟩ := open_opu (hval 2 _ v2 rfl rfl) h2
  unfold maxLen at hp2 hq2
  have walk : Calls Tryz.prog 4 _ W (TruePost W) := tframe_any a0 n0 c0 f0 a1 n1 c1 f1 o2.kd o2.num o2.ep o2.who o2.text hk2 hp2 hq2 W hu hs0 hs1
  refine walk.mono fun e W' ⟨he, hg⟩ => ?_
  subst he
  exact ⟨_, rfl, law_done params_ok rfl (fun ds' h => by rw [Tryz.params4] at h; match ds', h with | [_, _, _], _ => rfl) (by kernel_rfl) hW' hg (by rw [Tryz.params4]; rfl)⟩

theorem laid_met (os : Os) : laidMet Tryz.prog Rows.terminalFrameRow.laid ((laidWorld os).forCall (fun _ _ => 0) ⟨#[], #[.slice none 0 0, .slice none 0 0, .agg #[.int .u8 0, .int .i64 0, .int .i64 0, .string ⟨#[]⟩, .string ⟨#[]⟩]], []⟩).memory :=
  laidMet_of_run' 8 (by kernel_rfl) (by kernel_rfl)
theorem reads (os : Os) {H : Type} (enc : TypeId × Value → H) : ∃ places, DataW.whole enc Tryz.prog ((laidWorld os).forCall (fun _ _ => 0) ⟨#[], #[.slice none 0 0, .slice none 0 0, .agg #[.int .u8 0, .int .i64 0, .int .i64 0, .string ⟨#[]⟩, .string ⟨#[]⟩]], []⟩).memory Tryz.f4.params.toList Rows.terminalFrameSpec.vars false #[Value.slice none 0 0, .slice none 0 0, .agg #[.int .u8 0, .int .i64 0, .int .i64 0, .string ⟨#[]⟩, .string ⟨#[]⟩]].toList 8 = some ([.nil, .nil, .agg [.lit (.int .u8 0), .lit (.int .i64 0), .lit (.int .i64 0), .lit (.string []), .lit (.string [])]], [], places) :=
  ⟨[], by kernel_rfl⟩

set_option maxRecDepth 100000 in
theorem lifted (os : Os) (started : os.Started) (H : Type) (enc : TypeId × Value → H) (F : Stop.Interp) :
    ReturnsInHanded {} Tryz.checked os 4 .any ((OpenSpec.ofChange Rows.terminalFrameSpec).preRow enc Tryz.prog Tryz.f4 Rows.terminalFrameRow.domain false Rows.terminalFrameRow.laid) (((OpenSpec.ofChange Rows.terminalFrameSpec).at F).post enc Tryz.prog Tryz.f4 false true false false) := by
  obtain ⟨places, hx⟩ := reads os enc
  refine returnsInHanded_of_row (C := Tryz.checked) (s := OpenSpec.ofChange Rows.terminalFrameSpec) own started (by kernel_rfl) Tryz.func4
    (witness_row_at (enc := enc) (C := Tryz.checked) false (laidWorld os) #[.slice none 0 0, .slice none 0 0, .agg #[.int .u8 0, .int .i64 0, .int .i64 0, .string ⟨#[]⟩, .string ⟨#[]⟩]] rfl (by kernel_rfl) (by kernel_rfl) (by kernel_rfl)
      (OpenSpec.preRow_of_cond 8 hx (by kernel_rfl) (fun k hk => by cases hk) (by kernel_rfl) (laid_met os))) ?_
  intro W base args ds gs before hval hW _ _ _ hL _ _
  exact contract H enc W base args ds gs before hval hW hL

theorem said : Rows.TerminalFrameSaid :=
  OpenClaim.holds_of_cond 4 Tryz.f4 rfl rfl rfl rfl rfl rfl rfl ⟨rfl, rfl, rfl, rfl, rfl⟩ rfl rfl rfl rfl rfl (by kernel_rfl) Tryz.func4 (by kernel_rfl)
    (of_decide_eq_true (by kernel_rfl)) (by unfold Func.isWrapper; first | (rw [if_pos (by decide +kernel)]; kernel_rfl) | (rw [if_neg (by decide +kernel)]; exact ⟨rfl, rfl⟩))
    (fun os started H enc _ F => by rw [OpenClaim.pre_eq_preRow]; exact lifted os started H enc F)

theorem plain (f : FuncId) (fn : Func) (hf : Tryz.pinned.checked.prog.funcNamed "replevin/replevinlaw36.TerminalFrame" = some f) (hfn : Tryz.pinned.checked.prog.funcs[f]? = some fn) :
    false = Tryz.pinned.checked.prog.looks [] ∧ ∀ (j : Nat) t, fn.params[j]? = some t → Tryz.pinned.checked.prog.wantsStandIn t = false := by
  obtain rfl : f = 4 := Option.some.inj ((show Tryz.prog.funcNamed "replevin/replevinlaw36.TerminalFrame" = some 4 by kernel_rfl).symm.trans hf) |>.symm
  obtain rfl : fn = Tryz.f4 := (Option.some.inj (Tryz.func4.symm.trans hfn)).symm
  refine ⟨by kernel_rfl, fun j t ht => ?_⟩
  rw [Tryz.params4] at ht
  have hm := Array.mem_of_getElem? ht
  rcases (by simpa using hm : t = 50 ∨ t = 50 ∨ t = 23) with rfl | rfl | rfl
  · exact (show Tryz.prog.wantsStandIn 50 = false by kernel_rfl)
  · exact (show Tryz.prog.wantsStandIn 50 = false by kernel_rfl)
  · exact (show Tryz.prog.wantsStandIn 23 = false by kernel_rfl)

theorem card : Rows.TerminalFrameCardSaid :=
  Claim7.holds_tied_plain_at .later [] _ _ _ _ said (fun _ h => by cases h) (by kernel_rfl) (fun _ h => by cases h) terminalFrame_row_tie rfl ⟨rfl, rfl⟩ (by kernel_rfl) rfl plain (by kernel_rfl)

end terminalFrame
end Go.Proofs.YtfobmfenjdiimaaGreatDoor
