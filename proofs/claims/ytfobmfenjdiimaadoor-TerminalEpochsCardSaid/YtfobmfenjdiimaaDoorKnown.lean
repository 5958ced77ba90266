/- The law's examples: known. -/
import Derived.Test.YtfobmfenjdiimaaDoorSess
namespace Go.Proofs.YtfobmfenjdiimaaDoor
open Go.RowKit
attribute [local go_sem ↓] Go.wp_at_zero Go.wp_at_succ

theorem shBegin_is (w0 w : World) (b : Nat) (n e : Int) (N : Nat) (t : TermT) (G : Nat → Prop) (l : ByteArray) (s : SH w0 w b n e N t G) (hN : N < 1000000) (hl : l.size ≤ 1000) (q : Nat) (t' : TermT) (h1 : (opBegin l t).2 = q) (h2 : stepT (opBegin l) t = t') :
    Calls Tryd.prog 26 #[.pointer (some ⟨b, 0, none⟩), .int .i64 n, .int .i64 e, .string l] w (SPost w0 b n e (N + 1) t' G w (.int .i64 q)) := by
  subst h1 h2; exact shBegin w0 w b n e N t G l s hN hl
theorem shEnd_is (w0 w : World) (b : Nat) (n e : Int) (N : Nat) (t : TermT) (G : Nat → Prop) (l : ByteArray) (s : SH w0 w b n e N t G) (hN : N < 1000000) (q : Nat) (t' : TermT) (h1 : (opEnd l t).2 = q) (h2 : stepT (opEnd l) t = t') :
    Calls Tryd.prog 67 #[.pointer (some ⟨b, 0, none⟩), .int .i64 n, .int .i64 e, .string l] w (SPost w0 b n e (N + 1) t' G w (.int .i64 q)) := by
  subst h1 h2; exact shEnd w0 w b n e N t G l s hN
theorem shType_is (w0 w : World) (b : Nat) (n e : Int) (N : Nat) (t : TermT) (G : Nat → Prop) (l : ByteArray) (s : SH w0 w b n e N t G) (hN : N < 1000000) (hl : l.size ≤ 9223372036854775807) (q : Nat) (t' : TermT) (h1 : (opAdd l t).2 = q) (h2 : stepT (opAdd l) t = t') :
    Calls Tryd.prog 27 #[.pointer (some ⟨b, 0, none⟩), .int .i64 n, .int .i64 e, .string l] w (SPost w0 b n e (N + 1) t' G w (.int .i64 q)) := by
  subst h1 h2; exact shType w0 w b n e N t G l s hN hl
theorem shRead_is (w0 w : World) (b : Nat) (n e : Int) (N : Nat) (t : TermT) (G : Nat → Prop) (l : ByteArray) (s : SH w0 w b n e N t G) (hN : N < 1000000) (hl : l.size ≤ 35184372088832) (q : Nat) (t' : TermT) (x : ByteArray) (h1 : (opTake l t).2 = q) (h2 : stepT (opTake l) t = t') (h3 : readL l t = x) :
    Calls Tryd.prog 28 #[.pointer (some ⟨b, 0, none⟩), .int .i64 n, .int .i64 e, .string l] w (SPost w0 b n e (N + 1) t' G w (.tuple #[.string x, .int .i64 q])) := by
  subst h1 h2 h3; exact shRead w0 w b n e N t G l s hN hl
def SGet4 (w0 : World) (b : Nat) (n e : Int) (N : Nat) (t : TermT) (ep : Int) (se sc : ByteArray) (G : Nat → Prop) (w : World) (r : Ending) (w' : World) : Prop :=
  ∃ a m c, r = .returned (.tuple #[.agg #[.int .i64 ep, .string se, .slice a m c, .string sc], .int .i64 0]) ∧ SRow w' (.slice a m c) t.typed ∧ (∀ g, (Value.slice a m c).ownBlock = some g → w.heap.size ≤ g) ∧
    SH w0 w' b n e N t (fun k => G k ∨ (Value.slice a m c).ownBlock = some k) ∧ ∀ k, G k → w'.heap[k]? = w.heap[k]?
theorem shGet_is (w0 w : World) (b : Nat) (n e : Int) (N : Nat) (t : TermT) (G : Nat → Prop) (s : SH w0 w b n e N t G) (hN : N < 1000000) (ep : Int) (se sc : ByteArray) (h1 : t.epoch = ep) (h2 : t.session = se) (h3 : t.screen = sc) :
    Calls Tryd.prog 24 #[.pointer (some ⟨b, 0, none⟩), .int .i64 n, .int .i64 e] w (SGet4 w0 b n e N t ep se sc G w) := by
  subst h1 h2 h3; exact shGet w0 w b n e N t G s hN
theorem encode_is (ep : Int) (se sc : ByteArray) (a : Option Addr) (n c : Nat) (ls : List ByteArray) (w : World) (hs : SSl w a n ls) (hse : se.size ≤ 65536) (hsc : sc.size ≤ 70368744177664) (hn : n ≤ 70368744177664) (hls : ∀ s ∈ ls, s.size ≤ 70368744177664) (x : ByteArray) (q : Nat) (he : encT ⟨ep, se, ls, sc⟩ = (x, q)) :
    Calls Tryd.prog 9 #[.agg #[.int .i64 ep, .string se, .slice a n c, .string sc]] w fun r w' => r = .returned (.tuple #[.string x, .int .i64 q]) ∧ Below w.heap.size w w' := by
  have := encode_any ep se sc a n c ls w hs hse hsc hn hls
  rw [he] at this
  exact this

def kS : ByteArray := ⟨#[52]⟩
def k1 : TermT := ⟨1, ⟨#[52]⟩, [], ⟨#[]⟩⟩
def k2 : TermT := ⟨1, ⟨#[52]⟩, [⟨#[108, 115]⟩], ⟨#[108, 115, 10]⟩⟩
def k3 : TermT := ⟨1, ⟨#[52]⟩, [], ⟨#[108, 115, 10]⟩⟩
theorem k_begin : (opBegin ⟨#[52]⟩ (newT 1)).2 = 0 ∧ stepT (opBegin ⟨#[52]⟩) (newT 1) = k1 := by decide +kernel
theorem k_type : (opAdd ⟨#[108, 115]⟩ k1).2 = 0 ∧ stepT (opAdd ⟨#[108, 115]⟩) k1 = k2 := by decide +kernel
theorem k_enc : encT ⟨1, ⟨#[52]⟩, k2.typed, ⟨#[108, 115, 10]⟩⟩ = (⟨#[1, 1, 52, 1, 2, 108, 115, 3, 108, 115, 10]⟩, 0) := by decide +kernel
theorem k_read1 : (opTake ⟨#[53]⟩ k2).2 = 10 ∧ stepT (opTake ⟨#[53]⟩) k2 = k2 ∧ readL ⟨#[53]⟩ k2 = ⟨#[]⟩ := by decide +kernel
theorem k_read2 : (opTake ⟨#[52, 46, 49]⟩ k2).2 = 0 ∧ stepT (opTake ⟨#[52, 46, 49]⟩) k2 = k3 ∧ readL ⟨#[52, 46, 49]⟩ k2 = ⟨#[108, 115]⟩ := by decide +kernel
theorem k_read3 : (opTake ⟨#[52, 46, 49]⟩ k3).2 = 19 ∧ stepT (opTake ⟨#[52, 46, 49]⟩) k3 = k3 ∧ readL ⟨#[52, 46, 49]⟩ k3 = ⟨#[]⟩ := by decide +kernel
theorem k_range : inRange 7 1 = true := by decide +kernel
theorem k_eps : k2.epoch = 1 ∧ k2.session = ⟨#[52]⟩ ∧ k2.screen = ⟨#[108, 115, 10]⟩ := ⟨rfl, rfl, rfl⟩
theorem k_lines : ∀ s ∈ k2.typed, s.size ≤ 70368744177664 := by decide +kernel
theorem k_len : k2.typed.length = 1 := rfl
theorem le46 : 35184372088832 ≤ 9223372036854775807 := by decide
theorem sz1 (b : UInt8) : (⟨#[b]⟩ : ByteArray).size ≤ 35184372088832 ∧ (⟨#[b]⟩ : ByteArray).size ≤ 1000 ∧ (⟨#[b]⟩ : ByteArray).size ≤ 65536 := by
  have : (⟨#[b]⟩ : ByteArray).size = 1 := rfl
  rw [this]; decide
theorem sz2 (b c : UInt8) : (⟨#[b, c]⟩ : ByteArray).size ≤ 35184372088832 := by
  have : (⟨#[b, c]⟩ : ByteArray).size = 2 := rfl
  rw [this]; decide
theorem sz3 (b c d : UInt8) : (⟨#[b, c, d]⟩ : ByteArray).size ≤ 35184372088832 ∧ (⟨#[b, c, d]⟩ : ByteArray).size ≤ 70368744177664 := by
  have : (⟨#[b, c, d]⟩ : ByteArray).size = 3 := rfl
  rw [this]; decide

set_option maxRecDepth 100000 in
set_option maxHeartbeats 800000 in
theorem known_any (w : World) (hu : Usages w) : Calls Tryd.prog 6 #[] w fun r w' => r = .returned (.bool true) ∧ Below w.heap.size w w' := by
  have Hu := Lib.hid hu; clear hu
  go_enter Tryd.func6, Tryd.ntmps6
  go_wp2_with fail
  refine (shNew w Hu.out 7 1 k_range).mono ?_
  rintro e w1 ⟨rfl, hnew⟩
  have Hnew := Lib.hid hnew; clear hnew
  go_wp2_with fail
  refine Hnew.out.mono ?_
  rintro e w2 ⟨rfl, s0⟩
  clear Hnew
  have S0 := Lib.hid s0; clear s0
  go_wp2_with fail
  refine (shBegin_is w w2 _ 7 1 0 (newT 1) _ ⟨#[52]⟩ S0.out (by decide) (sz1 _).2.1 0 k1 k_begin.1 k_begin.2).mono ?_
  rintro e w3 ⟨rfl, s1, -⟩
  have S1 := Lib.hid s1; clear s1 S0
  go_wp2_with fail
  refine (shType_is w w3 _ 7 1 1 k1 _ ⟨#[108, 115]⟩ S1.out (by decide) (Nat.le_trans (sz2 _ _) le46) 0 k2 k_type.1 k_type.2).mono ?_
  rintro e w4 ⟨rfl, s2, -⟩
  have S2 := Lib.hid s2; clear s2 S1
  go_wp2_with fail
  refine (shGet_is w w4 _ 7 1 2 k2 _ S2.out (by decide) _ _ _ k_eps.1 k_eps.2.1 k_eps.2.2).mono ?_
  rintro e w5 ⟨a, m, c, rfl, hrow, hlie, s3, -⟩
  have hln := hrow.sl.1
  have HS : Hid (SSl w5 a m k2.typed) := hrow.sl
  have S3 : Hid (SH w (w5.alloc (.cells #[.int .i64 1, .string ⟨#[52]⟩, .slice a m c, .string ⟨#[108, 115, 10]⟩] 33)) (w.heap.size + 3) 7 1 2 k2 (fun k => k = w5.heap.size)) :=
    s3.fresh ((Below.refl _ _).alloc (Nat.le_refl _) _) (fun k hk => .inr (by subst hk; simp))
  have hX : (w5.alloc (.cells #[.int .i64 1, .string ⟨#[52]⟩, .slice a m c, .string ⟨#[108, 115, 10]⟩] 33)).heap[w5.heap.size]? = some (.cells #[.int .i64 1, .string ⟨#[52]⟩, .slice a m c, .string ⟨#[108, 115, 10]⟩] 33 (0, 0)) := heap_alloc_new w5 _
  have HX := Lib.hid hX
  have HS' : Hid (SSl (w5.alloc (.cells #[.int .i64 1, .string ⟨#[52]⟩, .slice a m c, .string ⟨#[108, 115, 10]⟩] 33)) a m k2.typed) := HS.out.later ((Below.refl _ _).alloc (Nat.le_refl _) _)
  rw [k_len] at hln
  have hm : m ≤ 70368744177664 := by omega
  clear hrow hlie s3 S2 hX HS hln
  go_wp2_with fail
  refine (encode_is 1 ⟨#[52]⟩ ⟨#[108, 115, 10]⟩ a m c k2.typed _ HS'.out (sz1 _).2.2 (sz3 _ _ _).2 hm k_lines _ _ k_enc).mono ?_
  rintro e w6 ⟨rfl, hb6⟩
  have S4 := Lib.hid (S3.out.later hb6)
  have HX6 := Lib.hid ((hb6.block _ (lt_of_heap HX.out)).trans HX.out)
  clear hb6 HX S3 HS'
  go_wp2_with fail
  refine (shRead_is w w6 _ 7 1 2 k2 _ ⟨#[53]⟩ S4.out (by decide) (sz1 _).1 10 k2 ⟨#[]⟩ k_read1.1 k_read1.2.1 k_read1.2.2).mono ?_
  rintro e w7 ⟨rfl, s5, hk⟩
  have S5 := Lib.hid s5; clear s5
  have HX7 := Lib.hid ((hk _ rfl).trans HX6.out); clear hk HX6 S4
  go_wp2_with fail
  refine (shRead_is w w7 _ 7 1 3 k2 _ ⟨#[52, 46, 49]⟩ S5.out (by decide) (sz3 _ _ _).1 0 k3 ⟨#[108, 115]⟩ k_read2.1 k_read2.2.1 k_read2.2.2).mono ?_
  rintro e w8 ⟨rfl, s6, hk⟩
  have S6 := Lib.hid s6; clear s6
  have HX8 := Lib.hid ((hk _ rfl).trans HX7.out); clear hk HX7 S5
  go_wp2_with fail
  refine (shRead_is w w8 _ 7 1 4 k3 _ ⟨#[52, 46, 49]⟩ S6.out (by decide) (sz3 _ _ _).1 19 k3 ⟨#[]⟩ k_read3.1 k_read3.2.1 k_read3.2.2).mono ?_
  rintro e w9 ⟨rfl, s7, hk⟩
  have c3 : w9.cell? ⟨w5.heap.size, 3, none⟩ = some (.string ⟨#[108, 115, 10]⟩) := cell_of_heap ((hk _ rfl).trans HX8.out) 3
  have S7 := Lib.hid s7.below; clear s7 hk HX8 S6
  go_wp2
  go_ret
  exact ⟨rfl, S7.out⟩

end Go.Proofs.YtfobmfenjdiimaaDoor
