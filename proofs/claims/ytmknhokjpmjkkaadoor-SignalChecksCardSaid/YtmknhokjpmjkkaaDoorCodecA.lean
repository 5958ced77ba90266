/- Contracts of codec: the Writer. -/
import Derived.Test.YtmknhokjpmjkkaaDoorMem
import Derived.Test.YtmknhokjpmjkkaaDoorProg
import Derived.Deep.AppendLies
import Derived.WalkLawsBesides
import Derived.WalkSpells
namespace Go.Proofs.YtmknhokjpmjkkaaDoor
open Go.RowKit

theorem Tryd.infoByte : (Tryd.prog.info? 5).map (fun i => (i.zero, i.size, i.bytes)) = some (some (.int .u8 0), 1, 1) := by kernel_rfl

/-- The encoding of a natural number. -/
def nat7 : Nat → Nat → List UInt8
  | 0, _ => []
  | f + 1, n => if n < 128 then [n.toUInt8] else (128 + n % 128).toUInt8 :: nat7 f (n / 128)
def natBytes (n : Nat) : List UInt8 := nat7 10 n
def byteV (b : UInt8) : Value := .int .u8 b.toNat

set_option maxHeartbeats 400000 in
theorem works_any (b : Nat) (e : Int) (v : Value) (w : World) (h : w.heap[b]? = some (.cells #[v, .int .i64 e] 183 (0, 0))) :
    Calls Tryd.prog 119 #[.pointer (some ⟨b, 0, none⟩)] w fun r w' => r = .returned (.bool (e == 0)) ∧ w = w' := by
  have hc : w.cell? ⟨b, 1, none⟩ = some (.int .i64 e) := by simp [World.cell?, h]
  clear h
  go_enter Tryd.func119, Tryd.ntmps119
  go_wp2
  go_ret
  exact ⟨rfl, rfl⟩

set_option maxHeartbeats 400000 in
theorem newWriter_any (w : World) :
    Calls Tryd.prog 73 #[] w fun r w' => r = .returned (.pointer (some ⟨w.heap.size, 0, none⟩)) ∧ w' = w.alloc (.cells #[.slice none 0 0, .int .i64 0] 183) := by
  go_enter Tryd.func73, Tryd.ntmps73
  go_wp2
  go_ret
  exact ⟨rfl, rfl⟩


/-- The value is a row of its own that holds bytes. -/
def BRow (w : World) (v : Value) (bs : List UInt8) : Prop := w.ownsRow 0 5 1 v bs.length (bs.map byteV)
/-- Where a value lies: in a block that v had, or in a new one. -/
def LiesAt (w : World) (v : Value) (g : Nat) : Prop := v.ownBlock = some g ∨ w.heap.size ≤ g

/-- What append leaves. -/
def Appended (w : World) (v : Value) (bs : List UInt8) (r : Ending) (w' : World) : Prop :=
  ∃ g n cap, r = .returned (.slice (some ⟨g, 0, none⟩) n cap) ∧ BRow w' (.slice (some ⟨g, 0, none⟩) n cap) bs ∧ w.grownBy w' v.ownBlock ∧ LiesAt w v g

theorem grown_step {a b c : World} {v v' : Value} (h : a.grownBy b v.ownBlock) (hl : ∀ g, v'.ownBlock = some g → LiesAt a v g) (k : b.grownBy c v'.ownBlock) : a.grownBy c v.ownBlock :=
  ⟨k.os.trans h.os, k.tape.trans h.tape, k.output.trans h.output, Nat.le_trans h.size k.size, fun i hi hne => by
    refine (k.block i (Nat.lt_of_lt_of_le hi h.size) (fun e => ?_)).trans (h.block i hi hne)
    rcases hl i e.symm with h1 | h1
    · exact hne h1.symm
    · omega⟩
theorem lies_step {a b : World} {v v' : Value} {g : Nat} (h : a.heap.size ≤ b.heap.size) (hl : ∀ g, v'.ownBlock = some g → LiesAt a v g) (k : LiesAt b v' g) : LiesAt a v g := by
  rcases k with h1 | h1
  · exact hl g h1
  · exact .inr (by omega)

/-- append of one byte to a row of bytes. -/
theorem wpList_append_byte {ops : Array Oper} {rest : List Oper} {o : Oper} {a : Act} {Q : Exit → Act → World → Prop} (hgd : o.guard = none) (s x : Operand)
    (ho : o.op = .call { callee := .builtin .append, args := #[s, x], argTypes := #[136, 136] }) {w : World} (v : Value) (bs : List UInt8) (hs : a.eval s = v) (hrow : BRow w v bs)
    (c : UInt8) (n : Int) (hn : n = (c.toNat : Int)) (hx : a.eval x = .slice (some ⟨w.heap.size, 0, none⟩) 1 1) (hlen : bs.length ≤ 35184372088832)
    (h : ∀ g n cap w', BRow w' (.slice (some ⟨g, 0, none⟩) n cap) (bs ++ [c]) → w.grownBy w' v.ownBlock → LiesAt w v g → wpList Tryd.prog ops Q rest (a.put o.dst (.slice (some ⟨g, 0, none⟩) n cap)) w') :
    wpList Tryd.prog ops Q (o :: rest) a (w.alloc (.cells #[.int .u8 n] 5)) := by
  obtain ⟨i0, hi, hz0, hz1, hz2⟩ := info_parts Tryd.infoByte
  subst hn
  refine wpList_append_lies _ hgd s x 136 ho 0 5 i0 (.int .u8 0) 1 1 Tryd.underlying136 hi hz0 hz1 hz2 rfl (by decide) v bs.length (bs.map byteV) hs (World.ownsRow.alloc hrow _) ⟨w.heap.size, 0, none⟩ 1 1 [byteV c] hx rfl
    (World.news_of_block (cs := #[byteV c]) (heap_alloc_new w _)) (by intro u hu; simp at hu; subst hu; rfl) (by decide) (by unfold maxLen; omega) (by omega) (Nat.zero_le _) (w.heap.size + 1) (by simp) ?_
  intro g cap w' h2 h3 h4 _
  refine h g _ cap w' ?_ ⟨h3.os, h3.tape, h3.output, Nat.le_trans (by simp) h3.size, fun k hk hne => (h3.block k (by simp; omega) hne).trans (Below.heap_alloc w _ k hk)⟩ ?_
  · unfold BRow
    simpa using h2
  · rcases h4 with h4 | h4
    · exact .inl h4
    · exact .inr (by omega)

theorem low_byte (k : Nat) (h : ¬ 128 ≤ k) : (k : Int) = (k.toUInt8.toNat : Int) := by
  simp; omega
theorem high_byte_nat : ∀ k : Fin 256, bits .or .u8 (k.val : Int) 128 = ((128 + k.val % 128 : Nat) : Int) := by decide +kernel
theorem high_byte (k : Nat) : bits .or .u8 ((k : Int) % 256) 128 = ((128 + k % 128).toUInt8.toNat : Int) := by
  have h := high_byte_nat ⟨k % 256, by omega⟩
  have e : ((k : Int) % 256) = ((k % 256 : Nat) : Int) := by omega
  rw [e, h]
  simp
  omega
theorem nat7_low (f k : Nat) (h : ¬ 128 ≤ k) : nat7 (f + 1) k = [k.toUInt8] := by
  simp only [nat7]; rw [if_pos (by omega)]
theorem nat7_high (f k : Nat) (h : 128 ≤ k) : nat7 (f + 1) k = (128 + k % 128).toUInt8 :: nat7 f (k / 128) := by
  simp only [nat7]; rw [if_neg (by omega)]
theorem pow_low {f k : Nat} (h : 128 ≤ k) (hk : k < 128 ^ (f + 1)) : ∃ g, f = g + 1 ∧ k / 128 < 128 ^ (g + 1) := by
  cases f with
  | zero => simp at hk; omega
  | succ g => exact ⟨g, rfl, by rw [Nat.div_lt_iff_lt_mul (by decide)]; rw [Nat.pow_succ] at hk; exact hk⟩

set_option maxRecDepth 100000 in
set_option maxHeartbeats 800000 in
theorem appendNatural_any (v : Value) (bs : List UInt8) (u : Nat) (w : World) (hu : u < 18446744073709551616) (hlen : bs.length ≤ 1099511627776) (hown : BRow w v bs) :
    Calls Tryd.prog 120 #[v, .int .u64 u] w (Appended w v (bs ++ natBytes u)) := by
  go_enter Tryd.func120, Tryd.ntmps120
  go_wp2
  go_loopw [0, 1] (fun b x wr => ∃ (pre : List UInt8) (k f : Nat), x = .int .u64 k ∧ k < 128 ^ (f + 1) ∧ pre.length + f ≤ 9 ∧ natBytes u = pre ++ nat7 (f + 1) k ∧ BRow wr b (bs ++ pre) ∧ w.grownBy wr v.ownBlock ∧ (∀ g, b.ownBlock = some g → LiesAt w v g)) (fun _ x _ => (intOf x).toNat)
  case atStart => exact ⟨[], u, 9, rfl, by omega, by simp, rfl, by simpa using hown, ⟨rfl, rfl, rfl, Nat.le_refl _, fun _ _ _ => rfl⟩, fun g hg => .inl hg⟩
  case round =>
    obtain ⟨pre, k, f, rfl, hk, hf, hnb, hrow, hg, hlie⟩ := hrel
    have Hk := Lib.hid hk; clear hk
    have Hnb := Lib.hid hnb; clear hnb
    have Hu := Lib.hid hu; clear hu
    have Hlen := Lib.hid hlen; clear hlen
    have hl2 : (bs ++ pre).length ≤ 35184372088832 := by have := Hlen.out; simp; omega
    have Hl2 := Lib.hid hl2; clear hl2
    by_cases hlt : 128 ≤ k
    · go_wp2_with (at_builtin; refine wpList_append_byte rfl _ _ rfl _ _ rfl hrow _ _ (high_byte k) rfl Hl2.out ?_; intro g n cap w1 hrow1 hg1 hl1)
      go_roundw
      case rel =>
        obtain ⟨f', rfl, hk'⟩ := pow_low hlt Hk.out
        refine ⟨pre ++ [(128 + k % 128).toUInt8], k / 128, f', by go_num, hk', by simp; omega, by rw [Hnb.out, nat7_high _ _ hlt]; simp, ?_, grown_step hg hlie hg1, ?_⟩
        · have h := hrow1
          simpa using h
        · intro g' hg'
          obtain rfl : g = g' := by simpa [Value.ownBlock] using hg'
          exact lies_step hg.size hlie hl1
      case measure => simp [intOf]; omega
    · go_wp2_with (at_builtin; refine wpList_append_byte rfl _ _ rfl _ _ rfl hrow _ _ (low_byte k hlt) rfl Hl2.out ?_; intro g n cap w1 hrow1 hg1 hl1)
      go_ret
      have hfin : bs ++ natBytes u = bs ++ pre ++ [k.toUInt8] := by rw [Hnb.out, nat7_low _ _ hlt]; simp
      rw [hfin]
      exact ⟨g, n, cap, rfl, hrow1, grown_step hg hlie hg1, lies_step hg.size hlie hl1⟩

end Go.Proofs.YtmknhokjpmjkkaaDoor
