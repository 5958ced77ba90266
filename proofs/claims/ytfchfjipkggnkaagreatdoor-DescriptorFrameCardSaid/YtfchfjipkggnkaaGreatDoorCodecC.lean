/- Contracts of codec: the Writer. Contracts of codec: Clone, the Writer's methods. Contracts of codec: Bytes of the Writer; the Reader. Plain laws first. -/
import Derived.Test.YtfchfjipkggnkaaGreatDoorMem
import Derived.Test.YtfchfjipkggnkaaGreatDoorProg
import Derived.Deep.AppendLies
import Derived.WalkLawsBesides
import Derived.WalkSpells
import Derived.Lib.AppendStr
namespace Go.Proofs.YtfchfjipkggnkaaGreatDoor
open Go.RowKit

theorem Tryz.infoByte : (Tryz.prog.info? 5).map (fun i => (i.zero, i.size, i.bytes)) = some (some (.int .u8 0), 1, 1) := by kernel_rfl

/-- The encoding of a natural number. -/
def nat7 : Nat → Nat → List UInt8
  | 0, _ => []
  | f + 1, n => if n < 128 then [n.toUInt8] else (128 + n % 128).toUInt8 :: nat7 f (n / 128)
def natBytes (n : Nat) : List UInt8 := nat7 10 n
def byteV (b : UInt8) : Value := .int .u8 b.toNat

set_option maxHeartbeats 400000 in
theorem works_any (b : Nat) (e : Int) (v : Value) (w : World) (h : w.heap[b]? = some (.cells #[v, .int .i64 e] 185 (0, 0))) :
    Calls Tryz.prog 118 #[.pointer (some ⟨b, 0, none⟩)] w fun r w' => r = .returned (.bool (e == 0)) ∧ w = w' := by
  have hc : w.cell? ⟨b, 1, none⟩ = some (.int .i64 e) := by simp [World.cell?, h]
  clear h
  go_enter Tryz.func118, Tryz.ntmps118
  go_wp2
  go_ret
  exact ⟨rfl, rfl⟩

set_option maxHeartbeats 400000 in
theorem newWriter_any (w : World) :
    Calls Tryz.prog 92 #[] w fun r w' => r = .returned (.pointer (some ⟨w.heap.size, 0, none⟩)) ∧ w' = w.alloc (.cells #[.slice none 0 0, .int .i64 0] 185) := by
  go_enter Tryz.func92, Tryz.ntmps92
  go_wp2
  go_ret
  exact ⟨rfl, rfl⟩


/-- The value is a row of its own that holds bytes. -/
def BRow (w : World) (v : Value) (bs : List UInt8) : Prop := w.ownsRow 0 5 1 v bs.length (bs.map byteV)
/-- Where a value lies: in a block that v had, or in a new one. -/
def LiesAt (w : World) (v : Value) (g : Nat) : Prop := v.ownBlock = some g ∨ w.heap.size ≤ g

/-- What append leaves. -/
def Appended (w : World) (v : Value) (bs : List UInt8) (r : Ending) (w' : World) : Prop :=
  ∃ g n cap, r = .returned (.slice (some ⟨g, 0, none⟩) n cap) ∧ BRow w' (.slice (some ⟨g, 0, none⟩) n cap) bs ∧ w.grownBy w' v.ownBlock ∧ LiesAt w v g

theorem grown_step {a b c : World} {v v' : Value} (h : a.grownBy b v.ownBlock) (hl : ∀ g, v'.ownBlock = some g → LiesAt a v g) (k : b.grownBy c v'.ownBlock) : a.grownBy c v.ownBlock :=
  ⟨k.os.trans h.os, k.tape.trans h.tape, k.output.trans h.output, Nat.le_trans h.size k.size, fun i hi hne => by
    refine (k.block i (Nat.lt_of_lt_of_le hi h.size) (fun e => ?_)).trans (h.block i hi hne)
    rcases hl i e.symm with h1 | h1
    · exact hne h1.symm
    · omega⟩
theorem lies_step {a b : World} {v v' : Value} {g : Nat} (h : a.heap.size ≤ b.heap.size) (hl : ∀ g, v'.ownBlock = some g → LiesAt a v g) (k : LiesAt b v' g) : LiesAt a v g := by
  rcases k with h1 | h1
  · exact hl g h1
  · exact .inr (by omega)

/-- append of one byte to a row of bytes. -/
theorem wpList_append_byte {ops : Array Oper} {rest : List Oper} {o : Oper} {a : Act} {Q : Exit → Act → World → Prop} (hgd : o.guard = none) (s x : Operand)
    (ho : o.op = .call { callee := .builtin .append, args := #[s, x], argTypes := #[113, 113] }) {w : World} (v : Value) (bs : List UInt8) (hs : a.eval s = v) (hrow : BRow w v bs)
    (c : UInt8) (n : Int) (hn : n = (c.toNat : Int)) (hx : a.eval x = .slice (some ⟨w.heap.size, 0, none⟩) 1 1) (hlen : bs.length ≤ 35184372088832)
    (h : ∀ g n cap w', BRow w' (.slice (some ⟨g, 0, none⟩) n cap) (bs ++ [c]) → w.grownBy w' v.ownBlock → LiesAt w v g → wpList Tryz.prog ops Q rest (a.put o.dst (.slice (some ⟨g, 0, none⟩) n cap)) w') :
    wpList Tryz.prog ops Q (o :: rest) a (w.alloc (.cells #[.int .u8 n] 5)) := by
  obtain ⟨i0, hi, hz0, hz1, hz2⟩ := info_parts Tryz.infoByte
  subst hn
  refine wpList_append_lies _ hgd s x 113 ho 0 5 i0 (.int .u8 0) 1 1 Tryz.underlying113 hi hz0 hz1 hz2 rfl (by decide) v bs.length (bs.map byteV) hs (World.ownsRow.alloc hrow _) ⟨w.heap.size, 0, none⟩ 1 1 [byteV c] hx rfl
    (World.news_of_block (cs := #[byteV c]) (heap_alloc_new w _)) (by intro u hu; simp at hu; subst hu; rfl) (by decide) (by unfold maxLen; omega) (by omega) (Nat.zero_le _) (w.heap.size + 1) (by simp) ?_
  intro g cap w' h2 h3 h4 _
  refine h g _ cap w' ?_ ⟨h3.os, h3.tape, h3.output, Nat.le_trans (by simp) h3.size, fun k hk hne => (h3.block k (by simp; omega) hne).trans (Below.heap_alloc w _ k hk)⟩ ?_
  · unfold BRow
    simpa using h2
  · rcases h4 with h4 | h4
    · exact .inl h4
    · exact .inr (by omega)

theorem low_byte (k : Nat) (h : ¬ 128 ≤ k) : (k : Int) = (k.toUInt8.toNat : Int) := by
  simp; omega
theorem high_byte_nat : ∀ k : Fin 256, bits .or .u8 (k.val : Int) 128 = ((128 + k.val % 128 : Nat) : Int) := by decide +kernel
theorem high_byte (k : Nat) : bits .or .u8 ((k : Int) % 256) 128 = ((128 + k % 128).toUInt8.toNat : Int) := by
  have h := high_byte_nat ⟨k % 256, by omega⟩
  have e : ((k : Int) % 256) = ((k % 256 : Nat) : Int) := by omega
  rw [e, h]
  simp
  omega
theorem nat7_low (f k : Nat) (h : ¬ 128 ≤ k) : nat7 (f + 1) k = [k.toUInt8] := by
  simp only [nat7]; rw [if_pos (by omega)]
theorem nat7_high (f k : Nat) (h : 128 ≤ k) : nat7 (f + 1) k = (128 + k % 128).toUInt8 :: nat7 f (k / 128) := by
  simp only [nat7]; rw [if_neg (by omega)]
theorem pow_low {f k : Nat} (h : 128 ≤ k) (hk : k < 128 ^ (f + 1)) : ∃ g, f = g + 1 ∧ k / 128 < 128 ^ (g + 1) := by
  cases f with
  | zero => simp at hk; omega
  | succ g => exact ⟨g, rfl, by rw [Nat.div_lt_iff_lt_mul (by decide)]; rw [Nat.pow_succ] at hk; exact hk⟩

set_option maxRecDepth 100000 in
set_option maxHeartbeats 800000 in
theorem appendNatural_any (v : Value) (bs : List UInt8) (u : Nat) (w : World) (hu : u < 18446744073709551616) (hlen : bs.length ≤ 1099511627776) (hown : BRow w v bs) :
    Calls Tryz.prog 119 #[v, .int .u64 u] w (Appended w v (bs ++ natBytes u)) := by
  go_enter Tryz.func119, Tryz.ntmps119
  go_wp2
  go_loopw [0, 1] (fun b x wr => ∃ (pre : List UInt8) (k f : Nat), x = .int .u64 k ∧ k < 128 ^ (f + 1) ∧ pre.length + f ≤ 9 ∧ natBytes u = pre ++ nat7 (f + 1) k ∧ BRow wr b (bs ++ pre) ∧ w.grownBy wr v.ownBlock ∧ (∀ g, b.ownBlock = some g → LiesAt w v g)) (fun _ x _ => (intOf x).toNat)
  case atStart => exact ⟨[], u, 9, rfl, by omega, by simp, rfl, by simpa using hown, ⟨rfl, rfl, rfl, Nat.le_refl _, fun _ _ _ => rfl⟩, fun g hg => .inl hg⟩
  case round =>
    obtain ⟨pre, k, f, rfl, hk, hf, hnb, hrow, hg, hlie⟩ := hrel
    have Hk := Lib.hid hk; clear hk
    have Hnb := Lib.hid hnb; clear hnb
    have Hu := Lib.hid hu; clear hu
    have Hlen := Lib.hid hlen; clear hlen
    have hl2 : (bs ++ pre).length ≤ 35184372088832 := by have := Hlen.out; simp; omega
    have Hl2 := Lib.hid hl2; clear hl2
    by_cases hlt : 128 ≤ k
    · go_wp2_with (at_builtin; refine wpList_append_byte rfl _ _ rfl _ _ rfl hrow _ _ (high_byte k) rfl Hl2.out ?_; intro g n cap w1 hrow1 hg1 hl1)
      go_roundw
      case rel =>
        obtain ⟨f', rfl, hk'⟩ := pow_low hlt Hk.out
        refine ⟨pre ++ [(128 + k % 128).toUInt8], k / 128, f', by go_num, hk', by simp; omega, by rw [Hnb.out, nat7_high _ _ hlt]; simp, ?_, grown_step hg hlie hg1, ?_⟩
        · have h := hrow1
          simpa using h
        · intro g' hg'
          obtain rfl : g = g' := by simpa [Value.ownBlock] using hg'
          exact lies_step hg.size hlie hl1
      case measure => simp [intOf]; omega
    · go_wp2_with (at_builtin; refine wpList_append_byte rfl _ _ rfl _ _ rfl hrow _ _ (low_byte k hlt) rfl Hl2.out ?_; intro g n cap w1 hrow1 hg1 hl1)
      go_ret
      have hfin : bs ++ natBytes u = bs ++ pre ++ [k.toUInt8] := by rw [Hnb.out, nat7_low _ _ hlt]; simp
      rw [hfin]
      exact ⟨g, n, cap, rfl, hrow1, grown_step hg hlie hg1, lies_step hg.size hlie hl1⟩

end Go.Proofs.YtfchfjipkggnkaaGreatDoor

namespace Go.Proofs.YtfchfjipkggnkaaGreatDoor
open Go.RowKit

/-- A value of type []byte that can be read as bytes. -/
def BSrc (w : World) (v : Value) (bs : List UInt8) : Prop :=
  (v = .slice none 0 0 ∧ bs = []) ∨ ∃ a n c, v = .slice (some a) n c ∧ n = bs.length ∧ ∀ j u, (bs.map byteV)[j]? = some u → w.cell? (a.add j) = some u

theorem BRow.src {w : World} {v : Value} {bs : List UInt8} (h : BRow w v bs) : BSrc w v bs := by
  rcases h.2 with ⟨hv, hn⟩ | ⟨g, cap, cur, hv, hb, hg, hnc, hcm, hcs, htake⟩
  · exact .inl ⟨hv, List.eq_nil_of_length_eq_zero hn⟩
  · refine .inr ⟨⟨g, 0, none⟩, bs.length, cap, hv, rfl, World.ownsRow.cells h (g := g) (by rw [hv]; rfl)⟩

theorem cell_alloc_some {w : World} {a : Addr} {v : Value} (o : Obj) (h : w.cell? a = some v) : (w.alloc o).cell? a = some v := by
  rw [World.cell?_of_block (w := w) (w' := w.alloc o) (Below.heap_alloc w o a.block (World.block_lt_of_cell? w a h))]; exact h

theorem run_eql_bytes_nil (w : World) (a : Option Addr) (l c : Nat) : (binOp .eql 113 (.slice a l c) (.slice none 0 0)).run Tryz.prog w = .ok (.bool a.isNone) w :=
  Lib.run_eql_slice_nil w _ _ a l c 0 0 Tryz.underlying113
attribute [go_sem] run_eql_bytes_nil

/-- append of readable bytes to a row of bytes. -/
theorem wpList_append_bytes {ops : Array Oper} {rest : List Oper} {o : Oper} {a : Act} {Q : Exit → Act → World → Prop} (hgd : o.guard = none) (s x : Operand)
    (ho : o.op = .call { callee := .builtin .append, args := #[s, x], argTypes := #[113, 113] }) {w : World} (g0 n0 c0 : Nat) (bs : List UInt8) (hs : a.eval s = .slice (some ⟨g0, 0, none⟩) n0 c0) (hrow : BRow w (.slice (some ⟨g0, 0, none⟩) n0 c0) bs)
    (ad : Addr) (n c : Nat) (news : List UInt8) (hx : a.eval x = .slice (some ad) n c) (hn : n = news.length) (hcell : ∀ j u, (news.map byteV)[j]? = some u → w.cell? (ad.add j) = some u) (hlen : bs.length + news.length ≤ 70368744177664)
    (h : ∀ g n cap w', BRow w' (.slice (some ⟨g, 0, none⟩) n cap) (bs ++ news) → w.grownBy w' (some g0) → (g = g0 ∨ w.heap.size ≤ g) → wpList Tryz.prog ops Q rest (a.put o.dst (.slice (some ⟨g, 0, none⟩) n cap)) w') :
    wpList Tryz.prog ops Q (o :: rest) a w := by
  obtain ⟨i0, hi, hz0, hz1, hz2⟩ := info_parts Tryz.infoByte
  subst hn
  refine wpList_append_own_at _ hgd s x 113 ho 0 5 i0 (.int .u8 0) 1 1 Tryz.underlying113 hi hz0 hz1 hz2 rfl (by decide) _ bs.length (bs.map byteV) hs hrow ad news.length c (news.map byteV) hx (by simp)
    hcell (by intro u hu; obtain ⟨b, _, rfl⟩ := List.mem_map.1 hu; rfl) (by unfold maxLen; omega) (by omega) (Nat.zero_le _) ?_
  intro v' w' h2 h3 h4 h5
  have hne : v' ≠ .slice none 0 0 := fun e => by have := h4.1 e; simp at this
  rcases h2.2 with ⟨hv, _⟩ | ⟨g, cap, cur, hv, hb, hg, rest'⟩
  · exact absurd hv hne
  · rw [hv]
    refine h g _ cap w' ?_ h3 ?_
    · rw [hv] at h2
      unfold BRow
      simpa using h2
    · rw [hv] at h5
      simp [Value.ownBlock] at h5
      rcases h5 with h5 | h5
      · exact .inl h5
      · exact .inr (by omega)

/-- append of a string's bytes to a row of bytes. -/
theorem wpList_append_str {ops : Array Oper} {rest : List Oper} {o : Oper} {a : Act} {Q : Exit → Act → World → Prop} (hgd : o.guard = none) (sl x : Operand)
    (ho : o.op = .call { callee := .builtin .append, args := #[sl, x], argTypes := #[113, 9] }) {w : World} (g0 n0 c0 : Nat) (bs : List UInt8) (hs : a.eval sl = .slice (some ⟨g0, 0, none⟩) n0 c0) (hrow : BRow w (.slice (some ⟨g0, 0, none⟩) n0 c0) bs)
    (s : ByteArray) (hx : a.eval x = .string s) (hlen : bs.length + s.size ≤ 70368744177664)
    (h : ∀ g n cap w', BRow w' (.slice (some ⟨g, 0, none⟩) n cap) (bs ++ s.data.toList) → w.grownBy w' (some g0) → (g = g0 ∨ w.heap.size ≤ g) → wpList Tryz.prog ops Q rest (a.put o.dst (.slice (some ⟨g, 0, none⟩) n cap)) w') :
    wpList Tryz.prog ops Q (o :: rest) a w := by
  obtain ⟨i0, hi, hz0, hz1, hz2⟩ := info_parts Tryz.infoByte
  have hlenD : s.data.toList.length = s.size := by rw [Array.length_toList]; rfl
  have hcells : Lib.strCells s = s.data.toList.map byteV := rfl
  have key : ∃ g n cap w', (Builtin.append_ #[113, 9] o.type #[.slice (some ⟨g0, 0, none⟩) n0 c0, .string s]).run Tryz.prog w = .ok (.slice (some ⟨g, 0, none⟩) n cap) w' ∧
      BRow w' (.slice (some ⟨g, 0, none⟩) n cap) (bs ++ s.data.toList) ∧ w.grownBy w' (some g0) ∧ (g = g0 ∨ w.heap.size ≤ g) := by
    obtain ⟨hl, h2⟩ := hrow
    rcases h2 with ⟨h2, _⟩ | ⟨g, cap, cur, hv, hb, hg, hnc, hcm, hcs, htake⟩
    · cases h2
    · simp only [Value.slice.injEq, Option.some.injEq, Addr.mk.injEq, and_true] at hv
      obtain ⟨rfl, rfl, rfl⟩ := hv
      simp only [Nat.mul_one] at hcs htake
      by_cases hroom : bs.length + s.size ≤ c0
      · have hr := Lib.run_append_room_string (P := Tryz.prog) w 113 9 o.type 5 i0 Tryz.underlying113 Tryz.underlying9 hi hz1 g0 bs.length c0 cur hg s hroom (by omega)
        refine ⟨_, _, _, _, hr, ⟨by simp, .inr ⟨g0, c0, _, by rw [List.length_append, hlenD], Nat.zero_le _, setRow_heap w g0 cur _ _ _ hg, by rw [List.length_append, hlenD]; exact hroom, hcm, ?_, ?_⟩⟩, ⟨rfl, rfl, rfl, by simp, fun k _ hk => setRow_other w g0 k _ (fun e => hk (by rw [e]))⟩, .inl rfl⟩
        · simp only [List.size_toArray, List.length_append, List.length_take, List.length_drop, Array.length_toList, Lib.strCells_length]
          omega
        · rw [htake, hcells, Nat.mul_one, ← List.map_append]
          have : (bs ++ s.data.toList).length = ((bs ++ s.data.toList).map byteV).length := by simp
          rw [this]
          exact List.take_left
      · have holds : ∀ j u, (bs.map byteV)[j]? = some u → w.cell? ((⟨g0, 0, none⟩ : Addr).add j) = some u := fun j u hu => by
          have hown : w.ownsRow 0 5 1 (.slice (some ⟨g0, 0, none⟩) bs.length c0) bs.length (bs.map byteV) := ⟨hl, .inr ⟨g0, c0, cur, rfl, hb, hg, hnc, hcm, by simpa using hcs, by simpa using htake⟩⟩
          exact hown.cells (g := g0) rfl j u hu
        have hr := Lib.run_append_grow_string (P := Tryz.prog) w 113 9 o.type 5 i0 (.int .u8 0) Tryz.underlying113 Tryz.underlying9 hi hz0 ⟨g0, 0, none⟩ bs.length c0 (bs.map byteV) (by rw [hz1]; simp) holds s (by omega) (by omega) (by rw [hz2]; exact growslice_fits (by omega) (by omega))
        have hge := grownCap_ge w (bs.length + s.size) c0 5
        have hcm' : grownCap w (bs.length + s.size) c0 5 ≤ maxLen := grownCap_le_maxLen w _ c0 _ (by unfold maxLen; omega)
        refine ⟨_, _, _, _, hr, ⟨by simp, .inr ⟨w.heap.size, _, _, by rw [List.length_append, hlenD], Nat.zero_le _, heap_alloc_new w.drew _, by rw [List.length_append, hlenD]; exact hge, hcm', ?_, ?_⟩⟩, ⟨rfl, rfl, rfl, by simp, fun k hk _ => Below.heap_alloc w.drew _ k hk⟩, .inr (Nat.le_refl _)⟩
        · have hzc : (Value.int IntKind.u8 0).cells.size = 1 := rfl
          simp only [Array.size_append, List.size_toArray, size_zeroCells, hzc, Lib.strCells_length, List.length_map]
          omega
        · simp only [Array.toList_append, List.append_assoc]
          rw [hcells, ← List.append_assoc, ← List.map_append, Nat.mul_one]
          have : (bs ++ s.data.toList).length = ((bs ++ s.data.toList).map byteV).length := by simp
          rw [this]
          exact List.take_left
  obtain ⟨g, n, cap, w', hr, h1, h2, h3⟩ := key
  refine wpList_plain hgd fun K hK => ?_
  unfold Oper.wp execOp
  simp only [ho, resolve, invoke, builtin, Sem.run_bind, Sem.run_pure, Result.andThen_ok, List.map_toArray, List.map_cons, List.map_nil, hs, hx, hr]
  exact hK _ _ (h g n cap w' h1 h2 h3)

/-- What Clone leaves. -/
def Cloned (w : World) (v0 : Value) (bs : List UInt8) (r : Ending) (w' : World) : Prop :=
  ∃ v, r = .returned v ∧ BRow w' v bs ∧ Below w.heap.size w w' ∧ ((v0 = .slice none 0 0 ∧ v = .slice none 0 0) ∨ ∃ g n c, v = .slice (some ⟨g, 0, none⟩) n c ∧ w.heap.size ≤ g)

set_option maxRecDepth 100000 in
set_option maxHeartbeats 800000 in
theorem clone_any (v : Value) (bs : List UInt8) (w : World) (hlen : bs.length ≤ 35184372088832) (hsrc : BSrc w v bs) :
    Calls Tryz.prog 84 #[v] w (Cloned w v bs) := by
  rcases hsrc with ⟨rfl, rfl⟩ | ⟨a, n, c, rfl, hn, hcell⟩
  · go_enter Tryz.func84, Tryz.ntmps84
    go_wp2
    go_ret
    exact ⟨_, rfl, World.ownsRow_nil _ _ _ _, Below.refl _ _, .inl ⟨rfl, rfl⟩⟩
  · have Hn := Lib.hid hn; clear hn
    have hc1 : ∀ j u, (bs.map byteV)[j]? = some u → (w.alloc (.cells #[] 5)).cell? (a.add j) = some u := fun j u hu => cell_alloc_some _ (hcell j u hu)
    have Hc1 := Lib.hid hc1; clear hc1
    have Hc := Lib.hid hcell; clear hcell
    have hr0 : BRow (w.alloc (.cells #[] 5)) (.slice (some ⟨w.heap.size, 0, none⟩) 0 0) [] := World.ownsRow_made (base := 0) (size := 1) w #[] 0 (Nat.zero_le _) (Nat.zero_le _) rfl
    have Hl : Hid (([] : List UInt8).length + bs.length ≤ 70368744177664) := by show _ ≤ _; simp; omega
    have Hlen := Lib.hid hlen; clear hlen
    go_enter Tryz.func84, Tryz.ntmps84
    go_wp2_with (at_builtin; refine wpList_append_bytes rfl _ _ rfl w.heap.size 0 0 [] rfl hr0 a n c bs rfl Hn.out Hc1.out Hl.out ?_; intro g m cap w1 hrow1 hg1 hl1)
    go_ret
    refine ⟨_, rfl, hrow1, ?_, .inr ⟨g, m, cap, rfl, ?_⟩⟩
    · exact ((Below.refl _ _).alloc (Nat.le_refl _) _).grown hg1 (by simp) (fun k hk => by cases hk; exact Nat.le_refl _)
    · rcases hl1 with h | h
      · omega
      · simp at h; omega

/-- A Writer without an error, at block b, all of it from block B on. -/
def Wr (B b : Nat) (w : World) (bs : List UInt8) : Prop :=
  B ≤ b ∧ ∃ v, w.heap[b]? = some (.cells #[v, .int .i64 0] 185 (0, 0)) ∧ BRow w v bs ∧ ∀ g, v.ownBlock = some g → B ≤ g ∧ g ≠ b

/-- What a method of the Writer leaves. -/
def WrPost (B b : Nat) (w : World) (bs : List UInt8) (r : Ending) (w' : World) : Prop :=
  r = .returned (.tuple #[]) ∧ Wr B b w' bs ∧ Below B w w'

theorem Wr.cell {B b : Nat} {w : World} {bs : List UInt8} (h : Wr B b w bs) : b < w.heap.size := by
  obtain ⟨_, v, h1, _⟩ := h
  exact (Array.getElem?_eq_some_iff.1 h1).1

theorem wr_later {B b : Nat} {w w1 : World} {v : Value} (hh : w.heap[b]? = some (.cells #[v, .int .i64 0] 185 (0, 0))) (hlie : ∀ g, v.ownBlock = some g → B ≤ g ∧ g ≠ b) (hg : w.grownBy w1 v.ownBlock) :
    w1.heap[b]? = some (.cells #[v, .int .i64 0] 185 (0, 0)) :=
  (hg.block b (lt_of_heap hh) (fun e => (hlie b e.symm).2 rfl)).trans hh

theorem wr_apart {B b : Nat} {w : World} {v : Value} {g : Nat} (hh : w.heap[b]? = some (.cells #[v, .int .i64 0] 185 (0, 0))) (hlie : ∀ g, v.ownBlock = some g → B ≤ g ∧ g ≠ b) (hl : LiesAt w v g) : b < w.heap.size ∧ g ≠ b := by
  have hb := lt_of_heap hh
  rcases hl with h | h
  · exact ⟨hb, (hlie g h).2⟩
  · exact ⟨hb, by omega⟩
theorem nat7_length (f n : Nat) : (nat7 f n).length ≤ f := by
  induction f generalizing n with
  | zero => simp [nat7]
  | succ f ih =>
    simp only [nat7]
    split
    · simp
    · have := ih (n / 128); simp; omega
theorem natBytes_length (n : Nat) : (natBytes n).length ≤ 10 := nat7_length 10 n

theorem BRow.stored {w : World} {g n cap : Nat} {bs : List UInt8} (h : BRow w (.slice (some ⟨g, 0, none⟩) n cap) bs) {a : Addr} (ha : g ≠ a.block) (u : Value) : BRow (w.setCell a u) (.slice (some ⟨g, 0, none⟩) n cap) bs := by
  obtain ⟨h1, h2⟩ := h
  refine ⟨h1, ?_⟩
  rcases h2 with h2 | ⟨g', cap', cur, hv, hb, hh, r⟩
  · exact .inl h2
  · refine .inr ⟨g', cap', cur, hv, hb, ?_, r⟩
    have : g = g' := by simp at hv; exact hv.1
    rw [Below.heap_setCell _ _ _ _ (by omega)]; exact hh

theorem wr_stored {B b : Nat} {w w1 : World} {v : Value} {g m cap : Nat} {bs : List UInt8} (hBb : B ≤ b) (hB : B ≤ w.heap.size) (hh : w.heap[b]? = some (.cells #[v, .int .i64 0] 185 (0, 0))) (hlie : ∀ g, v.ownBlock = some g → B ≤ g ∧ g ≠ b)
    (hg : w.grownBy w1 v.ownBlock) (hl : LiesAt w v g) (hrow : BRow w1 (.slice (some ⟨g, 0, none⟩) m cap) bs) :
    Wr B b (w1.setCell ⟨b, 0, none⟩ (.slice (some ⟨g, 0, none⟩) m cap)) bs ∧ Below B w (w1.setCell ⟨b, 0, none⟩ (.slice (some ⟨g, 0, none⟩) m cap)) := by
  have hgb : B ≤ g ∧ g ≠ b := by
    rcases hl with h | h
    · exact hlie g h
    · have := lt_of_heap hh; omega
  have hb1 := wr_later hh hlie hg
  refine ⟨⟨hBb, _, heap_setCell_same hb1 0 _, hrow.stored hgb.2 _, fun g' hg' => ?_⟩, ?_⟩
  · obtain rfl : g = g' := by simpa [Value.ownBlock] using hg'
    exact hgb
  · exact ((Below.refl _ _).grown hg hB (fun k hk => (hlie k hk).1)).setCell hBb _

set_option maxRecDepth 100000 in
set_option maxHeartbeats 800000 in
theorem number_any (B b : Nat) (bs : List UInt8) (n : Int) (w : World) (hn0 : 0 ≤ n) (hn : n ≤ 9223372036854775807) (hlen : bs.length ≤ 1099511627776) (hB : B ≤ w.heap.size) (h : Wr B b w bs) :
    Calls Tryz.prog 93 #[.pointer (some ⟨b, 0, none⟩), .int .i64 n] w (WrPost B b w (bs ++ natBytes n.toNat)) := by
  obtain ⟨k, rfl⟩ := Int.eq_ofNat_of_zero_le hn0
  obtain ⟨hBb, v, hh, hrow, hlie⟩ := h
  have hc0 : w.cell? ⟨b, 0, none⟩ = some v := by simp [World.cell?, hh]
  have Hh := Lib.hid hh; clear hh
  have Hlie := Lib.hid hlie; clear hlie
  have Hlen := Lib.hid hlen; clear hlen
  have Hrow := Lib.hid hrow; clear hrow
  go_enter Tryz.func93, Tryz.ntmps93
  go_wp2_with fail
  refine (works_any b 0 v _ Hh.out).mono ?_
  rintro e w' ⟨rfl, rfl⟩
  go_wp2_with fail
  refine (appendNatural_any v bs k _ (by omega) Hlen.out Hrow.out).mono ?_
  rintro e w1 ⟨g, m, cap, rfl, hrow1, hg1, hl1⟩
  have hb1 := wr_later Hh.out Hlie.out hg1
  have hc1 : w1.cell? ⟨b, 0, none⟩ = some v := cell_of_heap hb1 0
  have hf1 : w1.frozen? ⟨b, 0, none⟩ = false := frozen_of_heap hb1 0
  have Hb1 := Lib.hid hb1; clear hb1
  have Hg1 := Lib.hid hg1; clear hg1
  have Hl1 := Lib.hid hl1; clear hl1
  have Hrow1 := Lib.hid hrow1; clear hrow1
  go_wp2
  go_end0
  exact ⟨rfl, wr_stored hBb hB Hh.out Hlie.out Hg1.out Hl1.out Hrow1.out⟩

end Go.Proofs.YtfchfjipkggnkaaGreatDoor

namespace Go.Proofs.YtfchfjipkggnkaaGreatDoor
open Go.RowKit

/-! ### Plain: numbers in bytes -/
def scan7 : Nat → List UInt8 → Nat
  | 0, _ => 0
  | _ + 1, [] => 0
  | m + 1, b :: r => if 128 ≤ b.toNat then scan7 m r + 1 else 0
def natVal : List UInt8 → Nat
  | [] => 0
  | b :: r => b.toNat % 128 + 128 * natVal r
/-- parseNatural: the number, its size, the error. -/
def parseNat (most : Nat) (bs : List UInt8) : Nat × Nat × Nat :=
  let k := scan7 most bs
  if k = most then (0, 0, 3)
  else if k = bs.length then (0, 0, 28)
  else if 0 < k ∧ (bs.getD k 0).toNat = 0 then (0, 0, 3)
  else if k = 9 ∧ 1 < (bs.getD k 0).toNat then (0, 0, 3)
  else (natVal (bs.take (k + 1)), k + 1, 0)

theorem scan7_le (m : Nat) (bs : List UInt8) : scan7 m bs ≤ m ∧ scan7 m bs ≤ bs.length := by
  induction m generalizing bs with
  | zero => simp [scan7]
  | succ m ih =>
    cases bs with
    | nil => simp [scan7]
    | cons b r => simp only [scan7]; split <;> simp; have := ih r; omega

theorem scan7_eq (m k : Nat) (bs : List UInt8) (hk : k ≤ m) (hn : k ≤ bs.length) (hlo : ∀ j, j < k → 128 ≤ (bs.getD j 0).toNat) (hend : k = m ∨ k = bs.length ∨ (bs.getD k 0).toNat < 128) : scan7 m bs = k := by
  induction m generalizing bs k with
  | zero => simp [scan7]; omega
  | succ m ih =>
    cases bs with
    | nil => simp [scan7] at *; omega
    | cons b r =>
      simp only [scan7]
      cases k with
      | zero =>
        rw [if_neg]
        simp at hend
        omega
      | succ k =>
        rw [if_pos (by simpa using hlo 0 (by omega))]
        congr 1
        refine ih k r (by omega) (by simp at hn; omega) (fun j hj => by simpa using hlo (j + 1) (by omega)) ?_
        simpa using hend

theorem natVal_append (a b : List UInt8) : natVal (a ++ b) = natVal a + 128 ^ a.length * natVal b := by
  induction a with
  | nil => simp [natVal]
  | cons x r ih => simp only [List.cons_append, natVal, ih, List.length_cons, Nat.pow_succ]; rw [Nat.mul_add, Nat.add_assoc, ← Nat.mul_assoc, Nat.mul_comm 128 (128 ^ r.length)]

theorem natVal_lt (bs : List UInt8) : natVal bs < 128 ^ bs.length := by
  induction bs with
  | nil => simp [natVal]
  | cons b r ih => simp only [natVal, List.length_cons, Nat.pow_succ]; have := Nat.mod_lt b.toNat (show 0 < 128 by decide); omega

theorem natVal_drop_le (l : List UInt8) (m : Nat) : natVal (l.drop m) ≤ natVal l := by
  have h := natVal_append (l.take m) (l.drop m)
  rw [List.take_append_drop] at h
  rw [h]
  have : 1 ≤ 128 ^ (l.take m).length := Nat.pos_of_ne_zero (by simp)
  have := Nat.mul_le_mul_right (natVal (l.drop m)) this
  omega
theorem natVal_drop (l : List UInt8) (m : Nat) (h : m < l.length) : natVal (l.drop m) = (l.getD m 0).toNat % 128 + 128 * natVal (l.drop (m + 1)) := by
  rw [List.drop_eq_getElem_cons h]
  simp [natVal, h]
theorem natVal_small (bs : List UInt8) (k : Nat) (hk : k < bs.length) (h : k < 9 ∨ (k = 9 ∧ (bs.getD k 0).toNat ≤ 1)) : natVal (bs.take (k + 1)) < 18446744073709551616 := by
  rcases h with h | ⟨rfl, h⟩
  · have h1 := natVal_lt (bs.take (k + 1))
    have h2 : (bs.take (k + 1)).length ≤ 9 := by simp; omega
    have h3 : (128 : Nat) ^ (bs.take (k + 1)).length ≤ 128 ^ 9 := Nat.pow_le_pow_right (by decide) h2
    omega
  · rw [List.take_succ_eq_append_getElem hk, natVal_append]
    have h1 := natVal_lt (bs.take 9)
    have h2 : (bs.take 9).length = 9 := by simp; omega
    rw [h2] at h1 ⊢
    have h4 : bs[9].toNat ≤ 1 := by simpa [hk] using h
    have h5 : natVal [bs[9]] ≤ 1 := by simp [natVal]; omega
    have h6 := Nat.mul_le_mul_left (128 ^ 9) h5
    omega
theorem and_low : ∀ y : Fin 256, bits .and .u8 (y.val : Int) 127 = ((y.val % 128 : Nat) : Int) := by decide +kernel
theorem shift_or (U y : Nat) (hy : y < 256) (h : y % 128 + 128 * U < 18446744073709551616) :
    bits .or .u64 (IntKind.u64.wrap ((U : Int) * 128)) (IntKind.u64.wrap (bits .and .u8 (y : Int) 127)) = ((y % 128 + 128 * U : Nat) : Int) := by
  rw [and_low ⟨y, hy⟩, IntKind.wrap_u64, IntKind.wrap_u64]
  rw [show ((U : Int) * 128 % 18446744073709551616) = ((128 * U : Nat) : Int) by omega, show (((y % 128 : Nat) : Int) % 18446744073709551616) = ((y % 128 : Nat) : Int) by omega]
  rw [u64_or_nat _ _ (by omega) (by omega)]
  congr 1
  have h7 := Nat.two_pow_add_eq_or_of_lt (i := 7) (b := y % 128) (by omega) U
  have e : (2 : Nat) ^ 7 = 128 := rfl
  rw [e] at h7
  rw [← h7, Nat.add_comm]

end Go.Proofs.YtfchfjipkggnkaaGreatDoor
