/- Arguments of law 31: something open, operations, slices of operations, of numbers. (printed by wip/gen_row31.py) -/
import Derived.Test.YtfchfjipkggnkaaGreatDoorRowE
import Derived.Test.YtfchfjipkggnkaaGreatDoorDscT
import Derived.Deep.Slices
import Derived.Deep.Grids
namespace Go.Proofs.YtfchfjipkggnkaaGreatDoor
open Go.ChangeShapes Go.WideShapes Go.ChangeAt Go.ChangeMaps Go.RowKit

theorem dadd_at (g off j : Nat) : (⟨g, off, none⟩ : Addr).add j = ⟨g, off + j, none⟩ := by unfold Addr.add; split <;> simp_all
theorem dspot_none {w : World} {a : Addr} {v : Value} (h : w.cell? a = some v) : a.spot = none := by
  unfold World.cell? at h
  split at h
  · split at h
    · cases h
    · rename_i h1
      simpa using h1
  · cases h
theorem daddr_at {w : World} {a : Addr} {v : Value} (h : w.cell? (a.add 0) = some v) : ∃ g off, a = ⟨g, off, none⟩ := by
  obtain ⟨g, off, el⟩ := a
  have := dspot_none h
  simp [Addr.add] at this
  exact ⟨g, off, by rw [this]⟩
theorem lis13 {cs : List Value} (h : cs.length = 13) : ∃ v0 v1 v2 v3 v4 v5 v6 v7 v8 v9 v10 v11 v12, cs = [v0, v1, v2, v3, v4, v5, v6, v7, v8, v9, v10, v11, v12] := by
  match cs, h with
  | [v0, v1, v2, v3, v4, v5, v6, v7, v8, v9, v10, v11, v12], _ => exact ⟨v0, v1, v2, v3, v4, v5, v6, v7, v8, v9, v10, v11, v12, rfl⟩
theorem arr13 {cs : Array Value} (h : cs.size = 13) : ∃ v0 v1 v2 v3 v4 v5 v6 v7 v8 v9 v10 v11 v12, cs = #[v0, v1, v2, v3, v4, v5, v6, v7, v8, v9, v10, v11, v12] := by
  obtain ⟨l⟩ := cs
  obtain ⟨v0, v1, v2, v3, v4, v5, v6, v7, v8, v9, v10, v11, v12, rfl⟩ := lis13 (cs := l) (by simpa using h)
  exact ⟨v0, v1, v2, v3, v4, v5, v6, v7, v8, v9, v10, v11, v12, rfl⟩
theorem cellsDU8 : Tryz.prog.cellsOf 5 = 1 := by kernel_rfl
theorem cellsDInt : Tryz.prog.cellsOf 3 = 1 := by kernel_rfl
theorem cellsDStr : Tryz.prog.cellsOf 30 = 1 := by kernel_rfl
theorem cellsDBool : Tryz.prog.cellsOf 4 = 1 := by kernel_rfl
theorem cellsDBirth : Tryz.prog.cellsOf 32 = 2 := by kernel_rfl
theorem cellsDOpn : Tryz.prog.cellsOf 34 = 8 := by kernel_rfl
theorem cellsDOp : Tryz.prog.cellsOf 49 = 13 := by kernel_rfl
theorem underBirth : ∃ fs, Tryz.prog.underlying 32 = some (.struct fs) ∧ fs.toList.map (fun f => (f.type, f.offset)) = [(30, 0), (3, 1)] := ⟨_, Tryz.underlying32, by kernel_rfl⟩
theorem underOpn : ∃ fs, Tryz.prog.underlying 34 = some (.struct fs) ∧ fs.toList.map (fun f => (f.type, f.offset)) = [(3, 0), (32, 1), (3, 3), (3, 4), (4, 5), (4, 6), (4, 7)] := ⟨_, Tryz.underlying34, by kernel_rfl⟩
theorem underDop : ∃ fs, Tryz.prog.underlying 49 = some (.struct fs) ∧ fs.toList.map (fun f => (f.type, f.offset)) = [(5, 0), (5, 1), (5, 2), (3, 3), (3, 4), (34, 5)] := ⟨_, Tryz.underlying49, by kernel_rfl⟩
section
variable {H : Type} {enc : TypeId × Value → H} {W : World} {fuel : Nat}
theorem open_birthL {v0 v1 : Value} {x : DataW H × List MemPlace} (h : DataW.trod enc Tryz.prog W 0 (fun _ => true) true fuel 32 [v0, v1] = some x) :
    ∃ (a : ByteArray) (b : Int), v0 = .string a ∧ v1 = .int .i64 b ∧ a.size ≤ maxLen := by
  obtain ⟨k, hk⟩ := trod_fields underBirth h
  obtain ⟨y0, g0⟩ := hk 0 _ _ rfl
  obtain ⟨y1, g1⟩ := hk 1 _ _ rfl
  rw [cellsDStr] at g0
  rw [cellsDInt] at g1
  obtain ⟨z0, e0, _, w0⟩ := DataW.trod_string Tryz.underlying30 g0
  obtain ⟨z1, e1, _, w1⟩ := DataW.trod_int Tryz.underlying3 g1
  exact ⟨z0, z1, by simpa using e0, by simpa using e1, w0⟩
set_option maxRecDepth 100000 in
theorem open_opnL {v0 v1 v2 v3 v4 v5 v6 v7 : Value} {x : DataW H × List MemPlace} (h : DataW.trod enc Tryz.prog W 0 (fun _ => true) true fuel 34 [v0, v1, v2, v3, v4, v5, v6, v7] = some x) :
    ∃ o : OpnT, v0 = .int .i64 o.kd ∧ v1 = .string o.mak ∧ v2 = .int .i64 o.bn ∧ v3 = .int .i64 o.num ∧ v4 = .int .i64 o.off ∧ v5 = .bool o.rd ∧ v6 = .bool o.wr ∧ v7 = .bool o.ap ∧ o.mak.size ≤ maxLen := by
  obtain ⟨k, hk⟩ := trod_fields underOpn h
  obtain ⟨y0, g0⟩ := hk 0 _ _ rfl
  obtain ⟨y1, g1⟩ := hk 1 _ _ rfl
  obtain ⟨y2, g2⟩ := hk 2 _ _ rfl
  obtain ⟨y3, g3⟩ := hk 3 _ _ rfl
  obtain ⟨y4, g4⟩ := hk 4 _ _ rfl
  obtain ⟨y5, g5⟩ := hk 5 _ _ rfl
  obtain ⟨y6, g6⟩ := hk 6 _ _ rfl
  rw [cellsDInt] at g0 g2 g3
  rw [cellsDBirth] at g1
  rw [cellsDBool] at g4 g5 g6
  obtain ⟨z0, e0, _, w0⟩ := DataW.trod_int Tryz.underlying3 g0
  have g1' : DataW.trod enc Tryz.prog W 0 (fun _ => true) true k 32 [v1, v2] = some y1 := by simpa using g1
  obtain ⟨za, zb, rfl, rfl, wa⟩ := open_birthL g1'
  obtain ⟨z2, e2, _, w2⟩ := DataW.trod_int Tryz.underlying3 g2
  obtain ⟨z3, e3, _, w3⟩ := DataW.trod_int Tryz.underlying3 g3
  obtain ⟨z4, e4, _⟩ := DataW.trod_bool Tryz.underlying4 g4
  obtain ⟨z5, e5, _⟩ := DataW.trod_bool Tryz.underlying4 g5
  obtain ⟨z6, e6, _⟩ := DataW.trod_bool Tryz.underlying4 g6
  exact ⟨⟨z0, za, zb, z2, z3, z4, z5, z6⟩, by simpa using e0, rfl, rfl, by simpa using e2, by simpa using e3, by simpa using e4, by simpa using e5, by simpa using e6, wa⟩
def BndD (o : OpD) : Prop := o.kd ≤ 255 ∧ o.who ≤ 255 ∧ o.to ≤ 255 ∧ (-9223372036854775808 ≤ o.n ∧ o.n ≤ 9223372036854775807) ∧ o.o.mak.size ≤ 9223372036854775807
set_option maxRecDepth 100000 in
theorem open_dopL {v0 v1 v2 v3 v4 v5 v6 v7 v8 v9 v10 v11 v12 : Value} {x : DataW H × List MemPlace} (h : DataW.trod enc Tryz.prog W 0 (fun _ => true) true fuel 49 [v0, v1, v2, v3, v4, v5, v6, v7, v8, v9, v10, v11, v12] = some x) :
    ∃ o : OpD, v0 = .int .u8 o.kd ∧ v1 = .int .u8 o.who ∧ v2 = .int .u8 o.to ∧ v3 = .int .i64 o.fd ∧ v4 = .int .i64 o.n ∧ v5 = .int .i64 o.o.kd ∧ v6 = .string o.o.mak ∧ v7 = .int .i64 o.o.bn ∧ v8 = .int .i64 o.o.num ∧ v9 = .int .i64 o.o.off ∧ v10 = .bool o.o.rd ∧ v11 = .bool o.o.wr ∧ v12 = .bool o.o.ap ∧ BndD o := by
  obtain ⟨k, hk⟩ := trod_fields underDop h
  obtain ⟨y0, g0⟩ := hk 0 _ _ rfl
  obtain ⟨y1, g1⟩ := hk 1 _ _ rfl
  obtain ⟨y2, g2⟩ := hk 2 _ _ rfl
  obtain ⟨y3, g3⟩ := hk 3 _ _ rfl
  obtain ⟨y4, g4⟩ := hk 4 _ _ rfl
  obtain ⟨y5, g5⟩ := hk 5 _ _ rfl
  rw [cellsDU8] at g0 g1 g2
  rw [cellsDInt] at g3 g4
  rw [cellsDOpn] at g5
  obtain ⟨z0, e0, _, w0⟩ := DataW.trod_int Tryz.underlying5 g0
  obtain ⟨z1, e1, _, w1⟩ := DataW.trod_int Tryz.underlying5 g1
  obtain ⟨z2, e2, _, w2⟩ := DataW.trod_int Tryz.underlying5 g2
  obtain ⟨z3, e3, _, w3⟩ := DataW.trod_int Tryz.underlying3 g3
  obtain ⟨z4, e4, _, w4⟩ := DataW.trod_int Tryz.underlying3 g4
  have g5' : DataW.trod enc Tryz.prog W 0 (fun _ => true) true k 34 [v5, v6, v7, v8, v9, v10, v11, v12] = some y5 := by simpa using g5
  obtain ⟨o, rfl, rfl, rfl, rfl, rfl, rfl, rfl, rfl, w5⟩ := open_opnL g5'
  obtain rfl : v0 = .int .u8 z0 := by simpa using e0
  obtain rfl : v1 = .int .u8 z1 := by simpa using e1
  obtain rfl : v2 = .int .u8 z2 := by simpa using e2
  obtain rfl : v3 = .int .i64 z3 := by simpa using e3
  obtain rfl : v4 = .int .i64 z4 := by simpa using e4
  have b0 := bounds_u8 w0
  have b1 := bounds_u8 w1
  have b2 := bounds_u8 w2
  have b4 := bounds_i64 w4
  obtain ⟨m0, rfl⟩ := Int.eq_ofNat_of_zero_le b0.1
  obtain ⟨m1, rfl⟩ := Int.eq_ofNat_of_zero_le b1.1
  obtain ⟨m2, rfl⟩ := Int.eq_ofNat_of_zero_le b2.1
  unfold maxLen at w5
  exact ⟨⟨m0, m1, m2, z3, z4, o⟩, rfl, rfl, rfl, rfl, rfl, rfl, rfl, rfl, rfl, rfl, rfl, rfl, rfl, by dsimp only; omega, by dsimp only; omega, by dsimp only; omega, by dsimp only; omega, w5⟩
end
def opdV (o : OpD) : Value := .agg #[.int .u8 o.kd, .int .u8 o.who, .int .u8 o.to, .int .i64 o.fd, .int .i64 o.n, .int .i64 o.o.kd, .string o.o.mak, .int .i64 o.o.bn, .int .i64 o.o.num, .int .i64 o.o.off, .bool o.o.rd, .bool o.o.wr, .bool o.o.ap]
section
variable {H : Type} {enc : TypeId × Value → H} {W : World} {base : Nat} {v : Value} {d : DataW H} {p : List MemPlace}
set_option maxRecDepth 100000 in
theorem open_dop (hv : Value.okWide Tryz.prog W .any base 49 v) (h : DataW.Trod enc Tryz.prog W 0 (fun _ => true) true 49 v d p) : ∃ o : OpD, v = opdV o ∧ BndD o := by
  obtain ⟨fs, hfs, hmap⟩ := underDop
  obtain ⟨cs, rfl, hsz⟩ := okWide_struct hfs hv
  obtain ⟨fuel, hf⟩ := h
  rw [cellsDOp] at hsz
  obtain ⟨v0, v1, v2, v3, v4, v5, v6, v7, v8, v9, v10, v11, v12, rfl⟩ := arr13 hsz
  have hf' : DataW.trod enc Tryz.prog W 0 (fun _ => true) true fuel 49 [v0, v1, v2, v3, v4, v5, v6, v7, v8, v9, v10, v11, v12] = some (d, p) := by simpa [Value.cells] using hf
  obtain ⟨o, rfl, rfl, rfl, rfl, rfl, rfl, rfl, rfl, rfl, rfl, rfl, rfl, rfl, h1⟩ := open_dopL hf'
  exact ⟨o, rfl, h1⟩
end
instance : Inhabited OpD := ⟨⟨0, 0, 0, 0, 0, zeroO⟩⟩
/-- The cells of an operation. -/
def OpDAt (w : World) (g off : Nat) (o : OpD) : Prop := w.cell? ⟨g, off, none⟩ = some (.int .u8 o.kd) ∧ w.cell? ⟨g, off + 1, none⟩ = some (.int .u8 o.who) ∧ w.cell? ⟨g, off + 2, none⟩ = some (.int .u8 o.to) ∧ w.cell? ⟨g, off + 3, none⟩ = some (.int .i64 o.fd) ∧ w.cell? ⟨g, off + 4, none⟩ = some (.int .i64 o.n) ∧
  w.cell? ⟨g, off + 5, none⟩ = some (.int .i64 o.o.kd) ∧ w.cell? ⟨g, off + 6, none⟩ = some (.string o.o.mak) ∧ w.cell? ⟨g, off + 7, none⟩ = some (.int .i64 o.o.bn) ∧ w.cell? ⟨g, off + 8, none⟩ = some (.int .i64 o.o.num) ∧ w.cell? ⟨g, off + 9, none⟩ = some (.int .i64 o.o.off) ∧
  w.cell? ⟨g, off + 10, none⟩ = some (.bool o.o.rd) ∧ w.cell? ⟨g, off + 11, none⟩ = some (.bool o.o.wr) ∧ w.cell? ⟨g, off + 12, none⟩ = some (.bool o.o.ap)
theorem OpDAt.later {w w' : World} {g off : Nat} {o : OpD} (h : OpDAt w g off o) (hb : Below w.heap.size w w') : OpDAt w' g off o := by
  have hg : g < w.heap.size := World.block_lt_of_cell? w _ h.1
  obtain ⟨c0, c1, c2, c3, c4, c5, c6, c7, c8, c9, c10, c11, c12⟩ := h
  have t := (bcell hb).1
  exact ⟨(t _ _ hg).trans c0, (t _ _ hg).trans c1, (t _ _ hg).trans c2, (t _ _ hg).trans c3, (t _ _ hg).trans c4, (t _ _ hg).trans c5, (t _ _ hg).trans c6, (t _ _ hg).trans c7, (t _ _ hg).trans c8, (t _ _ hg).trans c9, (t _ _ hg).trans c10, (t _ _ hg).trans c11, (t _ _ hg).trans c12⟩
/-- A slice of operations that can be read. -/
def OpSlD (w : World) (a : Option Addr) (n : Nat) (f : Nat → OpD) : Prop :=
  0 < n → ∃ g off, a = some ⟨g, off, none⟩ ∧ ∀ j, j < n → OpDAt w g (off + j * 13) (f j) ∧ BndD (f j)
theorem OpSlD.later {w w' : World} {a : Option Addr} {n : Nat} {f : Nat → OpD} (h : OpSlD w a n f) (hb : Below w.heap.size w w') : OpSlD w' a n f := fun h0 => by
  obtain ⟨g, off, rfl, hc⟩ := h h0
  exact ⟨g, off, rfl, fun j hj => ⟨(hc j hj).1.later hb, (hc j hj).2⟩⟩
set_option maxRecDepth 100000 in
theorem open_dops {H : Type} {enc : TypeId × Value → H} {W : World} {a : Option Addr} {n c : Nat} {d : DataW H} {p : List MemPlace} (h : DataW.Trod enc Tryz.prog W 0 (fun _ => true) true 22 (.slice a n c) d p) :
    ∃ f, OpSlD W a n f ∧ n ≤ maxLen := by
  obtain ⟨fuel, hf⟩ := h
  rcases Deep.open_slice Tryz.underlying22 hf with ⟨hcs, hx⟩ | ⟨a1, len, cap, m, fu, D, Pl, hcs, _, hl, hm, hmm, hx, hall⟩
  · have : (Value.slice a n c) = .slice none 0 0 := by simpa [Value.cells] using hcs
    cases this
    exact ⟨fun _ => default, fun h => absurd h (Nat.lt_irrefl _), Nat.zero_le _⟩
  · have : (Value.slice a n c) = .slice (some a1) len cap := by simpa [Value.cells] using hcs
    cases this
    simp only [if_true] at hmm
    subst hmm
    rw [cellsDOp] at hall
    have each : ∀ i, i < n → ∃ o : OpD, (W.cell? (a1.add (i * 13)) = some (.int .u8 o.kd) ∧ W.cell? (a1.add (i * 13 + 1)) = some (.int .u8 o.who) ∧ W.cell? (a1.add (i * 13 + 2)) = some (.int .u8 o.to) ∧ W.cell? (a1.add (i * 13 + 3)) = some (.int .i64 o.fd) ∧ W.cell? (a1.add (i * 13 + 4)) = some (.int .i64 o.n) ∧
        W.cell? (a1.add (i * 13 + 5)) = some (.int .i64 o.o.kd) ∧ W.cell? (a1.add (i * 13 + 6)) = some (.string o.o.mak) ∧ W.cell? (a1.add (i * 13 + 7)) = some (.int .i64 o.o.bn) ∧ W.cell? (a1.add (i * 13 + 8)) = some (.int .i64 o.o.num) ∧ W.cell? (a1.add (i * 13 + 9)) = some (.int .i64 o.o.off) ∧
        W.cell? (a1.add (i * 13 + 10)) = some (.bool o.o.rd) ∧ W.cell? (a1.add (i * 13 + 11)) = some (.bool o.o.wr) ∧ W.cell? (a1.add (i * 13 + 12)) = some (.bool o.o.ap)) ∧ BndD o := by
      intro i hi
      obtain ⟨cs', h1, h2⟩ := hall i (by omega)
      obtain ⟨_, hlen, hcell⟩ := World.cells?_some h1
      obtain ⟨v0, v1, v2, v3, v4, v5, v6, v7, v8, v9, v10, v11, v12, rfl⟩ := lis13 hlen
      obtain ⟨o, rfl, rfl, rfl, rfl, rfl, rfl, rfl, rfl, rfl, rfl, rfl, rfl, rfl, b1⟩ := open_dopL h2
      have c0 := hcell 0 (by omega)
      have c1 := hcell 1 (by omega)
      have c2 := hcell 2 (by omega)
      have c3 := hcell 3 (by omega)
      have c4 := hcell 4 (by omega)
      have c5 := hcell 5 (by omega)
      have c6 := hcell 6 (by omega)
      have c7 := hcell 7 (by omega)
      have c8 := hcell 8 (by omega)
      have c9 := hcell 9 (by omega)
      have c10 := hcell 10 (by omega)
      have c11 := hcell 11 (by omega)
      have c12 := hcell 12 (by omega)
      rw [Deep.add_add] at c0 c1 c2 c3 c4 c5 c6 c7 c8 c9 c10 c11 c12
      exact ⟨o, ⟨by simpa using c0, by simpa using c1, by simpa using c2, by simpa using c3, by simpa using c4, by simpa using c5, by simpa using c6, by simpa using c7, by simpa using c8, by simpa using c9, by simpa using c10, by simpa using c11, by simpa using c12⟩, b1⟩
    obtain ⟨f, hf'⟩ := Deep.choose_lt each
    refine ⟨f, fun h0 => ?_, Nat.le_trans hl hm⟩
    obtain ⟨g, off, rfl⟩ := daddr_at (by simpa only [Nat.zero_mul] using (hf' 0 h0).1.1)
    refine ⟨g, off, rfl, fun j hj => ?_⟩
    obtain ⟨h1, h2⟩ := hf' j hj
    refine ⟨?_, h2⟩
    unfold OpDAt
    simpa only [dadd_at, Nat.add_assoc] using h1
/-- A slice of numbers that can be read. -/
def SlInts (w : World) (a : Option Addr) (n : Nat) (f : Nat → Int) : Prop :=
  0 < n → ∃ g off, a = some ⟨g, off, none⟩ ∧ ∀ j, j < n → w.cell? ⟨g, off + j, none⟩ = some (.int .i64 (f j)) ∧ (-9223372036854775808 ≤ f j ∧ f j ≤ 9223372036854775807)
theorem SlInts.later {w w' : World} {a : Option Addr} {n : Nat} {f : Nat → Int} (h : SlInts w a n f) (hb : Below w.heap.size w w') : SlInts w' a n f := fun h0 => by
  obtain ⟨g, off, rfl, hc⟩ := h h0
  have hg : g < w.heap.size := World.block_lt_of_cell? w _ (hc 0 h0).1
  exact ⟨g, off, rfl, fun j hj => ⟨((bcell hb).1 _ _ hg).trans (hc j hj).1, (hc j hj).2⟩⟩
/-- A slice of numbers that can be read. -/
def SlU8s (w : World) (a : Option Addr) (n : Nat) (f : Nat → Int) : Prop :=
  0 < n → ∃ g off, a = some ⟨g, off, none⟩ ∧ ∀ j, j < n → w.cell? ⟨g, off + j, none⟩ = some (.int .u8 (f j)) ∧ (0 ≤ f j ∧ f j ≤ 255)
theorem SlU8s.later {w w' : World} {a : Option Addr} {n : Nat} {f : Nat → Int} (h : SlU8s w a n f) (hb : Below w.heap.size w w') : SlU8s w' a n f := fun h0 => by
  obtain ⟨g, off, rfl, hc⟩ := h h0
  have hg : g < w.heap.size := World.block_lt_of_cell? w _ (hc 0 h0).1
  exact ⟨g, off, rfl, fun j hj => ⟨((bcell hb).1 _ _ hg).trans (hc j hj).1, (hc j hj).2⟩⟩
/-- A slice of Booleans that can be read. -/
def SlBls (w : World) (a : Option Addr) (n : Nat) (f : Nat → Bool) : Prop :=
  0 < n → ∃ g off, a = some ⟨g, off, none⟩ ∧ ∀ j, j < n → w.cell? ⟨g, off + j, none⟩ = some (.bool (f j))
theorem SlBls.later {w w' : World} {a : Option Addr} {n : Nat} {f : Nat → Bool} (h : SlBls w a n f) (hb : Below w.heap.size w w') : SlBls w' a n f := fun h0 => by
  obtain ⟨g, off, rfl, hc⟩ := h h0
  have hg : g < w.heap.size := World.block_lt_of_cell? w _ (hc 0 h0)
  exact ⟨g, off, rfl, fun j hj => ((bcell hb).1 _ _ hg).trans (hc j hj)⟩
end Go.Proofs.YtfchfjipkggnkaaGreatDoor
