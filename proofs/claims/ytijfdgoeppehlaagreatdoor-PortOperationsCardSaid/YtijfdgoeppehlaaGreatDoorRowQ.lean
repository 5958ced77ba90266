/- Arguments of law 37: operations. -/
import Derived.Test.YtijfdgoeppehlaaGreatDoorRowG
namespace Go.Proofs.YtijfdgoeppehlaaGreatDoor
open Go.ChangeShapes Go.WideShapes Go.ChangeAt Go.ChangeMaps Go.RowKit

theorem seven {cs : Array Value} (h : cs.size = 7) : ∃ v0 v1 v2 v3 v4 v5 v6, cs = #[v0, v1, v2, v3, v4, v5, v6] := by
  obtain ⟨l⟩ := cs
  match l, h with
  | [v0, v1, v2, v3, v4, v5, v6], _ => exact ⟨v0, v1, v2, v3, v4, v5, v6, rfl⟩
theorem cellsQU8 : Tryz.prog.cellsOf 5 = 1 := by kernel_rfl
theorem cellsPack : Tryz.prog.cellsOf 33 = 2 := by kernel_rfl
theorem cellsQop : Tryz.prog.cellsOf 35 = 7 := by kernel_rfl
theorem underPack : ∃ fs, Tryz.prog.underlying 33 = some (.struct fs) ∧ fs.toList.map (fun f => (f.type, f.offset)) = [(9, 0), (9, 1)] := ⟨_, Tryz.underlying33, by kernel_rfl⟩
theorem underQop : ∃ fs, Tryz.prog.underlying 35 = some (.struct fs) ∧ fs.toList.map (fun f => (f.type, f.offset)) = [(5, 0), (5, 1), (5, 2), (3, 3), (3, 4), (33, 5)] := ⟨_, Tryz.underlying35, by kernel_rfl⟩

theorem open_pack {H : Type} {enc : TypeId × Value → H} {W : World} {fuel : Nat} {v0 v1 : Value} {x : DataW H × List MemPlace} (h : DataW.trod enc Tryz.prog W 0 (fun _ => true) true fuel 33 [v0, v1] = some x) :
    ∃ a b : ByteArray, v0 = .string a ∧ v1 = .string b ∧ a.size ≤ maxLen ∧ b.size ≤ maxLen := by
  obtain ⟨k, hk⟩ := trod_fields underPack h
  obtain ⟨y0, g0⟩ := hk 0 _ _ rfl
  obtain ⟨y1, g1⟩ := hk 1 _ _ rfl
  rw [cellsStr] at g0 g1
  obtain ⟨z0, e0, _, w0⟩ := DataW.trod_string Tryz.underlying9 g0
  obtain ⟨z1, e1, _, w1⟩ := DataW.trod_string Tryz.underlying9 g1
  exact ⟨z0, z1, by simpa using e0, by simpa using e1, w0, w1⟩

set_option maxRecDepth 100000 in
theorem open_qop {H : Type} {enc : TypeId × Value → H} {W : World} {base : Nat} {v : Value} {d : DataW H} {p : List MemPlace} (hv : Value.okWide Tryz.prog W .any base 35 v) (h : DataW.Trod enc Tryz.prog W 0 (fun _ => true) true 35 v d p) :
    ∃ (kd wh us : Nat) (nu ep : Int) (sr by_ : ByteArray), v = .agg #[.int .u8 kd, .int .u8 wh, .int .u8 us, .int .i64 nu, .int .i64 ep, .string sr, .string by_] ∧ kd ≤ 255 ∧ wh ≤ 255 ∧ us ≤ 255 ∧ sr.size ≤ maxLen ∧ by_.size ≤ maxLen := by
  obtain ⟨fs, hfs, hmap⟩ := underQop
  obtain ⟨cs, rfl, hsz⟩ := okWide_struct hfs hv
  obtain ⟨fuel, hf⟩ := h
  obtain ⟨k, hk⟩ := trod_fields underQop hf
  rw [cellsQop] at hsz
  obtain ⟨v0, v1, v2, v3, v4, v5, v6, rfl⟩ := seven hsz
  obtain ⟨y0, g0⟩ := hk 0 _ _ rfl
  obtain ⟨y1, g1⟩ := hk 1 _ _ rfl
  obtain ⟨y2, g2⟩ := hk 2 _ _ rfl
  obtain ⟨y3, g3⟩ := hk 3 _ _ rfl
  obtain ⟨y4, g4⟩ := hk 4 _ _ rfl
  obtain ⟨y5, g5⟩ := hk 5 _ _ rfl
  rw [cellsQU8] at g0 g1 g2
  rw [cellsInt] at g3 g4
  rw [cellsPack] at g5
  obtain ⟨z0, e0, _, w0⟩ := DataW.trod_int Tryz.underlying5 g0
  obtain ⟨z1, e1, _, w1⟩ := DataW.trod_int Tryz.underlying5 g1
  obtain ⟨z2, e2, _, w2⟩ := DataW.trod_int Tryz.underlying5 g2
  obtain ⟨z3, e3, _, w3⟩ := DataW.trod_int Tryz.underlying3 g3
  obtain ⟨z4, e4, _, w4⟩ := DataW.trod_int Tryz.underlying3 g4
  have g5' : DataW.trod enc Tryz.prog W 0 (fun _ => true) true k 33 [v5, v6] = some y5 := by simpa [Value.cells] using g5
  obtain ⟨z5, z6, rfl, rfl, w5, w6⟩ := open_pack g5'
  obtain rfl : v0 = .int .u8 z0 := by simpa [Value.cells] using e0
  obtain rfl : v1 = .int .u8 z1 := by simpa [Value.cells] using e1
  obtain rfl : v2 = .int .u8 z2 := by simpa [Value.cells] using e2
  obtain rfl : v3 = .int .i64 z3 := by simpa [Value.cells] using e3
  obtain rfl : v4 = .int .i64 z4 := by simpa [Value.cells] using e4
  have b0 := bounds_u8 w0
  have b1 := bounds_u8 w1
  have b2 := bounds_u8 w2
  obtain ⟨m0, rfl⟩ := Int.eq_ofNat_of_zero_le b0.1
  obtain ⟨m1, rfl⟩ := Int.eq_ofNat_of_zero_le b1.1
  obtain ⟨m2, rfl⟩ := Int.eq_ofNat_of_zero_le b2.1
  exact ⟨m0, m1, m2, z3, z4, z5, z6, rfl, by omega, by omega, by omega, w5, w6⟩

end Go.Proofs.YtijfdgoeppehlaaGreatDoor
