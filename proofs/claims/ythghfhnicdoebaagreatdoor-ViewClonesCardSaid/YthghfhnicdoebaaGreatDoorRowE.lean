/- Arguments that are structs: their fields. A change of the reference of layer 5 as an argument. -/
import Derived.Test.YthghfhnicdoebaaGreatDoorRowV
import Derived.Test.YthghfhnicdoebaaGreatDoorViewB
import Derived.Deep.Slices
namespace Go.Proofs.YthghfhnicdoebaaGreatDoor
open Go.ChangeShapes Go.WideShapes Go.ChangeAt Go.ChangeMaps Go.RowKit

theorem trod_fields {H : Type} {enc : TypeId × Value → H} {W : World} {t : TypeId} {ps : List (TypeId × Nat)} {fuel : Nat} {cs : List Value} {x : DataW H × List MemPlace}
    (hu : ∃ fs, Tryz.prog.underlying t = some (.struct fs) ∧ fs.toList.map (fun f => (f.type, f.offset)) = ps) (h : DataW.trod enc Tryz.prog W 0 (fun _ => true) true fuel t cs = some x) :
    ∃ k, ∀ (j : Nat) (ty : TypeId) (off : Nat), ps[j]? = some (ty, off) → ∃ y, DataW.trod enc Tryz.prog W 0 (fun _ => true) true k ty ((cs.drop off).take (Tryz.prog.cellsOf ty)) = some y := by
  obtain ⟨fs, hfs, hmap⟩ := hu
  obtain ⟨xs, k, _, _, _, hxl, hg⟩ := DataW.trod_struct hfs h
  refine ⟨k, fun j ty off hj => ?_⟩
  rw [← hmap] at hj
  simp only [List.getElem?_map, Option.map_eq_some_iff, Prod.mk.injEq] at hj
  obtain ⟨f, hf', rfl, rfl⟩ := hj
  have hjj : j < fs.size := by
    have := (List.getElem?_eq_some_iff.1 hf').1
    simpa using this
  exact ⟨xs[j]'(by omega), by rw [hg j f (by simpa using hf')]; exact List.getElem?_eq_getElem _⟩
theorem four {cs : Array Value} (h : cs.size = 4) : ∃ v0 v1 v2 v3, cs = #[v0, v1, v2, v3] := by
  obtain ⟨l⟩ := cs
  match l, h with
  | [v0, v1, v2, v3], _ => exact ⟨v0, v1, v2, v3, rfl⟩

end Go.Proofs.YthghfhnicdoebaaGreatDoor

namespace Go.Proofs.YthghfhnicdoebaaGreatDoor
open Go.ChangeShapes Go.WideShapes Go.ChangeAt Go.ChangeMaps Go.RowKit
theorem cellsEInt : Tryz.prog.cellsOf 3 = 1 := by kernel_rfl
theorem cellsEBool : Tryz.prog.cellsOf 4 = 1 := by kernel_rfl
theorem cellsC5 : Tryz.prog.cellsOf 40 = 7 := by kernel_rfl
theorem cellsC4 : Tryz.prog.cellsOf 38 = 5 := by kernel_rfl
theorem cellsCStr : Tryz.prog.cellsOf 9 = 1 := by kernel_rfl
theorem underC5 : ∃ fs, Tryz.prog.underlying 40 = some (.struct fs) ∧ fs.toList.map (fun f => (f.type, f.offset)) = [(38, 0), (9, 5), (4, 6)] := ⟨_, Tryz.underlying40, by kernel_rfl⟩
theorem underC4 : ∃ fs, Tryz.prog.underlying 38 = some (.struct fs) ∧ fs.toList.map (fun f => (f.type, f.offset)) = [(3, 0), (9, 1), (3, 2), (3, 3), (9, 4)] := ⟨_, Tryz.underlying38, by kernel_rfl⟩
set_option maxRecDepth 100000 in
theorem open_c5 {H : Type} {enc : TypeId × Value → H} {W : World} {fuel : Nat} {v0 v1 v2 v3 v4 v5 v6 : Value} {x : DataW H × List MemPlace} (h : DataW.trod enc Tryz.prog W 0 (fun _ => true) true fuel 40 [v0, v1, v2, v3, v4, v5, v6] = some x) :
    ∃ c : ChangeT, v0 = .int .i64 c.name.kind ∧ v1 = .string c.name.owner ∧ v2 = .int .i64 c.name.number ∧ v3 = .int .i64 c.name.index ∧ v4 = .string c.name.text ∧ v5 = .string c.value ∧ v6 = .bool c.absent ∧ c.name.owner.size ≤ maxLen ∧ c.name.text.size ≤ maxLen ∧ c.value.size ≤ maxLen := by
  obtain ⟨k, hk⟩ := trod_fields underC5 h
  obtain ⟨y0, g0⟩ := hk 0 _ _ rfl
  obtain ⟨y1, g1⟩ := hk 1 _ _ rfl
  obtain ⟨y2, g2⟩ := hk 2 _ _ rfl
  rw [cellsC4] at g0
  rw [cellsCStr] at g1
  rw [cellsEBool] at g2
  obtain ⟨m, hm⟩ := trod_fields underC4 g0
  obtain ⟨z0, n0⟩ := hm 0 _ _ rfl
  obtain ⟨z1, n1⟩ := hm 1 _ _ rfl
  obtain ⟨z2, n2⟩ := hm 2 _ _ rfl
  obtain ⟨z3, n3⟩ := hm 3 _ _ rfl
  obtain ⟨z4, n4⟩ := hm 4 _ _ rfl
  rw [cellsEInt] at n0 n2 n3
  rw [cellsCStr] at n1 n4
  obtain ⟨s5, e5, _, w5⟩ := DataW.trod_string Tryz.underlying9 g1
  obtain ⟨s6, e6, _⟩ := DataW.trod_bool Tryz.underlying4 g2
  obtain ⟨s0, e0, _, _⟩ := DataW.trod_int Tryz.underlying3 n0
  obtain ⟨s1, e1, _, w1⟩ := DataW.trod_string Tryz.underlying9 n1
  obtain ⟨s2, e2, _, _⟩ := DataW.trod_int Tryz.underlying3 n2
  obtain ⟨s3, e3, _, _⟩ := DataW.trod_int Tryz.underlying3 n3
  obtain ⟨s4, e4, _, w4⟩ := DataW.trod_string Tryz.underlying9 n4
  exact ⟨⟨⟨s0, s1, s2, s3, s4⟩, s5, s6⟩, by simpa using e0, by simpa using e1, by simpa using e2, by simpa using e3, by simpa using e4, by simpa using e5, by simpa using e6, w1, w4, w5⟩

theorem sevenE {cs : Array Value} (h : cs.size = 7) : ∃ v0 v1 v2 v3 v4 v5 v6, cs = #[v0, v1, v2, v3, v4, v5, v6] := by
  obtain ⟨l⟩ := cs
  match l, h with
  | [v0, v1, v2, v3, v4, v5, v6], _ => exact ⟨v0, v1, v2, v3, v4, v5, v6, rfl⟩
set_option maxRecDepth 100000 in
theorem open_c5a {H : Type} {enc : TypeId × Value → H} {W : World} {base : Nat} {v : Value} {d : DataW H} {p : List MemPlace} (hv : Value.okWide Tryz.prog W .any base 40 v) (h : DataW.Trod enc Tryz.prog W 0 (fun _ => true) true 40 v d p) :
    ∃ (k : Int) (o : ByteArray) (nu ix : Int) (t x : ByteArray) (ab : Bool), v = .agg #[.int .i64 k, .string o, .int .i64 nu, .int .i64 ix, .string t, .string x, .bool ab] ∧ o.size ≤ maxLen ∧ t.size ≤ maxLen ∧ x.size ≤ maxLen := by
  obtain ⟨fs, hfs, hmap⟩ := underC5
  obtain ⟨cs, rfl, hsz⟩ := okWide_struct hfs hv
  obtain ⟨fuel, hf⟩ := h
  rw [cellsC5] at hsz
  obtain ⟨v0, v1, v2, v3, v4, v5, v6, rfl⟩ := sevenE hsz
  obtain ⟨c, rfl, rfl, rfl, rfl, rfl, rfl, rfl, b1, b4, b5⟩ := open_c5 hf
  exact ⟨_, _, _, _, _, _, _, rfl, b1, b4, b5⟩
end Go.Proofs.YthghfhnicdoebaaGreatDoor
