/- A name of the reference of layer 4 as an argument. -/
import Derived.Test.YthghfhnicdoebaaDoorRowE
namespace Go.Proofs.YthghfhnicdoebaaDoor
open Go.ChangeShapes Go.WideShapes Go.ChangeAt Go.ChangeMaps Go.RowKit
theorem fiveE {cs : Array Value} (h : cs.size = 5) : ∃ v0 v1 v2 v3 v4, cs = #[v0, v1, v2, v3, v4] := by
  obtain ⟨l⟩ := cs
  match l, h with
  | [v0, v1, v2, v3, v4], _ => exact ⟨v0, v1, v2, v3, v4, rfl⟩
set_option maxRecDepth 100000 in
theorem open_n4 {H : Type} {enc : TypeId × Value → H} {W : World} {fuel : Nat} {v0 v1 v2 v3 v4 : Value} {x : DataW H × List MemPlace} (h : DataW.trod enc Tryd.prog W 0 (fun _ => true) true fuel 25 [v0, v1, v2, v3, v4] = some x) :
    ∃ n : NameT, v0 = .int .i64 n.kind ∧ v1 = .string n.owner ∧ v2 = .int .i64 n.number ∧ v3 = .int .i64 n.index ∧ v4 = .string n.text ∧ n.owner.size ≤ maxLen ∧ n.text.size ≤ maxLen := by
  obtain ⟨m, hm⟩ := trod_fields underC4 h
  obtain ⟨z0, n0⟩ := hm 0 _ _ rfl
  obtain ⟨z1, n1⟩ := hm 1 _ _ rfl
  obtain ⟨z2, n2⟩ := hm 2 _ _ rfl
  obtain ⟨z3, n3⟩ := hm 3 _ _ rfl
  obtain ⟨z4, n4⟩ := hm 4 _ _ rfl
  rw [cellsEInt] at n0 n2 n3
  rw [cellsCStr] at n1 n4
  obtain ⟨s0, e0, _, _⟩ := DataW.trod_int Tryd.underlying3 n0
  obtain ⟨s1, e1, _, w1⟩ := DataW.trod_string Tryd.underlying9 n1
  obtain ⟨s2, e2, _, _⟩ := DataW.trod_int Tryd.underlying3 n2
  obtain ⟨s3, e3, _, _⟩ := DataW.trod_int Tryd.underlying3 n3
  obtain ⟨s4, e4, _, w4⟩ := DataW.trod_string Tryd.underlying9 n4
  exact ⟨⟨s0, s1, s2, s3, s4⟩, by simpa using e0, by simpa using e1, by simpa using e2, by simpa using e3, by simpa using e4, w1, w4⟩
set_option maxRecDepth 100000 in
theorem open_n4a {H : Type} {enc : TypeId × Value → H} {W : World} {base : Nat} {v : Value} {d : DataW H} {p : List MemPlace} (hv : Value.okWide Tryd.prog W .any base 25 v) (h : DataW.Trod enc Tryd.prog W 0 (fun _ => true) true 25 v d p) :
    ∃ (k : Int) (o : ByteArray) (nu ix : Int) (t : ByteArray), v = .agg #[.int .i64 k, .string o, .int .i64 nu, .int .i64 ix, .string t] ∧ o.size ≤ maxLen ∧ t.size ≤ maxLen := by
  obtain ⟨fs, hfs, hmap⟩ := underC4
  obtain ⟨cs, rfl, hsz⟩ := okWide_struct hfs hv
  obtain ⟨fuel, hf⟩ := h
  rw [cellsC4] at hsz
  obtain ⟨v0, v1, v2, v3, v4, rfl⟩ := fiveE hsz
  obtain ⟨n, rfl, rfl, rfl, rfl, rfl, w1, w4⟩ := open_n4 hf
  exact ⟨_, _, _, _, _, rfl, w1, w4⟩
end Go.Proofs.YthghfhnicdoebaaDoor
