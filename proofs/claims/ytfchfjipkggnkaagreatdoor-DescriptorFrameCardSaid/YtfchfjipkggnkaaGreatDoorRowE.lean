/- Arguments that are structs: their fields. A change of the reference of layer 5 as an argument. -/
import Derived.Test.YtfchfjipkggnkaaGreatDoorRowV
import Derived.Test.YtfchfjipkggnkaaGreatDoorViewB
import Derived.Deep.Slices
namespace Go.Proofs.YtfchfjipkggnkaaGreatDoor
open Go.ChangeShapes Go.WideShapes Go.ChangeAt Go.ChangeMaps Go.RowKit

theorem trod_fields {H : Type} {enc : TypeId × Value → H} {W : World} {t : TypeId} {ps : List (TypeId × Nat)} {fuel : Nat} {cs : List Value} {x : DataW H × List MemPlace}
    (hu : ∃ fs, Tryz.prog.underlying t = some (.struct fs) ∧ fs.toList.map (fun f => (f.type, f.offset)) = ps) (h : DataW.trod enc Tryz.prog W 0 (fun _ => true) true fuel t cs = some x) :
    ∃ k, ∀ (j : Nat) (ty : TypeId) (off : Nat), ps[j]? = some (ty, off) → ∃ y, DataW.trod enc Tryz.prog W 0 (fun _ => true) true k ty ((cs.drop off).take (Tryz.prog.cellsOf ty)) = some y := by
  obtain ⟨fs, hfs, hmap⟩ := hu
  obtain ⟨xs, k, _, _, _, hxl, hg⟩ := DataW.trod_struct hfs h
  refine ⟨k, fun j ty off hj => ?_⟩
  rw [← hmap] at hj
  simp only [List.getElem?_map, Option.map_eq_some_iff, Prod.mk.injEq] at hj
  obtain ⟨f, hf', rfl, rfl⟩ := hj
  have hjj : j < fs.size := by
    have := (List.getElem?_eq_some_iff.1 hf').1
    simpa using this
  exact ⟨xs[j]'(by omega), by rw [hg j f (by simpa using hf')]; exact List.getElem?_eq_getElem _⟩
end Go.Proofs.YtfchfjipkggnkaaGreatDoor

namespace Go.Proofs.YtfchfjipkggnkaaGreatDoor
open Go.ChangeShapes Go.WideShapes Go.ChangeAt Go.ChangeMaps Go.RowKit
end Go.Proofs.YtfchfjipkggnkaaGreatDoor
