/- reference 08: what After and Before hand back, in nodes. -/
import Derived.Test.YteiddebjbiadbaaGmJ
import Derived.Test.YteiddebjbiadbaaGmW
namespace Go.Proofs.Yteiddebjbiadbaa
open Go.RowKit Gr

theorem aftI_ints (es : List Ed) (x : Nat) : aftI (es.map ofEd) (x : Int) = ints (aft es x) := by
  unfold aftI ints aft
  rw [List.filter_map, List.map_map, List.map_map]
  have e : ((fun e : Int × Int => decide (e.1 = (x : Int))) ∘ ofEd) = fun e : Ed => e.1 == x := by
    funext e; simp [ofEd, Function.comp]; rw [Bool.eq_iff_iff]; simp [Int.ofNat_inj]
  rw [e]
  rfl
theorem befI_ints (es : List Ed) (x : Nat) : befI (es.map ofEd) (x : Int) = ints (bef es x) := by
  unfold befI ints bef
  rw [List.filter_map, List.map_map, List.map_map]
  have e : ((fun e : Int × Int => decide (e.2 = (x : Int))) ∘ ofEd) = fun e : Ed => e.2 == x := by
    funext e; simp [ofEd, Function.comp]; rw [Bool.eq_iff_iff]; simp [Int.ofNat_inj]
  rw [e]
  rfl
end Go.Proofs.Yteiddebjbiadbaa
