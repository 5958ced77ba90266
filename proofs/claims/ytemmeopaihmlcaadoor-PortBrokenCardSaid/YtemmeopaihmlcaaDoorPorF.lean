/- A port in a view: Get, Set and Delete of the view. -/
import Derived.Test.YtemmeopaihmlcaaDoorViewD
import Derived.Test.YtemmeopaihmlcaaDoorPorE
namespace Go.Proofs.YtemmeopaihmlcaaDoor
open Go.RowKit
attribute [local go_sem ↓] Go.wp_at_zero Go.wp_at_succ

section
variable (w0 w : World) (b N : Nat) (m : Int) (o : Option PortT) (G : Nat → Prop) (s : SQ w0 w b N m o G) (hm : 0 ≤ m ∧ m ≤ 1073741824)
include s hm
theorem sqVGet : Calls Tryd.prog 57 #[.pointer (some ⟨b, 0, none⟩), .agg #[.int .i64 16, .string ⟨#[]⟩, .int .i64 m, .int .i64 0, .string ⟨#[]⟩]] w fun r w' =>
    ∃ sv t, r = .returned (.tuple #[.string sv, .bool t]) ∧ (∀ p, o = some p → sv = strOf (encQB p) ∧ t = true) ∧ (o = none → t = false ∨ (t = true ∧ (decQ sv).2 ≠ 0 ∧ sv.size ≤ 65536)) ∧ SQ w0 w' b N m o G ∧ ∀ k, G k → w'.heap[k]? = w.heap[k]? := by
  obtain ⟨⟨V, h, hv, rfl, h2, h3, h4⟩, h5⟩ := s
  refine (vGet_any h V (ofPortN m) w hv (nameOk_port m hm.1 hm.2)).mono ?_
  rintro r w' ⟨rfl, hp⟩
  obtain ⟨h', hp⟩ := hp.vq
  refine ⟨(avGet V (ofPortN m)).1, (avGet V (ofPortN m)).2, rfl, fun p e => by rw [(h3.yes p e).1]; exact ⟨rfl, rfl⟩, fun e => ?_, sq_post hv rfl h2 h4 h5 hp h3.seen⟩
  rcases h3.no e with h | h
  · exact .inl h
  · cases hc : (avGet V (ofPortN m)).2 with
    | false => exact .inl rfl
    | true => exact .inr ⟨rfl, h⟩
theorem sqVSet (hN : N < 1000000) (p : PortT) (hc : checkQ p = 0) (ho : p.owner.size ≤ 64) : Calls Tryd.prog 76 #[.pointer (some ⟨b, 0, none⟩), .agg #[.int .i64 16, .string ⟨#[]⟩, .int .i64 m, .int .i64 0, .string ⟨#[]⟩], .string (strOf (encQB p))] w (SQP w0 b (N + 1) m (some p) G w (.int .i64 0)) := by
  obtain ⟨⟨V, h, hv, rfl, h2, h3, h4⟩, h5⟩ := s
  refine (vSet_any h V (ofPortN m) _ w hv (nameOk_port m hm.1 hm.2) (encQB_size hc ho) (by rw [h3.len]; exact hN)).mono ?_
  rintro r w' ⟨rfl, hp⟩
  obtain ⟨h', hp⟩ := hp.vq
  exact ⟨rfl, sq_post hv rfl h2 h4 h5 hp (h3.set hc ho)⟩
theorem sqVDel (hN : N < 1000000) : Calls Tryd.prog 48 #[.pointer (some ⟨b, 0, none⟩), .agg #[.int .i64 16, .string ⟨#[]⟩, .int .i64 m, .int .i64 0, .string ⟨#[]⟩]] w (SQP w0 b (N + 1) m none G w (.int .i64 0)) := by
  obtain ⟨⟨V, h, hv, rfl, h2, h3, h4⟩, h5⟩ := s
  refine (vDel_any h V (ofPortN m) w hv (nameOk_port m hm.1 hm.2) (by rw [h3.len]; exact hN)).mono ?_
  rintro r w' ⟨rfl, hp⟩
  obtain ⟨h', hp⟩ := hp.vq
  exact ⟨rfl, sq_post hv rfl h2 h4 h5 hp h3.del⟩
end

end Go.Proofs.YtemmeopaihmlcaaDoor
