/- A port in a view, for the laws: what the view holds. A port in a view: Get, Set and Delete of the view. -/
import Derived.Test.YtijfdgoeppehlaaGreatDoorPorD
import Derived.Test.YtijfdgoeppehlaaGreatDoorViewC
import Derived.Test.YtijfdgoeppehlaaGreatDoorStaF
import Derived.Test.YtijfdgoeppehlaaGreatDoorViewH
namespace Go.Proofs.YtijfdgoeppehlaaGreatDoor
open Go.RowKit
attribute [local go_sem ↓] Go.wp_at_zero Go.wp_at_succ

def emp : ByteArray := ⟨#[]⟩
def qArgs (who : ByteArray) (m e : Int) : Nat := if validB who = false then 12 else if (m < 1 ∨ 9999 < m) ∨ numB e = false then 2 else 0
theorem qArgs_ok {who : ByteArray} {m e : Int} (h : qArgs who m e = 0) : validB who = true ∧ (1 ≤ m ∧ m ≤ 9999) ∧ numB e = true := by
  unfold qArgs at h
  by_cases h1 : validB who = false
  · rw [if_pos h1] at h; cases h
  rw [if_neg h1] at h
  by_cases h2 : (m < 1 ∨ 9999 < m) ∨ numB e = false
  · rw [if_pos h2] at h; cases h
  exact ⟨by simpa using h1, by omega, by simpa using fun h => h2 (.inr h)⟩
theorem valid_emp : validB ⟨#[]⟩ = true := by decide +kernel

/-- The view holds the port m, if it is open; it has N calls. -/
structure HoldsQ (V : AV) (N : Nat) (m : Int) (o : Option PortT) : Prop where
  len : V.calls.length = N
  no : o = none → (avGet V (ofPortN m)).2 = false ∨ ((decQ (avGet V (ofPortN m)).1).2 ≠ 0 ∧ (avGet V (ofPortN m)).1.size ≤ 65536)
  yes : ∀ p, o = some p → avGet V (ofPortN m) = (strOf (encQB p), true) ∧ checkQ p = 0 ∧ p.owner.size ≤ 64
def qHas (e : Int) : Option PortT → PortT × Nat
  | none => (zeroQ, 8)
  | some p => if p.epoch ≠ e then (zeroQ, 8) else (p, 0)
theorem strOf_sizeQ (l : List UInt8) : (strOf l).size = l.length := by rw [← size_toList]; rfl
theorem encQB_size {p : PortT} (h : checkQ p = 0) (ho : p.owner.size ≤ 64) : (strOf (encQB p)).size ≤ 65536 := by
  rw [strOf_sizeQ]
  exact encQB_length h (by omega)
theorem avGet_seenQ (V : AV) (n : NameT) : avGet (avSeen V n) n = avGet V n := by
  unfold avGet avSeen
  cases h : lastCall V.calls n with
  | none => simp [h]
  | some c => simp [h]
theorem avGet_callQ (V : AV) (n : NameT) (s : ByteArray) (a : Bool) : avGet ⟨V.base, V.reads, V.calls ++ [⟨n, s, a⟩]⟩ n = (s, !a) := by
  unfold avGet
  simp only [lastCall_snoc, if_true]
theorem avSeen_callsQ (V : AV) (n : NameT) : (avSeen V n).calls = V.calls := by
  unfold avSeen
  split <;> rfl
variable {V : AV} {N : Nat} {m : Int} {o : Option PortT}
theorem HoldsQ.seen (h : HoldsQ V N m o) : HoldsQ (avSeen V (ofPortN m)) N m o :=
  ⟨by rw [avSeen_callsQ]; exact h.len, fun e => by rw [avGet_seenQ]; exact h.no e, fun p e => by rw [avGet_seenQ]; exact h.yes p e⟩
theorem HoldsQ.set (h : HoldsQ V N m o) {p : PortT} (hc : checkQ p = 0) (ho : p.owner.size ≤ 64) : HoldsQ ⟨V.base, V.reads, V.calls ++ [⟨ofPortN m, strOf (encQB p), false⟩]⟩ (N + 1) m (some p) :=
  ⟨by simp [h.len], (fun e => by cases e), (fun q e => by cases e; rw [avGet_callQ]; exact ⟨rfl, hc, ho⟩)⟩
theorem HoldsQ.del (h : HoldsQ V N m o) : HoldsQ ⟨V.base, V.reads, V.calls ++ [⟨ofPortN m, ⟨#[]⟩, true⟩]⟩ (N + 1) m none :=
  ⟨by simp [h.len], fun _ => .inl (by rw [avGet_callQ]; rfl), fun q e => by cases e⟩

/-- The view at b, made after w0, holds the port; the blocks of G are not the view's. -/
structure SQ (w0 w : World) (b N : Nat) (m : Int) (o : Option PortT) (G : Nat → Prop) : Prop where
  ex : ∃ V h, ViewAt w h V ∧ h.b = b ∧ w0.heap.size ≤ h.bs ∧ HoldsQ V N m o ∧ ∀ k, G k → ¬ h.fp k ∧ k < w.heap.size ∧ h.bs ≤ k
  below : Below w0.heap.size w0 w
def SQP (w0 : World) (b N : Nat) (m : Int) (o : Option PortT) (G : Nat → Prop) (w : World) (v : Value) (r : Ending) (w' : World) : Prop :=
  r = .returned v ∧ SQ w0 w' b N m o G ∧ ∀ k, G k → w'.heap[k]? = w.heap[k]?
theorem sq_post {w0 w w' : World} {b N : Nat} {m : Int} {o : Option PortT} {G : Nat → Prop} {V V' : AV} {h h' : VH} (hv : ViewAt w h V) (hb : h.b = b) (hbs : w0.heap.size ≤ h.bs) (hG : ∀ k, G k → ¬ h.fp k ∧ k < w.heap.size ∧ h.bs ≤ k) (hlow : Below w0.heap.size w0 w) (hp : VQ h (fun _ => False) w V' w' h') (hh : HoldsQ V' N m o) :
    SQ w0 w' b N m o G ∧ ∀ k, G k → w'.heap[k]? = w.heap[k]? := by
  refine ⟨⟨⟨V', h', hp.at_, hp.b.trans hb, by rw [hp.bs]; exact hbs, hh, fun k hk => ⟨fun hf => ?_, Nat.lt_of_lt_of_le (hG k hk).2.1 hp.kept.size, by rw [hp.bs]; exact (hG k hk).2.2⟩⟩, ?_⟩, fun k hk => hp.kept.block k (hG k hk).2.1 (fun hf => ?_)⟩
  · rcases hp.fp k hf with h1 | h1
    · exact (hG k hk).1 h1
    · have := (hG k hk).2.1; omega
  · refine hlow.trans (hp.kept.below (Nat.le_trans hbs hv.top) (fun k hk => ?_))
    rcases hk with h1 | h1
    · exact Nat.le_trans hbs (hv.lo k h1)
    · exact h1.elim
  · rcases hf with h1 | h1
    · exact (hG k hk).1 h1
    · exact h1
variable {w0 w w' : World} {b : Nat} {G G' : Nat → Prop}
theorem SQ.later (s : SQ w0 w b N m o G) (hb : Below w.heap.size w w') : SQ w0 w' b N m o G := by
  obtain ⟨⟨V, h, hv, h1, h2, h3, h4⟩, h5⟩ := s
  exact ⟨⟨V, h, hv.later hb, h1, h2, h3, fun k hk => ⟨(h4 k hk).1, Nat.lt_of_lt_of_le (h4 k hk).2.1 hb.size, (h4 k hk).2.2⟩⟩, h5.trans (hb.mono h5.size)⟩
theorem SQ.fresh (s : SQ w0 w b N m o G) (hb : Below w.heap.size w w') (hG : ∀ k, G' k → G k ∨ (w.heap.size ≤ k ∧ k < w'.heap.size)) : SQ w0 w' b N m o G' := by
  obtain ⟨⟨V, h, hv, h1, h2, h3, h4⟩, h5⟩ := s
  refine ⟨⟨V, h, hv.later hb, h1, h2, h3, fun k hk => ?_⟩, h5.trans (hb.mono h5.size)⟩
  rcases hG k hk with h | h
  · exact ⟨(h4 k h).1, Nat.lt_of_lt_of_le (h4 k h).2.1 hb.size, (h4 k h).2.2⟩
  · exact ⟨fun hf => by have := hv.fp_lt hf; omega, h.2, Nat.le_trans hv.top h.1⟩
theorem SQ.guarded (s : SQ w0 w b N m o G) (hk : Kept G w w') (hG : ∀ k, G' k → G k ∨ (w.heap.size ≤ k ∧ k < w'.heap.size)) : SQ w0 w' b N m o G' := by
  obtain ⟨⟨V, h, hv, h1, h2, h3, h4⟩, h5⟩ := s
  refine ⟨⟨V, h, hv.kept (hk.below hv.top (fun k hs => (h4 k hs).2.2)) (fun k hf => hk.block k (hv.fp_lt hf) (fun hs => (h4 k hs).1 hf)), h1, h2, h3, fun k hs => ?_⟩, h5.trans (hk.below h5.size (fun k hs => Nat.le_trans h2 (h4 k hs).2.2))⟩
  rcases hG k hs with h | h
  · exact ⟨(h4 k h).1, Nat.lt_of_lt_of_le (h4 k h).2.1 hk.size, (h4 k h).2.2⟩
  · exact ⟨fun hf => by have := hv.fp_lt hf; omega, h.2, Nat.le_trans hv.top h.1⟩
theorem SQ.check {p : PortT} (s : SQ w0 w b N m (some p) G) : checkQ p = 0 ∧ p.owner.size ≤ 64 := by
  obtain ⟨⟨V, h, hv, h1, h2, h3, h4⟩, h5⟩ := s
  exact (h3.yes p rfl).2
theorem SQ.usages (s : SQ w0 w b N m o G) : Usages w := by
  obtain ⟨⟨V, h, hv, h1, h2, h3, h4⟩, h5⟩ := s
  exact hv.usages
theorem SQ.view (s : SQ w0 w b N m o G) : b < w.heap.size := by
  obtain ⟨⟨V, h, hv, h1, h2, h3, h4⟩, h5⟩ := s
  rw [← h1]; exact lt_of_heap hv.heap
theorem sqNew (w : World) (hu : Usages w) (m : Int) :
    Calls Tryz.prog 8 #[] w fun r w1 => r = .returned (.pointer (some ⟨w.heap.size, 0, none⟩)) ∧ Calls Tryz.prog 7 #[.pointer (some ⟨w.heap.size, 0, none⟩)] w1 fun r w2 => r = .returned (.pointer (some ⟨w.heap.size + 3, 0, none⟩)) ∧ SQ w w2 (w.heap.size + 3) 0 m none (fun _ => False) := by
  refine (stateNew_any w).mono ?_
  rintro r w1 ⟨rfl, rfl⟩
  refine ⟨rfl, ?_⟩
  have hb1 : Below w.heap.size w (w.alloc (.cells #[.pointer none] 69)) := (Below.refl _ _).alloc (Nat.le_refl _) _
  have hbase : BaseOk (w.alloc (.cells #[.pointer none] 69)).heap.size (w.alloc (.cells #[.pointer none] 69)) w.heap.size (fun _ => none) := baseOk_empty w
  refine (viewNew_any w.heap.size (fun _ => none) _ (hu.below hb1 hu.pos) hbase).mono ?_
  rintro r w2 ⟨rfl, hb2, hv⟩
  have hsz : (w.alloc (.cells #[.pointer none] 69)).heap.size = w.heap.size + 1 := by simp
  refine ⟨by rw [hsz], ⟨⟨_, _, hv, by rw [hsz], by rw [hsz]; exact Nat.le_succ _, ?_, fun k hk => hk.elim⟩, hb1.trans (hb2.mono (by simp))⟩⟩
  exact ⟨rfl, fun _ => .inl rfl, fun p e => by cases e⟩

set_option maxRecDepth 100000 in
set_option maxHeartbeats 1000000 in
theorem qCheck_any (b : Nat) (who : ByteArray) (m e : Int) (q : Nat) (hq : qArgs who m e = q) (w : World) (hw : who.size ≤ 70368744177664) :
    Calls Tryz.prog 36 #[.pointer (some ⟨b, 0, none⟩), .string who, .int .i64 m, .int .i64 e] w fun r w' => r = .returned (.int .i64 q) ∧ Below w.heap.size w w' := by
  subst hq
  go_enter Tryz.func36, Tryz.ntmps36
  go_wp2_with fail
  cases h1 : validB who with
  | false =>
    refine (valid_is who _ hw h1 _).mono ?_
    rintro r w1 ⟨rfl, hb1⟩
    have he : Hid (qArgs who m e = 12) := by show _ = _; simp [qArgs, h1]
    go_wp2
    go_ret
    rw [he.out]
    exact ⟨rfl, hb1⟩
  | true =>
    refine (valid_is who _ hw h1 _).mono ?_
    rintro r w1 ⟨rfl, hb1⟩
    by_cases h2 : m < 1
    · have he : Hid (qArgs who m e = 2) := by show _ = _; simp [qArgs, h1, h2]
      go_wp2
      go_ret
      rw [he.out]
      exact ⟨rfl, hb1⟩
    · by_cases h3 : 9999 < m
      · have he : Hid (qArgs who m e = 2) := by show _ = _; simp [qArgs, h1, h3]
        go_wp2
        go_ret
        rw [he.out]
        exact ⟨rfl, hb1⟩
      · cases h4 : numB e with
        | false =>
          have he : Hid (qArgs who m e = 2) := by show _ = _; simp [qArgs, h1, h4]
          go_wp2_with fail
          refine (isNumber_is e _ h4 _).mono ?_
          rintro r w2 ⟨rfl, rfl⟩
          go_wp2
          go_ret
          rw [he.out]
          exact ⟨rfl, hb1⟩
        | true =>
          have he : Hid (qArgs who m e = 0) := by
            show _ = _
            have : ¬ ((m < 1 ∨ 9999 < m) ∨ numB e = false) := by rw [h4]; simp; omega
            unfold qArgs
            rw [if_neg (by simp [h1]), if_neg this]
          go_wp2_with fail
          refine (isNumber_is e _ h4 _).mono ?_
          rintro r w2 ⟨rfl, rfl⟩
          go_wp2
          go_ret
          rw [he.out]
          exact ⟨rfl, hb1⟩

end Go.Proofs.YtijfdgoeppehlaaGreatDoor

namespace Go.Proofs.YtijfdgoeppehlaaGreatDoor
open Go.RowKit
attribute [local go_sem ↓] Go.wp_at_zero Go.wp_at_succ

section
variable (w0 w : World) (b N : Nat) (m : Int) (o : Option PortT) (G : Nat → Prop) (s : SQ w0 w b N m o G) (hm : 0 ≤ m ∧ m ≤ 1073741824)
include s hm
theorem sqVGet : Calls Tryz.prog 52 #[.pointer (some ⟨b, 0, none⟩), .agg #[.int .i64 16, .string ⟨#[]⟩, .int .i64 m, .int .i64 0, .string ⟨#[]⟩]] w fun r w' =>
    ∃ sv t, r = .returned (.tuple #[.string sv, .bool t]) ∧ (∀ p, o = some p → sv = strOf (encQB p) ∧ t = true) ∧ (o = none → t = false ∨ (t = true ∧ (decQ sv).2 ≠ 0 ∧ sv.size ≤ 65536)) ∧ SQ w0 w' b N m o G ∧ ∀ k, G k → w'.heap[k]? = w.heap[k]? := by
  obtain ⟨⟨V, h, hv, rfl, h2, h3, h4⟩, h5⟩ := s
  refine (vGet_any h V (ofPortN m) w hv (nameOk_port m hm.1 hm.2)).mono ?_
  rintro r w' ⟨rfl, hp⟩
  obtain ⟨h', hp⟩ := hp.vq
  refine ⟨(avGet V (ofPortN m)).1, (avGet V (ofPortN m)).2, rfl, fun p e => by rw [(h3.yes p e).1]; exact ⟨rfl, rfl⟩, fun e => ?_, sq_post hv rfl h2 h4 h5 hp h3.seen⟩
  rcases h3.no e with h | h
  · exact .inl h
  · cases hc : (avGet V (ofPortN m)).2 with
    | false => exact .inl rfl
    | true => exact .inr ⟨rfl, h⟩
theorem sqVSet (hN : N < 1000000) (p : PortT) (hc : checkQ p = 0) (ho : p.owner.size ≤ 64) : Calls Tryz.prog 65 #[.pointer (some ⟨b, 0, none⟩), .agg #[.int .i64 16, .string ⟨#[]⟩, .int .i64 m, .int .i64 0, .string ⟨#[]⟩], .string (strOf (encQB p))] w (SQP w0 b (N + 1) m (some p) G w (.int .i64 0)) := by
  obtain ⟨⟨V, h, hv, rfl, h2, h3, h4⟩, h5⟩ := s
  refine (vSet_any h V (ofPortN m) _ w hv (nameOk_port m hm.1 hm.2) (encQB_size hc ho) (by rw [h3.len]; exact hN)).mono ?_
  rintro r w' ⟨rfl, hp⟩
  obtain ⟨h', hp⟩ := hp.vq
  exact ⟨rfl, sq_post hv rfl h2 h4 h5 hp (h3.set hc ho)⟩
theorem sqVDel (hN : N < 1000000) : Calls Tryz.prog 51 #[.pointer (some ⟨b, 0, none⟩), .agg #[.int .i64 16, .string ⟨#[]⟩, .int .i64 m, .int .i64 0, .string ⟨#[]⟩]] w (SQP w0 b (N + 1) m none G w (.int .i64 0)) := by
  obtain ⟨⟨V, h, hv, rfl, h2, h3, h4⟩, h5⟩ := s
  refine (vDel_any h V (ofPortN m) w hv (nameOk_port m hm.1 hm.2) (by rw [h3.len]; exact hN)).mono ?_
  rintro r w' ⟨rfl, hp⟩
  obtain ⟨h', hp⟩ := hp.vq
  exact ⟨rfl, sq_post hv rfl h2 h4 h5 hp h3.del⟩
end

end Go.Proofs.YtijfdgoeppehlaaGreatDoor
