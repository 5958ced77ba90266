/- signal: names; a record in a view, for the laws. -/
import Derived.Test.YtpieaakdddgdeaaGreatDoorViewH
import Derived.Test.YtpieaakdddgdeaaGreatDoorSigF
import Derived.Test.YtpieaakdddgdeaaGreatDoorViewC
import Derived.Test.YtpieaakdddgdeaaGreatDoorStaF
namespace Go.Proofs.YtpieaakdddgdeaaGreatDoor
open Go.RowKit
attribute [local go_sem ↓] Go.wp_at_zero Go.wp_at_succ

theorem second_newS (w : World) (o1 o2 : Obj) : ((w.alloc o1).alloc o2).heap[w.heap.size + 1]? = some o2 := by have := World.alloc_heap_new (w.alloc o1) o2; rwa [World.size_alloc] at this
def ofPendN (m : ByteArray) : NameT := ⟨6, m, 0, 0, ⟨#[]⟩⟩

set_option maxRecDepth 100000 in
set_option maxHeartbeats 2000000 in
theorem checkPend_any (m : ByteArray) (w : World) (hu : Usages w) (hm : validB m = true) (hmz : m.size ≤ 70368744177664) :
    Calls Tryz.prog 54 #[.agg #[.int .i64 6, .string m, .int .i64 0, .int .i64 0, .string ⟨#[]⟩]] w fun r w' => r = .returned (.int .i64 0) ∧ Below w.heap.size w w' := by
  have hp := hu.pos
  obtain ⟨u0, u1, u2, u3, u4, u5⟩ := hu 6 (by decide)
  have v0 : w.cell? ⟨0, 36, none⟩ = some (.string ⟨#[112, 101, 110, 100, 105, 110, 103]⟩) := u0
  have v1 : w.cell? ⟨0, 37, none⟩ = some (.bool true) := u1
  have v2 : w.cell? ⟨0, 38, none⟩ = some (.bool false) := u2
  have v3 : w.cell? ⟨0, 39, none⟩ = some (.bool false) := u3
  have v4 : w.cell? ⟨0, 40, none⟩ = some (.bool false) := u4
  have v5 : w.cell? ⟨0, 41, none⟩ = some (.int .i64 0) := u5
  clear u0 u1 u2 u3 u4 u5
  have Hu := Lib.hid hu; clear hu
  go_enter Tryz.func54, Tryz.ntmps54
  go_wp2_with fail
  refine (isKind_any 6 _ (by decide) (by decide)).mono ?_
  rintro e w1 ⟨rfl, rfl⟩
  go_wp2_with fail
  refine (valid_is m _ hmz hm _).mono ?_
  rintro e w1 ⟨rfl, hb1⟩
  have hn1 := (hb1.block w.heap.size (by simp; omega)).trans ((Below.heap_alloc _ _ _ (by simp)).trans (World.alloc_heap_new w _))
  have hu1 := (hb1.block (w.heap.size + 1) (by simp)).trans (second_newS w _ _)
  have t2 : w1.cell? ⟨w.heap.size + 1, 2, none⟩ = some (.bool false) := cell_of_heap hu1 2
  have t3 : w1.cell? ⟨w.heap.size + 1, 3, none⟩ = some (.bool false) := cell_of_heap hu1 3
  have t4 : w1.cell? ⟨w.heap.size + 1, 4, none⟩ = some (.bool false) := cell_of_heap hu1 4
  have q2 : w1.cell? ⟨w.heap.size, 2, none⟩ = some (.int .i64 0) := cell_of_heap hn1 2
  have q3 : w1.cell? ⟨w.heap.size, 3, none⟩ = some (.int .i64 0) := cell_of_heap hn1 3
  have q4 : w1.cell? ⟨w.heap.size, 4, none⟩ = some (.string ⟨#[]⟩) := cell_of_heap hn1 4
  have HB1 : Hid (Below w.heap.size w w1) := (((Below.refl _ _).alloc (Nat.le_refl _) _).alloc (by simp) _).trans (hb1.mono (by simp; omega))
  clear hb1 hn1 hu1 v0 v1 v2 v3 v4 v5
  go_wp2
  go_ret
  exact ⟨rfl, HB1.out⟩
theorem nameOk_pend {m : ByteArray} (hm : validB m = true ∧ m.size ≤ 70368744177664) : NameOk (ofPendN m) := ⟨⟨hm.2, emp_le⟩, fun W hu => checkPend_any m W hu hm.1 hm.2⟩

set_option maxRecDepth 100000 in
set_option maxHeartbeats 1000000 in
theorem ofPend_any (m : ByteArray) (w : World) : Calls Tryz.prog 19 #[.string m] w fun r w' => r = .returned (.agg #[.int .i64 6, .string m, .int .i64 0, .int .i64 0, .string ⟨#[]⟩]) ∧ Below w.heap.size w w' := by
  go_enter Tryz.func19, Tryz.ntmps19
  go_wp2
  refine bodyPost_ret (v := .agg #[.int .i64 6, .string m, .int .i64 0, .int .i64 0, .string ⟨#[]⟩]) (by simp [results, Tryz.results19, go_sem]) rfl ⟨rfl, ?_⟩
  exact (Below.refl _ _).alloc (Nat.le_refl _) _

/-- The view holds the record of m, if it is open; it has N calls. -/
structure HoldsR (V : AV) (N : Nat) (m : ByteArray) (o : Option RecT) : Prop where
  len : V.calls.length = N
  no : o = none → (avGet V (ofPendN m)).2 = false
  yes : ∀ p, o = some p → avGet V (ofPendN m) = (strOf (encRB p), true) ∧ checkR p = 0
theorem strOf_sizeR (l : List UInt8) : (strOf l).size = l.length := by rw [← size_toList]; rfl
theorem encRB_size (r : RecT) : (strOf (encRB r)).size ≤ 65536 := by
  rw [strOf_sizeR]
  exact Nat.le_trans (encRB_length r) (by decide)
theorem avGet_seenR (V : AV) (n : NameT) : avGet (avSeen V n) n = avGet V n := by
  unfold avGet avSeen
  cases h : lastCall V.calls n with
  | none => simp [h]
  | some c => simp [h]
theorem avGet_callR (V : AV) (n : NameT) (s : ByteArray) (a : Bool) : avGet ⟨V.base, V.reads, V.calls ++ [⟨n, s, a⟩]⟩ n = (s, !a) := by
  unfold avGet
  simp only [lastCall_snoc, if_true]
theorem avSeen_callsR (V : AV) (n : NameT) : (avSeen V n).calls = V.calls := by
  unfold avSeen
  split <;> rfl
variable {V : AV} {N : Nat} {m : ByteArray} {o : Option RecT}
theorem HoldsR.seen (h : HoldsR V N m o) : HoldsR (avSeen V (ofPendN m)) N m o :=
  ⟨by rw [avSeen_callsR]; exact h.len, fun e => by rw [avGet_seenR]; exact h.no e, fun p e => by rw [avGet_seenR]; exact h.yes p e⟩
theorem HoldsR.set (h : HoldsR V N m o) {p : RecT} (hc : checkR p = 0) : HoldsR ⟨V.base, V.reads, V.calls ++ [⟨ofPendN m, strOf (encRB p), false⟩]⟩ (N + 1) m (some p) :=
  ⟨by simp [h.len], (fun e => by cases e), (fun q e => by cases e; rw [avGet_callR]; exact ⟨rfl, hc⟩)⟩
theorem HoldsR.del (h : HoldsR V N m o) : HoldsR ⟨V.base, V.reads, V.calls ++ [⟨ofPendN m, ⟨#[]⟩, true⟩]⟩ (N + 1) m none :=
  ⟨by simp [h.len], fun _ => by rw [avGet_callR]; rfl, fun q e => by cases e⟩

/-- The view at b, made after w0, holds the record; the blocks of G are not the view's. -/
structure SR (w0 w : World) (b N : Nat) (m : ByteArray) (o : Option RecT) (G : Nat → Prop) : Prop where
  ex : ∃ V h, ViewAt w h V ∧ h.b = b ∧ w0.heap.size ≤ h.bs ∧ HoldsR V N m o ∧ ∀ k, G k → ¬ h.fp k ∧ k < w.heap.size ∧ h.bs ≤ k
  below : Below w0.heap.size w0 w
def SRP (w0 : World) (b N : Nat) (m : ByteArray) (o : Option RecT) (G : Nat → Prop) (w : World) (v : Value) (r : Ending) (w' : World) : Prop :=
  r = .returned v ∧ SR w0 w' b N m o G ∧ ∀ k, G k → w'.heap[k]? = w.heap[k]?
theorem sr_post {w0 w w' : World} {b N : Nat} {m : ByteArray} {o : Option RecT} {G : Nat → Prop} {V V' : AV} {h h' : VH} (hv : ViewAt w h V) (hb : h.b = b) (hbs : w0.heap.size ≤ h.bs) (hG : ∀ k, G k → ¬ h.fp k ∧ k < w.heap.size ∧ h.bs ≤ k) (hlow : Below w0.heap.size w0 w) (hp : VQ h (fun _ => False) w V' w' h') (hh : HoldsR V' N m o) :
    SR w0 w' b N m o G ∧ ∀ k, G k → w'.heap[k]? = w.heap[k]? := by
  refine ⟨⟨⟨V', h', hp.at_, hp.b.trans hb, by rw [hp.bs]; exact hbs, hh, fun k hk => ⟨fun hf => ?_, Nat.lt_of_lt_of_le (hG k hk).2.1 hp.kept.size, by rw [hp.bs]; exact (hG k hk).2.2⟩⟩, ?_⟩, fun k hk => hp.kept.block k (hG k hk).2.1 (fun hf => ?_)⟩
  · rcases hp.fp k hf with h1 | h1
    · exact (hG k hk).1 h1
    · have := (hG k hk).2.1; omega
  · refine hlow.trans (hp.kept.below (Nat.le_trans hbs hv.top) (fun k hk => ?_))
    rcases hk with h1 | h1
    · exact Nat.le_trans hbs (hv.lo k h1)
    · exact h1.elim
  · rcases hf with h1 | h1
    · exact (hG k hk).1 h1
    · exact h1
variable {w0 w w' : World} {b : Nat} {G G' : Nat → Prop}
theorem SR.later (s : SR w0 w b N m o G) (hb : Below w.heap.size w w') : SR w0 w' b N m o G := by
  obtain ⟨⟨V, h, hv, h1, h2, h3, h4⟩, h5⟩ := s
  exact ⟨⟨V, h, hv.later hb, h1, h2, h3, fun k hk => ⟨(h4 k hk).1, Nat.lt_of_lt_of_le (h4 k hk).2.1 hb.size, (h4 k hk).2.2⟩⟩, h5.trans (hb.mono h5.size)⟩
theorem SR.fresh (s : SR w0 w b N m o G) (hb : Below w.heap.size w w') (hG : ∀ k, G' k → G k ∨ (w.heap.size ≤ k ∧ k < w'.heap.size)) : SR w0 w' b N m o G' := by
  obtain ⟨⟨V, h, hv, h1, h2, h3, h4⟩, h5⟩ := s
  refine ⟨⟨V, h, hv.later hb, h1, h2, h3, fun k hk => ?_⟩, h5.trans (hb.mono h5.size)⟩
  rcases hG k hk with h | h
  · exact ⟨(h4 k h).1, Nat.lt_of_lt_of_le (h4 k h).2.1 hb.size, (h4 k h).2.2⟩
  · exact ⟨fun hf => by have := hv.fp_lt hf; omega, h.2, Nat.le_trans hv.top h.1⟩
theorem SR.guarded (s : SR w0 w b N m o G) (hk : Kept G w w') (hG : ∀ k, G' k → G k ∨ (w.heap.size ≤ k ∧ k < w'.heap.size)) : SR w0 w' b N m o G' := by
  obtain ⟨⟨V, h, hv, h1, h2, h3, h4⟩, h5⟩ := s
  refine ⟨⟨V, h, hv.kept (hk.below hv.top (fun k hs => (h4 k hs).2.2)) (fun k hf => hk.block k (hv.fp_lt hf) (fun hs => (h4 k hs).1 hf)), h1, h2, h3, fun k hs => ?_⟩, h5.trans (hk.below h5.size (fun k hs => Nat.le_trans h2 (h4 k hs).2.2))⟩
  rcases hG k hs with h | h
  · exact ⟨(h4 k h).1, Nat.lt_of_lt_of_le (h4 k h).2.1 hk.size, (h4 k h).2.2⟩
  · exact ⟨fun hf => by have := hv.fp_lt hf; omega, h.2, Nat.le_trans hv.top h.1⟩
theorem SR.check {p : RecT} (s : SR w0 w b N m (some p) G) : checkR p = 0 := by
  obtain ⟨⟨V, h, hv, h1, h2, h3, h4⟩, h5⟩ := s
  exact (h3.yes p rfl).2
theorem SR.usages (s : SR w0 w b N m o G) : Usages w := by
  obtain ⟨⟨V, h, hv, h1, h2, h3, h4⟩, h5⟩ := s
  exact hv.usages
theorem SR.view (s : SR w0 w b N m o G) : b < w.heap.size := by
  obtain ⟨⟨V, h, hv, h1, h2, h3, h4⟩, h5⟩ := s
  rw [← h1]; exact lt_of_heap hv.heap
theorem srNew (w : World) (hu : Usages w) (m : ByteArray) :
    Calls Tryz.prog 17 #[] w fun r w1 => r = .returned (.pointer (some ⟨w.heap.size, 0, none⟩)) ∧ Calls Tryz.prog 12 #[.pointer (some ⟨w.heap.size, 0, none⟩)] w1 fun r w2 => r = .returned (.pointer (some ⟨w.heap.size + 3, 0, none⟩)) ∧ SR w w2 (w.heap.size + 3) 0 m none (fun _ => False) := by
  refine (stateNew_any w).mono ?_
  rintro r w1 ⟨rfl, rfl⟩
  refine ⟨rfl, ?_⟩
  have hb1 : Below w.heap.size w (w.alloc (.cells #[.pointer none] 109)) := (Below.refl _ _).alloc (Nat.le_refl _) _
  have hbase : BaseOk (w.alloc (.cells #[.pointer none] 109)).heap.size (w.alloc (.cells #[.pointer none] 109)) w.heap.size (fun _ => none) := baseOk_empty w
  refine (viewNew_any w.heap.size (fun _ => none) _ (hu.below hb1 hu.pos) hbase).mono ?_
  rintro r w2 ⟨rfl, hb2, hv⟩
  have hsz : (w.alloc (.cells #[.pointer none] 109)).heap.size = w.heap.size + 1 := by simp
  refine ⟨by rw [hsz], ⟨⟨_, _, hv, by rw [hsz], by rw [hsz]; exact Nat.le_succ _, ?_, fun k hk => hk.elim⟩, hb1.trans (hb2.mono (by simp))⟩⟩
  exact ⟨rfl, fun _ => rfl, fun p e => by cases e⟩

section
variable (w0 w : World) (b N : Nat) (m : ByteArray) (o : Option RecT) (G : Nat → Prop) (s : SR w0 w b N m o G) (hm : validB m = true ∧ m.size ≤ 70368744177664)
include s hm
theorem srVGet : Calls Tryz.prog 47 #[.pointer (some ⟨b, 0, none⟩), .agg #[.int .i64 6, .string m, .int .i64 0, .int .i64 0, .string ⟨#[]⟩]] w fun r w' =>
    ∃ sv, r = .returned (.tuple #[.string sv, .bool o.isSome]) ∧ (∀ p, o = some p → sv = strOf (encRB p)) ∧ SR w0 w' b N m o G ∧ ∀ k, G k → w'.heap[k]? = w.heap[k]? := by
  obtain ⟨⟨V, h, hv, rfl, h2, h3, h4⟩, h5⟩ := s
  refine (vGet_any h V (ofPendN m) w hv (nameOk_pend hm)).mono ?_
  rintro r w' ⟨rfl, hp⟩
  obtain ⟨h', hp⟩ := hp.vq
  have hb : (avGet V (ofPendN m)).2 = o.isSome := by
    cases o with
    | none => exact h3.no rfl
    | some p => rw [(h3.yes p rfl).1]; rfl
  refine ⟨(avGet V (ofPendN m)).1, by rw [hb], fun p e => by rw [(h3.yes p e).1], sr_post hv rfl h2 h4 h5 hp h3.seen⟩
theorem srVSet (hN : N < 1000000) (p : RecT) (hc : checkR p = 0) : Calls Tryz.prog 74 #[.pointer (some ⟨b, 0, none⟩), .agg #[.int .i64 6, .string m, .int .i64 0, .int .i64 0, .string ⟨#[]⟩], .string (strOf (encRB p))] w (SRP w0 b (N + 1) m (some p) G w (.int .i64 0)) := by
  obtain ⟨⟨V, h, hv, rfl, h2, h3, h4⟩, h5⟩ := s
  refine (vSet_any h V (ofPendN m) _ w hv (nameOk_pend hm) (encRB_size p) (by rw [h3.len]; exact hN)).mono ?_
  rintro r w' ⟨rfl, hp⟩
  obtain ⟨h', hp⟩ := hp.vq
  exact ⟨rfl, sr_post hv rfl h2 h4 h5 hp (h3.set hc)⟩
theorem srVHas : Calls Tryz.prog 76 #[.pointer (some ⟨b, 0, none⟩), .agg #[.int .i64 6, .string m, .int .i64 0, .int .i64 0, .string ⟨#[]⟩]] w (SRP w0 b N m o G w (.bool o.isSome)) := by
  obtain ⟨⟨V, h, hv, rfl, h2, h3, h4⟩, h5⟩ := s
  refine (vHas_any h V (ofPendN m) w hv (nameOk_pend hm)).mono ?_
  rintro r w' ⟨rfl, hp⟩
  obtain ⟨h', hp⟩ := hp.vq
  have hb : (avGet V (ofPendN m)).2 = o.isSome := by
    cases o with
    | none => exact h3.no rfl
    | some p => rw [(h3.yes p rfl).1]; rfl
  rw [hb]
  exact ⟨rfl, sr_post hv rfl h2 h4 h5 hp h3.seen⟩
theorem srVDel (hN : N < 1000000) : Calls Tryz.prog 94 #[.pointer (some ⟨b, 0, none⟩), .agg #[.int .i64 6, .string m, .int .i64 0, .int .i64 0, .string ⟨#[]⟩]] w (SRP w0 b (N + 1) m none G w (.int .i64 0)) := by
  obtain ⟨⟨V, h, hv, rfl, h2, h3, h4⟩, h5⟩ := s
  refine (vDel_any h V (ofPendN m) w hv (nameOk_pend hm) (by rw [h3.len]; exact hN)).mono ?_
  rintro r w' ⟨rfl, hp⟩
  obtain ⟨h', hp⟩ := hp.vq
  exact ⟨rfl, sr_post hv rfl h2 h4 h5 hp h3.del⟩
end

end Go.Proofs.YtpieaakdddgdeaaGreatDoor
