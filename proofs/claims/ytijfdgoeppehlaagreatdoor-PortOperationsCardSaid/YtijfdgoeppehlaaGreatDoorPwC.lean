/- port: its functions upon a view whose value is known. (printed in part by wip/gen_pw.py) port: Receive upon a view whose value is known. (printed by wip/gen_pw.py) Law 37: an operation upon a view whose value is known. (printed by wip/gen_pc.py) Law 37: Get's operation; any operation upon a view whose value is known. -/
import Derived.Test.YtijfdgoeppehlaaGreatDoorPorM
import Derived.Test.YtijfdgoeppehlaaGreatDoorPorJ
import Derived.Test.YtijfdgoeppehlaaGreatDoorQmC
import Derived.Test.YtijfdgoeppehlaaGreatDoorPorN
namespace Go.Proofs.YtijfdgoeppehlaaGreatDoor
open Go.RowKit
attribute [local go_sem ↓] Go.wp_at_zero Go.wp_at_succ

/-- A view's value, upon a state of at most M objects. -/
structure NV where
  M : Nat
  V : AV
namespace NV
def seen (N : NV) (m : Int) : NV := ⟨N.M, avSeen N.V (ofPortN m)⟩
def put (N : NV) (m : Int) (p : PortT) : NV := ⟨N.M, ⟨N.V.base, N.V.reads, N.V.calls ++ [⟨ofPortN m, strOf (encQB p), false⟩]⟩⟩
def del (N : NV) (m : Int) : NV := ⟨N.M, ⟨N.V.base, N.V.reads, N.V.calls ++ [⟨ofPortN m, ⟨#[]⟩, true⟩]⟩⟩
/-- 0: not asked; 1: asked; 2: asked and written. -/
def step (N : NV) (m : Int) (d : Nat) (o : Option PortT) : NV := match d with
  | 0 => N
  | 1 => N.seen m
  | _ => match o with
    | some p => (N.seen m).put m p
    | none => (N.seen m).del m
theorem seen_lt {N : NV} {m : Int} (h : N.V.calls.length < 1000000) : (N.seen m).V.calls.length < 1000000 := by
  unfold seen
  rw [avSeen_callsQ]
  exact h
end NV
/-- What a view holds at the port m. -/
structure HoldsW (V : AV) (m : Int) (o : Option PortT) : Prop where
  no : o = none → (avGet V (ofPortN m)).2 = false ∨ ((decQ (avGet V (ofPortN m)).1).2 ≠ 0 ∧ (avGet V (ofPortN m)).1.size ≤ 65536)
  yes : ∀ p, o = some p → avGet V (ofPortN m) = (strOf (encQB p), true) ∧ checkQ p = 0 ∧ p.owner.size ≤ 64
section
variable {N : NV} {m : Int} {o : Option PortT}
theorem HoldsW.seen (h : HoldsW N.V m o) : HoldsW (N.seen m).V m o :=
  ⟨fun e => by unfold NV.seen; rw [avGet_seenQ]; exact h.no e, fun p e => by unfold NV.seen; rw [avGet_seenQ]; exact h.yes p e⟩
theorem HoldsW.set {p : PortT} (hc : checkQ p = 0) (ho : p.owner.size ≤ 64) : HoldsW (N.put m p).V m (some p) :=
  ⟨(fun e => by cases e), (fun q e => by cases e; unfold NV.put; rw [avGet_callQ]; exact ⟨rfl, hc, ho⟩)⟩
theorem HoldsW.del : HoldsW (N.del m).V m none :=
  ⟨fun _ => .inl (by unfold NV.del; rw [avGet_callQ]; rfl), fun q e => by cases e⟩
end
/-- The view at b holds the port. -/
structure SW (w0 w : World) (b : Nat) (N : NV) (m : Int) (o : Option PortT) (G : Nat → Prop) : Prop where
  qm : QM w0 w b N.M N.V G
  at_ : HoldsW N.V m o
def SWP (w0 : World) (b : Nat) (N : NV) (m : Int) (o : Option PortT) (G : Nat → Prop) (w : World) (v : Value) (r : Ending) (w' : World) : Prop :=
  r = .returned v ∧ SW w0 w' b N m o G ∧ ∀ k, G k → w'.heap[k]? = w.heap[k]?
section
variable {w0 w w' : World} {b : Nat} {N : NV} {m : Int} {o : Option PortT} {G G' : Nat → Prop}
theorem SW.later (s : SW w0 w b N m o G) (hb : Below w.heap.size w w') : SW w0 w' b N m o G := ⟨s.qm.later hb, s.at_⟩
theorem SW.fresh (s : SW w0 w b N m o G) (hb : Below w.heap.size w w') (hG : ∀ k, G' k → G k ∨ (w.heap.size ≤ k ∧ k < w'.heap.size)) : SW w0 w' b N m o G' := ⟨s.qm.fresh hb hG, s.at_⟩
theorem SW.guarded (s : SW w0 w b N m o G) (hk : Kept G w w') (hG : ∀ k, G' k → G k ∨ (w.heap.size ≤ k ∧ k < w'.heap.size)) : SW w0 w' b N m o G' := ⟨s.qm.guarded hk hG, s.at_⟩
theorem SW.check {p : PortT} (s : SW w0 w b N m (some p) G) : checkQ p = 0 ∧ p.owner.size ≤ 64 := (s.at_.yes p rfl).2
theorem SW.usages (s : SW w0 w b N m o G) : Usages w := s.qm.usages
theorem SW.gk (s : SW w0 w b N m o G) (hb : Below w.heap.size w w') : ∀ k, G k → w'.heap[k]? = w.heap[k]? := s.qm.gk hb
theorem SW.glt (s : SW w0 w b N m o G) : ∀ k, G k → k < w.heap.size := fun _ hk => s.qm.glt hk
end
section
variable (w0 w : World) (b : Nat) (N : NV) (m : Int) (o : Option PortT) (G : Nat → Prop) (s : SW w0 w b N m o G) (hm : 0 ≤ m ∧ m ≤ 1073741824)
include s hm
theorem swVGet : Calls Tryz.prog 52 #[.pointer (some ⟨b, 0, none⟩), .agg #[.int .i64 16, .string ⟨#[]⟩, .int .i64 m, .int .i64 0, .string ⟨#[]⟩]] w fun r w' =>
    ∃ sv t, r = .returned (.tuple #[.string sv, .bool t]) ∧ (∀ p, o = some p → sv = strOf (encQB p) ∧ t = true) ∧ (o = none → t = false ∨ (t = true ∧ (decQ sv).2 ≠ 0 ∧ sv.size ≤ 65536)) ∧ SW w0 w' b (N.seen m) m o G ∧ ∀ k, G k → w'.heap[k]? = w.heap[k]? := by
  refine (qmVGet s.qm (ofPortN m) (nameOk_port m hm.1 hm.2)).mono ?_
  rintro r w' ⟨rfl, hq, hk⟩
  refine ⟨(avGet N.V (ofPortN m)).1, (avGet N.V (ofPortN m)).2, rfl, fun p e => by rw [(s.at_.yes p e).1]; exact ⟨rfl, rfl⟩, fun e => ?_, ⟨hq, s.at_.seen⟩, hk⟩
  rcases s.at_.no e with h | h
  · exact .inl h
  · cases hc : (avGet N.V (ofPortN m)).2 with
    | false => exact .inl rfl
    | true => exact .inr ⟨rfl, h⟩
theorem swVSet (hN : N.V.calls.length < 1000000) (p : PortT) (hc : checkQ p = 0) (ho : p.owner.size ≤ 64) : Calls Tryz.prog 65 #[.pointer (some ⟨b, 0, none⟩), .agg #[.int .i64 16, .string ⟨#[]⟩, .int .i64 m, .int .i64 0, .string ⟨#[]⟩], .string (strOf (encQB p))] w (SWP w0 b (N.put m p) m (some p) G w (.int .i64 0)) := by
  refine (qmVSet s.qm (ofPortN m) (nameOk_port m hm.1 hm.2) _ (encQB_size hc ho) hN).mono ?_
  rintro r w' ⟨rfl, hq, hk⟩
  exact ⟨rfl, ⟨hq, HoldsW.set hc ho⟩, hk⟩
theorem swVDel (hN : N.V.calls.length < 1000000) : Calls Tryz.prog 51 #[.pointer (some ⟨b, 0, none⟩), .agg #[.int .i64 16, .string ⟨#[]⟩, .int .i64 m, .int .i64 0, .string ⟨#[]⟩]] w (SWP w0 b (N.del m) m none G w (.int .i64 0)) := by
  refine (qmVDel s.qm (ofPortN m) (nameOk_port m hm.1 hm.2) hN).mono ?_
  rintro r w' ⟨rfl, hq, hk⟩
  exact ⟨rfl, ⟨hq, HoldsW.del⟩, hk⟩
end

set_option maxRecDepth 100000 in
set_option maxHeartbeats 1600000 in
theorem swPut (w0 w : World) (b : Nat) (N : NV) (m : Int) (o : Option PortT) (G : Nat → Prop) (s : SW w0 w b N m o G) (hm : 0 ≤ m ∧ m ≤ 1073741824) (hN : N.V.calls.length < 1000000)
    (ow : ByteArray) (ep lo : Int) (a : Option Addr) (n c : Nat) (ls : List PackT) (hs : PSl w a n ls) (hc : checkQ ⟨ow, ep, lo, ls⟩ = 0) (ho : ow.size ≤ 64) :
    Calls Tryz.prog 37 #[.pointer (some ⟨b, 0, none⟩), .int .i64 m, .agg #[.string ow, .int .i64 ep, .int .i64 lo, .slice a n c]] w (SWP w0 b (N.put m ⟨ow, ep, lo, ls⟩) m (some ⟨ow, ep, lo, ls⟩) G w (.int .i64 0)) := by
  have Hs := Lib.hid hs; clear hs
  have Hc := Lib.hid hc; clear hc
  have S := Lib.hid s; clear s
  have he : Hid (encQ ⟨ow, ep, lo, ls⟩ = (strOf (encQB ⟨ow, ep, lo, ls⟩), 0)) := if_pos Hc.out
  have hk := checkQ_ok Hc.out
  have Hls : Hid (∀ x ∈ ls, x.src.size ≤ 70368744177664 ∧ x.bytes.size ≤ 70368744177664) := fun x hx => by have := packE_size (packsE_size hk.2.2.2.2 x hx); omega
  have hn : n ≤ 16 := by rw [← Hs.out.1]; exact hk.2.2.2.1
  clear hk
  have Ha : Hid (∀ o', Below w.heap.size w (w.alloc o')) := fun o' => (Below.refl _ _).alloc (Nat.le_refl _) _
  go_enter Tryz.func37, Tryz.ntmps37
  go_wp2_with fail
  refine (qEncode_any ow ep lo a n c ls _ (Hs.out.later (Ha.out _)) (by omega) (by omega) Hls.out).mono ?_
  rw [he.out]
  rintro r w1 ⟨rfl, hb1⟩
  have hb1' := (Ha.out _).trans (hb1.mono (Ha.out _).size)
  have S1 := Lib.hid (S.out.later hb1')
  have HG : Hid (∀ k, G k → w1.heap[k]? = w.heap[k]?) := S.out.gk hb1'
  clear hb1 hb1'
  go_wp2_with fail
  refine (ofPort_any m _).mono ?_
  rintro r w2 ⟨rfl, hb2⟩
  have S2 := Lib.hid (S1.out.later hb2)
  have HG2 : Hid (∀ k, G k → w2.heap[k]? = w.heap[k]?) := fun k hk => (S1.out.gk hb2 k hk).trans (HG.out k hk)
  clear hb2 S1 HG
  go_wp2_with fail
  refine (swVSet w0 w2 b N m o G S2.out hm hN _ Hc.out ho).mono ?_
  rintro r w3 ⟨rfl, s3, hk3⟩
  have S3 := Lib.hid s3; clear s3
  have HG3 : Hid (∀ k, G k → w3.heap[k]? = w.heap[k]?) := fun k hk => (hk3 k hk).trans (HG2.out k hk)
  clear hk3
  go_wp2
  go_ret
  exact ⟨rfl, S3.out, HG3.out⟩


/-- What Get leaves. -/
def WGetPost (w0 : World) (b : Nat) (N : NV) (m : Int) (o : Option PortT) (G : Nat → Prop) (w : World) (p : PortT) (q : Nat) (r : Ending) (w' : World) : Prop :=
  ∃ a n c, r = .returned (.tuple #[.agg #[.string p.owner, .int .i64 p.epoch, .int .i64 p.lost, .slice a n c], .int .i64 q]) ∧ PRow w' (.slice a n c) p.queue ∧ (∀ g, (Value.slice a n c).ownBlock = some g → w.heap.size ≤ g) ∧
    SW w0 w' b N m o (fun k => G k ∨ (Value.slice a n c).ownBlock = some k) ∧ ∀ k, G k → w'.heap[k]? = w.heap[k]?
theorem wget_fin {w0 w w3 w4 X : World} {b : Nat} {N : NV} {m : Int} {o : Option PortT} {G : Nat → Prop} {p : PortT} {q : Nat} {a : Option Addr} {n c : Nat} (hsz : w.heap.size ≤ w3.heap.size)
    (S3 : SW w0 w3 b N m o (fun k => G k ∨ k = w.heap.size)) (hG3 : ∀ k, G k → w3.heap[k]? = w.heap[k]?) (hGw : ∀ k, G k → k < w.heap.size) (hb : Below w3.heap.size w3 w4) (hg : w4.grownBy X (some w.heap.size))
    (hr : PRow w4 (.slice a n c) p.queue) (hl : ∀ g, (Value.slice a n c).ownBlock = some g → w3.heap.size ≤ g) :
    WGetPost w0 b N m o G w p q (.returned (.tuple #[.agg #[.string p.owner, .int .i64 p.epoch, .int .i64 p.lost, .slice a n c], .int .i64 q])) X := by
  have hlt : w.heap.size < w3.heap.size := S3.glt _ (.inr rfl)
  have hK : Kept (fun k => G k ∨ k = w.heap.size) w3 X := (Kept.of_below hb _).trans (Kept.of_grown hg _ (fun k hk => by cases hk; exact .inr rfl)) (fun _ _ hs => hs)
  have hrX : PRow X (.slice a n c) p.queue := hr.grown hg (fun k hk e => by cases hk; have := hl _ e; omega)
  refine ⟨a, n, c, rfl, hrX, fun g hg' => Nat.le_trans hsz (hl g hg'), S3.guarded hK (fun k hk => ?_), fun k hk => ?_⟩
  · rcases hk with h | h
    · exact .inl (.inl h)
    · obtain ⟨cur, hc⟩ := row_lt hrX h
      exact .inr ⟨hl k h, lt_of_heap hc⟩
  · have hkw := hGw k hk
    refine (hg.block k (Nat.lt_of_lt_of_le hkw (Nat.le_trans hsz hb.size)) (fun e => by cases e; exact absurd hkw (Nat.lt_irrefl _))).trans ((hb.block k (Nat.lt_of_lt_of_le hkw hsz)).trans (hG3 k hk))


set_option maxRecDepth 100000 in
set_option maxHeartbeats 1600000 in
theorem swGet (w0 w : World) (b : Nat) (N : NV) (m : Int) (o : Option PortT) (G : Nat → Prop) (s : SW w0 w b N m o G) (e : Int) (hm : 1 ≤ m ∧ m ≤ 9999) (he : numB e = true) (p : PortT) (q : Nat) (hst : qHas e o = (p, q)) :
    Calls Tryz.prog 29 #[.pointer (some ⟨b, 0, none⟩), .int .i64 m, .int .i64 e] w (WGetPost w0 b (N.seen m) m o G w p q) := by
  have Hargs : Hid (qArgs ⟨#[]⟩ m e = 0) := by
    show _ = _
    unfold qArgs
    rw [if_neg (by rw [valid_emp]; simp), if_neg (by rw [he]; simp; omega)]
  have Hst := Lib.hid hst; clear hst
  have HGw : Hid (∀ k, G k → k < w.heap.size) := s.glt
  have S0 : Hid (∀ o', SW w0 (w.alloc o') b N m o (fun k => G k ∨ k = w.heap.size)) := fun o' => s.fresh ((Below.refl _ _).alloc (Nat.le_refl _) _) (fun k hk => hk.imp id (fun h => by subst h; simp))
  have HG0 : Hid (∀ o', ∀ k, G k → (w.alloc o').heap[k]? = w.heap[k]?) := fun o' => s.gk ((Below.refl _ _).alloc (Nat.le_refl _) _)
  have HR0 : Hid (∀ o', (w.alloc o').heap[w.heap.size]? = some o') := fun o' => heap_alloc_new w o'
  clear s
  go_enter Tryz.func29, Tryz.ntmps29
  go_wp2_with fail
  refine (qCheck_any b ⟨#[]⟩ m e 0 Hargs.out _ (by decide)).mono ?_
  rintro r w1 ⟨rfl, hb⟩
  have S1 := Lib.hid ((S0.out _).later hb)
  have HG1 : Hid (∀ k, G k → w1.heap[k]? = w.heap[k]?) := fun k hk => ((S0.out _).gk hb k (.inl hk)).trans (HG0.out _ k hk)
  have HR1 := Lib.hid ((hb.block _ (lt_of_heap (HR0.out _))).trans (HR0.out _))
  have Hz1 : Hid (w.heap.size ≤ w1.heap.size) := Nat.le_of_lt (lt_of_heap HR1.out)
  clear hb S0 HG0 HR0
  go_wp2_with fail
  refine (ofPort_any m _).mono ?_
  rintro r w2 ⟨rfl, hb⟩
  have S2 := Lib.hid (S1.out.later hb)
  have HG2 : Hid (∀ k, G k → w2.heap[k]? = w.heap[k]?) := fun k hk => (S1.out.gk hb k (.inl hk)).trans (HG1.out k hk)
  have HR2 := Lib.hid ((hb.block _ (lt_of_heap HR1.out)).trans HR1.out)
  clear hb S1 HG1 HR1
  go_wp2_with fail
  refine (swVGet w0 w2 b N m o _ S2.out (by omega)).mono ?_
  rintro r w3 ⟨sv, tv, rfl, hsv, hno, s3, hk3⟩
  have S3 := Lib.hid s3
  have HG3 : Hid (∀ k, G k → w3.heap[k]? = w.heap[k]?) := fun k hk => (hk3 k (.inl hk)).trans (HG2.out k hk)
  have hR3 := (hk3 w.heap.size (.inr rfl)).trans HR2.out
  have Hsv := Lib.hid hsv
  have Hno := Lib.hid hno
  clear s3 hk3 S2 HG2 HR2 hsv hno Hz1
  have Hz3 : Hid (w.heap.size ≤ w3.heap.size) := Nat.le_of_lt (lt_of_heap hR3)
  have HR3 := Lib.hid hR3; clear hR3
  have HRR : Hid (w.heap.size = w.heap.size) := rfl
  obtain ⟨R, hRw⟩ : ∃ R, w.heap.size = R := ⟨_, rfl⟩
  rw [hRw] at HR3
  rw [hRw]
  have HRw := Lib.hid hRw; clear hRw HRR
  cases o with
  | none =>
    have hno := Hno.out rfl
    clear Hno Hsv
    rcases hno with rfl | ⟨rfl, hdq, hsz⟩
    · have hR3 := HR3.out
      have r0 : w3.cell? ⟨R, 0, none⟩ = some (.string ⟨#[]⟩) := cell_of_heap hR3 0
      have r1 : w3.cell? ⟨R, 1, none⟩ = some (.int .i64 0) := cell_of_heap hR3 1
      have r2 : w3.cell? ⟨R, 2, none⟩ = some (.int .i64 0) := cell_of_heap hR3 2
      have r3 : w3.cell? ⟨R, 3, none⟩ = some (.slice none 0 0) := cell_of_heap hR3 3
      have g0 : w3.frozen? ⟨R, 0, none⟩ = false := frozen_of_heap hR3 0
      have g1 : w3.frozen? ⟨R, 1, none⟩ = false := frozen_of_heap hR3 1
      have g2 : w3.frozen? ⟨R, 2, none⟩ = false := frozen_of_heap hR3 2
      have g3 : w3.frozen? ⟨R, 3, none⟩ = false := frozen_of_heap hR3 3
      clear hR3
      have hpq : p = zeroQ ∧ q = 8 := by have := Hst.out; simp only [qHas, Prod.mk.injEq] at this; exact ⟨this.1.symm, this.2.symm⟩
      obtain ⟨rfl, rfl⟩ := hpq
      go_wp2
      refine bodyPost_ret (v := .tuple #[.agg #[.string ⟨#[]⟩, .int .i64 0, .int .i64 0, .slice none 0 0], .int .i64 8]) (by simp [results, Tryz.results29, go_sem, r0, r1, r2, r3]) rfl ?_
      rw [← HRw.out]
      exact wget_fin (p := zeroQ) (q := 8) Hz3.out S3.out HG3.out HGw.out (Below.refl _ _) (grown_set4 _ _ _ _ _ _) (World.ownsRow_nil _ _ _ _) (fun g hg => by cases hg)
    · have Hdq := Lib.hid hdq; clear hdq
      have Hsz := Lib.hid hsz; clear hsz
      go_wp2_with fail
      refine (qDecode_any _ _ (by have := Hsz.out; omega)).mono ?_
      obtain ⟨⟨⟨ow, ep, lo, ls⟩, q'⟩, hdec⟩ : ∃ x, decQ sv = x := ⟨_, rfl⟩
      rw [hdec] at Hdq ⊢
      clear hdec
      rintro r w4 ⟨a, n, c, rfl, hrow, hl, hb⟩
      have Hrow := Lib.hid hrow; clear hrow
      have Hl := Lib.hid hl; clear hl
      have HB := Lib.hid hb
      have hR4 := (hb.block R (lt_of_heap HR3.out)).trans HR3.out
      clear hb
      have r0 : w4.cell? ⟨R, 0, none⟩ = some (.string ⟨#[]⟩) := cell_of_heap hR4 0
      have r1 : w4.cell? ⟨R, 1, none⟩ = some (.int .i64 0) := cell_of_heap hR4 1
      have r2 : w4.cell? ⟨R, 2, none⟩ = some (.int .i64 0) := cell_of_heap hR4 2
      have r3 : w4.cell? ⟨R, 3, none⟩ = some (.slice none 0 0) := cell_of_heap hR4 3
      have g0 : w4.frozen? ⟨R, 0, none⟩ = false := frozen_of_heap hR4 0
      have g1 : w4.frozen? ⟨R, 1, none⟩ = false := frozen_of_heap hR4 1
      have g2 : w4.frozen? ⟨R, 2, none⟩ = false := frozen_of_heap hR4 2
      have g3 : w4.frozen? ⟨R, 3, none⟩ = false := frozen_of_heap hR4 3
      have hlt4 := lt_of_heap hR4
      have hne := World.new_ne w4 ⟨R, 0, none⟩ r0
      have HR4 := Lib.hid hR4; clear hR4
      dsimp only at *
      have hq' : ((q' : Int) != 0) = true := bne_iff_ne.2 (by have := Hdq.out; omega)
      have hpq : p = zeroQ ∧ q = 8 := by have := Hst.out; simp only [qHas, Prod.mk.injEq] at this; exact ⟨this.1.symm, this.2.symm⟩
      obtain ⟨rfl, rfl⟩ := hpq
      go_wp2
      have x := qSet4_alloc HR4.out (.string ⟨#[]⟩) (.int .i64 0) (.int .i64 0) (.slice none 0 0) (.cells #[.string ow, .int .i64 ep, .int .i64 lo, .slice a n c] 80)
      have x0 := x 0
      have x1 := x 1
      have x2 := x 2
      have x3 := x 3
      dsimp at x0 x1 x2 x3
      refine bodyPost_ret (v := .tuple #[.agg #[.string ⟨#[]⟩, .int .i64 0, .int .i64 0, .slice none 0 0], .int .i64 8]) (by simp [results, Tryz.results29, go_sem, x0, x1, x2, x3]) rfl ?_
      rw [← HRw.out]
      exact wget_fin (p := zeroQ) (q := 8) Hz3.out S3.out HG3.out HGw.out HB.out (qGrown_set4_alloc _ _ _ _ _ _ _) (World.ownsRow_nil _ _ _ _) (fun g hg => by cases hg)
  | some p' =>
    obtain ⟨rfl, rfl⟩ := Hsv.out p' rfl
    clear Hno
    have hck := S3.out.check
    have hdec := qdec_enc p' hck.1 hck.2
    have hsz : (strOf (encQB p')).size ≤ 35184372088832 := Nat.le_trans (encQB_size hck.1 hck.2) (by decide)
    have Hdec := Lib.hid hdec; clear hdec hck Hsv
    go_wp2_with fail
    refine (qDecode_any _ _ hsz).mono ?_
    rw [Hdec.out]
    rintro r w4 ⟨a, n, c, rfl, hrow, hl, hb⟩
    have Hrow := Lib.hid hrow; clear hrow
    have Hl := Lib.hid hl; clear hl
    have HB := Lib.hid hb
    have hR4 := (hb.block R (lt_of_heap HR3.out)).trans HR3.out
    clear hb
    have r0 : w4.cell? ⟨R, 0, none⟩ = some (.string ⟨#[]⟩) := cell_of_heap hR4 0
    have r1 : w4.cell? ⟨R, 1, none⟩ = some (.int .i64 0) := cell_of_heap hR4 1
    have r2 : w4.cell? ⟨R, 2, none⟩ = some (.int .i64 0) := cell_of_heap hR4 2
    have r3 : w4.cell? ⟨R, 3, none⟩ = some (.slice none 0 0) := cell_of_heap hR4 3
    have g0 : w4.frozen? ⟨R, 0, none⟩ = false := frozen_of_heap hR4 0
    have g1 : w4.frozen? ⟨R, 1, none⟩ = false := frozen_of_heap hR4 1
    have g2 : w4.frozen? ⟨R, 2, none⟩ = false := frozen_of_heap hR4 2
    have g3 : w4.frozen? ⟨R, 3, none⟩ = false := frozen_of_heap hR4 3
    have hlt4 := lt_of_heap hR4
    have hne := World.new_ne w4 ⟨R, 0, none⟩ r0
    have HR4 := Lib.hid hR4; clear hR4
    obtain ⟨ow, ep, lo, ls⟩ := p'
    dsimp only at *
    by_cases hep : ep = e
    · subst hep
      have hpq : p = ⟨ow, ep, lo, ls⟩ ∧ q = 0 := by have := Hst.out; simp only [qHas, ne_eq, not_true_eq_false, if_false, Prod.mk.injEq] at this; exact ⟨this.1.symm, this.2.symm⟩
      obtain ⟨rfl, rfl⟩ := hpq
      go_wp2
      have x := qSet4_alloc HR4.out (.string ow) (.int .i64 ep) (.int .i64 lo) (.slice a n c) (.cells #[.string ow, .int .i64 ep, .int .i64 lo, .slice a n c] 80)
      have x0 := x 0
      have x1 := x 1
      have x2 := x 2
      have x3 := x 3
      dsimp at x0 x1 x2 x3
      refine bodyPost_ret (v := .tuple #[.agg #[.string ow, .int .i64 ep, .int .i64 lo, .slice a n c], .int .i64 0]) (by simp [results, Tryz.results29, go_sem, x0, x1, x2, x3]) rfl ?_
      rw [← HRw.out]
      exact wget_fin (p := ⟨ow, ep, lo, ls⟩) (q := 0) Hz3.out S3.out HG3.out HGw.out HB.out (qGrown_set4_alloc _ _ _ _ _ _ _) Hrow.out Hl.out
    · have hep' : (ep != e) = true := bne_iff_ne.2 hep
      have hpq : p = zeroQ ∧ q = 8 := by have := Hst.out; simp only [qHas, ne_eq, hep, not_false_eq_true, if_true, Prod.mk.injEq] at this; exact ⟨this.1.symm, this.2.symm⟩
      obtain ⟨rfl, rfl⟩ := hpq
      clear hep
      go_wp2
      have x := qSet4_alloc HR4.out (.string ⟨#[]⟩) (.int .i64 0) (.int .i64 0) (.slice none 0 0) (.cells #[.string ow, .int .i64 ep, .int .i64 lo, .slice a n c] 80)
      have x0 := x 0
      have x1 := x 1
      have x2 := x 2
      have x3 := x 3
      dsimp at x0 x1 x2 x3
      refine bodyPost_ret (v := .tuple #[.agg #[.string ⟨#[]⟩, .int .i64 0, .int .i64 0, .slice none 0 0], .int .i64 8]) (by simp [results, Tryz.results29, go_sem, x0, x1, x2, x3]) rfl ?_
      rw [← HRw.out]
      exact wget_fin (p := zeroQ) (q := 8) Hz3.out S3.out HG3.out HGw.out HB.out (qGrown_set4_alloc _ _ _ _ _ _ _) (World.ownsRow_nil _ _ _ _) (fun g hg => by cases hg)


def openW (who : ByteArray) (us m e : Int) (o : Option PortT) : Option PortT × Nat × Nat :=
  if qArgs who m e ≠ 0 then (o, qArgs who m e, 0) else if m ≤ 99 ∧ us ≠ 0 then (o, 14, 0) else if (qHas e o).2 = 0 then (o, 19, 1) else (some ⟨who, e, 0, []⟩, 0, 2)
set_option maxRecDepth 100000 in
set_option maxHeartbeats 1600000 in
theorem swOpen (w0 w : World) (b : Nat) (N : NV) (m : Int) (o : Option PortT) (G : Nat → Prop) (s : SW w0 w b N m o G) (hN : N.V.calls.length < 1000000) (who : ByteArray) (us e : Int) (hw : who.size ≤ 64) (o' : Option PortT) (q d : Nat) (hst : openW who us m e o = (o', q, d)) :
    Calls Tryz.prog 18 #[.pointer (some ⟨b, 0, none⟩), .string who, .agg #[.int .i64 us, .slice none 0 0], .int .i64 m, .int .i64 e] w (SWP w0 b (N.step m d o') m o' G w (.int .i64 q)) := by
  have Hst := Lib.hid hst; clear hst
  obtain ⟨qa, hqa⟩ : ∃ qa, qArgs who m e = qa := ⟨_, rfl⟩
  have Hqa := Lib.hid hqa; clear hqa
  have S0 : Hid (∀ o', SW w0 (w.alloc o') b N m o G) := fun o' => s.later ((Below.refl _ _).alloc (Nat.le_refl _) _)
  have HG0 : Hid (∀ o', ∀ k, G k → (w.alloc o').heap[k]? = w.heap[k]?) := fun o' => s.gk ((Below.refl _ _).alloc (Nat.le_refl _) _)
  have HU0 : Hid (∀ o', (w.alloc o').heap[w.heap.size]? = some o') := fun o' => heap_alloc_new w o'
  clear s
  go_enter Tryz.func18, Tryz.ntmps18
  go_wp2_with fail
  refine (qCheck_any b who m e qa Hqa.out _ (by omega)).mono ?_
  rintro r w1 ⟨rfl, hb⟩
  have S1 := Lib.hid ((S0.out _).later hb)
  have HG1 : Hid (∀ k, G k → w1.heap[k]? = w.heap[k]?) := fun k hk => ((S0.out _).gk hb k hk).trans (HG0.out _ k hk)
  have u0 : w1.cell? ⟨w.heap.size, 0, none⟩ = some (.int .i64 us) := cell_of_heap ((hb.block _ (lt_of_heap (HU0.out _))).trans (HU0.out _)) 0
  clear hb S0 HG0 HU0
  by_cases h0 : qa = 0
  · subst h0
    obtain ⟨hv, hm, he⟩ := qArgs_ok Hqa.out
    have Hck := Lib.hid (open_check Hqa.out)
    by_cases h1 : m ≤ 99 ∧ us ≠ 0
    · have hr : o' = o ∧ q = 14 ∧ d = 0 := by
        have := Hst.out
        unfold openW at this
        rw [Hqa.out, if_neg (by simp), if_pos h1] at this
        simp only [Prod.mk.injEq] at this
        exact ⟨this.1.symm, this.2.1.symm, this.2.2.symm⟩
      obtain ⟨rfl, rfl, rfl⟩ := hr
      obtain ⟨h2, h3⟩ := h1
      have h3' : (us != 0) = true := bne_iff_ne.2 h3
      clear h3
      go_wp2
      go_ret
      exact ⟨rfl, S1.out, HG1.out⟩
    · have hways : 99 < m ∨ (m ≤ 99 ∧ us = 0) := by omega
      obtain ⟨p, g, hpg⟩ : ∃ p g, qHas e o = (p, g) := ⟨_, _, rfl⟩
      have Hpg := Lib.hid hpg; clear hpg
      have Hst2 : Hid ((if g = 0 then (o, 19, 1) else (some ⟨who, e, 0, []⟩, 0, 2)) = (o', q, d)) := by
        have := Hst.out
        unfold openW at this
        rw [Hqa.out, if_neg (by simp), if_neg h1, Hpg.out] at this
        exact this
      clear h1 Hst
      rcases hways with h1 | ⟨h1, rfl⟩
      all_goals
        go_wp2_with fail
        refine (swGet w0 w1 b N m o G S1.out e hm he p g Hpg.out).mono ?_
        rintro r w2 ⟨a, n, c, rfl, hrow, hl, s2, hk2⟩
        have S2 : Hid (∀ o'', SW w0 (w2.alloc o'') b (N.seen m) m o G) := fun o'' => s2.fresh ((Below.refl _ _).alloc (Nat.le_refl _) _) (fun k hk => .inl (.inl hk))
        have HG2 : Hid (∀ o'', ∀ k, G k → (w2.alloc o'').heap[k]? = w.heap[k]?) := fun o'' k hk => (s2.gk ((Below.refl _ _).alloc (Nat.le_refl _) _) k (.inl hk)).trans ((hk2 k hk).trans (HG1.out k hk))
        clear hrow hl s2 hk2
        by_cases hg : g = 0
        · subst hg
          have hr : o' = o ∧ q = 19 ∧ d = 1 := by
            have := Hst2.out
            simp only [if_true, Prod.mk.injEq] at this
            exact ⟨this.1.symm, this.2.1.symm, this.2.2.symm⟩
          obtain ⟨rfl, rfl, rfl⟩ := hr
          go_wp2
          go_ret
          exact ⟨rfl, S2.out _, HG2.out _⟩
        · have hr : o' = some ⟨who, e, 0, []⟩ ∧ q = 0 ∧ d = 2 := by
            have := Hst2.out
            rw [if_neg hg] at this
            simp only [Prod.mk.injEq] at this
            exact ⟨this.1.symm, this.2.1.symm, this.2.2.symm⟩
          obtain ⟨rfl, rfl, rfl⟩ := hr
          have hg' : ((g : Int) == 0) = false := beq_eq_false_iff_ne.2 (by omega)
          clear hg
          go_wp2_with fail
          refine (swPut w0 _ b (N.seen m) m o G (S2.out _) (by omega) (NV.seen_lt hN) who e 0 none 0 0 [] (PSl.nil _) Hck.out hw).mono ?_
          rintro r w3 ⟨rfl, s3, hk3⟩
          have S3 := Lib.hid s3
          have HG3 : Hid (∀ k, G k → w3.heap[k]? = w.heap[k]?) := fun k hk => (hk3 k hk).trans (HG2.out _ k hk)
          clear s3 hk3
          go_wp2
          go_ret
          exact ⟨rfl, S3.out, HG3.out⟩
  · have hr : o' = o ∧ q = qa ∧ d = 0 := by
      have := Hst.out
      unfold openW at this
      rw [Hqa.out, if_pos h0] at this
      simp only [Prod.mk.injEq] at this
      exact ⟨this.1.symm, this.2.1.symm, this.2.2.symm⟩
    obtain ⟨rfl, rfl, rfl⟩ := hr
    have h0' : ((q : Int) != 0) = true := bne_iff_ne.2 (by omega)
    clear h0
    go_wp2
    go_ret
    exact ⟨rfl, S1.out, HG1.out⟩


def closeW (who : ByteArray) (m e : Int) (o : Option PortT) : Option PortT × Nat × Nat :=
  if qArgs who m e ≠ 0 then (o, qArgs who m e, 0) else if (qHas e o).2 ≠ 0 then (o, (qHas e o).2, 1) else if (qHas e o).1.owner ≠ who then (o, 14, 1) else (none, 0, 2)
set_option maxRecDepth 100000 in
set_option maxHeartbeats 1600000 in
theorem swClose (w0 w : World) (b : Nat) (N : NV) (m : Int) (o : Option PortT) (G : Nat → Prop) (s : SW w0 w b N m o G) (hN : N.V.calls.length < 1000000) (who : ByteArray) (e : Int) (hw : who.size ≤ 64) (o' : Option PortT) (q d : Nat) (hst : closeW who m e o = (o', q, d)) :
    Calls Tryz.prog 27 #[.pointer (some ⟨b, 0, none⟩), .string who, .int .i64 m, .int .i64 e] w (SWP w0 b (N.step m d o') m o' G w (.int .i64 q)) := by
  have Hst := Lib.hid hst; clear hst
  obtain ⟨qa, hqa⟩ : ∃ qa, qArgs who m e = qa := ⟨_, rfl⟩
  have Hqa := Lib.hid hqa; clear hqa
  have S0 := Lib.hid s; clear s
  go_enter Tryz.func27, Tryz.ntmps27
  go_wp2_with fail
  refine (qCheck_any b who m e qa Hqa.out _ (by omega)).mono ?_
  rintro r w1 ⟨rfl, hb⟩
  have S1 := Lib.hid (S0.out.later hb)
  have HG1 : Hid (∀ k, G k → w1.heap[k]? = w.heap[k]?) := S0.out.gk hb
  clear hb S0
  by_cases h0 : qa = 0
  · subst h0
    obtain ⟨hv, hm, he⟩ := qArgs_ok Hqa.out
    obtain ⟨p, g, hpg⟩ : ∃ p g, qHas e o = (p, g) := ⟨_, _, rfl⟩
    have Hpg := Lib.hid hpg; clear hpg
    have Hst2 : Hid ((if g ≠ 0 then (o, g, 1) else if p.owner ≠ who then (o, 14, 1) else (none, 0, 2)) = (o', q, d)) := by
      have := Hst.out
      unfold closeW at this
      rw [Hqa.out, if_neg (by simp), Hpg.out] at this
      exact this
    clear Hst
    go_wp2_with fail
    refine (swGet w0 w1 b N m o G S1.out e hm he p g Hpg.out).mono ?_
    rintro r w2 ⟨a, n, c, rfl, hrow, hl, s2, hk2⟩
    have S2 : Hid (∀ o'', SW w0 (w2.alloc o'') b (N.seen m) m o G) := fun o'' => s2.fresh ((Below.refl _ _).alloc (Nat.le_refl _) _) (fun k hk => .inl (.inl hk))
    have HG2 : Hid (∀ o'', ∀ k, G k → (w2.alloc o'').heap[k]? = w.heap[k]?) := fun o'' k hk => (s2.gk ((Below.refl _ _).alloc (Nat.le_refl _) _) k (.inl hk)).trans ((hk2 k hk).trans (HG1.out k hk))
    clear hrow hl s2 hk2
    obtain ⟨ow, ep, lo, ls⟩ := p
    dsimp only at *
    by_cases hg : g = 0
    · subst hg
      by_cases hw2 : ow = who
      · subst hw2
        have hr : o' = none ∧ q = 0 ∧ d = 2 := by
          have := Hst2.out
          simp only [ne_eq, not_true_eq_false, if_false, Prod.mk.injEq] at this
          exact ⟨this.1.symm, this.2.1.symm, this.2.2.symm⟩
        obtain ⟨rfl, rfl, rfl⟩ := hr
        go_wp2_with fail
        refine (ofPort_any m _).mono ?_
        rintro r w3 ⟨rfl, hb⟩
        have S3 := Lib.hid ((S2.out _).later hb)
        have HG3 : Hid (∀ k, G k → w3.heap[k]? = w.heap[k]?) := fun k hk => ((S2.out _).gk hb k hk).trans (HG2.out _ k hk)
        clear hb
        go_wp2_with fail
        refine (swVDel w0 w3 b (N.seen m) m o G S3.out (by omega) (NV.seen_lt hN)).mono ?_
        rintro r w4 ⟨rfl, s4, hk4⟩
        have S4 := Lib.hid s4
        have HG4 : Hid (∀ k, G k → w4.heap[k]? = w.heap[k]?) := fun k hk => (hk4 k hk).trans (HG3.out k hk)
        clear s4 hk4
        go_wp2
        go_ret
        exact ⟨rfl, S4.out, HG4.out⟩
      · have hr : o' = o ∧ q = 14 ∧ d = 1 := by
          have := Hst2.out
          simp only [ne_eq, not_true_eq_false, if_false, hw2, not_false_eq_true, if_true, Prod.mk.injEq] at this
          exact ⟨this.1.symm, this.2.1.symm, this.2.2.symm⟩
        obtain ⟨rfl, rfl, rfl⟩ := hr
        have hx : (ow.toList == who.toList) = false := by rw [str_beq]; exact decide_eq_false hw2
        clear hw2
        go_wp2
        go_ret
        exact ⟨rfl, S2.out _, HG2.out _⟩
    · have hr : o' = o ∧ q = g ∧ d = 1 := by
        have := Hst2.out
        rw [if_pos hg] at this
        simp only [Prod.mk.injEq] at this
        exact ⟨this.1.symm, this.2.1.symm, this.2.2.symm⟩
      obtain ⟨rfl, rfl, rfl⟩ := hr
      have hg' : ((q : Int) != 0) = true := bne_iff_ne.2 (by omega)
      clear hg
      go_wp2
      go_ret
      exact ⟨rfl, S2.out _, HG2.out _⟩
  · have hr : o' = o ∧ q = qa ∧ d = 0 := by
      have := Hst.out
      unfold closeW at this
      rw [Hqa.out, if_pos h0] at this
      simp only [Prod.mk.injEq] at this
      exact ⟨this.1.symm, this.2.1.symm, this.2.2.symm⟩
    obtain ⟨rfl, rfl, rfl⟩ := hr
    have h0' : ((q : Int) != 0) = true := bne_iff_ne.2 (by omega)
    clear h0
    go_wp2
    go_ret
    exact ⟨rfl, S1.out, HG1.out⟩


def arriveW (x : PackT) (m e : Int) (o : Option PortT) : Option PortT × Nat × Nat :=
  if qArgs ⟨#[]⟩ m e ≠ 0 then (o, qArgs ⟨#[]⟩ m e, 0) else if packE x ≠ 0 then (o, packE x, 0) else if (qHas e o).2 ≠ 0 then (o, (qHas e o).2, 1)
  else if (qHas e o).1.queue.length < 16 then (some ⟨(qHas e o).1.owner, (qHas e o).1.epoch, (qHas e o).1.lost, (qHas e o).1.queue ++ [x]⟩, 0, 2)
  else if (qHas e o).1.lost < 1073741824 then (some ⟨(qHas e o).1.owner, (qHas e o).1.epoch, (qHas e o).1.lost + 1, (qHas e o).1.queue⟩, 9, 2) else (o, 9, 1)
set_option maxRecDepth 100000 in
set_option maxHeartbeats 1600000 in
theorem swArrive (w0 w : World) (b : Nat) (N : NV) (m : Int) (o : Option PortT) (G : Nat → Prop) (s : SW w0 w b N m o G) (hN : N.V.calls.length < 1000000) (src by_ : ByteArray) (e : Int) (hsr : src.size ≤ 9223372036854775807) (hby : by_.size ≤ 9223372036854775807) (o' : Option PortT) (q d : Nat) (hst : arriveW ⟨src, by_⟩ m e o = (o', q, d)) :
    Calls Tryz.prog 19 #[.pointer (some ⟨b, 0, none⟩), .int .i64 m, .int .i64 e, .agg #[.string src, .string by_]] w (SWP w0 b (N.step m d o') m o' G w (.int .i64 q)) := by
  have Hst := Lib.hid hst; clear hst
  obtain ⟨qa, hqa⟩ : ∃ qa, qArgs ⟨#[]⟩ m e = qa := ⟨_, rfl⟩
  have Hqa := Lib.hid hqa; clear hqa
  have S0 : Hid (∀ o', SW w0 (w.alloc o') b N m o (fun k => G k ∨ k = w.heap.size)) := fun o' => s.fresh ((Below.refl _ _).alloc (Nat.le_refl _) _) (fun k hk => hk.imp id (fun h => by subst h; simp))
  have HG0 : Hid (∀ o', ∀ k, G k → (w.alloc o').heap[k]? = w.heap[k]?) := fun o' => s.gk ((Below.refl _ _).alloc (Nat.le_refl _) _)
  have HU0 : Hid (∀ o', (w.alloc o').heap[w.heap.size]? = some o') := fun o' => heap_alloc_new w o'
  clear s
  go_enter Tryz.func19, Tryz.ntmps19
  go_wp2_with fail
  refine (qCheck_any b ⟨#[]⟩ m e qa Hqa.out _ (by decide)).mono ?_
  rintro r w1 ⟨rfl, hb⟩
  have S1 := Lib.hid ((S0.out _).later hb)
  have HG1 : Hid (∀ k, G k → w1.heap[k]? = w.heap[k]?) := fun k hk => ((S0.out _).gk hb k (.inl hk)).trans (HG0.out _ k hk)
  have HU1 := Lib.hid ((hb.block _ (lt_of_heap (HU0.out _))).trans (HU0.out _))
  clear hb S0 HG0 HU0
  by_cases h0 : qa = 0
  · subst h0
    obtain ⟨-, hm, he⟩ := qArgs_ok Hqa.out
    have u0 : w1.cell? ⟨w.heap.size, 0, none⟩ = some (.string src) := cell_of_heap HU1.out 0
    have u1 : w1.cell? ⟨w.heap.size, 1, none⟩ = some (.string by_) := cell_of_heap HU1.out 1
    obtain ⟨pe, hpe⟩ : ∃ pe, packE ⟨src, by_⟩ = pe := ⟨_, rfl⟩
    have Hpe := Lib.hid hpe; clear hpe
    go_wp2_with fail
    refine (packCheck_is src by_ pe Hpe.out _ hsr hby).mono ?_
    rintro r w2 ⟨rfl, hb⟩
    have S2 := Lib.hid (S1.out.later hb)
    have HG2 : Hid (∀ k, G k → w2.heap[k]? = w.heap[k]?) := fun k hk => (S1.out.gk hb k (.inl hk)).trans (HG1.out k hk)
    have HU2 := Lib.hid ((hb.block _ (lt_of_heap HU1.out)).trans HU1.out)
    clear hb S1 HG1 HU1 u0 u1
    by_cases h1 : pe = 0
    · subst h1
      obtain ⟨p, g, hpg⟩ : ∃ p g, qHas e o = (p, g) := ⟨_, _, rfl⟩
      have Hpg := Lib.hid hpg; clear hpg
      have Hst2 : Hid ((if g ≠ 0 then (o, g, 1) else if p.queue.length < 16 then (some ⟨p.owner, p.epoch, p.lost, p.queue ++ [⟨src, by_⟩]⟩, 0, 2) else if p.lost < 1073741824 then (some ⟨p.owner, p.epoch, p.lost + 1, p.queue⟩, 9, 2) else (o, 9, 1)) = (o', q, d)) := by
        have := Hst.out
        unfold arriveW at this
        rw [Hqa.out, if_neg (by simp), Hpe.out, if_neg (by simp), Hpg.out] at this
        exact this
      clear Hst
      go_wp2_with fail
      refine (swGet w0 w2 b N m o _ S2.out e hm he p g Hpg.out).mono ?_
      rintro r w3 ⟨a, n, c, rfl, hrow, hl, s3, hk3⟩
      have HU3 := Lib.hid ((hk3 _ (.inr rfl)).trans HU2.out)
      have HG3 : Hid (∀ k, G k → w3.heap[k]? = w.heap[k]?) := fun k hk => (hk3 k (.inl hk)).trans (HG2.out k hk)
      have S3 := Lib.hid s3
      have Hrow := Lib.hid hrow
      have Hgl : Hid (∀ k, G k → (Value.slice a n c).ownBlock ≠ some k) := fun k hk e => by have h1 := hl k e; have h2 := S2.out.glt k (.inl hk); omega
      clear hrow hl s3 hk3 S2 HG2 HU2
      have S3a : Hid (∀ o'', SW w0 (w3.alloc o'') b (N.seen m) m o G) := fun o'' => S3.out.fresh ((Below.refl _ _).alloc (Nat.le_refl _) _) (fun k hk => .inl (.inl (.inl hk)))
      have HG3a : Hid (∀ o'', ∀ k, G k → (w3.alloc o'').heap[k]? = w.heap[k]?) := fun o'' k hk => (S3.out.gk ((Below.refl _ _).alloc (Nat.le_refl _) _) k (.inl (.inl hk))).trans (HG3.out k hk)
      obtain ⟨ow, ep, lo, ls⟩ := p
      dsimp only at *
      by_cases hg : g = 0
      · subst hg
        obtain ⟨rfl, rfl⟩ := qHas_some Hpg.out
        have hck := S3.out.check
        have hk := checkQ_ok hck.1
        have how := hck.2
        dsimp only at hk how
        obtain ⟨hk1, hk2, hk3, hk4, hk5⟩ := hk
        have hln : ls.length = n := Hrow.out.sl.1
        have HPa : Hid (∀ o'', PSl (w3.alloc o'') a n ls) := fun o'' => Hrow.out.sl.later ((Below.refl _ _).alloc (Nat.le_refl _) _)
        clear hck
        by_cases h2 : n < 16
        · have hr : o' = some ⟨ow, ep, lo, ls ++ [⟨src, by_⟩]⟩ ∧ q = 0 ∧ d = 2 := by
            have := Hst2.out
            rw [if_neg (by simp), if_pos (by omega)] at this
            simp only [Prod.mk.injEq] at this
            exact ⟨this.1.symm, this.2.1.symm, this.2.2.symm⟩
          obtain ⟨rfl, rfl, rfl⟩ := hr
          have Hck : Hid (checkQ ⟨ow, ep, lo, ls ++ [⟨src, by_⟩]⟩ = 0) := checkQ_mk hk1 hk2 hk3 (by simp; omega) (packsE_snoc hk5 Hpe.out)
          have Hl : Hid (ls.length ≤ 1000000) := by show _ ≤ _; omega
          clear hk1 hk5 hk4 hln Hst2
          have hltU := lt_of_heap HU3.out
          have u0 : w3.cell? ⟨w.heap.size, 0, none⟩ = some (.string src) := cell_of_heap HU3.out 0
          have u1 : w3.cell? ⟨w.heap.size, 1, none⟩ = some (.string by_) := cell_of_heap HU3.out 1
          have hne := World.new_ne w3 ⟨w.heap.size, 0, none⟩ u0
          have HBx : Hid (∀ o1 o2, ((w3.alloc o1).alloc o2).heap[w3.heap.size]? = some o1) := fun o1 o2 => (Below.heap_alloc _ _ _ (by simp)).trans (World.alloc_heap_new w3 _)
          have Hrowb : Hid (∀ o1 o2, PRow ((w3.alloc o1).alloc o2) (.slice a n c) ls) := fun o1 o2 => World.ownsRow.alloc (World.ownsRow.alloc Hrow.out o1) o2
          have Hown : Hid (∀ k, (Value.slice a n c).ownBlock = some k → k < w3.heap.size) := fun k hk => by obtain ⟨cur, hc⟩ := row_lt Hrow.out hk; exact lt_of_heap hc
          have Hne2 : Hid (∀ o1 o2, ((w3.alloc o1).alloc o2).heap.size = w3.heap.size + 1 + 1) := fun o1 o2 => by simp
          have Hnew : Hid (∀ o1 o2, ((w3.alloc o1).alloc o2).heap[w3.heap.size + 1]? = some o2) := fun o1 o2 => by have := World.alloc_heap_new (w3.alloc o1) o2; rwa [World.size_alloc] at this
          go_wp2_with (at_builtin; refine wpList_append_pack (by rfl) _ _ (by rfl) (.slice a n c) ls (by rfl) (Hrowb.out _ _) ⟨src, by_⟩ (w3.heap.size + 1) (by rfl) (Hnew.out _ _) Hl.out ?_; intro g m2 cap w5 hrow5 hg5 hat5; have hB5 := (hg5.block w3.heap.size (by simp; omega) (fun e => absurd (Hown.out _ e.symm) (Nat.lt_irrefl _))).trans (HBx.out _ _); have b0 : w5.cell? ⟨w3.heap.size, 0, none⟩ = some (.string ow) := cell_of_heap hB5 0; have b1 : w5.cell? ⟨w3.heap.size, 1, none⟩ = some (.int .i64 ep) := cell_of_heap hB5 1; have b2 : w5.cell? ⟨w3.heap.size, 2, none⟩ = some (.int .i64 lo) := cell_of_heap hB5 2; have b3 : w5.cell? ⟨w3.heap.size, 3, none⟩ = some (.slice a n c) := cell_of_heap hB5 3; have f3 : w5.frozen? ⟨w3.heap.size, 3, none⟩ = false := frozen_of_heap hB5 3; have Hrow5 := Lib.hid hrow5; have Hg5 := Lib.hid hg5; have Hat5 := Lib.hid hat5; clear hrow5 hg5 hat5 hB5)
          have hgB : g ≠ w3.heap.size := by
            rcases Hat5.out with h | h
            · have := Hown.out g h; omega
            · rw [h, Hne2.out]; omega
          have HK := Lib.hid (arr_kept (i := 3) (v := .slice (some ⟨g, 0, none⟩) m2 cap) Hg5.out)
          have S6 : Hid (SW w0 (w5.setCell ⟨w3.heap.size, 3, none⟩ (.slice (some ⟨g, 0, none⟩) m2 cap)) b (N.seen m) m (some ⟨ow, ep, lo, ls⟩) G) := S3.out.guarded (HK.out.mono (fun k _ hk => .inr hk)) (fun k hk => .inl (.inl (.inl hk)))
          have HP6 : Hid (PSl (w5.setCell ⟨w3.heap.size, 3, none⟩ (.slice (some ⟨g, 0, none⟩) m2 cap)) (some ⟨g, 0, none⟩) m2 (ls ++ [⟨src, by_⟩])) := (Hrow5.out.grown (grown_setCell _ _ _ _) (fun k hk e => by cases hk; exact hgB (by simpa [Value.ownBlock] using e))).sl
          have HG6 : Hid (∀ k, G k → (w5.setCell ⟨w3.heap.size, 3, none⟩ (.slice (some ⟨g, 0, none⟩) m2 cap)).heap[k]? = w.heap[k]?) := fun k hk => (HK.out.block k (S3.out.glt k (.inl (.inl hk))) (Hgl.out k hk)).trans (HG3.out k hk)
          clear b0 b1 b2 b3 f3 u0 u1
          generalize w5.setCell ⟨w3.heap.size, 3, none⟩ (.slice (some ⟨g, 0, none⟩) m2 cap) = w6 at *
          refine (swPut w0 w6 b (N.seen m) m _ G S6.out (by omega) (NV.seen_lt hN) ow ep lo _ m2 cap _ HP6.out Hck.out how).mono ?_
          rintro r w7 ⟨rfl, s7, hk7⟩
          have S7 := Lib.hid s7
          have HG7 : Hid (∀ k, G k → w7.heap[k]? = w.heap[k]?) := fun k hk => (hk7 k hk).trans (HG6.out k hk)
          clear s7 hk7
          go_wp2
          go_ret
          exact ⟨rfl, S7.out, HG7.out⟩
        · by_cases h3 : lo < 1073741824
          · have hr : o' = some ⟨ow, ep, lo + 1, ls⟩ ∧ q = 9 ∧ d = 2 := by
              have := Hst2.out
              rw [if_neg (by simp), if_neg (by omega), if_pos h3] at this
              simp only [Prod.mk.injEq] at this
              exact ⟨this.1.symm, this.2.1.symm, this.2.2.symm⟩
            obtain ⟨rfl, rfl, rfl⟩ := hr
            have Hck : Hid (checkQ ⟨ow, ep, lo + 1, ls⟩ = 0) := checkQ_mk hk1 hk2 (by dsimp only; omega) hk4 hk5
            clear hk1 hk5 hk4 hln Hst2
            go_wp2_with fail
            refine (swPut w0 _ b (N.seen m) m _ G (S3a.out _) (by omega) (NV.seen_lt hN) ow ep (lo + 1) _ n c _ (HPa.out _) Hck.out how).mono ?_
            rintro r w7 ⟨rfl, s7, hk7⟩
            have S7 := Lib.hid s7
            have HG7 : Hid (∀ k, G k → w7.heap[k]? = w.heap[k]?) := fun k hk => (hk7 k hk).trans (HG3a.out _ k hk)
            clear s7 hk7
            go_wp2
            go_ret
            exact ⟨rfl, S7.out, HG7.out⟩
          · have hr : o' = some ⟨ow, ep, lo, ls⟩ ∧ q = 9 ∧ d = 1 := by
              have := Hst2.out
              rw [if_neg (by simp), if_neg (by omega), if_neg h3] at this
              simp only [Prod.mk.injEq] at this
              exact ⟨this.1.symm, this.2.1.symm, this.2.2.symm⟩
            obtain ⟨rfl, rfl, rfl⟩ := hr
            clear hk1 hk5 hk4 hln Hst2
            go_wp2
            go_ret
            exact ⟨rfl, S3a.out _, HG3a.out _⟩
      · have hr : o' = o ∧ q = g ∧ d = 1 := by
          have := Hst2.out
          rw [if_pos hg] at this
          simp only [Prod.mk.injEq] at this
          exact ⟨this.1.symm, this.2.1.symm, this.2.2.symm⟩
        obtain ⟨rfl, rfl, rfl⟩ := hr
        have hg' : ((q : Int) != 0) = true := bne_iff_ne.2 (by omega)
        clear hg
        go_wp2
        go_ret
        exact ⟨rfl, S3a.out _, HG3a.out _⟩
    · have hr : o' = o ∧ q = pe ∧ d = 0 := by
        have := Hst.out
        unfold arriveW at this
        rw [Hqa.out, if_neg (by simp), Hpe.out, if_pos h1] at this
        simp only [Prod.mk.injEq] at this
        exact ⟨this.1.symm, this.2.1.symm, this.2.2.symm⟩
      obtain ⟨rfl, rfl, rfl⟩ := hr
      have h1' : ((q : Int) != 0) = true := bne_iff_ne.2 (by omega)
      have S2' : Hid (SW w0 w2 b N m o' G) := S2.out.fresh (Below.refl _ _) (fun k hk => .inl (.inl hk))
      clear h1
      go_wp2
      go_ret
      exact ⟨rfl, S2'.out, HG2.out⟩
  · have hr : o' = o ∧ q = qa ∧ d = 0 := by
      have := Hst.out
      unfold arriveW at this
      rw [Hqa.out, if_pos h0] at this
      simp only [Prod.mk.injEq] at this
      exact ⟨this.1.symm, this.2.1.symm, this.2.2.symm⟩
    obtain ⟨rfl, rfl, rfl⟩ := hr
    have h0' : ((q : Int) != 0) = true := bne_iff_ne.2 (by omega)
    have S1' : Hid (SW w0 w1 b N m o' G) := S1.out.fresh (Below.refl _ _) (fun k hk => .inl (.inl hk))
    clear h0
    go_wp2
    go_ret
    exact ⟨rfl, S1'.out, HG1.out⟩


end Go.Proofs.YtijfdgoeppehlaaGreatDoor

namespace Go.Proofs.YtijfdgoeppehlaaGreatDoor
open Go.RowKit
attribute [local go_sem ↓] Go.wp_at_zero Go.wp_at_succ
def recvW (who : ByteArray) (e : Int) (o : Option PortT) : Option PortT × PackT × Nat × Nat :=
  if (qHas e o).2 ≠ 0 then (o, zeroPk, (qHas e o).2, 1) else if (qHas e o).1.owner ≠ who then (o, zeroPk, 14, 1) else if (qHas e o).1.queue.length = 0 then (o, zeroPk, 19, 1)
  else (some ⟨(qHas e o).1.owner, (qHas e o).1.epoch, (qHas e o).1.lost, (qHas e o).1.queue.drop 1⟩, (qHas e o).1.queue.getD 0 zeroPk, 0, 2)
set_option maxRecDepth 100000 in
set_option maxHeartbeats 1600000 in
theorem swChange (w0 w : World) (b : Nat) (N : NV) (m : Int) (o : Option PortT) (G : Nat → Prop) (s : SW w0 w b N m o G) (hN : N.V.calls.length < 1000000) (e : Int) (hm : 1 ≤ m ∧ m ≤ 9999) (he : numB e = true) (who : ByteArray) (Wb Fb : Nat) (hGW : G Wb) (hGF : G Fb)
    (hW : w.heap[Wb]? = some (.cells #[.string who] 49 (0, 0))) (hF : w.heap[Fb]? = some (.cells #[.string ⟨#[]⟩, .string ⟨#[]⟩] 33 (0, 0))) (o' : Option PortT) (x : PackT) (q d : Nat) (hst : recvW who e o = (o', x, q, d)) :
    Calls Tryz.prog 39 #[.pointer (some ⟨b, 0, none⟩), .int .i64 m, .int .i64 e, .func (.func 40) #[] #[.pointer (some ⟨Wb, 0, none⟩), .pointer (some ⟨Fb, 0, none⟩)]] w fun r w' =>
      r = .returned (.int .i64 q) ∧ SW w0 w' b (N.step m d o') m o' G ∧ (∀ k, G k → k ≠ Fb → w'.heap[k]? = w.heap[k]?) ∧ (q = 0 → w'.heap[Fb]? = some (.cells #[.string x.src, .string x.bytes] 33 (0, 0))) := by
  have hcf : ∀ args W, (callFunc 40 args).run Tryz.prog W = .ok (.enter 40 args) W := callFunc_inQ Tryz.func40 (by kernel_rfl) (by kernel_rfl)
  have Hst := Lib.hid hst; clear hst
  have S := Lib.hid s; clear s
  have HW := Lib.hid hW; clear hW
  have HF := Lib.hid hF; clear hF
  have HGW := Lib.hid hGW; clear hGW
  have HGF := Lib.hid hGF; clear hGF
  obtain ⟨p, g, hpg⟩ : ∃ p g, qHas e o = (p, g) := ⟨_, _, rfl⟩
  have Hpg := Lib.hid hpg; clear hpg
  have Hst2 : Hid ((if g ≠ 0 then (o, zeroPk, g, 1) else if p.owner ≠ who then (o, zeroPk, 14, 1) else if p.queue.length = 0 then (o, zeroPk, 19, 1) else (some ⟨p.owner, p.epoch, p.lost, p.queue.drop 1⟩, p.queue.getD 0 zeroPk, 0, 2)) = (o', x, q, d)) := by
    have := Hst.out
    unfold recvW at this
    rw [Hpg.out] at this
    exact this
  clear Hst
  go_enter Tryz.func39, Tryz.ntmps39
  go_wp2_with fail
  refine (swGet w0 w b N m o G S.out e hm he p g Hpg.out).mono ?_
  rintro r w1 ⟨a, n, c, rfl, hrow, hl, s1, hk1⟩
  have HX : Hid (∀ o'', (w1.alloc o'').heap[w1.heap.size]? = some o'') := fun o'' => heap_alloc_new w1 o''
  have S1 := Lib.hid s1
  have Sa : Hid (∀ o'', SW w0 (w1.alloc o'') b (N.seen m) m o (fun k => G k ∨ k = w1.heap.size)) := fun o'' => s1.fresh ((Below.refl _ _).alloc (Nat.le_refl _) _) (fun k hk => by
    rcases hk with h | h
    · exact .inl (.inl h)
    · subst h; exact .inr (by simp))
  have HGa : Hid (∀ o'', ∀ k, G k → (w1.alloc o'').heap[k]? = w.heap[k]?) := fun o'' k hk => (s1.gk ((Below.refl _ _).alloc (Nat.le_refl _) _) k (.inl hk)).trans (hk1 k hk)
  have Hrowa : Hid (∀ o'', PRow (w1.alloc o'') (.slice a n c) p.queue) := fun o'' => World.ownsRow.alloc hrow o''
  have Hown : Hid (∀ k, (Value.slice a n c).ownBlock = some k → k ≠ w1.heap.size ∧ k ≠ Fb) := fun k hk => by
    obtain ⟨cur, hc⟩ := row_lt hrow hk
    have h1 := lt_of_heap hc
    have h2 := hl k hk
    have h3 := S.out.glt Fb HGF.out
    omega
  have hFX : Fb ≠ w1.heap.size := by have := s1.glt Fb (.inl HGF.out); omega
  have HGlt : Hid (∀ k, G k → k < w1.heap.size) := fun k hk => s1.glt k (.inl hk)
  clear hrow hl s1 hk1
  obtain ⟨ow, ep, lo, ls⟩ := p
  dsimp only at *
  have hln : ls.length = n := (Hrowa.out (.cells #[] 0)).sl.1
  by_cases hg : g = 0
  · subst hg
    obtain ⟨rfl, rfl⟩ := qHas_some Hpg.out
    have hck := S1.out.check
    have hk := checkQ_ok hck.1
    have how := hck.2
    dsimp only at hk how
    obtain ⟨k1, k2, k3, k4, k5⟩ := hk
    by_cases hw : ow = who
    · subst hw
      by_cases hn : n = 0
      · have hr : o' = some ⟨ow, ep, lo, ls⟩ ∧ q = 19 ∧ d = 1 := by
          have := Hst2.out
          rw [if_neg (by simp), if_neg (by simp), if_pos (by omega)] at this
          simp only [Prod.mk.injEq] at this
          exact ⟨this.1.symm, this.2.2.1.symm, this.2.2.2.symm⟩
        obtain ⟨rfl, rfl, rfl⟩ := hr
        subst hn
        go_wp2_with fail
        refine (recv_busy ow Wb Fb w1.heap.size ow ep lo a 0 c _ (HX.out _) ((HGa.out _ Wb HGW.out).trans HW.out) rfl rfl).mono ?_
        rintro r w2 ⟨rfl, hb⟩
        have S2 : Hid (SW w0 w2 b (N.seen m) m (some ⟨ow, ep, lo, ls⟩) G) := (Sa.out _).fresh hb (fun k hk => .inl (.inl hk))
        have HG2 : Hid (∀ k, G k → w2.heap[k]? = w.heap[k]?) := fun k hk => ((Sa.out _).gk hb k (.inl hk)).trans (HGa.out _ k hk)
        clear hb
        go_wp2
        go_ret
        exact ⟨rfl, S2.out, fun k hk _ => HG2.out k hk, fun h => by cases h⟩
      · have hr : o' = some ⟨ow, ep, lo, ls.drop 1⟩ ∧ x = ls.getD 0 zeroPk ∧ q = 0 ∧ d = 2 := by
          have := Hst2.out
          rw [if_neg (by simp), if_neg (by simp), if_neg (by omega)] at this
          simp only [Prod.mk.injEq] at this
          exact ⟨this.1.symm, this.2.1.symm, this.2.2.1.symm, this.2.2.2.symm⟩
        obtain ⟨ho', hx', rfl, rfl⟩ := hr
        have Ho' := Lib.hid ho'; clear ho'
        have Hx' := Lib.hid hx'; clear hx'
        have Hck : Hid (checkQ ⟨ow, ep, lo, ls.drop 1⟩ = 0) := checkQ_mk k1 k2 k3 (by simp; omega) (packsE_drop k5)
        go_wp2_with fail
        refine (recv_ok Wb Fb w1.heap.size ow ep lo a n c ls _ _ _ (HX.out _) ((HGa.out _ Wb HGW.out).trans HW.out) ((HGa.out _ Fb HGF.out).trans HF.out) (Hrowa.out _) Hown.out hFX (by omega) (by omega)).mono ?_
        rintro r w2 ⟨rfl, hkp, ⟨a2, n2, c2, hX2, hp2⟩, hF2⟩
        have S2 : Hid (SW w0 w2 b (N.seen m) m (some ⟨ow, ep, lo, ls⟩) G) := (Sa.out _).guarded (hkp.mono (fun k _ h => h.elim .inr (fun h => .inl (by rw [h]; exact HGF.out)))) (fun k hk => .inl (.inl hk))
        have HG2 : Hid (∀ k, G k → k ≠ Fb → w2.heap[k]? = w.heap[k]?) := fun k hk hne => (hkp.block k ((Sa.out _).glt k (.inl hk)) (fun h => by rcases h with h | h; have := HGlt.out k hk; omega; exact hne h)).trans (HGa.out _ k hk)
        have HP2 := Lib.hid hp2
        have HF2 := Lib.hid hF2
        have x0 : w2.cell? ⟨w1.heap.size, 0, none⟩ = some (.string ow) := cell_of_heap hX2 0
        have x1 : w2.cell? ⟨w1.heap.size, 1, none⟩ = some (.int .i64 ep) := cell_of_heap hX2 1
        have x2 : w2.cell? ⟨w1.heap.size, 2, none⟩ = some (.int .i64 lo) := cell_of_heap hX2 2
        have x3 : w2.cell? ⟨w1.heap.size, 3, none⟩ = some (.slice a2 n2 c2) := cell_of_heap hX2 3
        clear hkp hX2 hp2 hF2
        go_wp2_with fail
        refine (swPut w0 w2 b (N.seen m) m _ G S2.out (by omega) (NV.seen_lt hN) ow ep lo _ n2 c2 _ HP2.out Hck.out how).mono ?_
        rintro r w3 ⟨rfl, s3, hk3⟩
        have S3 := Lib.hid s3
        have HG3 : Hid (∀ k, G k → k ≠ Fb → w3.heap[k]? = w.heap[k]?) := fun k hk hne => (hk3 k hk).trans (HG2.out k hk hne)
        have HF3 := Lib.hid ((hk3 Fb HGF.out).trans HF2.out)
        clear s3 hk3
        go_wp2
        go_ret
        rw [Ho'.out, Hx'.out]
        exact ⟨rfl, S3.out, HG3.out, HF3.out⟩
    · have hr : o' = some ⟨ow, ep, lo, ls⟩ ∧ q = 14 ∧ d = 1 := by
        have := Hst2.out
        rw [if_neg (by simp), if_pos hw] at this
        simp only [Prod.mk.injEq] at this
        exact ⟨this.1.symm, this.2.2.1.symm, this.2.2.2.symm⟩
      obtain ⟨rfl, rfl, rfl⟩ := hr
      go_wp2_with fail
      refine (recv_denied who Wb Fb w1.heap.size ow ep lo a n c _ (HX.out _) ((HGa.out _ Wb HGW.out).trans HW.out) hw).mono ?_
      rintro r w2 ⟨rfl, hb⟩
      have S2 : Hid (SW w0 w2 b (N.seen m) m (some ⟨ow, ep, lo, ls⟩) G) := (Sa.out _).fresh hb (fun k hk => .inl (.inl hk))
      have HG2 : Hid (∀ k, G k → w2.heap[k]? = w.heap[k]?) := fun k hk => ((Sa.out _).gk hb k (.inl hk)).trans (HGa.out _ k hk)
      clear hb
      go_wp2
      go_ret
      exact ⟨rfl, S2.out, fun k hk _ => HG2.out k hk, fun h => by cases h⟩
  · have hr : o' = o ∧ q = g ∧ d = 1 := by
      have := Hst2.out
      rw [if_pos hg] at this
      simp only [Prod.mk.injEq] at this
      exact ⟨this.1.symm, this.2.2.1.symm, this.2.2.2.symm⟩
    obtain ⟨rfl, rfl, rfl⟩ := hr
    have hg' : ((q : Int) != 0) = true := bne_iff_ne.2 (by omega)
    have Hg := Lib.hid hg
    have Sb : Hid (∀ o'', SW w0 (w1.alloc o'') b (N.seen m) m o' G) := fun o'' => (Sa.out o'').fresh (Below.refl _ _) (fun k hk => .inl (.inl hk))
    clear hg
    go_wp2
    go_ret
    exact ⟨rfl, Sb.out _, fun k hk _ => HGa.out _ k hk, fun h => absurd h Hg.out⟩


def receiveW (who : ByteArray) (m e : Int) (o : Option PortT) : Option PortT × PackT × Nat × Nat := if qArgs who m e ≠ 0 then (o, zeroPk, qArgs who m e, 0) else recvW who e o
theorem recvw_err {who : ByteArray} {e : Int} {o o' : Option PortT} {x : PackT} {q d : Nat} (h : recvW who e o = (o', x, q, d)) (hq : q ≠ 0) : x = zeroPk := by
  unfold recvW at h
  by_cases h1 : (qHas e o).2 ≠ 0
  · rw [if_pos h1] at h; simp only [Prod.mk.injEq] at h; exact h.2.1.symm
  rw [if_neg h1] at h
  by_cases h2 : (qHas e o).1.owner ≠ who
  · rw [if_pos h2] at h; simp only [Prod.mk.injEq] at h; exact h.2.1.symm
  rw [if_neg h2] at h
  by_cases h3 : (qHas e o).1.queue.length = 0
  · rw [if_pos h3] at h; simp only [Prod.mk.injEq] at h; exact h.2.1.symm
  rw [if_neg h3] at h
  simp only [Prod.mk.injEq] at h
  exact absurd h.2.2.1.symm hq
theorem wrec_fin {w0 w w2 X : World} {b R : Nat} {N : NV} {m : Int} {o : Option PortT} {G Gx : Nat → Prop} (S2 : SW w0 w2 b N m o Gx) (hR : Gx R) (hGG : ∀ k, G k → Gx k ∧ k ≠ R) (hG : ∀ k, G k → w2.heap[k]? = w.heap[k]?) (hg : w2.grownBy X (some R)) :
    SW w0 X b N m o G ∧ ∀ k, G k → X.heap[k]? = w.heap[k]? := by
  have hK : Kept Gx w2 X := Kept.of_grown hg _ (fun k hk => by cases hk; exact hR)
  refine ⟨S2.guarded hK (fun k hk => .inl (hGG k hk).1), fun k hk => ?_⟩
  exact (hg.block k (S2.glt k (hGG k hk).1) (fun e => (hGG k hk).2 (by cases e; rfl))).trans (hG k hk)
set_option maxRecDepth 100000 in
set_option maxHeartbeats 1600000 in
theorem swReceive (w0 w : World) (b : Nat) (N : NV) (m : Int) (o : Option PortT) (G : Nat → Prop) (s : SW w0 w b N m o G) (hN : N.V.calls.length < 1000000) (who : ByteArray) (e : Int) (hw : who.size ≤ 64) (o' : Option PortT) (x : PackT) (q d : Nat) (hst : receiveW who m e o = (o', x, q, d)) :
    Calls Tryz.prog 20 #[.pointer (some ⟨b, 0, none⟩), .string who, .int .i64 m, .int .i64 e] w (SWP w0 b (N.step m d o') m o' G w (.tuple #[.agg #[.string x.src, .string x.bytes], .int .i64 q])) := by
  have Hst := Lib.hid hst; clear hst
  have HGw : Hid (∀ k, G k → k < w.heap.size) := s.glt
  obtain ⟨qa, hqa⟩ : ∃ qa, qArgs who m e = qa := ⟨_, rfl⟩
  have Hqa := Lib.hid hqa; clear hqa
  have Hb0 : Hid (∀ o1 o2, Below w.heap.size w ((w.alloc o1).alloc o2)) := fun o1 o2 => ((Below.refl _ _).alloc (Nat.le_refl _) _).alloc (by simp) _
  have S0 : Hid (∀ o1 o2, SW w0 ((w.alloc o1).alloc o2) b N m o (fun k => G k ∨ k = w.heap.size ∨ k = w.heap.size + 1)) := fun o1 o2 => s.fresh (Hb0.out _ _) (fun k hk => hk.imp id (fun h => by simp; omega))
  have HG0 : Hid (∀ o1 o2, ∀ k, G k → ((w.alloc o1).alloc o2).heap[k]? = w.heap[k]?) := fun o1 o2 => s.gk (Hb0.out _ _)
  have HW0 : Hid (∀ o1 o2, ((w.alloc o1).alloc o2).heap[w.heap.size]? = some o1) := fun o1 o2 => (Below.heap_alloc _ _ _ (by simp)).trans (World.alloc_heap_new w _)
  have HR0 : Hid (∀ o1 o2, ((w.alloc o1).alloc o2).heap[w.heap.size + 1]? = some o2) := fun o1 o2 => by have := World.alloc_heap_new (w.alloc o1) o2; rwa [World.size_alloc] at this
  clear s
  go_enter Tryz.func20, Tryz.ntmps20
  go_wp2_with fail
  refine (qCheck_any b who m e qa Hqa.out _ (by omega)).mono ?_
  rintro r w1 ⟨rfl, hb⟩
  have S1 := Lib.hid ((S0.out _ _).later hb)
  have HG1 : Hid (∀ k, G k → w1.heap[k]? = w.heap[k]?) := fun k hk => ((S0.out _ _).gk hb k (.inl hk)).trans (HG0.out _ _ k hk)
  have HW1 := Lib.hid ((hb.block _ (lt_of_heap (HW0.out _ _))).trans (HW0.out _ _))
  have hR1 := (hb.block _ (lt_of_heap (HR0.out _ _))).trans (HR0.out _ _)
  clear hb S0 HG0 HW0 HR0 Hb0
  have HGR : Hid (∀ k, G k → k ≠ w.heap.size + 1) := fun k hk => by have := HGw.out k hk; omega
  obtain ⟨R, hR⟩ : ∃ R, w.heap.size + 1 = R := ⟨_, rfl⟩
  rw [hR] at hR1 HGR S1
  simp only [hR]
  have HRw := Lib.hid hR; clear hR
  have r0 : w1.cell? ⟨R, 0, none⟩ = some (.string ⟨#[]⟩) := cell_of_heap hR1 0
  have r1 : w1.cell? ⟨R, 1, none⟩ = some (.string ⟨#[]⟩) := cell_of_heap hR1 1
  have g0 : w1.frozen? ⟨R, 0, none⟩ = false := frozen_of_heap hR1 0
  have g1 : w1.frozen? ⟨R, 1, none⟩ = false := frozen_of_heap hR1 1
  have HR1 := Lib.hid hR1; clear hR1
  by_cases h0 : qa = 0
  · subst h0
    obtain ⟨hv, hm, he⟩ := qArgs_ok Hqa.out
    have Hst2 : Hid (recvW who e o = (o', x, q, d)) := by
      have := Hst.out
      unfold receiveW at this
      rw [Hqa.out, if_neg (by simp)] at this
      exact this
    clear Hst r0 r1 g0 g1
    have Sa : Hid (∀ o1, SW w0 (w1.alloc o1) b N m o (fun k => (G k ∨ k = w.heap.size ∨ k = R) ∨ k = w1.heap.size)) := fun o1 => S1.out.fresh ((Below.refl _ _).alloc (Nat.le_refl _) _) (fun k hk => hk.imp id (fun h => by subst h; simp))
    have HGa : Hid (∀ o1, ∀ k, (G k ∨ k = w.heap.size ∨ k = R) → (w1.alloc o1).heap[k]? = w1.heap[k]?) := fun o1 => S1.out.gk ((Below.refl _ _).alloc (Nat.le_refl _) _)
    have HFa : Hid (∀ o1, (w1.alloc o1).heap[w1.heap.size]? = some o1) := fun o1 => heap_alloc_new w1 o1
    have Hlt1 : Hid (∀ k, (G k ∨ k = w.heap.size ∨ k = R) → k ≠ w1.heap.size) := fun k hk => by have := S1.out.glt k hk; omega
    have hmf : ∀ (fn : Fn) (first cap : Array Value) (w : World), (Instr.makeFunc fn first cap).run Tryz.prog w = .ok (.func fn first cap) w := fun _ _ _ _ => rfl
    go_wp2_with fail
    refine (swChange w0 _ b N m o _ (Sa.out _) hN e hm he who w.heap.size w1.heap.size (.inl (.inr (.inl rfl))) (.inr rfl) ((HGa.out _ _ (.inr (.inl rfl))).trans HW1.out) (HFa.out _) o' x q d Hst2.out).mono ?_
    rintro r w2 ⟨rfl, s2, hk2, hF2⟩
    have S2 := Lib.hid s2
    have hR2 := (hk2 R (.inl (.inr (.inr rfl))) (Hlt1.out _ (.inr (.inr rfl)))).trans ((HGa.out _ _ (.inr (.inr rfl))).trans HR1.out)
    have HG2 : Hid (∀ k, G k → w2.heap[k]? = w.heap[k]?) := fun k hk => (hk2 k (.inl (.inl hk)) (Hlt1.out _ (.inl hk))).trans ((HGa.out _ _ (.inl hk)).trans (HG1.out k hk))
    have HF2 := Lib.hid hF2
    clear s2 hk2 hF2
    have r0 : w2.cell? ⟨R, 0, none⟩ = some (.string ⟨#[]⟩) := cell_of_heap hR2 0
    have r1 : w2.cell? ⟨R, 1, none⟩ = some (.string ⟨#[]⟩) := cell_of_heap hR2 1
    have g0 : w2.frozen? ⟨R, 0, none⟩ = false := frozen_of_heap hR2 0
    have g1 : w2.frozen? ⟨R, 1, none⟩ = false := frozen_of_heap hR2 1
    have HR2 := Lib.hid hR2; clear hR2
    by_cases hq : q = 0
    · subst hq
      have hF := HF2.out rfl
      have k0 : w2.cell? ⟨w1.heap.size, 0, none⟩ = some (.string x.src) := cell_of_heap hF 0
      have k1 : w2.cell? ⟨w1.heap.size, 1, none⟩ = some (.string x.bytes) := cell_of_heap hF 1
      clear hF HF2
      generalize x.src = xs at *
      generalize x.bytes = xb at *
      go_wp2
      refine bodyPost_ret (v := .tuple #[.agg #[.string xs, .string xb], .int .i64 0]) (by simp [results, Tryz.results20, go_sem, r0, r1]) rfl ?_
      exact ⟨rfl, wrec_fin (R := R) S2.out (.inl (.inr (.inr rfl))) (fun k hk => ⟨.inl (.inl hk), HGR.out k hk⟩) HG2.out (grown_set2 _ _ _ _)⟩
    · obtain rfl := recvw_err Hst2.out hq
      have hq' : ((q : Int) != 0) = true := bne_iff_ne.2 (by omega)
      clear hq HF2
      go_wp2
      refine bodyPost_ret (v := .tuple #[.agg #[.string ⟨#[]⟩, .string ⟨#[]⟩], .int .i64 q]) (by simp [results, Tryz.results20, go_sem, r0, r1]) rfl ?_
      exact ⟨rfl, wrec_fin (R := R) S2.out (.inl (.inr (.inr rfl))) (fun k hk => ⟨.inl (.inl hk), HGR.out k hk⟩) HG2.out (grown_set2 _ _ _ _)⟩
  · have hr : o' = o ∧ x = zeroPk ∧ q = qa ∧ d = 0 := by
      have := Hst.out
      unfold receiveW at this
      rw [Hqa.out, if_pos h0] at this
      simp only [Prod.mk.injEq] at this
      exact ⟨this.1.symm, this.2.1.symm, this.2.2.1.symm, this.2.2.2.symm⟩
    obtain ⟨rfl, rfl, rfl, rfl⟩ := hr
    have h0' : ((q : Int) != 0) = true := bne_iff_ne.2 (by omega)
    clear h0
    go_wp2
    refine bodyPost_ret (v := .tuple #[.agg #[.string ⟨#[]⟩, .string ⟨#[]⟩], .int .i64 q]) (by simp [results, Tryz.results20, go_sem, r0, r1]) rfl ?_
    exact ⟨rfl, wrec_fin (R := R) S1.out (.inr (.inr rfl)) (fun k hk => ⟨.inl hk, HGR.out k hk⟩) HG1.out (grown_set2 _ _ _ _)⟩


end Go.Proofs.YtijfdgoeppehlaaGreatDoor

namespace Go.Proofs.YtijfdgoeppehlaaGreatDoor
open Go.RowKit
attribute [local go_sem ↓] Go.wp_at_zero Go.wp_at_succ

def OwnP (H : Nat) (k : Nat) : Prop := k = H ∨ k = H + 1 ∨ k = H + 1 + 1
/-- In the midst of call. -/
structure CP (w0 w W : World) (b : Nat) (N : NV) (m : Int) (o : Option PortT) (G : Nat → Prop) (opc rc : Array Value) : Prop where
  s : SW w0 W b N m o (fun k => G k ∨ OwnP w.heap.size k)
  hk : ∀ k, G k → W.heap[k]? = w.heap[k]?
  op : W.heap[w.heap.size]? = some (.cells opc 35 (0, 0))
  out : W.heap[w.heap.size + 1]? = some (.cells #[.string ⟨#[]⟩, .string ⟨#[]⟩, .string ⟨#[]⟩, .int .i64 0] 42 (0, 0))
  res : W.heap[w.heap.size + 1 + 1]? = some (.cells rc 42 (0, 0))
section
variable {w0 w W W' : World} {b : Nat} {N N' : NV} {m : Int} {o o' : Option PortT} {G : Nat → Prop} {opc rc : Array Value}
theorem CP.start (s : SW w0 w b N m o G) (opc : Array Value) : CP w0 w (((w.alloc (.cells opc 35)).alloc (.cells #[.string ⟨#[]⟩, .string ⟨#[]⟩, .string ⟨#[]⟩, .int .i64 0] 42)).alloc (.cells #[.string ⟨#[]⟩, .string ⟨#[]⟩, .string ⟨#[]⟩, .int .i64 0] 42)) b N m o G opc #[.string ⟨#[]⟩, .string ⟨#[]⟩, .string ⟨#[]⟩, .int .i64 0] where
  s := s.fresh ((((Below.refl _ _).alloc (Nat.le_refl _) _).alloc (by simp) _).alloc (by simp; omega) _) (fun k hk => hk.imp id (fun h => by rcases h with h | h | h <;> subst h <;> simp <;> omega))
  hk := s.gk ((((Below.refl _ _).alloc (Nat.le_refl _) _).alloc (by simp) _).alloc (by simp; omega) _)
  op := (Below.heap_alloc _ _ _ (by simp; omega)).trans ((Below.heap_alloc _ _ _ (by simp)).trans (World.alloc_heap_new w _))
  out := by
    have h := World.alloc_heap_new (w.alloc (.cells opc 35)) (.cells #[.string ⟨#[]⟩, .string ⟨#[]⟩, .string ⟨#[]⟩, .int .i64 0] 42)
    rw [World.size_alloc] at h
    exact (Below.heap_alloc _ _ _ (by simp)).trans h
  res := by
    have h := World.alloc_heap_new ((w.alloc (.cells opc 35)).alloc (.cells #[.string ⟨#[]⟩, .string ⟨#[]⟩, .string ⟨#[]⟩, .int .i64 0] 42)) (.cells #[.string ⟨#[]⟩, .string ⟨#[]⟩, .string ⟨#[]⟩, .int .i64 0] 42)
    rw [World.size_alloc, World.size_alloc] at h
    exact h
theorem CP.glt (h : CP w0 w W b N m o G opc rc) {k : Nat} (hk : G k) : k < W.heap.size := h.s.glt k (.inl hk)
theorem CP.later (h : CP w0 w W b N m o G opc rc) (hb : Below W.heap.size W W') : CP w0 w W' b N m o G opc rc :=
  ⟨h.s.later hb, fun k hk => (hb.block _ (h.glt hk)).trans (h.hk k hk), (hb.block _ (lt_of_heap h.op)).trans h.op, (hb.block _ (lt_of_heap h.out)).trans h.out, (hb.block _ (lt_of_heap h.res)).trans h.res⟩
theorem CP.drew (h : CP w0 w W b N m o G opc rc) : CP w0 w W.drew b N m o G opc rc := h.later (Below.refl _ _).drew
theorem CP.step (h : CP w0 w W b N m o G opc rc) (s : SW w0 W' b N' m o' (fun k => G k ∨ OwnP w.heap.size k)) (hk : ∀ k, (G k ∨ OwnP w.heap.size k) → W'.heap[k]? = W.heap[k]?) : CP w0 w W' b N' m o' G opc rc :=
  ⟨s, fun k hG => (hk k (.inl hG)).trans (h.hk k hG), (hk _ (.inr (.inl rfl))).trans h.op, (hk _ (.inr (.inr (.inl rfl)))).trans h.out, (hk _ (.inr (.inr (.inr rfl)))).trans h.res⟩
theorem CP.set (h : CP w0 w W b N m o G opc rc) (hG : ∀ k, G k → k < w.heap.size) (i : Nat) (v : Value) (rc' : Array Value) (he : rc.setIfInBounds i v = rc') : CP w0 w (W.setCell ⟨w.heap.size + 1 + 1, i, none⟩ v) b N m o G opc rc' where
  s := h.s.guarded (Kept.of_grown (grown_setCell W (w.heap.size + 1 + 1) i v) _ (fun k hk => by cases hk; exact .inr (.inr (.inr rfl)))) (fun k hk => .inl hk)
  hk := fun k hk => (Below.heap_setCell _ _ _ _ (by show k ≠ w.heap.size + 1 + 1; have := hG k hk; omega)).trans (h.hk k hk)
  op := (Below.heap_setCell _ _ _ _ (by show w.heap.size ≠ w.heap.size + 1 + 1; omega)).trans h.op
  out := (Below.heap_setCell _ _ _ _ (by show w.heap.size + 1 ≠ w.heap.size + 1 + 1; omega)).trans h.out
  res := by rw [← he]; exact heap_setCell_same h.res i v
theorem CP.six {kd wh us : Nat} {nu ep : Int} {sr by_ : ByteArray} (h : CP w0 w W b N m o G #[.int .u8 kd, .int .u8 wh, .int .u8 us, .int .i64 nu, .int .i64 ep, .string sr, .string by_] rc) : W.cell? ⟨w.heap.size, 1, none⟩ = some (.int .u8 wh) ∧ W.cell? ⟨w.heap.size, 2, none⟩ = some (.int .u8 us) ∧ W.cell? ⟨w.heap.size, 3, none⟩ = some (.int .i64 nu) ∧ W.cell? ⟨w.heap.size, 4, none⟩ = some (.int .i64 ep) ∧ W.cell? ⟨w.heap.size, 5, none⟩ = some (.string sr) ∧ W.cell? ⟨w.heap.size, 6, none⟩ = some (.string by_) :=
  ⟨cell_of_heap h.op 1, cell_of_heap h.op 2, cell_of_heap h.op 3, cell_of_heap h.op 4, cell_of_heap h.op 5, cell_of_heap h.op 6⟩
theorem CP.post (h : CP w0 w W b N m o G opc rc) (hG : ∀ k, G k → k < w.heap.size) (hg : W.grownBy W' (some (w.heap.size + 1))) (v : Value) : SWP w0 b N m o G w v (.returned v) W' :=
  ⟨rfl, h.s.guarded (Kept.of_grown hg _ (fun k hk => by cases hk; exact .inr (.inr (.inl rfl)))) (fun k hk => .inl (.inl hk)), fun k hk => (hg.block k (h.glt hk) (fun e => by have := Option.some.inj e; have := hG k hk; omega)).trans (h.hk k hk)⟩
end
structure PRes where
  x : PackT
  t : ByteArray
  e : Nat
def presCells (r : PRes) : Array Value := #[.string r.x.src, .string r.x.bytes, .string r.t, .int .i64 r.e]
def getW (m e : Int) (o : Option PortT) : Option PortT × PRes × Nat := if qArgs ⟨#[]⟩ m e ≠ 0 then (o, ⟨zeroPk, ⟨#[]⟩, qArgs ⟨#[]⟩ m e⟩, 0) else (o, ⟨zeroPk, if (qHas e o).2 = 0 then strOf (encQB (qHas e o).1) else ⟨#[]⟩, (qHas e o).2⟩, 1)
/-- What an operation makes of its port, what it returns, and whether it asked and wrote. -/
def pCallW (kd wh us : Nat) (nu ep : Int) (sr by_ : ByteArray) (o : Option PortT) : Option PortT × PRes × Nat :=
  if kd % 5 = 0 then ((openW (whoN wh) ((us : Int) % 3) nu ep o).1, ⟨zeroPk, ⟨#[]⟩, (openW (whoN wh) ((us : Int) % 3) nu ep o).2.1⟩, (openW (whoN wh) ((us : Int) % 3) nu ep o).2.2) else
  if kd % 5 = 1 then ((closeW (whoN wh) nu ep o).1, ⟨zeroPk, ⟨#[]⟩, (closeW (whoN wh) nu ep o).2.1⟩, (closeW (whoN wh) nu ep o).2.2) else
  if kd % 5 = 2 then ((arriveW ⟨cut sr 60, cut by_ 600⟩ nu ep o).1, ⟨zeroPk, ⟨#[]⟩, (arriveW ⟨cut sr 60, cut by_ 600⟩ nu ep o).2.1⟩, (arriveW ⟨cut sr 60, cut by_ 600⟩ nu ep o).2.2) else
  if kd % 5 = 3 then ((receiveW (whoN wh) nu ep o).1, ⟨(receiveW (whoN wh) nu ep o).2.1, ⟨#[]⟩, (receiveW (whoN wh) nu ep o).2.2.1⟩, (receiveW (whoN wh) nu ep o).2.2.2) else getW nu ep o

theorem wrap_mod3 (us : Nat) : ((us : Int) % 3) = IntKind.i64.wrap ((us : Int).tmod 3) := by
  have h : (us : Int).tmod 3 = ((us % 3 : Nat) : Int) := rfl
  have h3 : us % 3 < 3 := Nat.mod_lt _ (by omega)
  rw [h]
  generalize hk : us % 3 = k at *
  have : ((us : Int) % 3) = (k : Int) := by omega
  rw [this]
  match k, h3 with
  | 0, _ => rfl
  | 1, _ => rfl
  | 2, _ => rfl
set_option maxRecDepth 100000 in
set_option maxHeartbeats 400000 in
/-- Get with arguments that are refused. -/
theorem getBad_any (b : Nat) (m e : Int) (q : Nat) (hq : qArgs ⟨#[]⟩ m e = q) (h0 : q ≠ 0) (w : World) :
    Calls Tryz.prog 29 #[.pointer (some ⟨b, 0, none⟩), .int .i64 m, .int .i64 e] w fun r w' => r = .returned (.tuple #[.agg #[.string ⟨#[]⟩, .int .i64 0, .int .i64 0, .slice none 0 0], .int .i64 q]) ∧ Below w.heap.size w w' := by
  have Hq := Lib.hid hq; clear hq
  have HR0 : Hid (∀ o', (w.alloc o').heap[w.heap.size]? = some o') := fun o' => heap_alloc_new w o'
  have HB0 : Hid (∀ o', Below w.heap.size w (w.alloc o')) := fun o' => (Below.refl _ _).alloc (Nat.le_refl _) _
  have hq1 : ((q : Int) != 0) = true := bne_iff_ne.2 (by omega)
  have hq2 : ((q : Int) == 0) = false := beq_eq_false_iff_ne.2 (by omega)
  clear h0
  go_enter Tryz.func29, Tryz.ntmps29
  go_wp2_with fail
  refine (qCheck_any b ⟨#[]⟩ m e q Hq.out _ (by decide)).mono ?_
  rintro r w1 ⟨rfl, hb⟩
  have hR1 := (hb.block _ (lt_of_heap (HR0.out _))).trans (HR0.out _)
  have HB1 : Hid (Below w.heap.size w w1) := (HB0.out _).trans (hb.mono (HB0.out _).size)
  clear hb HR0 HB0
  obtain ⟨R, hRw⟩ : ∃ R, w.heap.size = R := ⟨_, rfl⟩
  rw [hRw] at hR1 HB1
  rw [hRw]
  have HRw := Lib.hid hRw
  clear hRw
  have r0 : w1.cell? ⟨R, 0, none⟩ = some (.string ⟨#[]⟩) := cell_of_heap hR1 0
  have r1 : w1.cell? ⟨R, 1, none⟩ = some (.int .i64 0) := cell_of_heap hR1 1
  have r2 : w1.cell? ⟨R, 2, none⟩ = some (.int .i64 0) := cell_of_heap hR1 2
  have r3 : w1.cell? ⟨R, 3, none⟩ = some (.slice none 0 0) := cell_of_heap hR1 3
  have g0 : w1.frozen? ⟨R, 0, none⟩ = false := frozen_of_heap hR1 0
  have g1 : w1.frozen? ⟨R, 1, none⟩ = false := frozen_of_heap hR1 1
  have g2 : w1.frozen? ⟨R, 2, none⟩ = false := frozen_of_heap hR1 2
  have g3 : w1.frozen? ⟨R, 3, none⟩ = false := frozen_of_heap hR1 3
  clear hR1
  go_wp2
  refine bodyPost_ret (v := .tuple #[.agg #[.string ⟨#[]⟩, .int .i64 0, .int .i64 0, .slice none 0 0], .int .i64 q]) (by simp [results, Tryz.results29, go_sem, r0, r1, r2, r3]) rfl ?_
  refine ⟨rfl, ?_⟩
  have hw : Below w.heap.size w w1 := by rw [HRw.out]; exact HB1.out
  exact Below.grownRow hw (grown_set4 _ _ _ _ _ _) (Nat.le_refl _) (fun k hk => by cases hk; exact Nat.le_of_eq HRw.out)

set_option maxRecDepth 100000 in
set_option maxHeartbeats 1600000 in
theorem pw_open {w0 w : World} {b : Nat} {N : NV} {o : Option PortT} {G : Nat → Prop} (kd wh us : Nat) (nu ep : Int) (sr by_ : ByteArray) (s : SW w0 w b N nu o G) (hN : N.V.calls.length < 1000000) (hwh : wh ≤ 255) (o' : Option PortT) (q d : Nat) (hk : kd % 5 = 0) (hst : openW (whoN wh) ((us : Int) % 3) nu ep o = (o', q, d)) :
    Calls Tryz.prog 12 #[.agg #[.int .u8 kd, .int .u8 wh, .int .u8 us, .int .i64 nu, .int .i64 ep, .string sr, .string by_], .pointer (some ⟨b, 0, none⟩)] w (SWP w0 b (N.step nu d o') nu o' G w (.agg #[.string ⟨#[]⟩, .string ⟨#[]⟩, .string ⟨#[]⟩, .int .i64 q])) := by
  have HGl : Hid (∀ k, G k → k < w.heap.size) := s.glt
  have D0 := Lib.hid (CP.start s #[.int .u8 kd, .int .u8 wh, .int .u8 us, .int .i64 nu, .int .i64 ep, .string sr, .string by_])
  have Hst := Lib.hid hst
  have hk' : (kd : Int) % 5 = 0 := by omega
  clear hk s hst
  go_enter Tryz.func12, Tryz.ntmps12
  go_wp2_with fail
  generalize ((w.alloc (.cells #[.int .u8 kd, .int .u8 wh, .int .u8 us, .int .i64 nu, .int .i64 ep, .string sr, .string by_] 35)).alloc (.cells #[.string ⟨#[]⟩, .string ⟨#[]⟩, .string ⟨#[]⟩, .int .i64 0] 42)).alloc (.cells #[.string ⟨#[]⟩, .string ⟨#[]⟩, .string ⟨#[]⟩, .int .i64 0] 42) = W at *
  obtain ⟨c1, c2, c3, c4, c5, c6⟩ := D0.out.six
  have Dd := Lib.hid D0.out.drew
  clear D0
  go_region_held3 (fun w' => w'.cell? ⟨w.heap.size, 1, none⟩ = some (.int .u8 wh) ∧ w'.cell? ⟨w.heap.size, 2, none⟩ = some (.int .u8 us) ∧ w'.cell? ⟨w.heap.size, 3, none⟩ = some (.int .i64 nu) ∧ w'.cell? ⟨w.heap.size, 4, none⟩ = some (.int .i64 ep) ∧ w'.cell? ⟨w.heap.size, 5, none⟩ = some (.string sr) ∧ w'.cell? ⟨w.heap.size, 6, none⟩ = some (.string by_)) (first | with_reducible exact ⟨c1, c2, c3, c4, c5, c6⟩ | with_reducible exact D1.out.six | with_reducible exact D2.out.six | with_reducible exact (D2.out.set HGl.out 3 (.int .i64 q) #[.string ⟨#[]⟩, .string ⟨#[]⟩, .string ⟨#[]⟩, .int .i64 q] rfl).six | go_keep)
    (first
      | (go_at_call 26; refine (who_any wh _ hwh).mono ?_; rintro r w1 ⟨rfl, hb1⟩; have D1 := Lib.hid (Dd.out.later hb1); clear hb1)
      | (go_at_call 18; refine (swOpen w0 _ b N nu o _ D1.out.s hN (whoN wh) (IntKind.i64.wrap ((us : Int).tmod 3)) ep (who_size _) o' q d (by rw [← wrap_mod3]; exact Hst.out)).mono ?_; rintro r w2 ⟨rfl, s2, hk2⟩; have D2 := Lib.hid (D1.out.step s2 hk2); clear s2 hk2; have q3 : w2.cell? ⟨w.heap.size + 1 + 1, 3, none⟩ = some (.int .i64 0) := cell_of_heap D2.out.res 3; have f3 : w2.frozen? ⟨w.heap.size + 1 + 1, 3, none⟩ = false := frozen_of_heap D2.out.res 3)
      | fail)
  have D3 := Lib.hid (D2.out.set HGl.out 3 (.int .i64 q) #[.string ⟨#[]⟩, .string ⟨#[]⟩, .string ⟨#[]⟩, .int .i64 q] rfl)
  generalize w2.setCell ⟨w.heap.size + 1 + 1, 3, none⟩ (.int .i64 q) = W3 at *
  clear q3 f3 c1 c2 c3 c4 c5 c6
  have s0 : W3.cell? ⟨w.heap.size + 1 + 1, 0, none⟩ = some (.string ⟨#[]⟩) := cell_of_heap D3.out.res 0
  have s1 : W3.cell? ⟨w.heap.size + 1 + 1, 1, none⟩ = some (.string ⟨#[]⟩) := cell_of_heap D3.out.res 1
  have s2 : W3.cell? ⟨w.heap.size + 1 + 1, 2, none⟩ = some (.string ⟨#[]⟩) := cell_of_heap D3.out.res 2
  have s3 : W3.cell? ⟨w.heap.size + 1 + 1, 3, none⟩ = some (.int .i64 q) := cell_of_heap D3.out.res 3
  have t0 : W3.cell? ⟨w.heap.size + 1, 0, none⟩ = some (.string ⟨#[]⟩) := cell_of_heap D3.out.out 0
  have g0 : W3.frozen? ⟨w.heap.size + 1, 0, none⟩ = false := frozen_of_heap D3.out.out 0
  have t1 : W3.cell? ⟨w.heap.size + 1, 1, none⟩ = some (.string ⟨#[]⟩) := cell_of_heap D3.out.out 1
  have g1 : W3.frozen? ⟨w.heap.size + 1, 1, none⟩ = false := frozen_of_heap D3.out.out 1
  have t2 : W3.cell? ⟨w.heap.size + 1, 2, none⟩ = some (.string ⟨#[]⟩) := cell_of_heap D3.out.out 2
  have g2 : W3.frozen? ⟨w.heap.size + 1, 2, none⟩ = false := frozen_of_heap D3.out.out 2
  have t3 : W3.cell? ⟨w.heap.size + 1, 3, none⟩ = some (.int .i64 0) := cell_of_heap D3.out.out 3
  have g3 : W3.frozen? ⟨w.heap.size + 1, 3, none⟩ = false := frozen_of_heap D3.out.out 3
  go_wp2
  refine bodyPost_ret (v := .agg #[.string ⟨#[]⟩, .string ⟨#[]⟩, .string ⟨#[]⟩, .int .i64 q]) (by simp [results, Tryz.results12, go_sem, t0, t1, t2, t3]) rfl ?_
  exact D3.out.post HGl.out (grown_set4 _ _ _ _ _ _) _

set_option maxRecDepth 100000 in
set_option maxHeartbeats 1600000 in
theorem pw_close {w0 w : World} {b : Nat} {N : NV} {o : Option PortT} {G : Nat → Prop} (kd wh us : Nat) (nu ep : Int) (sr by_ : ByteArray) (s : SW w0 w b N nu o G) (hN : N.V.calls.length < 1000000) (hwh : wh ≤ 255) (o' : Option PortT) (q d : Nat) (hk : kd % 5 = 1) (hst : closeW (whoN wh) nu ep o = (o', q, d)) :
    Calls Tryz.prog 12 #[.agg #[.int .u8 kd, .int .u8 wh, .int .u8 us, .int .i64 nu, .int .i64 ep, .string sr, .string by_], .pointer (some ⟨b, 0, none⟩)] w (SWP w0 b (N.step nu d o') nu o' G w (.agg #[.string ⟨#[]⟩, .string ⟨#[]⟩, .string ⟨#[]⟩, .int .i64 q])) := by
  have HGl : Hid (∀ k, G k → k < w.heap.size) := s.glt
  have D0 := Lib.hid (CP.start s #[.int .u8 kd, .int .u8 wh, .int .u8 us, .int .i64 nu, .int .i64 ep, .string sr, .string by_])
  have Hst := Lib.hid hst
  have hk' : (kd : Int) % 5 = 1 := by omega
  clear hk s hst
  go_enter Tryz.func12, Tryz.ntmps12
  go_wp2_with fail
  generalize ((w.alloc (.cells #[.int .u8 kd, .int .u8 wh, .int .u8 us, .int .i64 nu, .int .i64 ep, .string sr, .string by_] 35)).alloc (.cells #[.string ⟨#[]⟩, .string ⟨#[]⟩, .string ⟨#[]⟩, .int .i64 0] 42)).alloc (.cells #[.string ⟨#[]⟩, .string ⟨#[]⟩, .string ⟨#[]⟩, .int .i64 0] 42) = W at *
  obtain ⟨c1, c2, c3, c4, c5, c6⟩ := D0.out.six
  have Dd := Lib.hid D0.out.drew
  clear D0
  go_region_held3 (fun w' => w'.cell? ⟨w.heap.size, 1, none⟩ = some (.int .u8 wh) ∧ w'.cell? ⟨w.heap.size, 2, none⟩ = some (.int .u8 us) ∧ w'.cell? ⟨w.heap.size, 3, none⟩ = some (.int .i64 nu) ∧ w'.cell? ⟨w.heap.size, 4, none⟩ = some (.int .i64 ep) ∧ w'.cell? ⟨w.heap.size, 5, none⟩ = some (.string sr) ∧ w'.cell? ⟨w.heap.size, 6, none⟩ = some (.string by_)) (first | with_reducible exact ⟨c1, c2, c3, c4, c5, c6⟩ | with_reducible exact D1.out.six | with_reducible exact D2.out.six | with_reducible exact (D2.out.set HGl.out 3 (.int .i64 q) #[.string ⟨#[]⟩, .string ⟨#[]⟩, .string ⟨#[]⟩, .int .i64 q] rfl).six | go_keep)
    (first
      | (go_at_call 26; refine (who_any wh _ hwh).mono ?_; rintro r w1 ⟨rfl, hb1⟩; have D1 := Lib.hid (Dd.out.later hb1); clear hb1)
      | (go_at_call 27; refine (swClose w0 _ b N nu o _ D1.out.s hN (whoN wh) ep (who_size _) o' q d Hst.out).mono ?_; rintro r w2 ⟨rfl, s2, hk2⟩; have D2 := Lib.hid (D1.out.step s2 hk2); clear s2 hk2; have q3 : w2.cell? ⟨w.heap.size + 1 + 1, 3, none⟩ = some (.int .i64 0) := cell_of_heap D2.out.res 3; have f3 : w2.frozen? ⟨w.heap.size + 1 + 1, 3, none⟩ = false := frozen_of_heap D2.out.res 3)
      | fail)
  have D3 := Lib.hid (D2.out.set HGl.out 3 (.int .i64 q) #[.string ⟨#[]⟩, .string ⟨#[]⟩, .string ⟨#[]⟩, .int .i64 q] rfl)
  generalize w2.setCell ⟨w.heap.size + 1 + 1, 3, none⟩ (.int .i64 q) = W3 at *
  clear q3 f3 c1 c2 c3 c4 c5 c6
  have s0 : W3.cell? ⟨w.heap.size + 1 + 1, 0, none⟩ = some (.string ⟨#[]⟩) := cell_of_heap D3.out.res 0
  have s1 : W3.cell? ⟨w.heap.size + 1 + 1, 1, none⟩ = some (.string ⟨#[]⟩) := cell_of_heap D3.out.res 1
  have s2 : W3.cell? ⟨w.heap.size + 1 + 1, 2, none⟩ = some (.string ⟨#[]⟩) := cell_of_heap D3.out.res 2
  have s3 : W3.cell? ⟨w.heap.size + 1 + 1, 3, none⟩ = some (.int .i64 q) := cell_of_heap D3.out.res 3
  have t0 : W3.cell? ⟨w.heap.size + 1, 0, none⟩ = some (.string ⟨#[]⟩) := cell_of_heap D3.out.out 0
  have g0 : W3.frozen? ⟨w.heap.size + 1, 0, none⟩ = false := frozen_of_heap D3.out.out 0
  have t1 : W3.cell? ⟨w.heap.size + 1, 1, none⟩ = some (.string ⟨#[]⟩) := cell_of_heap D3.out.out 1
  have g1 : W3.frozen? ⟨w.heap.size + 1, 1, none⟩ = false := frozen_of_heap D3.out.out 1
  have t2 : W3.cell? ⟨w.heap.size + 1, 2, none⟩ = some (.string ⟨#[]⟩) := cell_of_heap D3.out.out 2
  have g2 : W3.frozen? ⟨w.heap.size + 1, 2, none⟩ = false := frozen_of_heap D3.out.out 2
  have t3 : W3.cell? ⟨w.heap.size + 1, 3, none⟩ = some (.int .i64 0) := cell_of_heap D3.out.out 3
  have g3 : W3.frozen? ⟨w.heap.size + 1, 3, none⟩ = false := frozen_of_heap D3.out.out 3
  go_wp2
  refine bodyPost_ret (v := .agg #[.string ⟨#[]⟩, .string ⟨#[]⟩, .string ⟨#[]⟩, .int .i64 q]) (by simp [results, Tryz.results12, go_sem, t0, t1, t2, t3]) rfl ?_
  exact D3.out.post HGl.out (grown_set4 _ _ _ _ _ _) _

set_option maxRecDepth 100000 in
set_option maxHeartbeats 1600000 in
theorem pw_arrive {w0 w : World} {b : Nat} {N : NV} {o : Option PortT} {G : Nat → Prop} (kd wh us : Nat) (nu ep : Int) (sr by_ : ByteArray) (s : SW w0 w b N nu o G) (hN : N.V.calls.length < 1000000) (hsr : sr.size ≤ 9223372036854775807) (hby : by_.size ≤ 9223372036854775807) (hcs : (cut sr 60).size ≤ 9223372036854775807) (hcb : (cut by_ 600).size ≤ 9223372036854775807) (o' : Option PortT) (q d : Nat) (hk : kd % 5 = 2) (hst : arriveW ⟨cut sr 60, cut by_ 600⟩ nu ep o = (o', q, d)) :
    Calls Tryz.prog 12 #[.agg #[.int .u8 kd, .int .u8 wh, .int .u8 us, .int .i64 nu, .int .i64 ep, .string sr, .string by_], .pointer (some ⟨b, 0, none⟩)] w (SWP w0 b (N.step nu d o') nu o' G w (.agg #[.string ⟨#[]⟩, .string ⟨#[]⟩, .string ⟨#[]⟩, .int .i64 q])) := by
  have HGl : Hid (∀ k, G k → k < w.heap.size) := s.glt
  have D0 := Lib.hid (CP.start s #[.int .u8 kd, .int .u8 wh, .int .u8 us, .int .i64 nu, .int .i64 ep, .string sr, .string by_])
  have Hst := Lib.hid hst
  have hk' : (kd : Int) % 5 = 2 := by omega
  clear hk s hst
  go_enter Tryz.func12, Tryz.ntmps12
  go_wp2_with fail
  generalize ((w.alloc (.cells #[.int .u8 kd, .int .u8 wh, .int .u8 us, .int .i64 nu, .int .i64 ep, .string sr, .string by_] 35)).alloc (.cells #[.string ⟨#[]⟩, .string ⟨#[]⟩, .string ⟨#[]⟩, .int .i64 0] 42)).alloc (.cells #[.string ⟨#[]⟩, .string ⟨#[]⟩, .string ⟨#[]⟩, .int .i64 0] 42) = W at *
  obtain ⟨c1, c2, c3, c4, c5, c6⟩ := D0.out.six
  have Dd := Lib.hid D0.out.drew
  clear D0
  go_region_held3 (fun w' => w'.cell? ⟨w.heap.size, 1, none⟩ = some (.int .u8 wh) ∧ w'.cell? ⟨w.heap.size, 2, none⟩ = some (.int .u8 us) ∧ w'.cell? ⟨w.heap.size, 3, none⟩ = some (.int .i64 nu) ∧ w'.cell? ⟨w.heap.size, 4, none⟩ = some (.int .i64 ep) ∧ w'.cell? ⟨w.heap.size, 5, none⟩ = some (.string sr) ∧ w'.cell? ⟨w.heap.size, 6, none⟩ = some (.string by_)) (first | with_reducible exact ⟨c1, c2, c3, c4, c5, c6⟩ | with_reducible exact D1.out.six | with_reducible exact D2.out.six | with_reducible exact (D2.out.set HGl.out 3 (.int .i64 q) #[.string ⟨#[]⟩, .string ⟨#[]⟩, .string ⟨#[]⟩, .int .i64 q] rfl).six | go_keep)
    (first
      | (go_at_call 28; refine (small_any sr by_ _ hsr hby).mono ?_; rintro r w1 ⟨rfl, hb1⟩; have D1 := Lib.hid (Dd.out.later hb1); clear hb1)
      | (go_at_call 19; refine (swArrive w0 _ b N nu o _ D1.out.s hN (cut sr 60) (cut by_ 600) ep hcs hcb o' q d Hst.out).mono ?_; rintro r w2 ⟨rfl, s2, hk2⟩; have D2 := Lib.hid (D1.out.step s2 hk2); clear s2 hk2; have q3 : w2.cell? ⟨w.heap.size + 1 + 1, 3, none⟩ = some (.int .i64 0) := cell_of_heap D2.out.res 3; have f3 : w2.frozen? ⟨w.heap.size + 1 + 1, 3, none⟩ = false := frozen_of_heap D2.out.res 3)
      | fail)
  have D3 := Lib.hid (D2.out.set HGl.out 3 (.int .i64 q) #[.string ⟨#[]⟩, .string ⟨#[]⟩, .string ⟨#[]⟩, .int .i64 q] rfl)
  generalize w2.setCell ⟨w.heap.size + 1 + 1, 3, none⟩ (.int .i64 q) = W3 at *
  clear q3 f3 c1 c2 c3 c4 c5 c6
  have s0 : W3.cell? ⟨w.heap.size + 1 + 1, 0, none⟩ = some (.string ⟨#[]⟩) := cell_of_heap D3.out.res 0
  have s1 : W3.cell? ⟨w.heap.size + 1 + 1, 1, none⟩ = some (.string ⟨#[]⟩) := cell_of_heap D3.out.res 1
  have s2 : W3.cell? ⟨w.heap.size + 1 + 1, 2, none⟩ = some (.string ⟨#[]⟩) := cell_of_heap D3.out.res 2
  have s3 : W3.cell? ⟨w.heap.size + 1 + 1, 3, none⟩ = some (.int .i64 q) := cell_of_heap D3.out.res 3
  have t0 : W3.cell? ⟨w.heap.size + 1, 0, none⟩ = some (.string ⟨#[]⟩) := cell_of_heap D3.out.out 0
  have g0 : W3.frozen? ⟨w.heap.size + 1, 0, none⟩ = false := frozen_of_heap D3.out.out 0
  have t1 : W3.cell? ⟨w.heap.size + 1, 1, none⟩ = some (.string ⟨#[]⟩) := cell_of_heap D3.out.out 1
  have g1 : W3.frozen? ⟨w.heap.size + 1, 1, none⟩ = false := frozen_of_heap D3.out.out 1
  have t2 : W3.cell? ⟨w.heap.size + 1, 2, none⟩ = some (.string ⟨#[]⟩) := cell_of_heap D3.out.out 2
  have g2 : W3.frozen? ⟨w.heap.size + 1, 2, none⟩ = false := frozen_of_heap D3.out.out 2
  have t3 : W3.cell? ⟨w.heap.size + 1, 3, none⟩ = some (.int .i64 0) := cell_of_heap D3.out.out 3
  have g3 : W3.frozen? ⟨w.heap.size + 1, 3, none⟩ = false := frozen_of_heap D3.out.out 3
  go_wp2
  refine bodyPost_ret (v := .agg #[.string ⟨#[]⟩, .string ⟨#[]⟩, .string ⟨#[]⟩, .int .i64 q]) (by simp [results, Tryz.results12, go_sem, t0, t1, t2, t3]) rfl ?_
  exact D3.out.post HGl.out (grown_set4 _ _ _ _ _ _) _

set_option maxRecDepth 100000 in
set_option maxHeartbeats 1600000 in
theorem pw_receive {w0 w : World} {b : Nat} {N : NV} {o : Option PortT} {G : Nat → Prop} (kd wh us : Nat) (nu ep : Int) (sr by_ : ByteArray) (s : SW w0 w b N nu o G) (hN : N.V.calls.length < 1000000) (hwh : wh ≤ 255) (o' : Option PortT) (x : PackT) (q d : Nat) (hk : kd % 5 = 3) (hst : receiveW (whoN wh) nu ep o = (o', x, q, d)) :
    Calls Tryz.prog 12 #[.agg #[.int .u8 kd, .int .u8 wh, .int .u8 us, .int .i64 nu, .int .i64 ep, .string sr, .string by_], .pointer (some ⟨b, 0, none⟩)] w (SWP w0 b (N.step nu d o') nu o' G w (.agg #[.string x.src, .string x.bytes, .string ⟨#[]⟩, .int .i64 q])) := by
  have HGl : Hid (∀ k, G k → k < w.heap.size) := s.glt
  have D0 := Lib.hid (CP.start s #[.int .u8 kd, .int .u8 wh, .int .u8 us, .int .i64 nu, .int .i64 ep, .string sr, .string by_])
  have Hst := Lib.hid hst
  have hk' : (kd : Int) % 5 = 3 := by omega
  clear hk s hst
  go_enter Tryz.func12, Tryz.ntmps12
  go_wp2_with fail
  generalize ((w.alloc (.cells #[.int .u8 kd, .int .u8 wh, .int .u8 us, .int .i64 nu, .int .i64 ep, .string sr, .string by_] 35)).alloc (.cells #[.string ⟨#[]⟩, .string ⟨#[]⟩, .string ⟨#[]⟩, .int .i64 0] 42)).alloc (.cells #[.string ⟨#[]⟩, .string ⟨#[]⟩, .string ⟨#[]⟩, .int .i64 0] 42) = W at *
  obtain ⟨c1, c2, c3, c4, c5, c6⟩ := D0.out.six
  have Dd := Lib.hid D0.out.drew
  clear D0
  go_region_held3 (fun w' => w'.cell? ⟨w.heap.size, 1, none⟩ = some (.int .u8 wh) ∧ w'.cell? ⟨w.heap.size, 2, none⟩ = some (.int .u8 us) ∧ w'.cell? ⟨w.heap.size, 3, none⟩ = some (.int .i64 nu) ∧ w'.cell? ⟨w.heap.size, 4, none⟩ = some (.int .i64 ep) ∧ w'.cell? ⟨w.heap.size, 5, none⟩ = some (.string sr) ∧ w'.cell? ⟨w.heap.size, 6, none⟩ = some (.string by_)) (first | with_reducible exact ⟨c1, c2, c3, c4, c5, c6⟩ | with_reducible exact D1.out.six | with_reducible exact D2.out.six | with_reducible exact (D2.out.set HGl.out 0 (.string x.src) #[.string x.src, .string ⟨#[]⟩, .string ⟨#[]⟩, .int .i64 0] rfl).six | with_reducible exact ((D2.out.set HGl.out 0 (.string x.src) #[.string x.src, .string ⟨#[]⟩, .string ⟨#[]⟩, .int .i64 0] rfl).set HGl.out 1 (.string x.bytes) #[.string x.src, .string x.bytes, .string ⟨#[]⟩, .int .i64 0] rfl).six | with_reducible exact (((D2.out.set HGl.out 0 (.string x.src) #[.string x.src, .string ⟨#[]⟩, .string ⟨#[]⟩, .int .i64 0] rfl).set HGl.out 1 (.string x.bytes) #[.string x.src, .string x.bytes, .string ⟨#[]⟩, .int .i64 0] rfl).set HGl.out 3 (.int .i64 q) #[.string x.src, .string x.bytes, .string ⟨#[]⟩, .int .i64 q] rfl).six | go_keep)
    (first
      | (go_at_call 26; refine (who_any wh _ hwh).mono ?_; rintro r w1 ⟨rfl, hb1⟩; have D1 := Lib.hid (Dd.out.later hb1); clear hb1)
      | (go_at_call 20; refine (swReceive w0 _ b N nu o _ D1.out.s hN (whoN wh) ep (who_size _) o' x q d Hst.out).mono ?_; rintro r w2 ⟨rfl, s2, hk2⟩; have D2 := Lib.hid (D1.out.step s2 hk2); clear s2 hk2; have q3 : w2.cell? ⟨w.heap.size + 1 + 1, 3, none⟩ = some (.int .i64 0) := cell_of_heap D2.out.res 3; have f3 : w2.frozen? ⟨w.heap.size + 1 + 1, 3, none⟩ = false := frozen_of_heap D2.out.res 3; have q0 : w2.cell? ⟨w.heap.size + 1 + 1, 0, none⟩ = some (.string ⟨#[]⟩) := cell_of_heap D2.out.res 0; have q1 : w2.cell? ⟨w.heap.size + 1 + 1, 1, none⟩ = some (.string ⟨#[]⟩) := cell_of_heap D2.out.res 1; have f0 : w2.frozen? ⟨w.heap.size + 1 + 1, 0, none⟩ = false := frozen_of_heap D2.out.res 0; have f1 : w2.frozen? ⟨w.heap.size + 1 + 1, 1, none⟩ = false := frozen_of_heap D2.out.res 1)
      | fail)
  have D3 := Lib.hid (((D2.out.set HGl.out 0 (.string x.src) #[.string x.src, .string ⟨#[]⟩, .string ⟨#[]⟩, .int .i64 0] rfl).set HGl.out 1 (.string x.bytes) #[.string x.src, .string x.bytes, .string ⟨#[]⟩, .int .i64 0] rfl).set HGl.out 3 (.int .i64 q) #[.string x.src, .string x.bytes, .string ⟨#[]⟩, .int .i64 q] rfl)
  generalize ((w2.setCell ⟨w.heap.size + 1 + 1, 0, none⟩ (.string x.src)).setCell ⟨w.heap.size + 1 + 1, 1, none⟩ (.string x.bytes)).setCell ⟨w.heap.size + 1 + 1, 3, none⟩ (.int .i64 q) = W3 at *
  clear q3 f3 q0 q1 f0 f1 c1 c2 c3 c4 c5 c6
  have s0 : W3.cell? ⟨w.heap.size + 1 + 1, 0, none⟩ = some (.string x.src) := cell_of_heap D3.out.res 0
  have s1 : W3.cell? ⟨w.heap.size + 1 + 1, 1, none⟩ = some (.string x.bytes) := cell_of_heap D3.out.res 1
  have s2 : W3.cell? ⟨w.heap.size + 1 + 1, 2, none⟩ = some (.string ⟨#[]⟩) := cell_of_heap D3.out.res 2
  have s3 : W3.cell? ⟨w.heap.size + 1 + 1, 3, none⟩ = some (.int .i64 q) := cell_of_heap D3.out.res 3
  have t0 : W3.cell? ⟨w.heap.size + 1, 0, none⟩ = some (.string ⟨#[]⟩) := cell_of_heap D3.out.out 0
  have g0 : W3.frozen? ⟨w.heap.size + 1, 0, none⟩ = false := frozen_of_heap D3.out.out 0
  have t1 : W3.cell? ⟨w.heap.size + 1, 1, none⟩ = some (.string ⟨#[]⟩) := cell_of_heap D3.out.out 1
  have g1 : W3.frozen? ⟨w.heap.size + 1, 1, none⟩ = false := frozen_of_heap D3.out.out 1
  have t2 : W3.cell? ⟨w.heap.size + 1, 2, none⟩ = some (.string ⟨#[]⟩) := cell_of_heap D3.out.out 2
  have g2 : W3.frozen? ⟨w.heap.size + 1, 2, none⟩ = false := frozen_of_heap D3.out.out 2
  have t3 : W3.cell? ⟨w.heap.size + 1, 3, none⟩ = some (.int .i64 0) := cell_of_heap D3.out.out 3
  have g3 : W3.frozen? ⟨w.heap.size + 1, 3, none⟩ = false := frozen_of_heap D3.out.out 3
  go_wp2
  refine bodyPost_ret (v := .agg #[.string x.src, .string x.bytes, .string ⟨#[]⟩, .int .i64 q]) (by simp [results, Tryz.results12, go_sem, t0, t1, t2, t3]) rfl ?_
  exact D3.out.post HGl.out (grown_set4 _ _ _ _ _ _) _

end Go.Proofs.YtijfdgoeppehlaaGreatDoor

namespace Go.Proofs.YtijfdgoeppehlaaGreatDoor
open Go.RowKit
attribute [local go_sem ↓] Go.wp_at_zero Go.wp_at_succ
set_option maxRecDepth 100000 in
set_option maxHeartbeats 1600000 in
theorem pw_get_bad {w0 w : World} {b : Nat} {N : NV} {o : Option PortT} {G : Nat → Prop} (kd wh us : Nat) (nu ep : Int) (sr by_ : ByteArray) (s : SW w0 w b N nu o G) (hk : kd % 5 = 4) (q : Nat) (hq : qArgs ⟨#[]⟩ nu ep = q) (h0 : q ≠ 0) :
    Calls Tryz.prog 12 #[.agg #[.int .u8 kd, .int .u8 wh, .int .u8 us, .int .i64 nu, .int .i64 ep, .string sr, .string by_], .pointer (some ⟨b, 0, none⟩)] w (SWP w0 b N nu o G w (.agg #[.string ⟨#[]⟩, .string ⟨#[]⟩, .string ⟨#[]⟩, .int .i64 q])) := by
  have HGl : Hid (∀ k, G k → k < w.heap.size) := s.glt
  have D0 := Lib.hid (CP.start s #[.int .u8 kd, .int .u8 wh, .int .u8 us, .int .i64 nu, .int .i64 ep, .string sr, .string by_])
  have hk' : (kd : Int) % 5 = 4 := by omega
  clear hk s
  have Hq := Lib.hid hq
  have H0 := Lib.hid h0
  have hq1 : ((q : Int) != 0) = true := bne_iff_ne.2 (by omega)
  have hq2 : ((q : Int) == 0) = false := beq_eq_false_iff_ne.2 (by omega)
  clear hq h0
  go_enter Tryz.func12, Tryz.ntmps12
  go_wp2_with fail
  generalize ((w.alloc (.cells #[.int .u8 kd, .int .u8 wh, .int .u8 us, .int .i64 nu, .int .i64 ep, .string sr, .string by_] 35)).alloc (.cells #[.string ⟨#[]⟩, .string ⟨#[]⟩, .string ⟨#[]⟩, .int .i64 0] 42)).alloc (.cells #[.string ⟨#[]⟩, .string ⟨#[]⟩, .string ⟨#[]⟩, .int .i64 0] 42) = W at *
  obtain ⟨c1, c2, c3, c4, c5, c6⟩ := D0.out.six
  go_wp2_with fail
  refine (getBad_any b nu ep q Hq.out H0.out _).mono ?_
  rintro r w1 ⟨rfl, hb1⟩
  have D1 := Lib.hid (D0.out.later hb1)
  clear hb1 c1 c2 c3 c4 c5 c6 D0
  have q3 : w1.cell? ⟨w.heap.size + 1 + 1, 3, none⟩ = some (.int .i64 0) := cell_of_heap D1.out.res 3
  have f3 : w1.frozen? ⟨w.heap.size + 1 + 1, 3, none⟩ = false := frozen_of_heap D1.out.res 3
  have hl := lt_of_heap D1.out.res
  have hne := World.new_ne w1 ⟨w.heap.size + 1 + 1, 3, none⟩ q3
  have D2 : Hid (∀ x, CP w0 w ((w1.setCell ⟨w.heap.size + 1 + 1, 3, none⟩ (.int .i64 q)).alloc x) b N nu o G #[.int .u8 kd, .int .u8 wh, .int .u8 us, .int .i64 nu, .int .i64 ep, .string sr, .string by_] #[.string ⟨#[]⟩, .string ⟨#[]⟩, .string ⟨#[]⟩, .int .i64 q]) := fun x => (D1.out.set HGl.out 3 _ _ rfl).later ((Below.refl _ _).alloc (Nat.le_refl _) _)
  go_upto_region 15 with fail
  have D3 := Lib.hid (D2.out (.cells #[.string ⟨#[]⟩, .int .i64 0, .int .i64 0, .slice none 0 0] 80))
  generalize (w1.setCell ⟨w.heap.size + 1 + 1, 3, none⟩ (.int .i64 q)).alloc (.cells #[.string ⟨#[]⟩, .int .i64 0, .int .i64 0, .slice none 0 0] 80) = W3 at *
  clear q3 f3 hl hne D2
  have s0 : W3.cell? ⟨w.heap.size + 1 + 1, 0, none⟩ = some (.string ⟨#[]⟩) := cell_of_heap D3.out.res 0
  have s1 : W3.cell? ⟨w.heap.size + 1 + 1, 1, none⟩ = some (.string ⟨#[]⟩) := cell_of_heap D3.out.res 1
  have s2 : W3.cell? ⟨w.heap.size + 1 + 1, 2, none⟩ = some (.string ⟨#[]⟩) := cell_of_heap D3.out.res 2
  have s3 : W3.cell? ⟨w.heap.size + 1 + 1, 3, none⟩ = some (.int .i64 q) := cell_of_heap D3.out.res 3
  have t0 : W3.cell? ⟨w.heap.size + 1, 0, none⟩ = some (.string ⟨#[]⟩) := cell_of_heap D3.out.out 0
  have g0 : W3.frozen? ⟨w.heap.size + 1, 0, none⟩ = false := frozen_of_heap D3.out.out 0
  have t1 : W3.cell? ⟨w.heap.size + 1, 1, none⟩ = some (.string ⟨#[]⟩) := cell_of_heap D3.out.out 1
  have g1 : W3.frozen? ⟨w.heap.size + 1, 1, none⟩ = false := frozen_of_heap D3.out.out 1
  have t2 : W3.cell? ⟨w.heap.size + 1, 2, none⟩ = some (.string ⟨#[]⟩) := cell_of_heap D3.out.out 2
  have g2 : W3.frozen? ⟨w.heap.size + 1, 2, none⟩ = false := frozen_of_heap D3.out.out 2
  have t3 : W3.cell? ⟨w.heap.size + 1, 3, none⟩ = some (.int .i64 0) := cell_of_heap D3.out.out 3
  have g3 : W3.frozen? ⟨w.heap.size + 1, 3, none⟩ = false := frozen_of_heap D3.out.out 3
  go_wp2
  refine bodyPost_ret (v := .agg #[.string ⟨#[]⟩, .string ⟨#[]⟩, .string ⟨#[]⟩, .int .i64 q]) (by simp [results, Tryz.results12, go_sem, t0, t1, t2, t3]) rfl ?_
  exact D3.out.post HGl.out (grown_set4 _ _ _ _ _ _) _

set_option maxRecDepth 100000 in
set_option maxHeartbeats 1600000 in
theorem pw_get_ok {w0 w : World} {b : Nat} {N : NV} {o : Option PortT} {G : Nat → Prop} (kd wh us : Nat) (nu ep : Int) (sr by_ : ByteArray) (s : SW w0 w b N nu o G) (hk : kd % 5 = 4) (hm : 1 ≤ nu ∧ nu ≤ 9999) (he : numB ep = true) (p : PortT) (q : Nat) (hst : qHas ep o = (p, q)) (te : ByteArray) (hte : te = if q = 0 then strOf (encQB p) else ⟨#[]⟩) :
    Calls Tryz.prog 12 #[.agg #[.int .u8 kd, .int .u8 wh, .int .u8 us, .int .i64 nu, .int .i64 ep, .string sr, .string by_], .pointer (some ⟨b, 0, none⟩)] w (SWP w0 b (N.seen nu) nu o G w (.agg #[.string ⟨#[]⟩, .string ⟨#[]⟩, .string te, .int .i64 q])) := by
  have HGl : Hid (∀ k, G k → k < w.heap.size) := s.glt
  have D0 := Lib.hid (CP.start s #[.int .u8 kd, .int .u8 wh, .int .u8 us, .int .i64 nu, .int .i64 ep, .string sr, .string by_])
  have hk' : (kd : Int) % 5 = 4 := by omega
  clear hk s
  have Hst := Lib.hid hst
  have Hte := Lib.hid hte
  clear hst hte
  go_enter Tryz.func12, Tryz.ntmps12
  go_wp2_with fail
  generalize ((w.alloc (.cells #[.int .u8 kd, .int .u8 wh, .int .u8 us, .int .i64 nu, .int .i64 ep, .string sr, .string by_] 35)).alloc (.cells #[.string ⟨#[]⟩, .string ⟨#[]⟩, .string ⟨#[]⟩, .int .i64 0] 42)).alloc (.cells #[.string ⟨#[]⟩, .string ⟨#[]⟩, .string ⟨#[]⟩, .int .i64 0] 42) = W at *
  obtain ⟨c1, c2, c3, c4, c5, c6⟩ := D0.out.six
  go_wp2_with fail
  refine (swGet w0 W b N nu o _ D0.out.s ep hm he p q Hst.out).mono ?_
  rintro r w1 ⟨a, n, c, rfl, hrow, hl, s1, hk1⟩
  have D1 := Lib.hid (D0.out.step (s1.fresh (Below.refl _ _) (fun k hk => .inl (.inl hk))) hk1)
  have Hrow := Lib.hid hrow
  clear hl s1 hk1 hrow c1 c2 c3 c4 c5 c6 D0
  have q3 : w1.cell? ⟨w.heap.size + 1 + 1, 3, none⟩ = some (.int .i64 0) := cell_of_heap D1.out.res 3
  have f3 : w1.frozen? ⟨w.heap.size + 1 + 1, 3, none⟩ = false := frozen_of_heap D1.out.res 3
  have hl := lt_of_heap D1.out.res
  have hne := World.new_ne w1 ⟨w.heap.size + 1 + 1, 3, none⟩ q3
  obtain ⟨ow, po, lo, ls⟩ := p
  dsimp only at *
  have D2 : Hid (∀ x, CP w0 w ((w1.setCell ⟨w.heap.size + 1 + 1, 3, none⟩ (.int .i64 q)).alloc x) b (N.seen nu) nu o G #[.int .u8 kd, .int .u8 wh, .int .u8 us, .int .i64 nu, .int .i64 ep, .string sr, .string by_] #[.string ⟨#[]⟩, .string ⟨#[]⟩, .string ⟨#[]⟩, .int .i64 q]) := fun x => (D1.out.set HGl.out 3 _ _ rfl).later ((Below.refl _ _).alloc (Nat.le_refl _) _)
  have HX2 : Hid (∀ x, ((w1.setCell ⟨w.heap.size + 1 + 1, 3, none⟩ (.int .i64 q)).alloc x).heap[w1.heap.size]? = some x) := fun x => by
    have := World.alloc_heap_new (w1.setCell ⟨w.heap.size + 1 + 1, 3, none⟩ (.int .i64 q)) x
    rwa [size_setCell] at this
  have HP2 : Hid (∀ x, PSl ((w1.setCell ⟨w.heap.size + 1 + 1, 3, none⟩ (.int .i64 q)).alloc x) a n ls) := fun x =>
    ((Hrow.out.sl.grown (grown_setCell _ _ _ _) (fun g off ha e => by
      have hg := Option.some.inj e
      rcases Hrow.out.2 with ⟨hv, _⟩ | ⟨g', cap', cur, hv, _, hh, _⟩
      · rw [ha] at hv; cases hv
      · rw [ha] at hv
        have : g = g' := by injection hv with h1; injection h1 with h2; injection h2
        subst this
        subst hg
        have := D1.out.res
        rw [hh] at this
        cases this)).later ((Below.refl _ _).alloc (Nat.le_refl _) _))
  by_cases hq : q = 0
  · subst hq
    obtain ⟨rfl, rfl⟩ := qHas_some Hst.out
    have hck := D1.out.s.check
    have Hck := Lib.hid hck
    have ht : te = strOf (encQB ⟨ow, po, lo, ls⟩) := Hte.out
    subst ht
    clear hck
    go_upto_region 6 with fail
    have D3 := Lib.hid (D2.out (.cells #[.string ow, .int .i64 po, .int .i64 lo, .slice a n c] 80))
    have hX3 := HX2.out (.cells #[.string ow, .int .i64 po, .int .i64 lo, .slice a n c] 80)
    have HP3 := Lib.hid (HP2.out (.cells #[.string ow, .int .i64 po, .int .i64 lo, .slice a n c] 80))
    generalize (w1.setCell ⟨w.heap.size + 1 + 1, 3, none⟩ (.int .i64 0)).alloc (.cells #[.string ow, .int .i64 po, .int .i64 lo, .slice a n c] 80) = W3 at *
    clear q3 f3 hl hne D2 HX2 HP2
    have x0 : W3.cell? ⟨w1.heap.size, 0, none⟩ = some (.string ow) := cell_of_heap hX3 0
    have x1 : W3.cell? ⟨w1.heap.size, 1, none⟩ = some (.int .i64 po) := cell_of_heap hX3 1
    have x2 : W3.cell? ⟨w1.heap.size, 2, none⟩ = some (.int .i64 lo) := cell_of_heap hX3 2
    have x3 : W3.cell? ⟨w1.heap.size, 3, none⟩ = some (.slice a n c) := cell_of_heap hX3 3
    clear hX3
    go_wp2_with fail
    refine (lEncode_any ow po lo a n c ls _ HP3.out Hck.out.2 Hck.out.1).mono ?_
    rintro r w4 ⟨rfl, hb4⟩
    have D4 := Lib.hid (D3.out.later hb4)
    clear hb4 x0 x1 x2 x3 D3 HP3
    have q2 : w4.cell? ⟨w.heap.size + 1 + 1, 2, none⟩ = some (.string ⟨#[]⟩) := cell_of_heap D4.out.res 2
    have f2 : w4.frozen? ⟨w.heap.size + 1 + 1, 2, none⟩ = false := frozen_of_heap D4.out.res 2
    go_upto_region 15 with fail
    generalize strOf (encQB ⟨ow, po, lo, ls⟩) = te at *
    have D5 := Lib.hid (D4.out.set HGl.out 2 (.string te) #[.string ⟨#[]⟩, .string ⟨#[]⟩, .string te, .int .i64 0] rfl)
    generalize w4.setCell ⟨w.heap.size + 1 + 1, 2, none⟩ (.string te) = W5 at *
    clear q2 f2 D4
    have s0 : W5.cell? ⟨w.heap.size + 1 + 1, 0, none⟩ = some (.string ⟨#[]⟩) := cell_of_heap D5.out.res 0
    have s1 : W5.cell? ⟨w.heap.size + 1 + 1, 1, none⟩ = some (.string ⟨#[]⟩) := cell_of_heap D5.out.res 1
    have s2 : W5.cell? ⟨w.heap.size + 1 + 1, 2, none⟩ = some (.string te) := cell_of_heap D5.out.res 2
    have s3 : W5.cell? ⟨w.heap.size + 1 + 1, 3, none⟩ = some (.int .i64 0) := cell_of_heap D5.out.res 3
    have t0 : W5.cell? ⟨w.heap.size + 1, 0, none⟩ = some (.string ⟨#[]⟩) := cell_of_heap D5.out.out 0
    have g0 : W5.frozen? ⟨w.heap.size + 1, 0, none⟩ = false := frozen_of_heap D5.out.out 0
    have t1 : W5.cell? ⟨w.heap.size + 1, 1, none⟩ = some (.string ⟨#[]⟩) := cell_of_heap D5.out.out 1
    have g1 : W5.frozen? ⟨w.heap.size + 1, 1, none⟩ = false := frozen_of_heap D5.out.out 1
    have t2 : W5.cell? ⟨w.heap.size + 1, 2, none⟩ = some (.string ⟨#[]⟩) := cell_of_heap D5.out.out 2
    have g2 : W5.frozen? ⟨w.heap.size + 1, 2, none⟩ = false := frozen_of_heap D5.out.out 2
    have t3 : W5.cell? ⟨w.heap.size + 1, 3, none⟩ = some (.int .i64 0) := cell_of_heap D5.out.out 3
    have g3 : W5.frozen? ⟨w.heap.size + 1, 3, none⟩ = false := frozen_of_heap D5.out.out 3
    go_wp2
    refine bodyPost_ret (v := .agg #[.string ⟨#[]⟩, .string ⟨#[]⟩, .string te, .int .i64 0]) (by simp [results, Tryz.results12, go_sem, t0, t1, t2, t3]) rfl ?_
    exact D5.out.post HGl.out (grown_set4 _ _ _ _ _ _) _
  · have hq1 : ((q : Int) != 0) = true := bne_iff_ne.2 (by omega)
    have hq2 : ((q : Int) == 0) = false := beq_eq_false_iff_ne.2 (by omega)
    have ht : te = ⟨#[]⟩ := by rw [Hte.out, if_neg hq]
    subst ht
    clear hq
    go_upto_region 15 with fail
    have D3 := Lib.hid (D2.out (.cells #[.string ow, .int .i64 po, .int .i64 lo, .slice a n c] 80))
    generalize (w1.setCell ⟨w.heap.size + 1 + 1, 3, none⟩ (.int .i64 q)).alloc (.cells #[.string ow, .int .i64 po, .int .i64 lo, .slice a n c] 80) = W3 at *
    clear q3 f3 hl hne D2
    have s0 : W3.cell? ⟨w.heap.size + 1 + 1, 0, none⟩ = some (.string ⟨#[]⟩) := cell_of_heap D3.out.res 0
    have s1 : W3.cell? ⟨w.heap.size + 1 + 1, 1, none⟩ = some (.string ⟨#[]⟩) := cell_of_heap D3.out.res 1
    have s2 : W3.cell? ⟨w.heap.size + 1 + 1, 2, none⟩ = some (.string ⟨#[]⟩) := cell_of_heap D3.out.res 2
    have s3 : W3.cell? ⟨w.heap.size + 1 + 1, 3, none⟩ = some (.int .i64 q) := cell_of_heap D3.out.res 3
    have t0 : W3.cell? ⟨w.heap.size + 1, 0, none⟩ = some (.string ⟨#[]⟩) := cell_of_heap D3.out.out 0
    have g0 : W3.frozen? ⟨w.heap.size + 1, 0, none⟩ = false := frozen_of_heap D3.out.out 0
    have t1 : W3.cell? ⟨w.heap.size + 1, 1, none⟩ = some (.string ⟨#[]⟩) := cell_of_heap D3.out.out 1
    have g1 : W3.frozen? ⟨w.heap.size + 1, 1, none⟩ = false := frozen_of_heap D3.out.out 1
    have t2 : W3.cell? ⟨w.heap.size + 1, 2, none⟩ = some (.string ⟨#[]⟩) := cell_of_heap D3.out.out 2
    have g2 : W3.frozen? ⟨w.heap.size + 1, 2, none⟩ = false := frozen_of_heap D3.out.out 2
    have t3 : W3.cell? ⟨w.heap.size + 1, 3, none⟩ = some (.int .i64 0) := cell_of_heap D3.out.out 3
    have g3 : W3.frozen? ⟨w.heap.size + 1, 3, none⟩ = false := frozen_of_heap D3.out.out 3
    go_wp2
    refine bodyPost_ret (v := .agg #[.string ⟨#[]⟩, .string ⟨#[]⟩, .string ⟨#[]⟩, .int .i64 q]) (by simp [results, Tryz.results12, go_sem, t0, t1, t2, t3]) rfl ?_
    exact D3.out.post HGl.out (grown_set4 _ _ _ _ _ _) _

theorem pw_any {w0 w : World} {b : Nat} {N : NV} {o : Option PortT} {G : Nat → Prop} {kd wh us : Nat} {nu ep : Int} {sr by_ : ByteArray} (s : SW w0 w b N nu o G) (hN : N.V.calls.length < 1000000) (hwh : wh ≤ 255) (hsr : sr.size ≤ 9223372036854775807) (hby : by_.size ≤ 9223372036854775807) :
    Calls Tryz.prog 12 #[.agg #[.int .u8 kd, .int .u8 wh, .int .u8 us, .int .i64 nu, .int .i64 ep, .string sr, .string by_], .pointer (some ⟨b, 0, none⟩)] w (SWP w0 b (N.step nu (pCallW kd wh us nu ep sr by_ o).2.2 (pCallW kd wh us nu ep sr by_ o).1) nu (pCallW kd wh us nu ep sr by_ o).1 G w (.agg (presCells (pCallW kd wh us nu ep sr by_ o).2.1))) := by
  unfold pCallW
  by_cases k0 : kd % 5 = 0
  · simp only [if_pos k0]
    exact pw_open kd wh us nu ep sr by_ s hN hwh _ _ _ k0 rfl
  by_cases k1 : kd % 5 = 1
  · simp only [if_neg k0, if_pos k1]
    exact pw_close kd wh us nu ep sr by_ s hN hwh _ _ _ k1 rfl
  by_cases k2 : kd % 5 = 2
  · simp only [if_neg k0, if_neg k1, if_pos k2]
    exact pw_arrive kd wh us nu ep sr by_ s hN hsr hby (by have := (cut_size sr 60).2; omega) (by have := (cut_size by_ 600).2; omega) _ _ _ k2 rfl
  by_cases k3 : kd % 5 = 3
  · simp only [if_neg k0, if_neg k1, if_neg k2, if_pos k3]
    exact pw_receive kd wh us nu ep sr by_ s hN hwh _ _ _ _ k3 rfl
  · simp only [if_neg k0, if_neg k1, if_neg k2, if_neg k3]
    unfold getW
    by_cases a : qArgs ⟨#[]⟩ nu ep ≠ 0
    · simp only [if_pos a]
      exact pw_get_bad kd wh us nu ep sr by_ s (by omega) _ rfl a
    · simp only [if_neg a]
      obtain ⟨_, hm, he⟩ := qArgs_ok (by simpa using a)
      exact pw_get_ok kd wh us nu ep sr by_ s (by omega) hm he _ _ rfl _ rfl
end Go.Proofs.YtijfdgoeppehlaaGreatDoor
