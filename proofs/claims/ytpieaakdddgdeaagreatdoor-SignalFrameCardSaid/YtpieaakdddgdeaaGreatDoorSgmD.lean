/- Law 33: an operation upon a view whose value is known. -/
import Derived.Test.YtpieaakdddgdeaaGreatDoorSgmC
import Derived.Test.YtpieaakdddgdeaaGreatDoorNilB
import Derived.Deep.RegionHeld3
import Derived.Deep.QuietTactic
import Derived.BigQuiet
import Derived.BigRegion
namespace Go.Proofs.YtpieaakdddgdeaaGreatDoor
open Go.RowKit
attribute [local go_sem ↓] Go.wp_at_zero Go.wp_at_succ

theorem whoS_ok (k : Nat) : NmOk (whoS k) := by
  unfold whoS
  split
  · exact ⟨by decide +kernel, by decide⟩
  split
  · exact ⟨by decide +kernel, by decide⟩
  split
  · exact ⟨by decide +kernel, by decide⟩
  split
  · exact ⟨by decide +kernel, by decide⟩
  split
  · exact ⟨by decide +kernel, by decide⟩
  · exact ⟨by decide +kernel, by decide⟩
def sCall (V : AV) (kd wh to : Nat) (sg nn : Int) (iss : Bool) : AV × SRes :=
  if kd % 10 = 0 then ((sAdd V (whoS wh) zeroR).1, ⟨0, 0, 0, false, (sAdd V (whoS wh) zeroR).2⟩) else
  if kd % 10 = 1 then ((sFork V (whoS wh) (whoS to)).1, ⟨0, 0, 0, false, (sFork V (whoS wh) (whoS to)).2⟩) else
  if kd % 10 = 2 then ((sDrop V (whoS wh)).1, ⟨0, 0, 0, false, (sDrop V (whoS wh)).2⟩) else
  if kd % 10 = 3 then ((sChange opExec V (whoS wh)).1, ⟨0, 0, 0, false, (sChange opExec V (whoS wh)).2⟩) else
  if kd % 10 = 4 then ((sSend V (whoS to) (whoS wh) sg).1, ⟨0, 0, 0, false, (sSend V (whoS to) (whoS wh) sg).2⟩) else
  if kd % 10 = 5 then ((sHandler V (whoS wh) sg nn).1, ⟨0, 0, 0, false, (sHandler V (whoS wh) sg nn).2⟩) else
  if kd % 10 = 6 then ((sIgnored V (whoS wh) sg iss).1, ⟨0, 0, 0, false, (sIgnored V (whoS wh) sg iss).2⟩) else
  if kd % 10 = 7 then ((sBlocked V (whoS wh) nn).1, ⟨0, 0, 0, false, (sBlocked V (whoS wh) nn).2⟩) else
  if kd % 10 = 8 then ((sTake V (whoS wh)).1, ⟨(sTake V (whoS wh)).2.sg, (sTake V (whoS wh)).2.ac, (sTake V (whoS wh)).2.ad, false, (sTake V (whoS wh)).2.e⟩) else
  ((sWait V (whoS wh)).1, ⟨0, 0, 0, (sWait V (whoS wh)).2, 0⟩)
/-- In the midst of call. -/
structure CQ (w0 w W : World) (b M : Nat) (V : AV) (G : Nat → Prop) (Z : Nat) (opc rc : Array Value) : Prop where
  q : QI w0 w b M V G (fun k => k = w.heap.size ∨ k = w.heap.size + 1 ∨ k = Z) W
  op : W.heap[w.heap.size]? = some (.cells opc 40 (0, 0))
  out : W.heap[w.heap.size + 1]? = some (.cells #[.int .i64 0, .int .i64 0, .int .i64 0, .bool false, .int .i64 0] 49 (0, 0))
  res : W.heap[Z]? = some (.cells rc 49 (0, 0))
  lt : w.heap.size + 1 < Z
section
variable {w0 w W W' : World} {b M Z : Nat} {V V' : AV} {G : Nat → Prop} {opc rc : Array Value}
theorem CQ.later (h : CQ w0 w W b M V G Z opc rc) (hb : Below W.heap.size W W') : CQ w0 w W' b M V G Z opc rc :=
  ⟨h.q.later hb, (hb.block _ (lt_of_heap h.op)).trans h.op, (hb.block _ (lt_of_heap h.out)).trans h.out, (hb.block _ (lt_of_heap h.res)).trans h.res, h.lt⟩
theorem CQ.step (h : CQ w0 w W b M V G Z opc rc) (s : QM w0 W' b M V' (fun k => G k ∨ (k = w.heap.size ∨ k = w.heap.size + 1 ∨ k = Z))) (hk : ∀ k, (G k ∨ (k = w.heap.size ∨ k = w.heap.size + 1 ∨ k = Z)) → W'.heap[k]? = W.heap[k]?) : CQ w0 w W' b M V' G Z opc rc :=
  ⟨h.q.step s hk, (hk _ (.inr (.inl rfl))).trans h.op, (hk _ (.inr (.inr (.inl rfl)))).trans h.out, (hk _ (.inr (.inr (.inr rfl)))).trans h.res, h.lt⟩
theorem CQ.set (h : CQ w0 w W b M V G Z opc rc) (i : Nat) (v : Value) (rc' : Array Value) (he : rc.setIfInBounds i v = rc') : CQ w0 w (W.setCell ⟨Z, i, none⟩ v) b M V G Z opc rc' :=
  ⟨h.q.set Z (.inr (.inr rfl)) i v, (Below.heap_setCell _ _ _ _ (by show w.heap.size ≠ Z; have := h.lt; omega)).trans h.op, (Below.heap_setCell _ _ _ _ (by show w.heap.size + 1 ≠ Z; have := h.lt; omega)).trans h.out, by rw [← he]; exact heap_setCell_same h.res i v, h.lt⟩
/-- Before the result is made. -/
structure CQ0 (w0 w W : World) (b M : Nat) (V : AV) (G : Nat → Prop) (opc : Array Value) : Prop where
  q : QI w0 w b M V G (fun k => k = w.heap.size ∨ k = w.heap.size + 1) W
  op : W.heap[w.heap.size]? = some (.cells opc 40 (0, 0))
  out : W.heap[w.heap.size + 1]? = some (.cells #[.int .i64 0, .int .i64 0, .int .i64 0, .bool false, .int .i64 0] 49 (0, 0))
theorem CQ0.start (s : QM w0 w b M V G) (opc : Array Value) : CQ0 w0 w ((w.alloc (.cells opc 40)).alloc (.cells #[.int .i64 0, .int .i64 0, .int .i64 0, .bool false, .int .i64 0] 49)) b M V G opc where
  q := s.qi (((Below.refl _ _).alloc (Nat.le_refl _) _).alloc (by simp) _) (fun k hk => by rcases hk with h | h <;> subst h <;> simp <;> omega)
  op := (Below.heap_alloc _ _ _ (by simp)).trans (World.alloc_heap_new w _)
  out := second_newS w _ _
theorem CQ0.later (h : CQ0 w0 w W b M V G opc) (hb : Below W.heap.size W W') : CQ0 w0 w W' b M V G opc :=
  ⟨h.q.later hb, (hb.block _ (lt_of_heap h.op)).trans h.op, (hb.block _ (lt_of_heap h.out)).trans h.out⟩
theorem CQ0.drew (h : CQ0 w0 w W b M V G opc) : CQ0 w0 w W.drew b M V G opc := h.later (Below.refl _ _).drew
theorem CQ0.next (h : CQ0 w0 w W b M V G opc) : CQ w0 w (W.alloc (.cells #[.int .i64 0, .int .i64 0, .int .i64 0, .bool false, .int .i64 0] 49)) b M V G W.heap.size opc #[.int .i64 0, .int .i64 0, .int .i64 0, .bool false, .int .i64 0] :=
  ⟨h.q.more ((Below.refl _ _).alloc (Nat.le_refl _) _) (fun k hk => by
    rcases hk with h | h | h
    · exact .inl (.inl h)
    · exact .inl (.inr h)
    · subst h; exact .inr (by simp)), (Below.heap_alloc _ _ _ (lt_of_heap h.op)).trans h.op, (Below.heap_alloc _ _ _ (lt_of_heap h.out)).trans h.out, World.alloc_heap_new W _, lt_of_heap h.out⟩
theorem CQ0.two {kd wh to : Nat} {sg nn : Int} {iss : Bool} (h : CQ0 w0 w W b M V G #[.int .u8 kd, .int .u8 wh, .int .u8 to, .int .i64 sg, .int .i64 nn, .bool iss]) : W.cell? ⟨w.heap.size, 1, none⟩ = some (.int .u8 wh) ∧ W.cell? ⟨w.heap.size, 2, none⟩ = some (.int .u8 to) := ⟨cell_of_heap h.op 1, cell_of_heap h.op 2⟩
end

set_option maxRecDepth 100000 in
set_option maxHeartbeats 6400000 in
theorem sCall_any {w0 w : World} {b M : Nat} {V : AV} {G : Nat → Prop} (s : QM w0 w b M V G) (hN : V.calls.length < 1000000) (kd wh to : Nat) (sg nn : Int) (iss : Bool) (hwh : wh ≤ 255) (hto : to ≤ 255) (hkd : kd ≤ 255) :
    Calls Tryz.prog 21 #[.agg #[.int .u8 kd, .int .u8 wh, .int .u8 to, .int .i64 sg, .int .i64 nn, .bool iss], .pointer (some ⟨b, 0, none⟩)] w (QMP w0 b M (sCall V kd wh to sg nn iss).1 G w (.agg (sResCells (sCall V kd wh to sg nn iss).2))) := by
  have D0 := Lib.hid (CQ0.start s #[.int .u8 kd, .int .u8 wh, .int .u8 to, .int .i64 sg, .int .i64 nn, .bool iss])
  have HN := Lib.hid hN
  have h10 : Hid (kd % 10 = 0 ∨ kd % 10 = 1 ∨ kd % 10 = 2 ∨ kd % 10 = 3 ∨ kd % 10 = 4 ∨ kd % 10 = 5 ∨ kd % 10 = 6 ∨ kd % 10 = 7 ∨ kd % 10 = 8 ∨ kd % 10 = 9) := by show _ ∨ _; omega
  have tok : True := trivial
  clear s hN
  go_enter Tryz.func21, Tryz.ntmps21
  go_wp2_with fail
  generalize (w.alloc (.cells #[.int .u8 kd, .int .u8 wh, .int .u8 to, .int .i64 sg, .int .i64 nn, .bool iss] 40)).alloc (.cells #[.int .i64 0, .int .i64 0, .int .i64 0, .bool false, .int .i64 0] 49) = W at *
  obtain ⟨c1, c2⟩ := D0.out.two
  have Dd := Lib.hid D0.out.drew
  clear D0
  go_region_held3 (fun w' => w'.cell? ⟨w.heap.size, 1, none⟩ = some (.int .u8 wh) ∧ w'.cell? ⟨w.heap.size, 2, none⟩ = some (.int .u8 to)) (first | with_reducible exact ⟨c1, c2⟩ | with_reducible exact D1.out.two | with_reducible exact D2.out.two | go_keep)
    (first
      | (go_at_call 24; have _g := tok; clear _g; refine (whoS_any wh _ hwh).mono ?_; rintro r w1 ⟨rfl, hb1⟩; have D1 := Lib.hid (Dd.out.later hb1); clear hb1 tok)
      | (go_at_call 24; refine (whoS_any to _ hto).mono ?_; rintro r w2 ⟨rfl, hb2⟩; have D2 := Lib.hid (D1.out.later hb2); clear hb2)
      | fail)
  clear c1 c2
  go_upto_region 3 with fail
  have D3 := Lib.hid D2.out.next
  clear Dd D1 D2
  generalize w2.alloc (.cells #[.int .i64 0, .int .i64 0, .int .i64 0, .bool false, .int .i64 0] 49) = Wa at *
  generalize w2.heap.size = ZZ at *
  have c0 : Wa.cell? ⟨w.heap.size, 0, none⟩ = some (.int .u8 kd) := cell_of_heap D3.out.op 0
  have c3 : Wa.cell? ⟨w.heap.size, 3, none⟩ = some (.int .i64 sg) := cell_of_heap D3.out.op 3
  have c4 : Wa.cell? ⟨w.heap.size, 4, none⟩ = some (.int .i64 nn) := cell_of_heap D3.out.op 4
  have c5 : Wa.cell? ⟨w.heap.size, 5, none⟩ = some (.bool iss) := cell_of_heap D3.out.op 5
  rcases h10.out with h | h | h | h | h | h | h | h | h | h
  · have hk : (kd : Int) % 10 = 0 := by omega
    obtain ⟨X, hX⟩ : ∃ X, sAdd V (whoS wh) zeroR = X := ⟨_, rfl⟩
    have hE : sCall V kd wh to sg nn iss = ((sAdd V (whoS wh) zeroR).1, ⟨0, 0, 0, false, (sAdd V (whoS wh) zeroR).2⟩) := by unfold sCall; rw [ if_pos h]
    have hcall := qmSMake D3.out.q.s (whoS_ok wh) HN.out
    rw [hX] at hE hcall
    have Hcall := Lib.hid hcall
    have HE := Lib.hid hE
    clear h h10 hE hcall hX
    obtain ⟨V2, x4⟩ := X
    dsimp only [sResCells] at *
    go_wp2_with fail
    refine Hcall.out.mono ?_
    rintro r w3 ⟨rfl, s3, hk3⟩
    have D4 := Lib.hid (D3.out.step s3 hk3)
    clear s3 hk3 D3 c0 c3 c4 c5 Hcall
    have q4 : w3.cell? ⟨ZZ, 4, none⟩ = some (.int .i64 0) := cell_of_heap D4.out.res 4
    have f4 : w3.frozen? ⟨ZZ, 4, none⟩ = false := frozen_of_heap D4.out.res 4
    go_upto_region 23 with fail
    have D5 := Lib.hid (D4.out.set 4 (.int .i64 x4) #[.int .i64 0, .int .i64 0, .int .i64 0, .bool false, .int .i64 x4] rfl)
    generalize (w3.setCell ⟨ZZ, 4, none⟩ (.int .i64 x4)) = W3 at *
    clear D4 q4 f4
    have s0 : W3.cell? ⟨ZZ, 0, none⟩ = some (.int .i64 0) := cell_of_heap D5.out.res 0
    have s1 : W3.cell? ⟨ZZ, 1, none⟩ = some (.int .i64 0) := cell_of_heap D5.out.res 1
    have s2 : W3.cell? ⟨ZZ, 2, none⟩ = some (.int .i64 0) := cell_of_heap D5.out.res 2
    have s3 : W3.cell? ⟨ZZ, 3, none⟩ = some (.bool false) := cell_of_heap D5.out.res 3
    have s4 : W3.cell? ⟨ZZ, 4, none⟩ = some (.int .i64 x4) := cell_of_heap D5.out.res 4
    have t0 : W3.cell? ⟨w.heap.size + 1, 0, none⟩ = some (.int .i64 0) := cell_of_heap D5.out.out 0
    have g0 : W3.frozen? ⟨w.heap.size + 1, 0, none⟩ = false := frozen_of_heap D5.out.out 0
    have t1 : W3.cell? ⟨w.heap.size + 1, 1, none⟩ = some (.int .i64 0) := cell_of_heap D5.out.out 1
    have g1 : W3.frozen? ⟨w.heap.size + 1, 1, none⟩ = false := frozen_of_heap D5.out.out 1
    have t2 : W3.cell? ⟨w.heap.size + 1, 2, none⟩ = some (.int .i64 0) := cell_of_heap D5.out.out 2
    have g2 : W3.frozen? ⟨w.heap.size + 1, 2, none⟩ = false := frozen_of_heap D5.out.out 2
    have t3 : W3.cell? ⟨w.heap.size + 1, 3, none⟩ = some (.bool false) := cell_of_heap D5.out.out 3
    have g3 : W3.frozen? ⟨w.heap.size + 1, 3, none⟩ = false := frozen_of_heap D5.out.out 3
    have t4 : W3.cell? ⟨w.heap.size + 1, 4, none⟩ = some (.int .i64 0) := cell_of_heap D5.out.out 4
    have g4 : W3.frozen? ⟨w.heap.size + 1, 4, none⟩ = false := frozen_of_heap D5.out.out 4
    go_wp2
    refine bodyPost_ret (v := .agg #[.int .i64 0, .int .i64 0, .int .i64 0, .bool false, .int .i64 x4]) (by simp [results, Tryz.results21, go_sem, t0, t1, t2, t3, t4]) rfl ?_
    rw [HE.out]
    exact (D5.out.q.grown _ (.inr (.inl rfl)) (grown_set5 _ _ _ _ _ _ _)).post _
  · have hk : (kd : Int) % 10 = 1 := by omega
    obtain ⟨X, hX⟩ : ∃ X, sFork V (whoS wh) (whoS to) = X := ⟨_, rfl⟩
    have hE : sCall V kd wh to sg nn iss = ((sFork V (whoS wh) (whoS to)).1, ⟨0, 0, 0, false, (sFork V (whoS wh) (whoS to)).2⟩) := by unfold sCall; rw [if_neg (by omega), if_pos h]
    have hcall := qmSFork D3.out.q.s (whoS_ok wh) (whoS_ok to) HN.out
    rw [hX] at hE hcall
    have Hcall := Lib.hid hcall
    have HE := Lib.hid hE
    clear h h10 hE hcall hX
    obtain ⟨V2, x4⟩ := X
    dsimp only [sResCells] at *
    go_wp2_with fail
    refine Hcall.out.mono ?_
    rintro r w3 ⟨rfl, s3, hk3⟩
    have D4 := Lib.hid (D3.out.step s3 hk3)
    clear s3 hk3 D3 c0 c3 c4 c5 Hcall
    have q4 : w3.cell? ⟨ZZ, 4, none⟩ = some (.int .i64 0) := cell_of_heap D4.out.res 4
    have f4 : w3.frozen? ⟨ZZ, 4, none⟩ = false := frozen_of_heap D4.out.res 4
    go_upto_region 23 with fail
    have D5 := Lib.hid (D4.out.set 4 (.int .i64 x4) #[.int .i64 0, .int .i64 0, .int .i64 0, .bool false, .int .i64 x4] rfl)
    generalize (w3.setCell ⟨ZZ, 4, none⟩ (.int .i64 x4)) = W3 at *
    clear D4 q4 f4
    have s0 : W3.cell? ⟨ZZ, 0, none⟩ = some (.int .i64 0) := cell_of_heap D5.out.res 0
    have s1 : W3.cell? ⟨ZZ, 1, none⟩ = some (.int .i64 0) := cell_of_heap D5.out.res 1
    have s2 : W3.cell? ⟨ZZ, 2, none⟩ = some (.int .i64 0) := cell_of_heap D5.out.res 2
    have s3 : W3.cell? ⟨ZZ, 3, none⟩ = some (.bool false) := cell_of_heap D5.out.res 3
    have s4 : W3.cell? ⟨ZZ, 4, none⟩ = some (.int .i64 x4) := cell_of_heap D5.out.res 4
    have t0 : W3.cell? ⟨w.heap.size + 1, 0, none⟩ = some (.int .i64 0) := cell_of_heap D5.out.out 0
    have g0 : W3.frozen? ⟨w.heap.size + 1, 0, none⟩ = false := frozen_of_heap D5.out.out 0
    have t1 : W3.cell? ⟨w.heap.size + 1, 1, none⟩ = some (.int .i64 0) := cell_of_heap D5.out.out 1
    have g1 : W3.frozen? ⟨w.heap.size + 1, 1, none⟩ = false := frozen_of_heap D5.out.out 1
    have t2 : W3.cell? ⟨w.heap.size + 1, 2, none⟩ = some (.int .i64 0) := cell_of_heap D5.out.out 2
    have g2 : W3.frozen? ⟨w.heap.size + 1, 2, none⟩ = false := frozen_of_heap D5.out.out 2
    have t3 : W3.cell? ⟨w.heap.size + 1, 3, none⟩ = some (.bool false) := cell_of_heap D5.out.out 3
    have g3 : W3.frozen? ⟨w.heap.size + 1, 3, none⟩ = false := frozen_of_heap D5.out.out 3
    have t4 : W3.cell? ⟨w.heap.size + 1, 4, none⟩ = some (.int .i64 0) := cell_of_heap D5.out.out 4
    have g4 : W3.frozen? ⟨w.heap.size + 1, 4, none⟩ = false := frozen_of_heap D5.out.out 4
    go_wp2
    refine bodyPost_ret (v := .agg #[.int .i64 0, .int .i64 0, .int .i64 0, .bool false, .int .i64 x4]) (by simp [results, Tryz.results21, go_sem, t0, t1, t2, t3, t4]) rfl ?_
    rw [HE.out]
    exact (D5.out.q.grown _ (.inr (.inl rfl)) (grown_set5 _ _ _ _ _ _ _)).post _
  · have hk : (kd : Int) % 10 = 2 := by omega
    obtain ⟨X, hX⟩ : ∃ X, sDrop V (whoS wh) = X := ⟨_, rfl⟩
    have hE : sCall V kd wh to sg nn iss = ((sDrop V (whoS wh)).1, ⟨0, 0, 0, false, (sDrop V (whoS wh)).2⟩) := by unfold sCall; rw [if_neg (by omega), if_neg (by omega), if_pos h]
    have hcall := qmSDrop D3.out.q.s (whoS_ok wh) HN.out
    rw [hX] at hE hcall
    have Hcall := Lib.hid hcall
    have HE := Lib.hid hE
    clear h h10 hE hcall hX
    obtain ⟨V2, x4⟩ := X
    dsimp only [sResCells] at *
    go_wp2_with fail
    refine Hcall.out.mono ?_
    rintro r w3 ⟨rfl, s3, hk3⟩
    have D4 := Lib.hid (D3.out.step s3 hk3)
    clear s3 hk3 D3 c0 c3 c4 c5 Hcall
    have q4 : w3.cell? ⟨ZZ, 4, none⟩ = some (.int .i64 0) := cell_of_heap D4.out.res 4
    have f4 : w3.frozen? ⟨ZZ, 4, none⟩ = false := frozen_of_heap D4.out.res 4
    go_upto_region 23 with fail
    have D5 := Lib.hid (D4.out.set 4 (.int .i64 x4) #[.int .i64 0, .int .i64 0, .int .i64 0, .bool false, .int .i64 x4] rfl)
    generalize (w3.setCell ⟨ZZ, 4, none⟩ (.int .i64 x4)) = W3 at *
    clear D4 q4 f4
    have s0 : W3.cell? ⟨ZZ, 0, none⟩ = some (.int .i64 0) := cell_of_heap D5.out.res 0
    have s1 : W3.cell? ⟨ZZ, 1, none⟩ = some (.int .i64 0) := cell_of_heap D5.out.res 1
    have s2 : W3.cell? ⟨ZZ, 2, none⟩ = some (.int .i64 0) := cell_of_heap D5.out.res 2
    have s3 : W3.cell? ⟨ZZ, 3, none⟩ = some (.bool false) := cell_of_heap D5.out.res 3
    have s4 : W3.cell? ⟨ZZ, 4, none⟩ = some (.int .i64 x4) := cell_of_heap D5.out.res 4
    have t0 : W3.cell? ⟨w.heap.size + 1, 0, none⟩ = some (.int .i64 0) := cell_of_heap D5.out.out 0
    have g0 : W3.frozen? ⟨w.heap.size + 1, 0, none⟩ = false := frozen_of_heap D5.out.out 0
    have t1 : W3.cell? ⟨w.heap.size + 1, 1, none⟩ = some (.int .i64 0) := cell_of_heap D5.out.out 1
    have g1 : W3.frozen? ⟨w.heap.size + 1, 1, none⟩ = false := frozen_of_heap D5.out.out 1
    have t2 : W3.cell? ⟨w.heap.size + 1, 2, none⟩ = some (.int .i64 0) := cell_of_heap D5.out.out 2
    have g2 : W3.frozen? ⟨w.heap.size + 1, 2, none⟩ = false := frozen_of_heap D5.out.out 2
    have t3 : W3.cell? ⟨w.heap.size + 1, 3, none⟩ = some (.bool false) := cell_of_heap D5.out.out 3
    have g3 : W3.frozen? ⟨w.heap.size + 1, 3, none⟩ = false := frozen_of_heap D5.out.out 3
    have t4 : W3.cell? ⟨w.heap.size + 1, 4, none⟩ = some (.int .i64 0) := cell_of_heap D5.out.out 4
    have g4 : W3.frozen? ⟨w.heap.size + 1, 4, none⟩ = false := frozen_of_heap D5.out.out 4
    go_wp2
    refine bodyPost_ret (v := .agg #[.int .i64 0, .int .i64 0, .int .i64 0, .bool false, .int .i64 x4]) (by simp [results, Tryz.results21, go_sem, t0, t1, t2, t3, t4]) rfl ?_
    rw [HE.out]
    exact (D5.out.q.grown _ (.inr (.inl rfl)) (grown_set5 _ _ _ _ _ _ _)).post _
  · have hk : (kd : Int) % 10 = 3 := by omega
    obtain ⟨X, hX⟩ : ∃ X, sChange opExec V (whoS wh) = X := ⟨_, rfl⟩
    have hE : sCall V kd wh to sg nn iss = ((sChange opExec V (whoS wh)).1, ⟨0, 0, 0, false, (sChange opExec V (whoS wh)).2⟩) := by unfold sCall; rw [if_neg (by omega), if_neg (by omega), if_neg (by omega), if_pos h]
    have hcall := qmSExec D3.out.q.s (whoS_ok wh) HN.out
    rw [hX] at hE hcall
    have Hcall := Lib.hid hcall
    have HE := Lib.hid hE
    clear h h10 hE hcall hX
    obtain ⟨V2, x4⟩ := X
    dsimp only [sResCells] at *
    go_wp2_with fail
    refine Hcall.out.mono ?_
    rintro r w3 ⟨rfl, s3, hk3⟩
    have D4 := Lib.hid (D3.out.step s3 hk3)
    clear s3 hk3 D3 c0 c3 c4 c5 Hcall
    have q4 : w3.cell? ⟨ZZ, 4, none⟩ = some (.int .i64 0) := cell_of_heap D4.out.res 4
    have f4 : w3.frozen? ⟨ZZ, 4, none⟩ = false := frozen_of_heap D4.out.res 4
    go_upto_region 23 with fail
    have D5 := Lib.hid (D4.out.set 4 (.int .i64 x4) #[.int .i64 0, .int .i64 0, .int .i64 0, .bool false, .int .i64 x4] rfl)
    generalize (w3.setCell ⟨ZZ, 4, none⟩ (.int .i64 x4)) = W3 at *
    clear D4 q4 f4
    have s0 : W3.cell? ⟨ZZ, 0, none⟩ = some (.int .i64 0) := cell_of_heap D5.out.res 0
    have s1 : W3.cell? ⟨ZZ, 1, none⟩ = some (.int .i64 0) := cell_of_heap D5.out.res 1
    have s2 : W3.cell? ⟨ZZ, 2, none⟩ = some (.int .i64 0) := cell_of_heap D5.out.res 2
    have s3 : W3.cell? ⟨ZZ, 3, none⟩ = some (.bool false) := cell_of_heap D5.out.res 3
    have s4 : W3.cell? ⟨ZZ, 4, none⟩ = some (.int .i64 x4) := cell_of_heap D5.out.res 4
    have t0 : W3.cell? ⟨w.heap.size + 1, 0, none⟩ = some (.int .i64 0) := cell_of_heap D5.out.out 0
    have g0 : W3.frozen? ⟨w.heap.size + 1, 0, none⟩ = false := frozen_of_heap D5.out.out 0
    have t1 : W3.cell? ⟨w.heap.size + 1, 1, none⟩ = some (.int .i64 0) := cell_of_heap D5.out.out 1
    have g1 : W3.frozen? ⟨w.heap.size + 1, 1, none⟩ = false := frozen_of_heap D5.out.out 1
    have t2 : W3.cell? ⟨w.heap.size + 1, 2, none⟩ = some (.int .i64 0) := cell_of_heap D5.out.out 2
    have g2 : W3.frozen? ⟨w.heap.size + 1, 2, none⟩ = false := frozen_of_heap D5.out.out 2
    have t3 : W3.cell? ⟨w.heap.size + 1, 3, none⟩ = some (.bool false) := cell_of_heap D5.out.out 3
    have g3 : W3.frozen? ⟨w.heap.size + 1, 3, none⟩ = false := frozen_of_heap D5.out.out 3
    have t4 : W3.cell? ⟨w.heap.size + 1, 4, none⟩ = some (.int .i64 0) := cell_of_heap D5.out.out 4
    have g4 : W3.frozen? ⟨w.heap.size + 1, 4, none⟩ = false := frozen_of_heap D5.out.out 4
    go_wp2
    refine bodyPost_ret (v := .agg #[.int .i64 0, .int .i64 0, .int .i64 0, .bool false, .int .i64 x4]) (by simp [results, Tryz.results21, go_sem, t0, t1, t2, t3, t4]) rfl ?_
    rw [HE.out]
    exact (D5.out.q.grown _ (.inr (.inl rfl)) (grown_set5 _ _ _ _ _ _ _)).post _
  · have hk : (kd : Int) % 10 = 4 := by omega
    obtain ⟨X, hX⟩ : ∃ X, sSend V (whoS to) (whoS wh) sg = X := ⟨_, rfl⟩
    have hE : sCall V kd wh to sg nn iss = ((sSend V (whoS to) (whoS wh) sg).1, ⟨0, 0, 0, false, (sSend V (whoS to) (whoS wh) sg).2⟩) := by unfold sCall; rw [if_neg (by omega), if_neg (by omega), if_neg (by omega), if_neg (by omega), if_pos h]
    have hcall := qmSSend D3.out.q.s (whoS_ok to) (whoS_ok wh) HN.out sg
    rw [hX] at hE hcall
    have Hcall := Lib.hid hcall
    have HE := Lib.hid hE
    clear h h10 hE hcall hX
    obtain ⟨V2, x4⟩ := X
    dsimp only [sResCells] at *
    go_wp2_with fail
    refine Hcall.out.mono ?_
    rintro r w3 ⟨rfl, s3, hk3⟩
    have D4 := Lib.hid (D3.out.step s3 hk3)
    clear s3 hk3 D3 c0 c3 c4 c5 Hcall
    have q4 : w3.cell? ⟨ZZ, 4, none⟩ = some (.int .i64 0) := cell_of_heap D4.out.res 4
    have f4 : w3.frozen? ⟨ZZ, 4, none⟩ = false := frozen_of_heap D4.out.res 4
    go_upto_region 23 with fail
    have D5 := Lib.hid (D4.out.set 4 (.int .i64 x4) #[.int .i64 0, .int .i64 0, .int .i64 0, .bool false, .int .i64 x4] rfl)
    generalize (w3.setCell ⟨ZZ, 4, none⟩ (.int .i64 x4)) = W3 at *
    clear D4 q4 f4
    have s0 : W3.cell? ⟨ZZ, 0, none⟩ = some (.int .i64 0) := cell_of_heap D5.out.res 0
    have s1 : W3.cell? ⟨ZZ, 1, none⟩ = some (.int .i64 0) := cell_of_heap D5.out.res 1
    have s2 : W3.cell? ⟨ZZ, 2, none⟩ = some (.int .i64 0) := cell_of_heap D5.out.res 2
    have s3 : W3.cell? ⟨ZZ, 3, none⟩ = some (.bool false) := cell_of_heap D5.out.res 3
    have s4 : W3.cell? ⟨ZZ, 4, none⟩ = some (.int .i64 x4) := cell_of_heap D5.out.res 4
    have t0 : W3.cell? ⟨w.heap.size + 1, 0, none⟩ = some (.int .i64 0) := cell_of_heap D5.out.out 0
    have g0 : W3.frozen? ⟨w.heap.size + 1, 0, none⟩ = false := frozen_of_heap D5.out.out 0
    have t1 : W3.cell? ⟨w.heap.size + 1, 1, none⟩ = some (.int .i64 0) := cell_of_heap D5.out.out 1
    have g1 : W3.frozen? ⟨w.heap.size + 1, 1, none⟩ = false := frozen_of_heap D5.out.out 1
    have t2 : W3.cell? ⟨w.heap.size + 1, 2, none⟩ = some (.int .i64 0) := cell_of_heap D5.out.out 2
    have g2 : W3.frozen? ⟨w.heap.size + 1, 2, none⟩ = false := frozen_of_heap D5.out.out 2
    have t3 : W3.cell? ⟨w.heap.size + 1, 3, none⟩ = some (.bool false) := cell_of_heap D5.out.out 3
    have g3 : W3.frozen? ⟨w.heap.size + 1, 3, none⟩ = false := frozen_of_heap D5.out.out 3
    have t4 : W3.cell? ⟨w.heap.size + 1, 4, none⟩ = some (.int .i64 0) := cell_of_heap D5.out.out 4
    have g4 : W3.frozen? ⟨w.heap.size + 1, 4, none⟩ = false := frozen_of_heap D5.out.out 4
    go_wp2
    refine bodyPost_ret (v := .agg #[.int .i64 0, .int .i64 0, .int .i64 0, .bool false, .int .i64 x4]) (by simp [results, Tryz.results21, go_sem, t0, t1, t2, t3, t4]) rfl ?_
    rw [HE.out]
    exact (D5.out.q.grown _ (.inr (.inl rfl)) (grown_set5 _ _ _ _ _ _ _)).post _
  · have hk : (kd : Int) % 10 = 5 := by omega
    obtain ⟨X, hX⟩ : ∃ X, sHandler V (whoS wh) sg nn = X := ⟨_, rfl⟩
    have hE : sCall V kd wh to sg nn iss = ((sHandler V (whoS wh) sg nn).1, ⟨0, 0, 0, false, (sHandler V (whoS wh) sg nn).2⟩) := by unfold sCall; rw [if_neg (by omega), if_neg (by omega), if_neg (by omega), if_neg (by omega), if_neg (by omega), if_pos h]
    have hcall := qmSHandler D3.out.q.s (whoS_ok wh) HN.out sg nn
    rw [hX] at hE hcall
    have Hcall := Lib.hid hcall
    have HE := Lib.hid hE
    clear h h10 hE hcall hX
    obtain ⟨V2, x4⟩ := X
    dsimp only [sResCells] at *
    go_wp2_with fail
    refine Hcall.out.mono ?_
    rintro r w3 ⟨rfl, s3, hk3⟩
    have D4 := Lib.hid (D3.out.step s3 hk3)
    clear s3 hk3 D3 c0 c3 c4 c5 Hcall
    have q4 : w3.cell? ⟨ZZ, 4, none⟩ = some (.int .i64 0) := cell_of_heap D4.out.res 4
    have f4 : w3.frozen? ⟨ZZ, 4, none⟩ = false := frozen_of_heap D4.out.res 4
    go_upto_region 23 with fail
    have D5 := Lib.hid (D4.out.set 4 (.int .i64 x4) #[.int .i64 0, .int .i64 0, .int .i64 0, .bool false, .int .i64 x4] rfl)
    generalize (w3.setCell ⟨ZZ, 4, none⟩ (.int .i64 x4)) = W3 at *
    clear D4 q4 f4
    have s0 : W3.cell? ⟨ZZ, 0, none⟩ = some (.int .i64 0) := cell_of_heap D5.out.res 0
    have s1 : W3.cell? ⟨ZZ, 1, none⟩ = some (.int .i64 0) := cell_of_heap D5.out.res 1
    have s2 : W3.cell? ⟨ZZ, 2, none⟩ = some (.int .i64 0) := cell_of_heap D5.out.res 2
    have s3 : W3.cell? ⟨ZZ, 3, none⟩ = some (.bool false) := cell_of_heap D5.out.res 3
    have s4 : W3.cell? ⟨ZZ, 4, none⟩ = some (.int .i64 x4) := cell_of_heap D5.out.res 4
    have t0 : W3.cell? ⟨w.heap.size + 1, 0, none⟩ = some (.int .i64 0) := cell_of_heap D5.out.out 0
    have g0 : W3.frozen? ⟨w.heap.size + 1, 0, none⟩ = false := frozen_of_heap D5.out.out 0
    have t1 : W3.cell? ⟨w.heap.size + 1, 1, none⟩ = some (.int .i64 0) := cell_of_heap D5.out.out 1
    have g1 : W3.frozen? ⟨w.heap.size + 1, 1, none⟩ = false := frozen_of_heap D5.out.out 1
    have t2 : W3.cell? ⟨w.heap.size + 1, 2, none⟩ = some (.int .i64 0) := cell_of_heap D5.out.out 2
    have g2 : W3.frozen? ⟨w.heap.size + 1, 2, none⟩ = false := frozen_of_heap D5.out.out 2
    have t3 : W3.cell? ⟨w.heap.size + 1, 3, none⟩ = some (.bool false) := cell_of_heap D5.out.out 3
    have g3 : W3.frozen? ⟨w.heap.size + 1, 3, none⟩ = false := frozen_of_heap D5.out.out 3
    have t4 : W3.cell? ⟨w.heap.size + 1, 4, none⟩ = some (.int .i64 0) := cell_of_heap D5.out.out 4
    have g4 : W3.frozen? ⟨w.heap.size + 1, 4, none⟩ = false := frozen_of_heap D5.out.out 4
    go_wp2
    refine bodyPost_ret (v := .agg #[.int .i64 0, .int .i64 0, .int .i64 0, .bool false, .int .i64 x4]) (by simp [results, Tryz.results21, go_sem, t0, t1, t2, t3, t4]) rfl ?_
    rw [HE.out]
    exact (D5.out.q.grown _ (.inr (.inl rfl)) (grown_set5 _ _ _ _ _ _ _)).post _
  · have hk : (kd : Int) % 10 = 6 := by omega
    obtain ⟨X, hX⟩ : ∃ X, sIgnored V (whoS wh) sg iss = X := ⟨_, rfl⟩
    have hE : sCall V kd wh to sg nn iss = ((sIgnored V (whoS wh) sg iss).1, ⟨0, 0, 0, false, (sIgnored V (whoS wh) sg iss).2⟩) := by unfold sCall; rw [if_neg (by omega), if_neg (by omega), if_neg (by omega), if_neg (by omega), if_neg (by omega), if_neg (by omega), if_pos h]
    have hcall := qmSIgnored D3.out.q.s (whoS_ok wh) HN.out sg iss
    rw [hX] at hE hcall
    have Hcall := Lib.hid hcall
    have HE := Lib.hid hE
    clear h h10 hE hcall hX
    obtain ⟨V2, x4⟩ := X
    dsimp only [sResCells] at *
    go_wp2_with fail
    refine Hcall.out.mono ?_
    rintro r w3 ⟨rfl, s3, hk3⟩
    have D4 := Lib.hid (D3.out.step s3 hk3)
    clear s3 hk3 D3 c0 c3 c4 c5 Hcall
    have q4 : w3.cell? ⟨ZZ, 4, none⟩ = some (.int .i64 0) := cell_of_heap D4.out.res 4
    have f4 : w3.frozen? ⟨ZZ, 4, none⟩ = false := frozen_of_heap D4.out.res 4
    go_upto_region 23 with fail
    have D5 := Lib.hid (D4.out.set 4 (.int .i64 x4) #[.int .i64 0, .int .i64 0, .int .i64 0, .bool false, .int .i64 x4] rfl)
    generalize (w3.setCell ⟨ZZ, 4, none⟩ (.int .i64 x4)) = W3 at *
    clear D4 q4 f4
    have s0 : W3.cell? ⟨ZZ, 0, none⟩ = some (.int .i64 0) := cell_of_heap D5.out.res 0
    have s1 : W3.cell? ⟨ZZ, 1, none⟩ = some (.int .i64 0) := cell_of_heap D5.out.res 1
    have s2 : W3.cell? ⟨ZZ, 2, none⟩ = some (.int .i64 0) := cell_of_heap D5.out.res 2
    have s3 : W3.cell? ⟨ZZ, 3, none⟩ = some (.bool false) := cell_of_heap D5.out.res 3
    have s4 : W3.cell? ⟨ZZ, 4, none⟩ = some (.int .i64 x4) := cell_of_heap D5.out.res 4
    have t0 : W3.cell? ⟨w.heap.size + 1, 0, none⟩ = some (.int .i64 0) := cell_of_heap D5.out.out 0
    have g0 : W3.frozen? ⟨w.heap.size + 1, 0, none⟩ = false := frozen_of_heap D5.out.out 0
    have t1 : W3.cell? ⟨w.heap.size + 1, 1, none⟩ = some (.int .i64 0) := cell_of_heap D5.out.out 1
    have g1 : W3.frozen? ⟨w.heap.size + 1, 1, none⟩ = false := frozen_of_heap D5.out.out 1
    have t2 : W3.cell? ⟨w.heap.size + 1, 2, none⟩ = some (.int .i64 0) := cell_of_heap D5.out.out 2
    have g2 : W3.frozen? ⟨w.heap.size + 1, 2, none⟩ = false := frozen_of_heap D5.out.out 2
    have t3 : W3.cell? ⟨w.heap.size + 1, 3, none⟩ = some (.bool false) := cell_of_heap D5.out.out 3
    have g3 : W3.frozen? ⟨w.heap.size + 1, 3, none⟩ = false := frozen_of_heap D5.out.out 3
    have t4 : W3.cell? ⟨w.heap.size + 1, 4, none⟩ = some (.int .i64 0) := cell_of_heap D5.out.out 4
    have g4 : W3.frozen? ⟨w.heap.size + 1, 4, none⟩ = false := frozen_of_heap D5.out.out 4
    go_wp2
    refine bodyPost_ret (v := .agg #[.int .i64 0, .int .i64 0, .int .i64 0, .bool false, .int .i64 x4]) (by simp [results, Tryz.results21, go_sem, t0, t1, t2, t3, t4]) rfl ?_
    rw [HE.out]
    exact (D5.out.q.grown _ (.inr (.inl rfl)) (grown_set5 _ _ _ _ _ _ _)).post _
  · have hk : (kd : Int) % 10 = 7 := by omega
    obtain ⟨X, hX⟩ : ∃ X, sBlocked V (whoS wh) nn = X := ⟨_, rfl⟩
    have hE : sCall V kd wh to sg nn iss = ((sBlocked V (whoS wh) nn).1, ⟨0, 0, 0, false, (sBlocked V (whoS wh) nn).2⟩) := by unfold sCall; rw [if_neg (by omega), if_neg (by omega), if_neg (by omega), if_neg (by omega), if_neg (by omega), if_neg (by omega), if_neg (by omega), if_pos h]
    have hcall := qmSBlocked D3.out.q.s (whoS_ok wh) HN.out nn
    rw [hX] at hE hcall
    have Hcall := Lib.hid hcall
    have HE := Lib.hid hE
    clear h h10 hE hcall hX
    obtain ⟨V2, x4⟩ := X
    dsimp only [sResCells] at *
    go_wp2_with fail
    refine Hcall.out.mono ?_
    rintro r w3 ⟨rfl, s3, hk3⟩
    have D4 := Lib.hid (D3.out.step s3 hk3)
    clear s3 hk3 D3 c0 c3 c4 c5 Hcall
    have q4 : w3.cell? ⟨ZZ, 4, none⟩ = some (.int .i64 0) := cell_of_heap D4.out.res 4
    have f4 : w3.frozen? ⟨ZZ, 4, none⟩ = false := frozen_of_heap D4.out.res 4
    go_upto_region 23 with fail
    have D5 := Lib.hid (D4.out.set 4 (.int .i64 x4) #[.int .i64 0, .int .i64 0, .int .i64 0, .bool false, .int .i64 x4] rfl)
    generalize (w3.setCell ⟨ZZ, 4, none⟩ (.int .i64 x4)) = W3 at *
    clear D4 q4 f4
    have s0 : W3.cell? ⟨ZZ, 0, none⟩ = some (.int .i64 0) := cell_of_heap D5.out.res 0
    have s1 : W3.cell? ⟨ZZ, 1, none⟩ = some (.int .i64 0) := cell_of_heap D5.out.res 1
    have s2 : W3.cell? ⟨ZZ, 2, none⟩ = some (.int .i64 0) := cell_of_heap D5.out.res 2
    have s3 : W3.cell? ⟨ZZ, 3, none⟩ = some (.bool false) := cell_of_heap D5.out.res 3
    have s4 : W3.cell? ⟨ZZ, 4, none⟩ = some (.int .i64 x4) := cell_of_heap D5.out.res 4
    have t0 : W3.cell? ⟨w.heap.size + 1, 0, none⟩ = some (.int .i64 0) := cell_of_heap D5.out.out 0
    have g0 : W3.frozen? ⟨w.heap.size + 1, 0, none⟩ = false := frozen_of_heap D5.out.out 0
    have t1 : W3.cell? ⟨w.heap.size + 1, 1, none⟩ = some (.int .i64 0) := cell_of_heap D5.out.out 1
    have g1 : W3.frozen? ⟨w.heap.size + 1, 1, none⟩ = false := frozen_of_heap D5.out.out 1
    have t2 : W3.cell? ⟨w.heap.size + 1, 2, none⟩ = some (.int .i64 0) := cell_of_heap D5.out.out 2
    have g2 : W3.frozen? ⟨w.heap.size + 1, 2, none⟩ = false := frozen_of_heap D5.out.out 2
    have t3 : W3.cell? ⟨w.heap.size + 1, 3, none⟩ = some (.bool false) := cell_of_heap D5.out.out 3
    have g3 : W3.frozen? ⟨w.heap.size + 1, 3, none⟩ = false := frozen_of_heap D5.out.out 3
    have t4 : W3.cell? ⟨w.heap.size + 1, 4, none⟩ = some (.int .i64 0) := cell_of_heap D5.out.out 4
    have g4 : W3.frozen? ⟨w.heap.size + 1, 4, none⟩ = false := frozen_of_heap D5.out.out 4
    go_wp2
    refine bodyPost_ret (v := .agg #[.int .i64 0, .int .i64 0, .int .i64 0, .bool false, .int .i64 x4]) (by simp [results, Tryz.results21, go_sem, t0, t1, t2, t3, t4]) rfl ?_
    rw [HE.out]
    exact (D5.out.q.grown _ (.inr (.inl rfl)) (grown_set5 _ _ _ _ _ _ _)).post _
  · have hk : (kd : Int) % 10 = 8 := by omega
    obtain ⟨X, hX⟩ : ∃ X, sTake V (whoS wh) = X := ⟨_, rfl⟩
    have hE : sCall V kd wh to sg nn iss = ((sTake V (whoS wh)).1, ⟨(sTake V (whoS wh)).2.sg, (sTake V (whoS wh)).2.ac, (sTake V (whoS wh)).2.ad, false, (sTake V (whoS wh)).2.e⟩) := by unfold sCall; rw [if_neg (by omega), if_neg (by omega), if_neg (by omega), if_neg (by omega), if_neg (by omega), if_neg (by omega), if_neg (by omega), if_neg (by omega), if_pos h]
    have hcall := qmSTake D3.out.q.s (whoS_ok wh) HN.out
    rw [hX] at hE hcall
    have Hcall := Lib.hid hcall
    have HE := Lib.hid hE
    clear h h10 hE hcall hX
    obtain ⟨V2, ⟨x0, x1, x2, x4⟩⟩ := X
    dsimp only [sResCells] at *
    go_wp2_with fail
    refine Hcall.out.mono ?_
    rintro r w3 ⟨rfl, s3, hk3⟩
    have D4 := Lib.hid (D3.out.step s3 hk3)
    clear s3 hk3 D3 c0 c3 c4 c5 Hcall
    have q0 : w3.cell? ⟨ZZ, 0, none⟩ = some (.int .i64 0) := cell_of_heap D4.out.res 0
    have f0 : w3.frozen? ⟨ZZ, 0, none⟩ = false := frozen_of_heap D4.out.res 0
    have q1 : w3.cell? ⟨ZZ, 1, none⟩ = some (.int .i64 0) := cell_of_heap D4.out.res 1
    have f1 : w3.frozen? ⟨ZZ, 1, none⟩ = false := frozen_of_heap D4.out.res 1
    have q2 : w3.cell? ⟨ZZ, 2, none⟩ = some (.int .i64 0) := cell_of_heap D4.out.res 2
    have f2 : w3.frozen? ⟨ZZ, 2, none⟩ = false := frozen_of_heap D4.out.res 2
    have q4 : w3.cell? ⟨ZZ, 4, none⟩ = some (.int .i64 0) := cell_of_heap D4.out.res 4
    have f4 : w3.frozen? ⟨ZZ, 4, none⟩ = false := frozen_of_heap D4.out.res 4
    go_upto_region 23 with fail
    have D5 := Lib.hid ((((D4.out.set 0 (.int .i64 x0) #[.int .i64 x0, .int .i64 0, .int .i64 0, .bool false, .int .i64 0] rfl).set 1 (.int .i64 x1) #[.int .i64 x0, .int .i64 x1, .int .i64 0, .bool false, .int .i64 0] rfl).set 2 (.int .i64 x2) #[.int .i64 x0, .int .i64 x1, .int .i64 x2, .bool false, .int .i64 0] rfl).set 4 (.int .i64 x4) #[.int .i64 x0, .int .i64 x1, .int .i64 x2, .bool false, .int .i64 x4] rfl)
    generalize ((((w3.setCell ⟨ZZ, 0, none⟩ (.int .i64 x0)).setCell ⟨ZZ, 1, none⟩ (.int .i64 x1)).setCell ⟨ZZ, 2, none⟩ (.int .i64 x2)).setCell ⟨ZZ, 4, none⟩ (.int .i64 x4)) = W3 at *
    clear D4 q0 f0 q1 f1 q2 f2 q4 f4
    have s0 : W3.cell? ⟨ZZ, 0, none⟩ = some (.int .i64 x0) := cell_of_heap D5.out.res 0
    have s1 : W3.cell? ⟨ZZ, 1, none⟩ = some (.int .i64 x1) := cell_of_heap D5.out.res 1
    have s2 : W3.cell? ⟨ZZ, 2, none⟩ = some (.int .i64 x2) := cell_of_heap D5.out.res 2
    have s3 : W3.cell? ⟨ZZ, 3, none⟩ = some (.bool false) := cell_of_heap D5.out.res 3
    have s4 : W3.cell? ⟨ZZ, 4, none⟩ = some (.int .i64 x4) := cell_of_heap D5.out.res 4
    have t0 : W3.cell? ⟨w.heap.size + 1, 0, none⟩ = some (.int .i64 0) := cell_of_heap D5.out.out 0
    have g0 : W3.frozen? ⟨w.heap.size + 1, 0, none⟩ = false := frozen_of_heap D5.out.out 0
    have t1 : W3.cell? ⟨w.heap.size + 1, 1, none⟩ = some (.int .i64 0) := cell_of_heap D5.out.out 1
    have g1 : W3.frozen? ⟨w.heap.size + 1, 1, none⟩ = false := frozen_of_heap D5.out.out 1
    have t2 : W3.cell? ⟨w.heap.size + 1, 2, none⟩ = some (.int .i64 0) := cell_of_heap D5.out.out 2
    have g2 : W3.frozen? ⟨w.heap.size + 1, 2, none⟩ = false := frozen_of_heap D5.out.out 2
    have t3 : W3.cell? ⟨w.heap.size + 1, 3, none⟩ = some (.bool false) := cell_of_heap D5.out.out 3
    have g3 : W3.frozen? ⟨w.heap.size + 1, 3, none⟩ = false := frozen_of_heap D5.out.out 3
    have t4 : W3.cell? ⟨w.heap.size + 1, 4, none⟩ = some (.int .i64 0) := cell_of_heap D5.out.out 4
    have g4 : W3.frozen? ⟨w.heap.size + 1, 4, none⟩ = false := frozen_of_heap D5.out.out 4
    go_wp2
    refine bodyPost_ret (v := .agg #[.int .i64 x0, .int .i64 x1, .int .i64 x2, .bool false, .int .i64 x4]) (by simp [results, Tryz.results21, go_sem, t0, t1, t2, t3, t4]) rfl ?_
    rw [HE.out]
    exact (D5.out.q.grown _ (.inr (.inl rfl)) (grown_set5 _ _ _ _ _ _ _)).post _
  · have hk : (kd : Int) % 10 = 9 := by omega
    obtain ⟨X, hX⟩ : ∃ X, sWait V (whoS wh) = X := ⟨_, rfl⟩
    have hE : sCall V kd wh to sg nn iss = ((sWait V (whoS wh)).1, ⟨0, 0, 0, (sWait V (whoS wh)).2, 0⟩) := by unfold sCall; rw [if_neg (by omega), if_neg (by omega), if_neg (by omega), if_neg (by omega), if_neg (by omega), if_neg (by omega), if_neg (by omega), if_neg (by omega), if_neg (by omega)]
    have hcall := qmSWait D3.out.q.s (whoS_ok wh)
    rw [hX] at hE hcall
    have Hcall := Lib.hid hcall
    have HE := Lib.hid hE
    clear h h10 hE hcall hX
    obtain ⟨V2, x3⟩ := X
    dsimp only [sResCells] at *
    go_wp2_with fail
    refine Hcall.out.mono ?_
    rintro r w3 ⟨rfl, s3, hk3⟩
    have D4 := Lib.hid (D3.out.step s3 hk3)
    clear s3 hk3 D3 c0 c3 c4 c5 Hcall
    have q3 : w3.cell? ⟨ZZ, 3, none⟩ = some (.bool false) := cell_of_heap D4.out.res 3
    have f3 : w3.frozen? ⟨ZZ, 3, none⟩ = false := frozen_of_heap D4.out.res 3
    go_upto_region 23 with fail
    have D5 := Lib.hid (D4.out.set 3 (.bool x3) #[.int .i64 0, .int .i64 0, .int .i64 0, .bool x3, .int .i64 0] rfl)
    generalize (w3.setCell ⟨ZZ, 3, none⟩ (.bool x3)) = W3 at *
    clear D4 q3 f3
    have s0 : W3.cell? ⟨ZZ, 0, none⟩ = some (.int .i64 0) := cell_of_heap D5.out.res 0
    have s1 : W3.cell? ⟨ZZ, 1, none⟩ = some (.int .i64 0) := cell_of_heap D5.out.res 1
    have s2 : W3.cell? ⟨ZZ, 2, none⟩ = some (.int .i64 0) := cell_of_heap D5.out.res 2
    have s3 : W3.cell? ⟨ZZ, 3, none⟩ = some (.bool x3) := cell_of_heap D5.out.res 3
    have s4 : W3.cell? ⟨ZZ, 4, none⟩ = some (.int .i64 0) := cell_of_heap D5.out.res 4
    have t0 : W3.cell? ⟨w.heap.size + 1, 0, none⟩ = some (.int .i64 0) := cell_of_heap D5.out.out 0
    have g0 : W3.frozen? ⟨w.heap.size + 1, 0, none⟩ = false := frozen_of_heap D5.out.out 0
    have t1 : W3.cell? ⟨w.heap.size + 1, 1, none⟩ = some (.int .i64 0) := cell_of_heap D5.out.out 1
    have g1 : W3.frozen? ⟨w.heap.size + 1, 1, none⟩ = false := frozen_of_heap D5.out.out 1
    have t2 : W3.cell? ⟨w.heap.size + 1, 2, none⟩ = some (.int .i64 0) := cell_of_heap D5.out.out 2
    have g2 : W3.frozen? ⟨w.heap.size + 1, 2, none⟩ = false := frozen_of_heap D5.out.out 2
    have t3 : W3.cell? ⟨w.heap.size + 1, 3, none⟩ = some (.bool false) := cell_of_heap D5.out.out 3
    have g3 : W3.frozen? ⟨w.heap.size + 1, 3, none⟩ = false := frozen_of_heap D5.out.out 3
    have t4 : W3.cell? ⟨w.heap.size + 1, 4, none⟩ = some (.int .i64 0) := cell_of_heap D5.out.out 4
    have g4 : W3.frozen? ⟨w.heap.size + 1, 4, none⟩ = false := frozen_of_heap D5.out.out 4
    go_wp2
    refine bodyPost_ret (v := .agg #[.int .i64 0, .int .i64 0, .int .i64 0, .bool x3, .int .i64 0]) (by simp [results, Tryz.results21, go_sem, t0, t1, t2, t3, t4]) rfl ?_
    rw [HE.out]
    exact (D5.out.q.grown _ (.inr (.inl rfl)) (grown_set5 _ _ _ _ _ _ _)).post _
end Go.Proofs.YtpieaakdddgdeaaGreatDoor
