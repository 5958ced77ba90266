/- port: what Receive does with a port. -/
import Derived.Test.YtemmeopaihmlcaaDoorPorK
import Derived.BigQuiet
import Derived.BigRegion
namespace Go.Proofs.YtemmeopaihmlcaaDoor
open Go.RowKit
attribute [local go_sem ↓] Go.wp_at_zero Go.wp_at_succ

theorem PSl.tail {w : World} {g off n : Nat} {ls : List PackT} (hn : ls.length = n) (hc : ∀ j, j < n → w.cell? ⟨g, off + j * 2, none⟩ = some (.string (ls.getD j zeroPk).src) ∧ w.cell? ⟨g, off + j * 2 + 1, none⟩ = some (.string (ls.getD j zeroPk).bytes)) : PSl w (some ⟨g, off + 2, none⟩) (n - 1) (ls.drop 1) := by
  refine ⟨by simp; omega, fun h0 => ⟨g, off + 2, rfl, fun j hj => ?_⟩⟩
  have := hc (j + 1) (by omega)
  have e : off + 2 + j * 2 = off + (j + 1) * 2 := by omega
  have e2 : (ls.drop 1).getD j zeroPk = ls.getD (j + 1) zeroPk := by simp
  rw [e, e2]
  exact this
theorem PSl.grown {w w' : World} {a : Option Addr} {n : Nat} {ls : List PackT} {row : Option Nat} (h : PSl w a n ls) (hb : w.grownBy w' row) (hr : ∀ g off, a = some ⟨g, off, none⟩ → row ≠ some g) : PSl w' a n ls := by
  refine ⟨h.1, fun h0 => ?_⟩
  obtain ⟨g, off, ha, hc⟩ := h.2 h0
  refine ⟨g, off, ha, fun j hj => ?_⟩
  have hlt := World.block_lt_of_cell? w ⟨g, _, none⟩ (hc j hj).1
  have hbl := hb.block g hlt (fun e => hr g off ha e.symm)
  exact ⟨(World.cell?_of_block (a := ⟨g, _, none⟩) hbl).trans (hc j hj).1, (World.cell?_of_block (a := ⟨g, _, none⟩) hbl).trans (hc j hj).2⟩

section
variable (who : ByteArray) (Wb Fb X : Nat) (ow : ByteArray) (ep lo : Int) (a : Option Addr) (n c : Nat) (w : World)
  (hX : w.heap[X]? = some (.cells #[.string ow, .int .i64 ep, .int .i64 lo, .slice a n c] 54 (0, 0)))
  (hW : w.heap[Wb]? = some (.cells #[.string who] 22 (0, 0)))
include hX hW
set_option maxRecDepth 100000 in
set_option maxHeartbeats 1600000 in
theorem recv_denied (hne : ow ≠ who) : Calls Tryd.prog 87 #[.pointer (some ⟨X, 0, none⟩), .pointer (some ⟨Wb, 0, none⟩), .pointer (some ⟨Fb, 0, none⟩)] w fun r w' => r = .returned (.int .i64 14) ∧ Below w.heap.size w w' := by
  have c0 : w.cell? ⟨X, 0, none⟩ = some (.string ow) := cell_of_heap hX 0
  have d0 : w.cell? ⟨Wb, 0, none⟩ = some (.string who) := cell_of_heap hW 0
  have hx : (ow.toList == who.toList) = false := by rw [str_beq]; exact decide_eq_false hne
  clear hX hW hne
  go_enter Tryd.func87, Tryd.ntmps87
  go_wp2
  go_quiet (fail)
  go_wp2
  go_ret
  exact ⟨rfl, below_drewN (Below.refl _ _) _⟩
set_option maxRecDepth 100000 in
set_option maxHeartbeats 1600000 in
theorem recv_busy (hne : ow = who) (hn : n = 0) : Calls Tryd.prog 87 #[.pointer (some ⟨X, 0, none⟩), .pointer (some ⟨Wb, 0, none⟩), .pointer (some ⟨Fb, 0, none⟩)] w fun r w' => r = .returned (.int .i64 19) ∧ Below w.heap.size w w' := by
  subst hne hn
  have c0 : w.cell? ⟨X, 0, none⟩ = some (.string ow) := cell_of_heap hX 0
  have c3 : w.cell? ⟨X, 3, none⟩ = some (.slice a 0 c) := cell_of_heap hX 3
  have d0 : w.cell? ⟨Wb, 0, none⟩ = some (.string ow) := cell_of_heap hW 0
  clear hX hW
  go_enter Tryd.func87, Tryd.ntmps87
  go_wp2
  go_quiet (fail)
  go_wp2
  go_ret
  exact ⟨rfl, below_drewN (Below.refl _ _) _⟩
end

/-- What the closure leaves where there is a packet. -/
def RecvPost (Fb X : Nat) (ow : ByteArray) (ep lo : Int) (ls : List PackT) (w : World) (r : Ending) (w' : World) : Prop :=
  r = .returned (.int .i64 0) ∧ Kept (fun k => k = X ∨ k = Fb) w w' ∧ (∃ a n c, w'.heap[X]? = some (.cells #[.string ow, .int .i64 ep, .int .i64 lo, .slice a n c] 54 (0, 0)) ∧ PSl w' a n (ls.drop 1)) ∧
    w'.heap[Fb]? = some (.cells #[.string (ls.getD 0 zeroPk).src, .string (ls.getD 0 zeroPk).bytes] 103 (0, 0))

theorem recv_post {Fb X : Nat} {ow : ByteArray} {ep lo : Int} {ls : List PackT} {w : World} {v f0 f1 : Value} {g off n c j : Nat} {src by_ : ByteArray} (hFX : Fb ≠ X) (hgX : g ≠ X) (hgF : g ≠ Fb)
    (hX : w.heap[X]? = some (.cells #[.string ow, .int .i64 ep, .int .i64 lo, v] 54 (0, 0))) (hF : w.heap[Fb]? = some (.cells #[f0, f1] 103 (0, 0))) (hs : PSl w (some ⟨g, off, none⟩) n (ls.drop 1)) (hx : ls.getD 0 zeroPk = ⟨src, by_⟩) :
    RecvPost Fb X ow ep lo ls w (.returned (.int .i64 0)) ((((w.drewN j).setCell ⟨Fb, 0, none⟩ (.string src)).setCell ⟨Fb, 1, none⟩ (.string by_)).setCell ⟨X, 3, none⟩ (.slice (some ⟨g, off, none⟩) n c)) := by
  have hb : Below w.heap.size w (w.drewN j) := below_drewN (Below.refl _ _) _
  have hX1 : (w.drewN j).heap[X]? = _ := hX
  have hF1 : (w.drewN j).heap[Fb]? = _ := hF
  have hs1 : PSl (w.drewN j) (some ⟨g, off, none⟩) n (ls.drop 1) := hs.later hb
  generalize w.drewN j = W at *
  have k1 := Kept.of_grown (grown_setCell W Fb 0 (.string src)) (fun k => k = X ∨ k = Fb) (fun k hk => by cases hk; exact .inr rfl)
  have k2 := Kept.of_grown (grown_setCell (W.setCell ⟨Fb, 0, none⟩ (.string src)) Fb 1 (.string by_)) (fun k => k = X ∨ k = Fb) (fun k hk => by cases hk; exact .inr rfl)
  have k3 := Kept.of_grown (grown_setCell ((W.setCell ⟨Fb, 0, none⟩ (.string src)).setCell ⟨Fb, 1, none⟩ (.string by_)) X 3 (.slice (some ⟨g, off, none⟩) n c)) (fun k => k = X ∨ k = Fb) (fun k hk => by cases hk; exact .inl rfl)
  refine ⟨rfl, (((Kept.of_below hb _).trans k1 (fun _ _ h => h)).trans k2 (fun _ _ h => h)).trans k3 (fun _ _ h => h), ⟨some ⟨g, off, none⟩, n, c, ?_, ?_⟩, ?_⟩
  · exact heap_setCell_same ((Below.heap_setCell _ _ _ _ (Ne.symm hFX)).trans ((Below.heap_setCell _ _ _ _ (Ne.symm hFX)).trans hX1)) 3 _
  · exact ((hs1.grown (grown_setCell W Fb 0 (.string src)) (fun g' o' ha e => by cases ha; cases e; exact hgF rfl)).grown (grown_setCell _ Fb 1 _) (fun g' o' ha e => by cases ha; cases e; exact hgF rfl)).grown (grown_setCell _ X 3 _) (fun g' o' ha e => by cases ha; cases e; exact hgX rfl)
  · rw [hx]
    exact (Below.heap_setCell _ _ _ _ hFX).trans (heap_setCell_same (heap_setCell_same hF1 0 _) 1 _)

set_option maxRecDepth 100000 in
set_option maxHeartbeats 1600000 in
theorem recv_ok (Wb Fb X : Nat) (ow : ByteArray) (ep lo : Int) (a : Option Addr) (n c : Nat) (ls : List PackT) (f0 f1 : Value) (w : World)
    (hX : w.heap[X]? = some (.cells #[.string ow, .int .i64 ep, .int .i64 lo, .slice a n c] 54 (0, 0)))
    (hW : w.heap[Wb]? = some (.cells #[.string ow] 22 (0, 0))) (hF : w.heap[Fb]? = some (.cells #[f0, f1] 103 (0, 0)))
    (hs : PRow w (.slice a n c) ls) (hne : ∀ g, (Value.slice a n c).ownBlock = some g → g ≠ X ∧ g ≠ Fb) (hFX : Fb ≠ X) (h0 : 0 < n) (h16 : n ≤ 16) :
    Calls Tryd.prog 87 #[.pointer (some ⟨X, 0, none⟩), .pointer (some ⟨Wb, 0, none⟩), .pointer (some ⟨Fb, 0, none⟩)] w (RecvPost Fb X ow ep lo ls w) := by
  have c0 : w.cell? ⟨X, 0, none⟩ = some (.string ow) := cell_of_heap hX 0
  have c3 : w.cell? ⟨X, 3, none⟩ = some (.slice a n c) := cell_of_heap hX 3
  have g3 : w.frozen? ⟨X, 3, none⟩ = false := frozen_of_heap hX 3
  have d0 : w.cell? ⟨Wb, 0, none⟩ = some (.string ow) := cell_of_heap hW 0
  have k0 : w.cell? ⟨Fb, 0, none⟩ = some f0 := cell_of_heap hF 0
  have k1 : w.cell? ⟨Fb, 1, none⟩ = some f1 := cell_of_heap hF 1
  have l0 : w.frozen? ⟨Fb, 0, none⟩ = false := frozen_of_heap hF 0
  have l1 : w.frozen? ⟨Fb, 1, none⟩ = false := frozen_of_heap hF 1
  have hnc : n ≤ c := by
    rcases hs.2 with ⟨hv, _⟩ | ⟨g', cap, cur, hv, _, _, h5, _⟩
    · cases hv; omega
    · cases hv; omega
  have hform : ∃ g off, a = some ⟨g, off, none⟩ ∧ (Value.slice a n c).ownBlock = some g := by
    rcases hs.2 with ⟨hv, _⟩ | ⟨g', cap, cur, hv, _⟩
    · cases hv; omega
    · cases hv; exact ⟨g', 0, rfl, rfl⟩
  obtain ⟨g, off, rfl, hown⟩ := hform
  obtain ⟨g', off', hg', hcell⟩ := hs.sl.2 h0
  cases hg'
  have e0 := (hcell 0 h0).1
  have e1 := (hcell 0 h0).2
  have hln := hs.sl.1
  rw [Nat.zero_mul, Nat.add_zero] at e0 e1
  have hgX := (hne g hown).1
  have hgF := (hne g hown).2
  have hXg := Ne.symm hgX
  have hFg := Ne.symm hgF
  have hXF := Ne.symm hFX
  have HX := Lib.hid hX; clear hX
  have HF := Lib.hid hF; clear hF hW
  have Hcell := Lib.hid hcell; clear hcell hne hown hs
  have Hln := Lib.hid hln; clear hln
  have h0' : ((n : Int) == 0) = false := beq_eq_false_iff_ne.2 (by omega)
  have hn1 : 1 ≤ n := h0
  obtain ⟨x0, hx0⟩ : ∃ x, ls.getD 0 zeroPk = x := ⟨_, rfl⟩
  have Hx0 := Lib.hid hx0
  rw [hx0] at e0 e1
  clear hx0
  obtain ⟨src, by_⟩ := x0
  dsimp only at e0 e1
  go_enter Tryd.func87, Tryd.ntmps87
  go_wp2
  go_quiet (fail)
  by_cases hc1 : c = 1
  · subst hc1
    obtain rfl : n = 1 := by omega
    go_wp2
    go_region
    go_wp2
    go_ret
    exact recv_post hFX hgX hgF HX.out HF.out ⟨by simp [Hln.out], fun h => absurd h (Nat.lt_irrefl _)⟩ Hx0.out
  · go_wp2
    go_region
    go_wp2
    go_ret
    exact recv_post hFX hgX hgF HX.out HF.out (PSl.tail Hln.out Hcell.out) Hx0.out

theorem callFunc_inQ {P : Program} {f : FuncId} {fn : Func} (hf : P.funcs[f]? = some fn) (hname : (fn.name == "runtime.NumGoroutine") = false) (hb : fn.body.isNone = false) (args : Array Value) (w : World) : (callFunc f args).run P w = .ok (.enter f args) w := by
  have h1 : fn.name ≠ "runtime.NumGoroutine" := by simpa using hname
  have h2 : fn.body ≠ none := fun e => by rw [e] at hb; cases hb
  simp [callFunc, hf, h1, h2]
def recvStep (who : ByteArray) (e : Int) (o : Option PortT) : Option PortT × PackT × Nat × Nat :=
  if (qHas e o).2 ≠ 0 then (o, zeroPk, (qHas e o).2, 0) else if (qHas e o).1.owner ≠ who then (o, zeroPk, 14, 0) else if (qHas e o).1.queue.length = 0 then (o, zeroPk, 19, 0)
  else (some ⟨(qHas e o).1.owner, (qHas e o).1.epoch, (qHas e o).1.lost, (qHas e o).1.queue.drop 1⟩, (qHas e o).1.queue.getD 0 zeroPk, 0, 1)
theorem packsE_drop {ls : List PackT} (h : packsE ls = 0) : packsE (ls.drop 1) = 0 := by
  cases ls with
  | nil => rfl
  | cons s r =>
    simp only [packsE] at h
    by_cases h0 : packE s ≠ 0
    · rw [if_pos h0] at h; exact absurd h h0
    · rw [if_neg h0] at h; exact h

set_option maxRecDepth 100000 in
set_option maxHeartbeats 1600000 in
theorem sqChange (w0 w : World) (b N : Nat) (m : Int) (o : Option PortT) (G : Nat → Prop) (s : SQ w0 w b N m o G) (hN : N < 1000000) (e : Int) (hm : 1 ≤ m ∧ m ≤ 9999) (he : numB e = true) (who : ByteArray) (Wb Fb : Nat) (hGW : G Wb) (hGF : G Fb)
    (hW : w.heap[Wb]? = some (.cells #[.string who] 22 (0, 0))) (hF : w.heap[Fb]? = some (.cells #[.string ⟨#[]⟩, .string ⟨#[]⟩] 103 (0, 0))) (o' : Option PortT) (x : PackT) (q d : Nat) (hst : recvStep who e o = (o', x, q, d)) :
    Calls Tryd.prog 86 #[.pointer (some ⟨b, 0, none⟩), .int .i64 m, .int .i64 e, .func (.func 87) #[] #[.pointer (some ⟨Wb, 0, none⟩), .pointer (some ⟨Fb, 0, none⟩)]] w fun r w' =>
      r = .returned (.int .i64 q) ∧ SQ w0 w' b (N + d) m o' G ∧ (∀ k, G k → k ≠ Fb → w'.heap[k]? = w.heap[k]?) ∧ (q = 0 → w'.heap[Fb]? = some (.cells #[.string x.src, .string x.bytes] 103 (0, 0))) := by
  have hcf : ∀ args W, (callFunc 87 args).run Tryd.prog W = .ok (.enter 87 args) W := callFunc_inQ Tryd.func87 (by kernel_rfl) (by kernel_rfl)
  have Hst := Lib.hid hst; clear hst
  have S := Lib.hid s; clear s
  have HW := Lib.hid hW; clear hW
  have HF := Lib.hid hF; clear hF
  have HGW := Lib.hid hGW; clear hGW
  have HGF := Lib.hid hGF; clear hGF
  obtain ⟨p, g, hpg⟩ : ∃ p g, qHas e o = (p, g) := ⟨_, _, rfl⟩
  have Hpg := Lib.hid hpg; clear hpg
  have Hst2 : Hid ((if g ≠ 0 then (o, zeroPk, g, 0) else if p.owner ≠ who then (o, zeroPk, 14, 0) else if p.queue.length = 0 then (o, zeroPk, 19, 0) else (some ⟨p.owner, p.epoch, p.lost, p.queue.drop 1⟩, p.queue.getD 0 zeroPk, 0, 1)) = (o', x, q, d)) := by
    have := Hst.out
    unfold recvStep at this
    rw [Hpg.out] at this
    exact this
  clear Hst
  go_enter Tryd.func86, Tryd.ntmps86
  go_wp2_with fail
  refine (sqGet w0 w b N m o G S.out e hm he p g Hpg.out).mono ?_
  rintro r w1 ⟨a, n, c, rfl, hrow, hl, s1, hk1⟩
  have HX : Hid (∀ o'', (w1.alloc o'').heap[w1.heap.size]? = some o'') := fun o'' => heap_alloc_new w1 o''
  have S1 := Lib.hid s1
  have Sa : Hid (∀ o'', SQ w0 (w1.alloc o'') b N m o (fun k => G k ∨ k = w1.heap.size)) := fun o'' => s1.fresh ((Below.refl _ _).alloc (Nat.le_refl _) _) (fun k hk => by
    rcases hk with h | h
    · exact .inl (.inl h)
    · subst h; exact .inr (by simp))
  have HGa : Hid (∀ o'', ∀ k, G k → (w1.alloc o'').heap[k]? = w.heap[k]?) := fun o'' k hk => (s1.gk ((Below.refl _ _).alloc (Nat.le_refl _) _) k (.inl hk)).trans (hk1 k hk)
  have Hrowa : Hid (∀ o'', PRow (w1.alloc o'') (.slice a n c) p.queue) := fun o'' => World.ownsRow.alloc hrow o''
  have Hown : Hid (∀ k, (Value.slice a n c).ownBlock = some k → k ≠ w1.heap.size ∧ k ≠ Fb) := fun k hk => by
    obtain ⟨cur, hc⟩ := row_lt hrow hk
    have h1 := lt_of_heap hc
    have h2 := hl k hk
    have h3 := S.out.glt Fb HGF.out
    omega
  have hFX : Fb ≠ w1.heap.size := by have := s1.glt Fb (.inl HGF.out); omega
  have HGlt : Hid (∀ k, G k → k < w1.heap.size) := fun k hk => s1.glt k (.inl hk)
  clear hrow hl s1 hk1
  obtain ⟨ow, ep, lo, ls⟩ := p
  dsimp only at *
  have hln : ls.length = n := (Hrowa.out (.cells #[] 0)).sl.1
  by_cases hg : g = 0
  · subst hg
    obtain ⟨rfl, rfl⟩ := qHas_some Hpg.out
    have hck := S1.out.check
    have hk := checkQ_ok hck.1
    have how := hck.2
    dsimp only at hk how
    obtain ⟨k1, k2, k3, k4, k5⟩ := hk
    by_cases hw : ow = who
    · subst hw
      by_cases hn : n = 0
      · have hr : o' = some ⟨ow, ep, lo, ls⟩ ∧ q = 19 ∧ d = 0 := by
          have := Hst2.out
          rw [if_neg (by simp), if_neg (by simp), if_pos (by omega)] at this
          simp only [Prod.mk.injEq] at this
          exact ⟨this.1.symm, this.2.2.1.symm, this.2.2.2.symm⟩
        obtain ⟨rfl, rfl, rfl⟩ := hr
        subst hn
        go_wp2_with fail
        refine (recv_busy ow Wb Fb w1.heap.size ow ep lo a 0 c _ (HX.out _) ((HGa.out _ Wb HGW.out).trans HW.out) rfl rfl).mono ?_
        rintro r w2 ⟨rfl, hb⟩
        have S2 : Hid (SQ w0 w2 b N m (some ⟨ow, ep, lo, ls⟩) G) := (Sa.out _).fresh hb (fun k hk => .inl (.inl hk))
        have HG2 : Hid (∀ k, G k → w2.heap[k]? = w.heap[k]?) := fun k hk => ((Sa.out _).gk hb k (.inl hk)).trans (HGa.out _ k hk)
        clear hb
        go_wp2
        go_ret
        exact ⟨rfl, S2.out, fun k hk _ => HG2.out k hk, fun h => by cases h⟩
      · have hr : o' = some ⟨ow, ep, lo, ls.drop 1⟩ ∧ x = ls.getD 0 zeroPk ∧ q = 0 ∧ d = 1 := by
          have := Hst2.out
          rw [if_neg (by simp), if_neg (by simp), if_neg (by omega)] at this
          simp only [Prod.mk.injEq] at this
          exact ⟨this.1.symm, this.2.1.symm, this.2.2.1.symm, this.2.2.2.symm⟩
        obtain ⟨ho', hx', rfl, rfl⟩ := hr
        have Ho' := Lib.hid ho'; clear ho'
        have Hx' := Lib.hid hx'; clear hx'
        have Hck : Hid (checkQ ⟨ow, ep, lo, ls.drop 1⟩ = 0) := checkQ_mk k1 k2 k3 (by simp; omega) (packsE_drop k5)
        go_wp2_with fail
        refine (recv_ok Wb Fb w1.heap.size ow ep lo a n c ls _ _ _ (HX.out _) ((HGa.out _ Wb HGW.out).trans HW.out) ((HGa.out _ Fb HGF.out).trans HF.out) (Hrowa.out _) Hown.out hFX (by omega) (by omega)).mono ?_
        rintro r w2 ⟨rfl, hkp, ⟨a2, n2, c2, hX2, hp2⟩, hF2⟩
        have S2 : Hid (SQ w0 w2 b N m (some ⟨ow, ep, lo, ls⟩) G) := (Sa.out _).guarded (hkp.mono (fun k _ h => h.elim .inr (fun h => .inl (by rw [h]; exact HGF.out)))) (fun k hk => .inl (.inl hk))
        have HG2 : Hid (∀ k, G k → k ≠ Fb → w2.heap[k]? = w.heap[k]?) := fun k hk hne => (hkp.block k ((Sa.out _).glt k (.inl hk)) (fun h => by rcases h with h | h; have := HGlt.out k hk; omega; exact hne h)).trans (HGa.out _ k hk)
        have HP2 := Lib.hid hp2
        have HF2 := Lib.hid hF2
        have x0 : w2.cell? ⟨w1.heap.size, 0, none⟩ = some (.string ow) := cell_of_heap hX2 0
        have x1 : w2.cell? ⟨w1.heap.size, 1, none⟩ = some (.int .i64 ep) := cell_of_heap hX2 1
        have x2 : w2.cell? ⟨w1.heap.size, 2, none⟩ = some (.int .i64 lo) := cell_of_heap hX2 2
        have x3 : w2.cell? ⟨w1.heap.size, 3, none⟩ = some (.slice a2 n2 c2) := cell_of_heap hX2 3
        clear hkp hX2 hp2 hF2
        go_wp2_with fail
        refine (sqPut w0 w2 b N m _ G S2.out (by omega) hN ow ep lo _ n2 c2 _ HP2.out Hck.out how).mono ?_
        rintro r w3 ⟨rfl, s3, hk3⟩
        have S3 := Lib.hid s3
        have HG3 : Hid (∀ k, G k → k ≠ Fb → w3.heap[k]? = w.heap[k]?) := fun k hk hne => (hk3 k hk).trans (HG2.out k hk hne)
        have HF3 := Lib.hid ((hk3 Fb HGF.out).trans HF2.out)
        clear s3 hk3
        go_wp2
        go_ret
        rw [Ho'.out, Hx'.out]
        exact ⟨rfl, S3.out, HG3.out, HF3.out⟩
    · have hr : o' = some ⟨ow, ep, lo, ls⟩ ∧ q = 14 ∧ d = 0 := by
        have := Hst2.out
        rw [if_neg (by simp), if_pos hw] at this
        simp only [Prod.mk.injEq] at this
        exact ⟨this.1.symm, this.2.2.1.symm, this.2.2.2.symm⟩
      obtain ⟨rfl, rfl, rfl⟩ := hr
      go_wp2_with fail
      refine (recv_denied who Wb Fb w1.heap.size ow ep lo a n c _ (HX.out _) ((HGa.out _ Wb HGW.out).trans HW.out) hw).mono ?_
      rintro r w2 ⟨rfl, hb⟩
      have S2 : Hid (SQ w0 w2 b N m (some ⟨ow, ep, lo, ls⟩) G) := (Sa.out _).fresh hb (fun k hk => .inl (.inl hk))
      have HG2 : Hid (∀ k, G k → w2.heap[k]? = w.heap[k]?) := fun k hk => ((Sa.out _).gk hb k (.inl hk)).trans (HGa.out _ k hk)
      clear hb
      go_wp2
      go_ret
      exact ⟨rfl, S2.out, fun k hk _ => HG2.out k hk, fun h => by cases h⟩
  · have hr : o' = o ∧ q = g ∧ d = 0 := by
      have := Hst2.out
      rw [if_pos hg] at this
      simp only [Prod.mk.injEq] at this
      exact ⟨this.1.symm, this.2.2.1.symm, this.2.2.2.symm⟩
    obtain ⟨rfl, rfl, rfl⟩ := hr
    have hg' : ((q : Int) != 0) = true := bne_iff_ne.2 (by omega)
    have Hg := Lib.hid hg
    have Sb : Hid (∀ o'', SQ w0 (w1.alloc o'') b N m o' G) := fun o'' => (Sa.out o'').fresh (Below.refl _ _) (fun k hk => .inl (.inl hk))
    clear hg
    go_wp2
    go_ret
    exact ⟨rfl, Sb.out _, fun k hk _ => HGa.out _ k hk, fun h => absurd h Hg.out⟩

end Go.Proofs.YtemmeopaihmlcaaDoor
