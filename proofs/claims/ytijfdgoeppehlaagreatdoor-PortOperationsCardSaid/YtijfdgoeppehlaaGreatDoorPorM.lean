/- port: Arrive. port: what Receive does with a port. port: Receive. -/
import Derived.Test.YtijfdgoeppehlaaGreatDoorPorJ
import Derived.BigQuiet
import Derived.BigRegion
namespace Go.Proofs.YtijfdgoeppehlaaGreatDoor
open Go.RowKit
attribute [local go_sem ↓] Go.wp_at_zero Go.wp_at_succ

/-- What Arrive makes of a port. -/
def arriveStep (x : PackT) (m e : Int) (o : Option PortT) : Option PortT × Nat × Nat :=
  if qArgs ⟨#[]⟩ m e ≠ 0 then (o, qArgs ⟨#[]⟩ m e, 0) else if packE x ≠ 0 then (o, packE x, 0) else if (qHas e o).2 ≠ 0 then (o, (qHas e o).2, 0)
  else if (qHas e o).1.queue.length < 16 then (some ⟨(qHas e o).1.owner, (qHas e o).1.epoch, (qHas e o).1.lost, (qHas e o).1.queue ++ [x]⟩, 0, 1)
  else if (qHas e o).1.lost < 1073741824 then (some ⟨(qHas e o).1.owner, (qHas e o).1.epoch, (qHas e o).1.lost + 1, (qHas e o).1.queue⟩, 9, 1) else (o, 9, 0)
theorem qHas_some {e : Int} {o : Option PortT} {p : PortT} (h : qHas e o = (p, 0)) : o = some p ∧ p.epoch = e := by
  cases o with
  | none => simp [qHas] at h
  | some p' =>
    unfold qHas at h
    dsimp only at h
    by_cases h1 : p'.epoch ≠ e
    · rw [if_pos h1] at h
      cases (Prod.mk.inj h).2
    · rw [if_neg h1] at h
      obtain rfl := (Prod.mk.inj h).1
      exact ⟨rfl, Decidable.not_not.1 h1⟩
theorem packsE_snoc {ls : List PackT} {x : PackT} (h : packsE ls = 0) (hx : packE x = 0) : packsE (ls ++ [x]) = 0 := by
  induction ls with
  | nil => simp [packsE, hx]
  | cons s r ih =>
    simp only [packsE] at h
    by_cases h0 : packE s ≠ 0
    · rw [if_pos h0] at h; exact absurd h h0
    · rw [if_neg h0] at h
      simp only [List.cons_append, packsE]
      rw [if_neg h0]
      exact ih h
theorem checkQ_mk {p : PortT} (h1 : validB p.owner = true) (h2 : 0 ≤ p.epoch ∧ p.epoch ≤ 1073741824) (h3 : 0 ≤ p.lost ∧ p.lost ≤ 1073741824) (h4 : p.queue.length ≤ 16) (h5 : packsE p.queue = 0) : checkQ p = 0 := by
  unfold checkQ
  rw [if_neg (by rw [h1]; simp), if_neg (by simp [numB, h2, h3]), if_neg (by omega)]
  exact h5
theorem arr_kept {w2 w5 : World} {o1 o2 : Obj} {own : Option Nat} {v : Value} {i : Nat} (hg : ((w2.alloc o1).alloc o2).grownBy w5 own) : Kept (fun k => own = some k) w2 (w5.setCell ⟨w2.heap.size, i, none⟩ v) := by
  have h1 : Below w2.heap.size w2 ((w2.alloc o1).alloc o2) := ((Below.refl _ _).alloc (Nat.le_refl _) _).alloc (by simp) _
  exact ((Kept.of_below h1 _).trans (Kept.of_grown hg _ (fun k hk => hk)) (fun _ _ h => h)).trans (Kept.of_grown (grown_setCell w5 w2.heap.size i v) (fun k => k = w2.heap.size) (fun k hk => by cases hk; rfl)) (fun i hi h => by omega)

set_option maxRecDepth 100000 in
set_option maxHeartbeats 1600000 in
theorem sqArrive (w0 w : World) (b N : Nat) (m : Int) (o : Option PortT) (G : Nat → Prop) (s : SQ w0 w b N m o G) (hN : N < 1000000) (src by_ : ByteArray) (e : Int) (hsr : src.size ≤ 9223372036854775807) (hby : by_.size ≤ 9223372036854775807) (o' : Option PortT) (q d : Nat) (hst : arriveStep ⟨src, by_⟩ m e o = (o', q, d)) :
    Calls Tryz.prog 19 #[.pointer (some ⟨b, 0, none⟩), .int .i64 m, .int .i64 e, .agg #[.string src, .string by_]] w (SQP w0 b (N + d) m o' G w (.int .i64 q)) := by
  have Hst := Lib.hid hst; clear hst
  obtain ⟨qa, hqa⟩ : ∃ qa, qArgs ⟨#[]⟩ m e = qa := ⟨_, rfl⟩
  have Hqa := Lib.hid hqa; clear hqa
  have S0 : Hid (∀ o', SQ w0 (w.alloc o') b N m o (fun k => G k ∨ k = w.heap.size)) := fun o' => s.fresh ((Below.refl _ _).alloc (Nat.le_refl _) _) (fun k hk => hk.imp id (fun h => by subst h; simp))
  have HG0 : Hid (∀ o', ∀ k, G k → (w.alloc o').heap[k]? = w.heap[k]?) := fun o' => s.gk ((Below.refl _ _).alloc (Nat.le_refl _) _)
  have HU0 : Hid (∀ o', (w.alloc o').heap[w.heap.size]? = some o') := fun o' => heap_alloc_new w o'
  clear s
  go_enter Tryz.func19, Tryz.ntmps19
  go_wp2_with fail
  refine (qCheck_any b ⟨#[]⟩ m e qa Hqa.out _ (by decide)).mono ?_
  rintro r w1 ⟨rfl, hb⟩
  have S1 := Lib.hid ((S0.out _).later hb)
  have HG1 : Hid (∀ k, G k → w1.heap[k]? = w.heap[k]?) := fun k hk => ((S0.out _).gk hb k (.inl hk)).trans (HG0.out _ k hk)
  have HU1 := Lib.hid ((hb.block _ (lt_of_heap (HU0.out _))).trans (HU0.out _))
  clear hb S0 HG0 HU0
  by_cases h0 : qa = 0
  · subst h0
    obtain ⟨-, hm, he⟩ := qArgs_ok Hqa.out
    have u0 : w1.cell? ⟨w.heap.size, 0, none⟩ = some (.string src) := cell_of_heap HU1.out 0
    have u1 : w1.cell? ⟨w.heap.size, 1, none⟩ = some (.string by_) := cell_of_heap HU1.out 1
    obtain ⟨pe, hpe⟩ : ∃ pe, packE ⟨src, by_⟩ = pe := ⟨_, rfl⟩
    have Hpe := Lib.hid hpe; clear hpe
    go_wp2_with fail
    refine (packCheck_is src by_ pe Hpe.out _ hsr hby).mono ?_
    rintro r w2 ⟨rfl, hb⟩
    have S2 := Lib.hid (S1.out.later hb)
    have HG2 : Hid (∀ k, G k → w2.heap[k]? = w.heap[k]?) := fun k hk => (S1.out.gk hb k (.inl hk)).trans (HG1.out k hk)
    have HU2 := Lib.hid ((hb.block _ (lt_of_heap HU1.out)).trans HU1.out)
    clear hb S1 HG1 HU1 u0 u1
    by_cases h1 : pe = 0
    · subst h1
      obtain ⟨p, g, hpg⟩ : ∃ p g, qHas e o = (p, g) := ⟨_, _, rfl⟩
      have Hpg := Lib.hid hpg; clear hpg
      have Hst2 : Hid ((if g ≠ 0 then (o, g, 0) else if p.queue.length < 16 then (some ⟨p.owner, p.epoch, p.lost, p.queue ++ [⟨src, by_⟩]⟩, 0, 1) else if p.lost < 1073741824 then (some ⟨p.owner, p.epoch, p.lost + 1, p.queue⟩, 9, 1) else (o, 9, 0)) = (o', q, d)) := by
        have := Hst.out
        unfold arriveStep at this
        rw [Hqa.out, if_neg (by simp), Hpe.out, if_neg (by simp), Hpg.out] at this
        exact this
      clear Hst
      go_wp2_with fail
      refine (sqGet w0 w2 b N m o _ S2.out e hm he p g Hpg.out).mono ?_
      rintro r w3 ⟨a, n, c, rfl, hrow, hl, s3, hk3⟩
      have HU3 := Lib.hid ((hk3 _ (.inr rfl)).trans HU2.out)
      have HG3 : Hid (∀ k, G k → w3.heap[k]? = w.heap[k]?) := fun k hk => (hk3 k (.inl hk)).trans (HG2.out k hk)
      have S3 := Lib.hid s3
      have Hrow := Lib.hid hrow
      have Hgl : Hid (∀ k, G k → (Value.slice a n c).ownBlock ≠ some k) := fun k hk e => by have h1 := hl k e; have h2 := S2.out.glt k (.inl hk); omega
      clear hrow hl s3 hk3 S2 HG2 HU2
      have S3a : Hid (∀ o'', SQ w0 (w3.alloc o'') b N m o G) := fun o'' => S3.out.fresh ((Below.refl _ _).alloc (Nat.le_refl _) _) (fun k hk => .inl (.inl (.inl hk)))
      have HG3a : Hid (∀ o'', ∀ k, G k → (w3.alloc o'').heap[k]? = w.heap[k]?) := fun o'' k hk => (S3.out.gk ((Below.refl _ _).alloc (Nat.le_refl _) _) k (.inl (.inl hk))).trans (HG3.out k hk)
      obtain ⟨ow, ep, lo, ls⟩ := p
      dsimp only at *
      by_cases hg : g = 0
      · subst hg
        obtain ⟨rfl, rfl⟩ := qHas_some Hpg.out
        have hck := S3.out.check
        have hk := checkQ_ok hck.1
        have how := hck.2
        dsimp only at hk how
        obtain ⟨hk1, hk2, hk3, hk4, hk5⟩ := hk
        have hln : ls.length = n := Hrow.out.sl.1
        have HPa : Hid (∀ o'', PSl (w3.alloc o'') a n ls) := fun o'' => Hrow.out.sl.later ((Below.refl _ _).alloc (Nat.le_refl _) _)
        clear hck
        by_cases h2 : n < 16
        · have hr : o' = some ⟨ow, ep, lo, ls ++ [⟨src, by_⟩]⟩ ∧ q = 0 ∧ d = 1 := by
            have := Hst2.out
            rw [if_neg (by simp), if_pos (by omega)] at this
            simp only [Prod.mk.injEq] at this
            exact ⟨this.1.symm, this.2.1.symm, this.2.2.symm⟩
          obtain ⟨rfl, rfl, rfl⟩ := hr
          have Hck : Hid (checkQ ⟨ow, ep, lo, ls ++ [⟨src, by_⟩]⟩ = 0) := checkQ_mk hk1 hk2 hk3 (by simp; omega) (packsE_snoc hk5 Hpe.out)
          have Hl : Hid (ls.length ≤ 1000000) := by show _ ≤ _; omega
          clear hk1 hk5 hk4 hln Hst2
          have hltU := lt_of_heap HU3.out
          have u0 : w3.cell? ⟨w.heap.size, 0, none⟩ = some (.string src) := cell_of_heap HU3.out 0
          have u1 : w3.cell? ⟨w.heap.size, 1, none⟩ = some (.string by_) := cell_of_heap HU3.out 1
          have hne := World.new_ne w3 ⟨w.heap.size, 0, none⟩ u0
          have HBx : Hid (∀ o1 o2, ((w3.alloc o1).alloc o2).heap[w3.heap.size]? = some o1) := fun o1 o2 => (Below.heap_alloc _ _ _ (by simp)).trans (World.alloc_heap_new w3 _)
          have Hrowb : Hid (∀ o1 o2, PRow ((w3.alloc o1).alloc o2) (.slice a n c) ls) := fun o1 o2 => World.ownsRow.alloc (World.ownsRow.alloc Hrow.out o1) o2
          have Hown : Hid (∀ k, (Value.slice a n c).ownBlock = some k → k < w3.heap.size) := fun k hk => by obtain ⟨cur, hc⟩ := row_lt Hrow.out hk; exact lt_of_heap hc
          have Hne2 : Hid (∀ o1 o2, ((w3.alloc o1).alloc o2).heap.size = w3.heap.size + 1 + 1) := fun o1 o2 => by simp
          have Hnew : Hid (∀ o1 o2, ((w3.alloc o1).alloc o2).heap[w3.heap.size + 1]? = some o2) := fun o1 o2 => by have := World.alloc_heap_new (w3.alloc o1) o2; rwa [World.size_alloc] at this
          go_wp2_with (at_builtin; refine wpList_append_pack (by rfl) _ _ (by rfl) (.slice a n c) ls (by rfl) (Hrowb.out _ _) ⟨src, by_⟩ (w3.heap.size + 1) (by rfl) (Hnew.out _ _) Hl.out ?_; intro g m2 cap w5 hrow5 hg5 hat5; have hB5 := (hg5.block w3.heap.size (by simp; omega) (fun e => absurd (Hown.out _ e.symm) (Nat.lt_irrefl _))).trans (HBx.out _ _); have b0 : w5.cell? ⟨w3.heap.size, 0, none⟩ = some (.string ow) := cell_of_heap hB5 0; have b1 : w5.cell? ⟨w3.heap.size, 1, none⟩ = some (.int .i64 ep) := cell_of_heap hB5 1; have b2 : w5.cell? ⟨w3.heap.size, 2, none⟩ = some (.int .i64 lo) := cell_of_heap hB5 2; have b3 : w5.cell? ⟨w3.heap.size, 3, none⟩ = some (.slice a n c) := cell_of_heap hB5 3; have f3 : w5.frozen? ⟨w3.heap.size, 3, none⟩ = false := frozen_of_heap hB5 3; have Hrow5 := Lib.hid hrow5; have Hg5 := Lib.hid hg5; have Hat5 := Lib.hid hat5; clear hrow5 hg5 hat5 hB5)
          have hgB : g ≠ w3.heap.size := by
            rcases Hat5.out with h | h
            · have := Hown.out g h; omega
            · rw [h, Hne2.out]; omega
          have HK := Lib.hid (arr_kept (i := 3) (v := .slice (some ⟨g, 0, none⟩) m2 cap) Hg5.out)
          have S6 : Hid (SQ w0 (w5.setCell ⟨w3.heap.size, 3, none⟩ (.slice (some ⟨g, 0, none⟩) m2 cap)) b N m (some ⟨ow, ep, lo, ls⟩) G) := S3.out.guarded (HK.out.mono (fun k _ hk => .inr hk)) (fun k hk => .inl (.inl (.inl hk)))
          have HP6 : Hid (PSl (w5.setCell ⟨w3.heap.size, 3, none⟩ (.slice (some ⟨g, 0, none⟩) m2 cap)) (some ⟨g, 0, none⟩) m2 (ls ++ [⟨src, by_⟩])) := (Hrow5.out.grown (grown_setCell _ _ _ _) (fun k hk e => by cases hk; exact hgB (by simpa [Value.ownBlock] using e))).sl
          have HG6 : Hid (∀ k, G k → (w5.setCell ⟨w3.heap.size, 3, none⟩ (.slice (some ⟨g, 0, none⟩) m2 cap)).heap[k]? = w.heap[k]?) := fun k hk => (HK.out.block k (S3.out.glt k (.inl (.inl hk))) (Hgl.out k hk)).trans (HG3.out k hk)
          clear b0 b1 b2 b3 f3 u0 u1
          generalize w5.setCell ⟨w3.heap.size, 3, none⟩ (.slice (some ⟨g, 0, none⟩) m2 cap) = w6 at *
          refine (sqPut w0 w6 b N m _ G S6.out (by omega) hN ow ep lo _ m2 cap _ HP6.out Hck.out how).mono ?_
          rintro r w7 ⟨rfl, s7, hk7⟩
          have S7 := Lib.hid s7
          have HG7 : Hid (∀ k, G k → w7.heap[k]? = w.heap[k]?) := fun k hk => (hk7 k hk).trans (HG6.out k hk)
          clear s7 hk7
          go_wp2
          go_ret
          exact ⟨rfl, S7.out, HG7.out⟩
        · by_cases h3 : lo < 1073741824
          · have hr : o' = some ⟨ow, ep, lo + 1, ls⟩ ∧ q = 9 ∧ d = 1 := by
              have := Hst2.out
              rw [if_neg (by simp), if_neg (by omega), if_pos h3] at this
              simp only [Prod.mk.injEq] at this
              exact ⟨this.1.symm, this.2.1.symm, this.2.2.symm⟩
            obtain ⟨rfl, rfl, rfl⟩ := hr
            have Hck : Hid (checkQ ⟨ow, ep, lo + 1, ls⟩ = 0) := checkQ_mk hk1 hk2 (by dsimp only; omega) hk4 hk5
            clear hk1 hk5 hk4 hln Hst2
            go_wp2_with fail
            refine (sqPut w0 _ b N m _ G (S3a.out _) (by omega) hN ow ep (lo + 1) _ n c _ (HPa.out _) Hck.out how).mono ?_
            rintro r w7 ⟨rfl, s7, hk7⟩
            have S7 := Lib.hid s7
            have HG7 : Hid (∀ k, G k → w7.heap[k]? = w.heap[k]?) := fun k hk => (hk7 k hk).trans (HG3a.out _ k hk)
            clear s7 hk7
            go_wp2
            go_ret
            exact ⟨rfl, S7.out, HG7.out⟩
          · have hr : o' = some ⟨ow, ep, lo, ls⟩ ∧ q = 9 ∧ d = 0 := by
              have := Hst2.out
              rw [if_neg (by simp), if_neg (by omega), if_neg h3] at this
              simp only [Prod.mk.injEq] at this
              exact ⟨this.1.symm, this.2.1.symm, this.2.2.symm⟩
            obtain ⟨rfl, rfl, rfl⟩ := hr
            clear hk1 hk5 hk4 hln Hst2
            go_wp2
            go_ret
            exact ⟨rfl, S3a.out _, HG3a.out _⟩
      · have hr : o' = o ∧ q = g ∧ d = 0 := by
          have := Hst2.out
          rw [if_pos hg] at this
          simp only [Prod.mk.injEq] at this
          exact ⟨this.1.symm, this.2.1.symm, this.2.2.symm⟩
        obtain ⟨rfl, rfl, rfl⟩ := hr
        have hg' : ((q : Int) != 0) = true := bne_iff_ne.2 (by omega)
        clear hg
        go_wp2
        go_ret
        exact ⟨rfl, S3a.out _, HG3a.out _⟩
    · have hr : o' = o ∧ q = pe ∧ d = 0 := by
        have := Hst.out
        unfold arriveStep at this
        rw [Hqa.out, if_neg (by simp), Hpe.out, if_pos h1] at this
        simp only [Prod.mk.injEq] at this
        exact ⟨this.1.symm, this.2.1.symm, this.2.2.symm⟩
      obtain ⟨rfl, rfl, rfl⟩ := hr
      have h1' : ((q : Int) != 0) = true := bne_iff_ne.2 (by omega)
      have S2' : Hid (SQ w0 w2 b N m o' G) := S2.out.fresh (Below.refl _ _) (fun k hk => .inl (.inl hk))
      clear h1
      go_wp2
      go_ret
      exact ⟨rfl, S2'.out, HG2.out⟩
  · have hr : o' = o ∧ q = qa ∧ d = 0 := by
      have := Hst.out
      unfold arriveStep at this
      rw [Hqa.out, if_pos h0] at this
      simp only [Prod.mk.injEq] at this
      exact ⟨this.1.symm, this.2.1.symm, this.2.2.symm⟩
    obtain ⟨rfl, rfl, rfl⟩ := hr
    have h0' : ((q : Int) != 0) = true := bne_iff_ne.2 (by omega)
    have S1' : Hid (SQ w0 w1 b N m o' G) := S1.out.fresh (Below.refl _ _) (fun k hk => .inl (.inl hk))
    clear h0
    go_wp2
    go_ret
    exact ⟨rfl, S1'.out, HG1.out⟩

end Go.Proofs.YtijfdgoeppehlaaGreatDoor

namespace Go.Proofs.YtijfdgoeppehlaaGreatDoor
open Go.RowKit
attribute [local go_sem ↓] Go.wp_at_zero Go.wp_at_succ

theorem PSl.tail {w : World} {g off n : Nat} {ls : List PackT} (hn : ls.length = n) (hc : ∀ j, j < n → w.cell? ⟨g, off + j * 2, none⟩ = some (.string (ls.getD j zeroPk).src) ∧ w.cell? ⟨g, off + j * 2 + 1, none⟩ = some (.string (ls.getD j zeroPk).bytes)) : PSl w (some ⟨g, off + 2, none⟩) (n - 1) (ls.drop 1) := by
  refine ⟨by simp; omega, fun h0 => ⟨g, off + 2, rfl, fun j hj => ?_⟩⟩
  have := hc (j + 1) (by omega)
  have e : off + 2 + j * 2 = off + (j + 1) * 2 := by omega
  have e2 : (ls.drop 1).getD j zeroPk = ls.getD (j + 1) zeroPk := by simp
  rw [e, e2]
  exact this
theorem PSl.grown {w w' : World} {a : Option Addr} {n : Nat} {ls : List PackT} {row : Option Nat} (h : PSl w a n ls) (hb : w.grownBy w' row) (hr : ∀ g off, a = some ⟨g, off, none⟩ → row ≠ some g) : PSl w' a n ls := by
  refine ⟨h.1, fun h0 => ?_⟩
  obtain ⟨g, off, ha, hc⟩ := h.2 h0
  refine ⟨g, off, ha, fun j hj => ?_⟩
  have hlt := World.block_lt_of_cell? w ⟨g, _, none⟩ (hc j hj).1
  have hbl := hb.block g hlt (fun e => hr g off ha e.symm)
  exact ⟨(World.cell?_of_block (a := ⟨g, _, none⟩) hbl).trans (hc j hj).1, (World.cell?_of_block (a := ⟨g, _, none⟩) hbl).trans (hc j hj).2⟩

section
variable (who : ByteArray) (Wb Fb X : Nat) (ow : ByteArray) (ep lo : Int) (a : Option Addr) (n c : Nat) (w : World)
  (hX : w.heap[X]? = some (.cells #[.string ow, .int .i64 ep, .int .i64 lo, .slice a n c] 80 (0, 0)))
  (hW : w.heap[Wb]? = some (.cells #[.string who] 49 (0, 0)))
include hX hW
set_option maxRecDepth 100000 in
set_option maxHeartbeats 1600000 in
theorem recv_denied (hne : ow ≠ who) : Calls Tryz.prog 40 #[.pointer (some ⟨X, 0, none⟩), .pointer (some ⟨Wb, 0, none⟩), .pointer (some ⟨Fb, 0, none⟩)] w fun r w' => r = .returned (.int .i64 14) ∧ Below w.heap.size w w' := by
  have c0 : w.cell? ⟨X, 0, none⟩ = some (.string ow) := cell_of_heap hX 0
  have d0 : w.cell? ⟨Wb, 0, none⟩ = some (.string who) := cell_of_heap hW 0
  have hx : (ow.toList == who.toList) = false := by rw [str_beq]; exact decide_eq_false hne
  clear hX hW hne
  go_enter Tryz.func40, Tryz.ntmps40
  go_wp2
  go_quiet (fail)
  go_wp2
  go_ret
  exact ⟨rfl, below_drewN (Below.refl _ _) _⟩
set_option maxRecDepth 100000 in
set_option maxHeartbeats 1600000 in
theorem recv_busy (hne : ow = who) (hn : n = 0) : Calls Tryz.prog 40 #[.pointer (some ⟨X, 0, none⟩), .pointer (some ⟨Wb, 0, none⟩), .pointer (some ⟨Fb, 0, none⟩)] w fun r w' => r = .returned (.int .i64 19) ∧ Below w.heap.size w w' := by
  subst hne hn
  have c0 : w.cell? ⟨X, 0, none⟩ = some (.string ow) := cell_of_heap hX 0
  have c3 : w.cell? ⟨X, 3, none⟩ = some (.slice a 0 c) := cell_of_heap hX 3
  have d0 : w.cell? ⟨Wb, 0, none⟩ = some (.string ow) := cell_of_heap hW 0
  clear hX hW
  go_enter Tryz.func40, Tryz.ntmps40
  go_wp2
  go_quiet (fail)
  go_wp2
  go_ret
  exact ⟨rfl, below_drewN (Below.refl _ _) _⟩
end

/-- What the closure leaves where there is a packet. -/
def RecvPost (Fb X : Nat) (ow : ByteArray) (ep lo : Int) (ls : List PackT) (w : World) (r : Ending) (w' : World) : Prop :=
  r = .returned (.int .i64 0) ∧ Kept (fun k => k = X ∨ k = Fb) w w' ∧ (∃ a n c, w'.heap[X]? = some (.cells #[.string ow, .int .i64 ep, .int .i64 lo, .slice a n c] 80 (0, 0)) ∧ PSl w' a n (ls.drop 1)) ∧
    w'.heap[Fb]? = some (.cells #[.string (ls.getD 0 zeroPk).src, .string (ls.getD 0 zeroPk).bytes] 33 (0, 0))

theorem recv_post {Fb X : Nat} {ow : ByteArray} {ep lo : Int} {ls : List PackT} {w : World} {v f0 f1 : Value} {g off n c j : Nat} {src by_ : ByteArray} (hFX : Fb ≠ X) (hgX : g ≠ X) (hgF : g ≠ Fb)
    (hX : w.heap[X]? = some (.cells #[.string ow, .int .i64 ep, .int .i64 lo, v] 80 (0, 0))) (hF : w.heap[Fb]? = some (.cells #[f0, f1] 33 (0, 0))) (hs : PSl w (some ⟨g, off, none⟩) n (ls.drop 1)) (hx : ls.getD 0 zeroPk = ⟨src, by_⟩) :
    RecvPost Fb X ow ep lo ls w (.returned (.int .i64 0)) ((((w.drewN j).setCell ⟨Fb, 0, none⟩ (.string src)).setCell ⟨Fb, 1, none⟩ (.string by_)).setCell ⟨X, 3, none⟩ (.slice (some ⟨g, off, none⟩) n c)) := by
  have hb : Below w.heap.size w (w.drewN j) := below_drewN (Below.refl _ _) _
  have hX1 : (w.drewN j).heap[X]? = _ := hX
  have hF1 : (w.drewN j).heap[Fb]? = _ := hF
  have hs1 : PSl (w.drewN j) (some ⟨g, off, none⟩) n (ls.drop 1) := hs.later hb
  generalize w.drewN j = W at *
  have k1 := Kept.of_grown (grown_setCell W Fb 0 (.string src)) (fun k => k = X ∨ k = Fb) (fun k hk => by cases hk; exact .inr rfl)
  have k2 := Kept.of_grown (grown_setCell (W.setCell ⟨Fb, 0, none⟩ (.string src)) Fb 1 (.string by_)) (fun k => k = X ∨ k = Fb) (fun k hk => by cases hk; exact .inr rfl)
  have k3 := Kept.of_grown (grown_setCell ((W.setCell ⟨Fb, 0, none⟩ (.string src)).setCell ⟨Fb, 1, none⟩ (.string by_)) X 3 (.slice (some ⟨g, off, none⟩) n c)) (fun k => k = X ∨ k = Fb) (fun k hk => by cases hk; exact .inl rfl)
  refine ⟨rfl, (((Kept.of_below hb _).trans k1 (fun _ _ h => h)).trans k2 (fun _ _ h => h)).trans k3 (fun _ _ h => h), ⟨some ⟨g, off, none⟩, n, c, ?_, ?_⟩, ?_⟩
  · exact heap_setCell_same ((Below.heap_setCell _ _ _ _ (Ne.symm hFX)).trans ((Below.heap_setCell _ _ _ _ (Ne.symm hFX)).trans hX1)) 3 _
  · exact ((hs1.grown (grown_setCell W Fb 0 (.string src)) (fun g' o' ha e => by cases ha; cases e; exact hgF rfl)).grown (grown_setCell _ Fb 1 _) (fun g' o' ha e => by cases ha; cases e; exact hgF rfl)).grown (grown_setCell _ X 3 _) (fun g' o' ha e => by cases ha; cases e; exact hgX rfl)
  · rw [hx]
    exact (Below.heap_setCell _ _ _ _ hFX).trans (heap_setCell_same (heap_setCell_same hF1 0 _) 1 _)

set_option maxRecDepth 100000 in
set_option maxHeartbeats 1600000 in
theorem recv_ok (Wb Fb X : Nat) (ow : ByteArray) (ep lo : Int) (a : Option Addr) (n c : Nat) (ls : List PackT) (f0 f1 : Value) (w : World)
    (hX : w.heap[X]? = some (.cells #[.string ow, .int .i64 ep, .int .i64 lo, .slice a n c] 80 (0, 0)))
    (hW : w.heap[Wb]? = some (.cells #[.string ow] 49 (0, 0))) (hF : w.heap[Fb]? = some (.cells #[f0, f1] 33 (0, 0)))
    (hs : PRow w (.slice a n c) ls) (hne : ∀ g, (Value.slice a n c).ownBlock = some g → g ≠ X ∧ g ≠ Fb) (hFX : Fb ≠ X) (h0 : 0 < n) (h16 : n ≤ 16) :
    Calls Tryz.prog 40 #[.pointer (some ⟨X, 0, none⟩), .pointer (some ⟨Wb, 0, none⟩), .pointer (some ⟨Fb, 0, none⟩)] w (RecvPost Fb X ow ep lo ls w) := by
  have c0 : w.cell? ⟨X, 0, none⟩ = some (.string ow) := cell_of_heap hX 0
  have c3 : w.cell? ⟨X, 3, none⟩ = some (.slice a n c) := cell_of_heap hX 3
  have g3 : w.frozen? ⟨X, 3, none⟩ = false := frozen_of_heap hX 3
  have d0 : w.cell? ⟨Wb, 0, none⟩ = some (.string ow) := cell_of_heap hW 0
  have k0 : w.cell? ⟨Fb, 0, none⟩ = some f0 := cell_of_heap hF 0
  have k1 : w.cell? ⟨Fb, 1, none⟩ = some f1 := cell_of_heap hF 1
  have l0 : w.frozen? ⟨Fb, 0, none⟩ = false := frozen_of_heap hF 0
  have l1 : w.frozen? ⟨Fb, 1, none⟩ = false := frozen_of_heap hF 1
  have hnc : n ≤ c := by
    rcases hs.2 with ⟨hv, _⟩ | ⟨g', cap, cur, hv, _, _, h5, _⟩
    · cases hv; omega
    · cases hv; omega
  have hform : ∃ g off, a = some ⟨g, off, none⟩ ∧ (Value.slice a n c).ownBlock = some g := by
    rcases hs.2 with ⟨hv, _⟩ | ⟨g', cap, cur, hv, _⟩
    · cases hv; omega
    · cases hv; exact ⟨g', 0, rfl, rfl⟩
  obtain ⟨g, off, rfl, hown⟩ := hform
  obtain ⟨g', off', hg', hcell⟩ := hs.sl.2 h0
  cases hg'
  have e0 := (hcell 0 h0).1
  have e1 := (hcell 0 h0).2
  have hln := hs.sl.1
  rw [Nat.zero_mul, Nat.add_zero] at e0 e1
  have hgX := (hne g hown).1
  have hgF := (hne g hown).2
  have hXg := Ne.symm hgX
  have hFg := Ne.symm hgF
  have hXF := Ne.symm hFX
  have HX := Lib.hid hX; clear hX
  have HF := Lib.hid hF; clear hF hW
  have Hcell := Lib.hid hcell; clear hcell hne hown hs
  have Hln := Lib.hid hln; clear hln
  have h0' : ((n : Int) == 0) = false := beq_eq_false_iff_ne.2 (by omega)
  have hn1 : 1 ≤ n := h0
  obtain ⟨x0, hx0⟩ : ∃ x, ls.getD 0 zeroPk = x := ⟨_, rfl⟩
  have Hx0 := Lib.hid hx0
  rw [hx0] at e0 e1
  clear hx0
  obtain ⟨src, by_⟩ := x0
  dsimp only at e0 e1
  go_enter Tryz.func40, Tryz.ntmps40
  go_wp2
  go_quiet (fail)
  by_cases hc1 : c = 1
  · subst hc1
    obtain rfl : n = 1 := by omega
    go_wp2
    go_region
    go_wp2
    go_ret
    exact recv_post hFX hgX hgF HX.out HF.out ⟨by simp [Hln.out], fun h => absurd h (Nat.lt_irrefl _)⟩ Hx0.out
  · go_wp2
    go_region
    go_wp2
    go_ret
    exact recv_post hFX hgX hgF HX.out HF.out (PSl.tail Hln.out Hcell.out) Hx0.out

theorem callFunc_inQ {P : Program} {f : FuncId} {fn : Func} (hf : P.funcs[f]? = some fn) (hname : (fn.name == "runtime.NumGoroutine") = false) (hb : fn.body.isNone = false) (args : Array Value) (w : World) : (callFunc f args).run P w = .ok (.enter f args) w := by
  have h1 : fn.name ≠ "runtime.NumGoroutine" := by simpa using hname
  have h2 : fn.body ≠ none := fun e => by rw [e] at hb; cases hb
  simp [callFunc, hf, h1, h2]
def recvStep (who : ByteArray) (e : Int) (o : Option PortT) : Option PortT × PackT × Nat × Nat :=
  if (qHas e o).2 ≠ 0 then (o, zeroPk, (qHas e o).2, 0) else if (qHas e o).1.owner ≠ who then (o, zeroPk, 14, 0) else if (qHas e o).1.queue.length = 0 then (o, zeroPk, 19, 0)
  else (some ⟨(qHas e o).1.owner, (qHas e o).1.epoch, (qHas e o).1.lost, (qHas e o).1.queue.drop 1⟩, (qHas e o).1.queue.getD 0 zeroPk, 0, 1)
theorem packsE_drop {ls : List PackT} (h : packsE ls = 0) : packsE (ls.drop 1) = 0 := by
  cases ls with
  | nil => rfl
  | cons s r =>
    simp only [packsE] at h
    by_cases h0 : packE s ≠ 0
    · rw [if_pos h0] at h; exact absurd h h0
    · rw [if_neg h0] at h; exact h

set_option maxRecDepth 100000 in
set_option maxHeartbeats 1600000 in
theorem sqChange (w0 w : World) (b N : Nat) (m : Int) (o : Option PortT) (G : Nat → Prop) (s : SQ w0 w b N m o G) (hN : N < 1000000) (e : Int) (hm : 1 ≤ m ∧ m ≤ 9999) (he : numB e = true) (who : ByteArray) (Wb Fb : Nat) (hGW : G Wb) (hGF : G Fb)
    (hW : w.heap[Wb]? = some (.cells #[.string who] 49 (0, 0))) (hF : w.heap[Fb]? = some (.cells #[.string ⟨#[]⟩, .string ⟨#[]⟩] 33 (0, 0))) (o' : Option PortT) (x : PackT) (q d : Nat) (hst : recvStep who e o = (o', x, q, d)) :
    Calls Tryz.prog 39 #[.pointer (some ⟨b, 0, none⟩), .int .i64 m, .int .i64 e, .func (.func 40) #[] #[.pointer (some ⟨Wb, 0, none⟩), .pointer (some ⟨Fb, 0, none⟩)]] w fun r w' =>
      r = .returned (.int .i64 q) ∧ SQ w0 w' b (N + d) m o' G ∧ (∀ k, G k → k ≠ Fb → w'.heap[k]? = w.heap[k]?) ∧ (q = 0 → w'.heap[Fb]? = some (.cells #[.string x.src, .string x.bytes] 33 (0, 0))) := by
  have hcf : ∀ args W, (callFunc 40 args).run Tryz.prog W = .ok (.enter 40 args) W := callFunc_inQ Tryz.func40 (by kernel_rfl) (by kernel_rfl)
  have Hst := Lib.hid hst; clear hst
  have S := Lib.hid s; clear s
  have HW := Lib.hid hW; clear hW
  have HF := Lib.hid hF; clear hF
  have HGW := Lib.hid hGW; clear hGW
  have HGF := Lib.hid hGF; clear hGF
  obtain ⟨p, g, hpg⟩ : ∃ p g, qHas e o = (p, g) := ⟨_, _, rfl⟩
  have Hpg := Lib.hid hpg; clear hpg
  have Hst2 : Hid ((if g ≠ 0 then (o, zeroPk, g, 0) else if p.owner ≠ who then (o, zeroPk, 14, 0) else if p.queue.length = 0 then (o, zeroPk, 19, 0) else (some ⟨p.owner, p.epoch, p.lost, p.queue.drop 1⟩, p.queue.getD 0 zeroPk, 0, 1)) = (o', x, q, d)) := by
    have := Hst.out
    unfold recvStep at this
    rw [Hpg.out] at this
    exact this
  clear Hst
  go_enter Tryz.func39, Tryz.ntmps39
  go_wp2_with fail
  refine (sqGet w0 w b N m o G S.out e hm he p g Hpg.out).mono ?_
  rintro r w1 ⟨a, n, c, rfl, hrow, hl, s1, hk1⟩
  have HX : Hid (∀ o'', (w1.alloc o'').heap[w1.heap.size]? = some o'') := fun o'' => heap_alloc_new w1 o''
  have S1 := Lib.hid s1
  have Sa : Hid (∀ o'', SQ w0 (w1.alloc o'') b N m o (fun k => G k ∨ k = w1.heap.size)) := fun o'' => s1.fresh ((Below.refl _ _).alloc (Nat.le_refl _) _) (fun k hk => by
    rcases hk with h | h
    · exact .inl (.inl h)
    · subst h; exact .inr (by simp))
  have HGa : Hid (∀ o'', ∀ k, G k → (w1.alloc o'').heap[k]? = w.heap[k]?) := fun o'' k hk => (s1.gk ((Below.refl _ _).alloc (Nat.le_refl _) _) k (.inl hk)).trans (hk1 k hk)
  have Hrowa : Hid (∀ o'', PRow (w1.alloc o'') (.slice a n c) p.queue) := fun o'' => World.ownsRow.alloc hrow o''
  have Hown : Hid (∀ k, (Value.slice a n c).ownBlock = some k → k ≠ w1.heap.size ∧ k ≠ Fb) := fun k hk => by
    obtain ⟨cur, hc⟩ := row_lt hrow hk
    have h1 := lt_of_heap hc
    have h2 := hl k hk
    have h3 := S.out.glt Fb HGF.out
    omega
  have hFX : Fb ≠ w1.heap.size := by have := s1.glt Fb (.inl HGF.out); omega
  have HGlt : Hid (∀ k, G k → k < w1.heap.size) := fun k hk => s1.glt k (.inl hk)
  clear hrow hl s1 hk1
  obtain ⟨ow, ep, lo, ls⟩ := p
  dsimp only at *
  have hln : ls.length = n := (Hrowa.out (.cells #[] 0)).sl.1
  by_cases hg : g = 0
  · subst hg
    obtain ⟨rfl, rfl⟩ := qHas_some Hpg.out
    have hck := S1.out.check
    have hk := checkQ_ok hck.1
    have how := hck.2
    dsimp only at hk how
    obtain ⟨k1, k2, k3, k4, k5⟩ := hk
    by_cases hw : ow = who
    · subst hw
      by_cases hn : n = 0
      · have hr : o' = some ⟨ow, ep, lo, ls⟩ ∧ q = 19 ∧ d = 0 := by
          have := Hst2.out
          rw [if_neg (by simp), if_neg (by simp), if_pos (by omega)] at this
          simp only [Prod.mk.injEq] at this
          exact ⟨this.1.symm, this.2.2.1.symm, this.2.2.2.symm⟩
        obtain ⟨rfl, rfl, rfl⟩ := hr
        subst hn
        go_wp2_with fail
        refine (recv_busy ow Wb Fb w1.heap.size ow ep lo a 0 c _ (HX.out _) ((HGa.out _ Wb HGW.out).trans HW.out) rfl rfl).mono ?_
        rintro r w2 ⟨rfl, hb⟩
        have S2 : Hid (SQ w0 w2 b N m (some ⟨ow, ep, lo, ls⟩) G) := (Sa.out _).fresh hb (fun k hk => .inl (.inl hk))
        have HG2 : Hid (∀ k, G k → w2.heap[k]? = w.heap[k]?) := fun k hk => ((Sa.out _).gk hb k (.inl hk)).trans (HGa.out _ k hk)
        clear hb
        go_wp2
        go_ret
        exact ⟨rfl, S2.out, fun k hk _ => HG2.out k hk, fun h => by cases h⟩
      · have hr : o' = some ⟨ow, ep, lo, ls.drop 1⟩ ∧ x = ls.getD 0 zeroPk ∧ q = 0 ∧ d = 1 := by
          have := Hst2.out
          rw [if_neg (by simp), if_neg (by simp), if_neg (by omega)] at this
          simp only [Prod.mk.injEq] at this
          exact ⟨this.1.symm, this.2.1.symm, this.2.2.1.symm, this.2.2.2.symm⟩
        obtain ⟨ho', hx', rfl, rfl⟩ := hr
        have Ho' := Lib.hid ho'; clear ho'
        have Hx' := Lib.hid hx'; clear hx'
        have Hck : Hid (checkQ ⟨ow, ep, lo, ls.drop 1⟩ = 0) := checkQ_mk k1 k2 k3 (by simp; omega) (packsE_drop k5)
        go_wp2_with fail
        refine (recv_ok Wb Fb w1.heap.size ow ep lo a n c ls _ _ _ (HX.out _) ((HGa.out _ Wb HGW.out).trans HW.out) ((HGa.out _ Fb HGF.out).trans HF.out) (Hrowa.out _) Hown.out hFX (by omega) (by omega)).mono ?_
        rintro r w2 ⟨rfl, hkp, ⟨a2, n2, c2, hX2, hp2⟩, hF2⟩
        have S2 : Hid (SQ w0 w2 b N m (some ⟨ow, ep, lo, ls⟩) G) := (Sa.out _).guarded (hkp.mono (fun k _ h => h.elim .inr (fun h => .inl (by rw [h]; exact HGF.out)))) (fun k hk => .inl (.inl hk))
        have HG2 : Hid (∀ k, G k → k ≠ Fb → w2.heap[k]? = w.heap[k]?) := fun k hk hne => (hkp.block k ((Sa.out _).glt k (.inl hk)) (fun h => by rcases h with h | h; have := HGlt.out k hk; omega; exact hne h)).trans (HGa.out _ k hk)
        have HP2 := Lib.hid hp2
        have HF2 := Lib.hid hF2
        have x0 : w2.cell? ⟨w1.heap.size, 0, none⟩ = some (.string ow) := cell_of_heap hX2 0
        have x1 : w2.cell? ⟨w1.heap.size, 1, none⟩ = some (.int .i64 ep) := cell_of_heap hX2 1
        have x2 : w2.cell? ⟨w1.heap.size, 2, none⟩ = some (.int .i64 lo) := cell_of_heap hX2 2
        have x3 : w2.cell? ⟨w1.heap.size, 3, none⟩ = some (.slice a2 n2 c2) := cell_of_heap hX2 3
        clear hkp hX2 hp2 hF2
        go_wp2_with fail
        refine (sqPut w0 w2 b N m _ G S2.out (by omega) hN ow ep lo _ n2 c2 _ HP2.out Hck.out how).mono ?_
        rintro r w3 ⟨rfl, s3, hk3⟩
        have S3 := Lib.hid s3
        have HG3 : Hid (∀ k, G k → k ≠ Fb → w3.heap[k]? = w.heap[k]?) := fun k hk hne => (hk3 k hk).trans (HG2.out k hk hne)
        have HF3 := Lib.hid ((hk3 Fb HGF.out).trans HF2.out)
        clear s3 hk3
        go_wp2
        go_ret
        rw [Ho'.out, Hx'.out]
        exact ⟨rfl, S3.out, HG3.out, HF3.out⟩
    · have hr : o' = some ⟨ow, ep, lo, ls⟩ ∧ q = 14 ∧ d = 0 := by
        have := Hst2.out
        rw [if_neg (by simp), if_pos hw] at this
        simp only [Prod.mk.injEq] at this
        exact ⟨this.1.symm, this.2.2.1.symm, this.2.2.2.symm⟩
      obtain ⟨rfl, rfl, rfl⟩ := hr
      go_wp2_with fail
      refine (recv_denied who Wb Fb w1.heap.size ow ep lo a n c _ (HX.out _) ((HGa.out _ Wb HGW.out).trans HW.out) hw).mono ?_
      rintro r w2 ⟨rfl, hb⟩
      have S2 : Hid (SQ w0 w2 b N m (some ⟨ow, ep, lo, ls⟩) G) := (Sa.out _).fresh hb (fun k hk => .inl (.inl hk))
      have HG2 : Hid (∀ k, G k → w2.heap[k]? = w.heap[k]?) := fun k hk => ((Sa.out _).gk hb k (.inl hk)).trans (HGa.out _ k hk)
      clear hb
      go_wp2
      go_ret
      exact ⟨rfl, S2.out, fun k hk _ => HG2.out k hk, fun h => by cases h⟩
  · have hr : o' = o ∧ q = g ∧ d = 0 := by
      have := Hst2.out
      rw [if_pos hg] at this
      simp only [Prod.mk.injEq] at this
      exact ⟨this.1.symm, this.2.2.1.symm, this.2.2.2.symm⟩
    obtain ⟨rfl, rfl, rfl⟩ := hr
    have hg' : ((q : Int) != 0) = true := bne_iff_ne.2 (by omega)
    have Hg := Lib.hid hg
    have Sb : Hid (∀ o'', SQ w0 (w1.alloc o'') b N m o' G) := fun o'' => (Sa.out o'').fresh (Below.refl _ _) (fun k hk => .inl (.inl hk))
    clear hg
    go_wp2
    go_ret
    exact ⟨rfl, Sb.out _, fun k hk _ => HGa.out _ k hk, fun h => absurd h Hg.out⟩

end Go.Proofs.YtijfdgoeppehlaaGreatDoor

namespace Go.Proofs.YtijfdgoeppehlaaGreatDoor
open Go.RowKit
attribute [local go_sem ↓] Go.wp_at_zero Go.wp_at_succ

def receiveStep (who : ByteArray) (m e : Int) (o : Option PortT) : Option PortT × PackT × Nat × Nat := if qArgs who m e ≠ 0 then (o, zeroPk, qArgs who m e, 0) else recvStep who e o
theorem recv_err {who : ByteArray} {e : Int} {o o' : Option PortT} {x : PackT} {q d : Nat} (h : recvStep who e o = (o', x, q, d)) (hq : q ≠ 0) : x = zeroPk := by
  unfold recvStep at h
  by_cases h1 : (qHas e o).2 ≠ 0
  · rw [if_pos h1] at h; simp only [Prod.mk.injEq] at h; exact h.2.1.symm
  rw [if_neg h1] at h
  by_cases h2 : (qHas e o).1.owner ≠ who
  · rw [if_pos h2] at h; simp only [Prod.mk.injEq] at h; exact h.2.1.symm
  rw [if_neg h2] at h
  by_cases h3 : (qHas e o).1.queue.length = 0
  · rw [if_pos h3] at h; simp only [Prod.mk.injEq] at h; exact h.2.1.symm
  rw [if_neg h3] at h
  simp only [Prod.mk.injEq] at h
  exact absurd h.2.2.1.symm hq
theorem rec_fin {w0 w w2 X : World} {b N R : Nat} {m : Int} {o : Option PortT} {G Gx : Nat → Prop} (S2 : SQ w0 w2 b N m o Gx) (hR : Gx R) (hGG : ∀ k, G k → Gx k ∧ k ≠ R) (hG : ∀ k, G k → w2.heap[k]? = w.heap[k]?) (hg : w2.grownBy X (some R)) :
    SQ w0 X b N m o G ∧ ∀ k, G k → X.heap[k]? = w.heap[k]? := by
  have hK : Kept Gx w2 X := Kept.of_grown hg _ (fun k hk => by cases hk; exact hR)
  refine ⟨S2.guarded hK (fun k hk => .inl (hGG k hk).1), fun k hk => ?_⟩
  exact (hg.block k (S2.glt k (hGG k hk).1) (fun e => (hGG k hk).2 (by cases e; rfl))).trans (hG k hk)
theorem grown_set2 (w : World) (R : Nat) (a b : Value) : w.grownBy ((w.setCell ⟨R, 0, none⟩ a).setCell ⟨R, 1, none⟩ b) (some R) := grown_trans (grown_setCell _ _ _ _) (grown_setCell _ _ _ _)

set_option maxRecDepth 100000 in
set_option maxHeartbeats 1600000 in
theorem sqReceive (w0 w : World) (b N : Nat) (m : Int) (o : Option PortT) (G : Nat → Prop) (s : SQ w0 w b N m o G) (hN : N < 1000000) (who : ByteArray) (e : Int) (hw : who.size ≤ 64) (o' : Option PortT) (x : PackT) (q d : Nat) (hst : receiveStep who m e o = (o', x, q, d)) :
    Calls Tryz.prog 20 #[.pointer (some ⟨b, 0, none⟩), .string who, .int .i64 m, .int .i64 e] w (SQP w0 b (N + d) m o' G w (.tuple #[.agg #[.string x.src, .string x.bytes], .int .i64 q])) := by
  have Hst := Lib.hid hst; clear hst
  have HGw : Hid (∀ k, G k → k < w.heap.size) := s.glt
  obtain ⟨qa, hqa⟩ : ∃ qa, qArgs who m e = qa := ⟨_, rfl⟩
  have Hqa := Lib.hid hqa; clear hqa
  have Hb0 : Hid (∀ o1 o2, Below w.heap.size w ((w.alloc o1).alloc o2)) := fun o1 o2 => ((Below.refl _ _).alloc (Nat.le_refl _) _).alloc (by simp) _
  have S0 : Hid (∀ o1 o2, SQ w0 ((w.alloc o1).alloc o2) b N m o (fun k => G k ∨ k = w.heap.size ∨ k = w.heap.size + 1)) := fun o1 o2 => s.fresh (Hb0.out _ _) (fun k hk => hk.imp id (fun h => by simp; omega))
  have HG0 : Hid (∀ o1 o2, ∀ k, G k → ((w.alloc o1).alloc o2).heap[k]? = w.heap[k]?) := fun o1 o2 => s.gk (Hb0.out _ _)
  have HW0 : Hid (∀ o1 o2, ((w.alloc o1).alloc o2).heap[w.heap.size]? = some o1) := fun o1 o2 => (Below.heap_alloc _ _ _ (by simp)).trans (World.alloc_heap_new w _)
  have HR0 : Hid (∀ o1 o2, ((w.alloc o1).alloc o2).heap[w.heap.size + 1]? = some o2) := fun o1 o2 => by have := World.alloc_heap_new (w.alloc o1) o2; rwa [World.size_alloc] at this
  clear s
  go_enter Tryz.func20, Tryz.ntmps20
  go_wp2_with fail
  refine (qCheck_any b who m e qa Hqa.out _ (by omega)).mono ?_
  rintro r w1 ⟨rfl, hb⟩
  have S1 := Lib.hid ((S0.out _ _).later hb)
  have HG1 : Hid (∀ k, G k → w1.heap[k]? = w.heap[k]?) := fun k hk => ((S0.out _ _).gk hb k (.inl hk)).trans (HG0.out _ _ k hk)
  have HW1 := Lib.hid ((hb.block _ (lt_of_heap (HW0.out _ _))).trans (HW0.out _ _))
  have hR1 := (hb.block _ (lt_of_heap (HR0.out _ _))).trans (HR0.out _ _)
  clear hb S0 HG0 HW0 HR0 Hb0
  have HGR : Hid (∀ k, G k → k ≠ w.heap.size + 1) := fun k hk => by have := HGw.out k hk; omega
  obtain ⟨R, hR⟩ : ∃ R, w.heap.size + 1 = R := ⟨_, rfl⟩
  rw [hR] at hR1 HGR S1
  simp only [hR]
  have HRw := Lib.hid hR; clear hR
  have r0 : w1.cell? ⟨R, 0, none⟩ = some (.string ⟨#[]⟩) := cell_of_heap hR1 0
  have r1 : w1.cell? ⟨R, 1, none⟩ = some (.string ⟨#[]⟩) := cell_of_heap hR1 1
  have g0 : w1.frozen? ⟨R, 0, none⟩ = false := frozen_of_heap hR1 0
  have g1 : w1.frozen? ⟨R, 1, none⟩ = false := frozen_of_heap hR1 1
  have HR1 := Lib.hid hR1; clear hR1
  by_cases h0 : qa = 0
  · subst h0
    obtain ⟨hv, hm, he⟩ := qArgs_ok Hqa.out
    have Hst2 : Hid (recvStep who e o = (o', x, q, d)) := by
      have := Hst.out
      unfold receiveStep at this
      rw [Hqa.out, if_neg (by simp)] at this
      exact this
    clear Hst r0 r1 g0 g1
    have Sa : Hid (∀ o1, SQ w0 (w1.alloc o1) b N m o (fun k => (G k ∨ k = w.heap.size ∨ k = R) ∨ k = w1.heap.size)) := fun o1 => S1.out.fresh ((Below.refl _ _).alloc (Nat.le_refl _) _) (fun k hk => hk.imp id (fun h => by subst h; simp))
    have HGa : Hid (∀ o1, ∀ k, (G k ∨ k = w.heap.size ∨ k = R) → (w1.alloc o1).heap[k]? = w1.heap[k]?) := fun o1 => S1.out.gk ((Below.refl _ _).alloc (Nat.le_refl _) _)
    have HFa : Hid (∀ o1, (w1.alloc o1).heap[w1.heap.size]? = some o1) := fun o1 => heap_alloc_new w1 o1
    have Hlt1 : Hid (∀ k, (G k ∨ k = w.heap.size ∨ k = R) → k ≠ w1.heap.size) := fun k hk => by have := S1.out.glt k hk; omega
    have hmf : ∀ (fn : Fn) (first cap : Array Value) (w : World), (Instr.makeFunc fn first cap).run Tryz.prog w = .ok (.func fn first cap) w := fun _ _ _ _ => rfl
    go_wp2_with fail
    refine (sqChange w0 _ b N m o _ (Sa.out _) hN e hm he who w.heap.size w1.heap.size (.inl (.inr (.inl rfl))) (.inr rfl) ((HGa.out _ _ (.inr (.inl rfl))).trans HW1.out) (HFa.out _) o' x q d Hst2.out).mono ?_
    rintro r w2 ⟨rfl, s2, hk2, hF2⟩
    have S2 := Lib.hid s2
    have hR2 := (hk2 R (.inl (.inr (.inr rfl))) (Hlt1.out _ (.inr (.inr rfl)))).trans ((HGa.out _ _ (.inr (.inr rfl))).trans HR1.out)
    have HG2 : Hid (∀ k, G k → w2.heap[k]? = w.heap[k]?) := fun k hk => (hk2 k (.inl (.inl hk)) (Hlt1.out _ (.inl hk))).trans ((HGa.out _ _ (.inl hk)).trans (HG1.out k hk))
    have HF2 := Lib.hid hF2
    clear s2 hk2 hF2
    have r0 : w2.cell? ⟨R, 0, none⟩ = some (.string ⟨#[]⟩) := cell_of_heap hR2 0
    have r1 : w2.cell? ⟨R, 1, none⟩ = some (.string ⟨#[]⟩) := cell_of_heap hR2 1
    have g0 : w2.frozen? ⟨R, 0, none⟩ = false := frozen_of_heap hR2 0
    have g1 : w2.frozen? ⟨R, 1, none⟩ = false := frozen_of_heap hR2 1
    have HR2 := Lib.hid hR2; clear hR2
    by_cases hq : q = 0
    · subst hq
      have hF := HF2.out rfl
      have k0 : w2.cell? ⟨w1.heap.size, 0, none⟩ = some (.string x.src) := cell_of_heap hF 0
      have k1 : w2.cell? ⟨w1.heap.size, 1, none⟩ = some (.string x.bytes) := cell_of_heap hF 1
      clear hF HF2
      generalize x.src = xs at *
      generalize x.bytes = xb at *
      go_wp2
      refine bodyPost_ret (v := .tuple #[.agg #[.string xs, .string xb], .int .i64 0]) (by simp [results, Tryz.results20, go_sem, r0, r1]) rfl ?_
      exact ⟨rfl, rec_fin (R := R) S2.out (.inl (.inr (.inr rfl))) (fun k hk => ⟨.inl (.inl hk), HGR.out k hk⟩) HG2.out (grown_set2 _ _ _ _)⟩
    · obtain rfl := recv_err Hst2.out hq
      have hq' : ((q : Int) != 0) = true := bne_iff_ne.2 (by omega)
      clear hq HF2
      go_wp2
      refine bodyPost_ret (v := .tuple #[.agg #[.string ⟨#[]⟩, .string ⟨#[]⟩], .int .i64 q]) (by simp [results, Tryz.results20, go_sem, r0, r1]) rfl ?_
      exact ⟨rfl, rec_fin (R := R) S2.out (.inl (.inr (.inr rfl))) (fun k hk => ⟨.inl (.inl hk), HGR.out k hk⟩) HG2.out (grown_set2 _ _ _ _)⟩
  · have hr : o' = o ∧ x = zeroPk ∧ q = qa ∧ d = 0 := by
      have := Hst.out
      unfold receiveStep at this
      rw [Hqa.out, if_pos h0] at this
      simp only [Prod.mk.injEq] at this
      exact ⟨this.1.symm, this.2.1.symm, this.2.2.1.symm, this.2.2.2.symm⟩
    obtain ⟨rfl, rfl, rfl, rfl⟩ := hr
    have h0' : ((q : Int) != 0) = true := bne_iff_ne.2 (by omega)
    clear h0
    go_wp2
    refine bodyPost_ret (v := .tuple #[.agg #[.string ⟨#[]⟩, .string ⟨#[]⟩], .int .i64 q]) (by simp [results, Tryz.results20, go_sem, r0, r1]) rfl ?_
    exact ⟨rfl, rec_fin (R := R) S1.out (.inr (.inr rfl)) (fun k hk => ⟨.inl hk, HGR.out k hk⟩) HG1.out (grown_set2 _ _ _ _)⟩

end Go.Proofs.YtijfdgoeppehlaaGreatDoor
