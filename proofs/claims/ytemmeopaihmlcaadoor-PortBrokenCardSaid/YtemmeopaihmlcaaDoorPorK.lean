/- port: Arrive. -/
import Derived.Test.YtemmeopaihmlcaaDoorPorJ
namespace Go.Proofs.YtemmeopaihmlcaaDoor
open Go.RowKit
attribute [local go_sem ↓] Go.wp_at_zero Go.wp_at_succ

/-- What Arrive makes of a port. -/
def arriveStep (x : PackT) (m e : Int) (o : Option PortT) : Option PortT × Nat × Nat :=
  if qArgs ⟨#[]⟩ m e ≠ 0 then (o, qArgs ⟨#[]⟩ m e, 0) else if packE x ≠ 0 then (o, packE x, 0) else if (qHas e o).2 ≠ 0 then (o, (qHas e o).2, 0)
  else if (qHas e o).1.queue.length < 16 then (some ⟨(qHas e o).1.owner, (qHas e o).1.epoch, (qHas e o).1.lost, (qHas e o).1.queue ++ [x]⟩, 0, 1)
  else if (qHas e o).1.lost < 1073741824 then (some ⟨(qHas e o).1.owner, (qHas e o).1.epoch, (qHas e o).1.lost + 1, (qHas e o).1.queue⟩, 9, 1) else (o, 9, 0)
theorem qHas_some {e : Int} {o : Option PortT} {p : PortT} (h : qHas e o = (p, 0)) : o = some p ∧ p.epoch = e := by
  cases o with
  | none => simp [qHas] at h
  | some p' =>
    unfold qHas at h
    dsimp only at h
    by_cases h1 : p'.epoch ≠ e
    · rw [if_pos h1] at h
      cases (Prod.mk.inj h).2
    · rw [if_neg h1] at h
      obtain rfl := (Prod.mk.inj h).1
      exact ⟨rfl, Decidable.not_not.1 h1⟩
theorem packsE_snoc {ls : List PackT} {x : PackT} (h : packsE ls = 0) (hx : packE x = 0) : packsE (ls ++ [x]) = 0 := by
  induction ls with
  | nil => simp [packsE, hx]
  | cons s r ih =>
    simp only [packsE] at h
    by_cases h0 : packE s ≠ 0
    · rw [if_pos h0] at h; exact absurd h h0
    · rw [if_neg h0] at h
      simp only [List.cons_append, packsE]
      rw [if_neg h0]
      exact ih h
theorem checkQ_mk {p : PortT} (h1 : validB p.owner = true) (h2 : 0 ≤ p.epoch ∧ p.epoch ≤ 1073741824) (h3 : 0 ≤ p.lost ∧ p.lost ≤ 1073741824) (h4 : p.queue.length ≤ 16) (h5 : packsE p.queue = 0) : checkQ p = 0 := by
  unfold checkQ
  rw [if_neg (by rw [h1]; simp), if_neg (by simp [numB, h2, h3]), if_neg (by omega)]
  exact h5
theorem arr_kept {w2 w5 : World} {o1 o2 : Obj} {own : Option Nat} {v : Value} {i : Nat} (hg : ((w2.alloc o1).alloc o2).grownBy w5 own) : Kept (fun k => own = some k) w2 (w5.setCell ⟨w2.heap.size, i, none⟩ v) := by
  have h1 : Below w2.heap.size w2 ((w2.alloc o1).alloc o2) := ((Below.refl _ _).alloc (Nat.le_refl _) _).alloc (by simp) _
  exact ((Kept.of_below h1 _).trans (Kept.of_grown hg _ (fun k hk => hk)) (fun _ _ h => h)).trans (Kept.of_grown (grown_setCell w5 w2.heap.size i v) (fun k => k = w2.heap.size) (fun k hk => by cases hk; rfl)) (fun i hi h => by omega)

set_option maxRecDepth 100000 in
set_option maxHeartbeats 1600000 in
theorem sqArrive (w0 w : World) (b N : Nat) (m : Int) (o : Option PortT) (G : Nat → Prop) (s : SQ w0 w b N m o G) (hN : N < 1000000) (src by_ : ByteArray) (e : Int) (hsr : src.size ≤ 9223372036854775807) (hby : by_.size ≤ 9223372036854775807) (o' : Option PortT) (q d : Nat) (hst : arriveStep ⟨src, by_⟩ m e o = (o', q, d)) :
    Calls Tryd.prog 49 #[.pointer (some ⟨b, 0, none⟩), .int .i64 m, .int .i64 e, .agg #[.string src, .string by_]] w (SQP w0 b (N + d) m o' G w (.int .i64 q)) := by
  have Hst := Lib.hid hst; clear hst
  obtain ⟨qa, hqa⟩ : ∃ qa, qArgs ⟨#[]⟩ m e = qa := ⟨_, rfl⟩
  have Hqa := Lib.hid hqa; clear hqa
  have S0 : Hid (∀ o', SQ w0 (w.alloc o') b N m o (fun k => G k ∨ k = w.heap.size)) := fun o' => s.fresh ((Below.refl _ _).alloc (Nat.le_refl _) _) (fun k hk => hk.imp id (fun h => by subst h; simp))
  have HG0 : Hid (∀ o', ∀ k, G k → (w.alloc o').heap[k]? = w.heap[k]?) := fun o' => s.gk ((Below.refl _ _).alloc (Nat.le_refl _) _)
  have HU0 : Hid (∀ o', (w.alloc o').heap[w.heap.size]? = some o') := fun o' => heap_alloc_new w o'
  clear s
  go_enter Tryd.func49, Tryd.ntmps49
  go_wp2_with fail
  refine (qCheck_any b ⟨#[]⟩ m e qa Hqa.out _ (by decide)).mono ?_
  rintro r w1 ⟨rfl, hb⟩
  have S1 := Lib.hid ((S0.out _).later hb)
  have HG1 : Hid (∀ k, G k → w1.heap[k]? = w.heap[k]?) := fun k hk => ((S0.out _).gk hb k (.inl hk)).trans (HG0.out _ k hk)
  have HU1 := Lib.hid ((hb.block _ (lt_of_heap (HU0.out _))).trans (HU0.out _))
  clear hb S0 HG0 HU0
  by_cases h0 : qa = 0
  · subst h0
    obtain ⟨-, hm, he⟩ := qArgs_ok Hqa.out
    have u0 : w1.cell? ⟨w.heap.size, 0, none⟩ = some (.string src) := cell_of_heap HU1.out 0
    have u1 : w1.cell? ⟨w.heap.size, 1, none⟩ = some (.string by_) := cell_of_heap HU1.out 1
    obtain ⟨pe, hpe⟩ : ∃ pe, packE ⟨src, by_⟩ = pe := ⟨_, rfl⟩
    have Hpe := Lib.hid hpe; clear hpe
    go_wp2_with fail
    refine (packCheck_is src by_ pe Hpe.out _ hsr hby).mono ?_
    rintro r w2 ⟨rfl, hb⟩
    have S2 := Lib.hid (S1.out.later hb)
    have HG2 : Hid (∀ k, G k → w2.heap[k]? = w.heap[k]?) := fun k hk => (S1.out.gk hb k (.inl hk)).trans (HG1.out k hk)
    have HU2 := Lib.hid ((hb.block _ (lt_of_heap HU1.out)).trans HU1.out)
    clear hb S1 HG1 HU1 u0 u1
    by_cases h1 : pe = 0
    · subst h1
      obtain ⟨p, g, hpg⟩ : ∃ p g, qHas e o = (p, g) := ⟨_, _, rfl⟩
      have Hpg := Lib.hid hpg; clear hpg
      have Hst2 : Hid ((if g ≠ 0 then (o, g, 0) else if p.queue.length < 16 then (some ⟨p.owner, p.epoch, p.lost, p.queue ++ [⟨src, by_⟩]⟩, 0, 1) else if p.lost < 1073741824 then (some ⟨p.owner, p.epoch, p.lost + 1, p.queue⟩, 9, 1) else (o, 9, 0)) = (o', q, d)) := by
        have := Hst.out
        unfold arriveStep at this
        rw [Hqa.out, if_neg (by simp), Hpe.out, if_neg (by simp), Hpg.out] at this
        exact this
      clear Hst
      go_wp2_with fail
      refine (sqGet w0 w2 b N m o _ S2.out e hm he p g Hpg.out).mono ?_
      rintro r w3 ⟨a, n, c, rfl, hrow, hl, s3, hk3⟩
      have HU3 := Lib.hid ((hk3 _ (.inr rfl)).trans HU2.out)
      have HG3 : Hid (∀ k, G k → w3.heap[k]? = w.heap[k]?) := fun k hk => (hk3 k (.inl hk)).trans (HG2.out k hk)
      have S3 := Lib.hid s3
      have Hrow := Lib.hid hrow
      have Hgl : Hid (∀ k, G k → (Value.slice a n c).ownBlock ≠ some k) := fun k hk e => by have h1 := hl k e; have h2 := S2.out.glt k (.inl hk); omega
      clear hrow hl s3 hk3 S2 HG2 HU2
      have S3a : Hid (∀ o'', SQ w0 (w3.alloc o'') b N m o G) := fun o'' => S3.out.fresh ((Below.refl _ _).alloc (Nat.le_refl _) _) (fun k hk => .inl (.inl (.inl hk)))
      have HG3a : Hid (∀ o'', ∀ k, G k → (w3.alloc o'').heap[k]? = w.heap[k]?) := fun o'' k hk => (S3.out.gk ((Below.refl _ _).alloc (Nat.le_refl _) _) k (.inl (.inl hk))).trans (HG3.out k hk)
      obtain ⟨ow, ep, lo, ls⟩ := p
      dsimp only at *
      by_cases hg : g = 0
      · subst hg
        obtain ⟨rfl, rfl⟩ := qHas_some Hpg.out
        have hck := S3.out.check
        have hk := checkQ_ok hck.1
        have how := hck.2
        dsimp only at hk how
        obtain ⟨hk1, hk2, hk3, hk4, hk5⟩ := hk
        have hln : ls.length = n := Hrow.out.sl.1
        have HPa : Hid (∀ o'', PSl (w3.alloc o'') a n ls) := fun o'' => Hrow.out.sl.later ((Below.refl _ _).alloc (Nat.le_refl _) _)
        clear hck
        by_cases h2 : n < 16
        · have hr : o' = some ⟨ow, ep, lo, ls ++ [⟨src, by_⟩]⟩ ∧ q = 0 ∧ d = 1 := by
            have := Hst2.out
            rw [if_neg (by simp), if_pos (by omega)] at this
            simp only [Prod.mk.injEq] at this
            exact ⟨this.1.symm, this.2.1.symm, this.2.2.symm⟩
          obtain ⟨rfl, rfl, rfl⟩ := hr
          have Hck : Hid (checkQ ⟨ow, ep, lo, ls ++ [⟨src, by_⟩]⟩ = 0) := checkQ_mk hk1 hk2 hk3 (by simp; omega) (packsE_snoc hk5 Hpe.out)
          have Hl : Hid (ls.length ≤ 1000000) := by show _ ≤ _; omega
          clear hk1 hk5 hk4 hln Hst2
          have hltU := lt_of_heap HU3.out
          have u0 : w3.cell? ⟨w.heap.size, 0, none⟩ = some (.string src) := cell_of_heap HU3.out 0
          have u1 : w3.cell? ⟨w.heap.size, 1, none⟩ = some (.string by_) := cell_of_heap HU3.out 1
          have hne := World.new_ne w3 ⟨w.heap.size, 0, none⟩ u0
          have HBx : Hid (∀ o1 o2, ((w3.alloc o1).alloc o2).heap[w3.heap.size]? = some o1) := fun o1 o2 => (Below.heap_alloc _ _ _ (by simp)).trans (World.alloc_heap_new w3 _)
          have Hrowb : Hid (∀ o1 o2, PRow ((w3.alloc o1).alloc o2) (.slice a n c) ls) := fun o1 o2 => World.ownsRow.alloc (World.ownsRow.alloc Hrow.out o1) o2
          have Hown : Hid (∀ k, (Value.slice a n c).ownBlock = some k → k < w3.heap.size) := fun k hk => by obtain ⟨cur, hc⟩ := row_lt Hrow.out hk; exact lt_of_heap hc
          have Hne2 : Hid (∀ o1 o2, ((w3.alloc o1).alloc o2).heap.size = w3.heap.size + 1 + 1) := fun o1 o2 => by simp
          have Hnew : Hid (∀ o1 o2, ((w3.alloc o1).alloc o2).heap[w3.heap.size + 1]? = some o2) := fun o1 o2 => by have := World.alloc_heap_new (w3.alloc o1) o2; rwa [World.size_alloc] at this
          go_wp2_with (at_builtin; refine wpList_append_pack (by rfl) _ _ (by rfl) (.slice a n c) ls (by rfl) (Hrowb.out _ _) ⟨src, by_⟩ (w3.heap.size + 1) (by rfl) (Hnew.out _ _) Hl.out ?_; intro g m2 cap w5 hrow5 hg5 hat5; have hB5 := (hg5.block w3.heap.size (by simp; omega) (fun e => absurd (Hown.out _ e.symm) (Nat.lt_irrefl _))).trans (HBx.out _ _); have b0 : w5.cell? ⟨w3.heap.size, 0, none⟩ = some (.string ow) := cell_of_heap hB5 0; have b1 : w5.cell? ⟨w3.heap.size, 1, none⟩ = some (.int .i64 ep) := cell_of_heap hB5 1; have b2 : w5.cell? ⟨w3.heap.size, 2, none⟩ = some (.int .i64 lo) := cell_of_heap hB5 2; have b3 : w5.cell? ⟨w3.heap.size, 3, none⟩ = some (.slice a n c) := cell_of_heap hB5 3; have f3 : w5.frozen? ⟨w3.heap.size, 3, none⟩ = false := frozen_of_heap hB5 3; have Hrow5 := Lib.hid hrow5; have Hg5 := Lib.hid hg5; have Hat5 := Lib.hid hat5; clear hrow5 hg5 hat5 hB5)
          have hgB : g ≠ w3.heap.size := by
            rcases Hat5.out with h | h
            · have := Hown.out g h; omega
            · rw [h, Hne2.out]; omega
          have HK := Lib.hid (arr_kept (i := 3) (v := .slice (some ⟨g, 0, none⟩) m2 cap) Hg5.out)
          have S6 : Hid (SQ w0 (w5.setCell ⟨w3.heap.size, 3, none⟩ (.slice (some ⟨g, 0, none⟩) m2 cap)) b N m (some ⟨ow, ep, lo, ls⟩) G) := S3.out.guarded (HK.out.mono (fun k _ hk => .inr hk)) (fun k hk => .inl (.inl (.inl hk)))
          have HP6 : Hid (PSl (w5.setCell ⟨w3.heap.size, 3, none⟩ (.slice (some ⟨g, 0, none⟩) m2 cap)) (some ⟨g, 0, none⟩) m2 (ls ++ [⟨src, by_⟩])) := (Hrow5.out.grown (grown_setCell _ _ _ _) (fun k hk e => by cases hk; exact hgB (by simpa [Value.ownBlock] using e))).sl
          have HG6 : Hid (∀ k, G k → (w5.setCell ⟨w3.heap.size, 3, none⟩ (.slice (some ⟨g, 0, none⟩) m2 cap)).heap[k]? = w.heap[k]?) := fun k hk => (HK.out.block k (S3.out.glt k (.inl (.inl hk))) (Hgl.out k hk)).trans (HG3.out k hk)
          clear b0 b1 b2 b3 f3 u0 u1
          generalize w5.setCell ⟨w3.heap.size, 3, none⟩ (.slice (some ⟨g, 0, none⟩) m2 cap) = w6 at *
          refine (sqPut w0 w6 b N m _ G S6.out (by omega) hN ow ep lo _ m2 cap _ HP6.out Hck.out how).mono ?_
          rintro r w7 ⟨rfl, s7, hk7⟩
          have S7 := Lib.hid s7
          have HG7 : Hid (∀ k, G k → w7.heap[k]? = w.heap[k]?) := fun k hk => (hk7 k hk).trans (HG6.out k hk)
          clear s7 hk7
          go_wp2
          go_ret
          exact ⟨rfl, S7.out, HG7.out⟩
        · by_cases h3 : lo < 1073741824
          · have hr : o' = some ⟨ow, ep, lo + 1, ls⟩ ∧ q = 9 ∧ d = 1 := by
              have := Hst2.out
              rw [if_neg (by simp), if_neg (by omega), if_pos h3] at this
              simp only [Prod.mk.injEq] at this
              exact ⟨this.1.symm, this.2.1.symm, this.2.2.symm⟩
            obtain ⟨rfl, rfl, rfl⟩ := hr
            have Hck : Hid (checkQ ⟨ow, ep, lo + 1, ls⟩ = 0) := checkQ_mk hk1 hk2 (by dsimp only; omega) hk4 hk5
            clear hk1 hk5 hk4 hln Hst2
            go_wp2_with fail
            refine (sqPut w0 _ b N m _ G (S3a.out _) (by omega) hN ow ep (lo + 1) _ n c _ (HPa.out _) Hck.out how).mono ?_
            rintro r w7 ⟨rfl, s7, hk7⟩
            have S7 := Lib.hid s7
            have HG7 : Hid (∀ k, G k → w7.heap[k]? = w.heap[k]?) := fun k hk => (hk7 k hk).trans (HG3a.out _ k hk)
            clear s7 hk7
            go_wp2
            go_ret
            exact ⟨rfl, S7.out, HG7.out⟩
          · have hr : o' = some ⟨ow, ep, lo, ls⟩ ∧ q = 9 ∧ d = 0 := by
              have := Hst2.out
              rw [if_neg (by simp), if_neg (by omega), if_neg h3] at this
              simp only [Prod.mk.injEq] at this
              exact ⟨this.1.symm, this.2.1.symm, this.2.2.symm⟩
            obtain ⟨rfl, rfl, rfl⟩ := hr
            clear hk1 hk5 hk4 hln Hst2
            go_wp2
            go_ret
            exact ⟨rfl, S3a.out _, HG3a.out _⟩
      · have hr : o' = o ∧ q = g ∧ d = 0 := by
          have := Hst2.out
          rw [if_pos hg] at this
          simp only [Prod.mk.injEq] at this
          exact ⟨this.1.symm, this.2.1.symm, this.2.2.symm⟩
        obtain ⟨rfl, rfl, rfl⟩ := hr
        have hg' : ((q : Int) != 0) = true := bne_iff_ne.2 (by omega)
        clear hg
        go_wp2
        go_ret
        exact ⟨rfl, S3a.out _, HG3a.out _⟩
    · have hr : o' = o ∧ q = pe ∧ d = 0 := by
        have := Hst.out
        unfold arriveStep at this
        rw [Hqa.out, if_neg (by simp), Hpe.out, if_pos h1] at this
        simp only [Prod.mk.injEq] at this
        exact ⟨this.1.symm, this.2.1.symm, this.2.2.symm⟩
      obtain ⟨rfl, rfl, rfl⟩ := hr
      have h1' : ((q : Int) != 0) = true := bne_iff_ne.2 (by omega)
      have S2' : Hid (SQ w0 w2 b N m o' G) := S2.out.fresh (Below.refl _ _) (fun k hk => .inl (.inl hk))
      clear h1
      go_wp2
      go_ret
      exact ⟨rfl, S2'.out, HG2.out⟩
  · have hr : o' = o ∧ q = qa ∧ d = 0 := by
      have := Hst.out
      unfold arriveStep at this
      rw [Hqa.out, if_pos h0] at this
      simp only [Prod.mk.injEq] at this
      exact ⟨this.1.symm, this.2.1.symm, this.2.2.symm⟩
    obtain ⟨rfl, rfl, rfl⟩ := hr
    have h0' : ((q : Int) != 0) = true := bne_iff_ne.2 (by omega)
    have S1' : Hid (SQ w0 w1 b N m o' G) := S1.out.fresh (Below.refl _ _) (fun k hk => .inl (.inl hk))
    clear h0
    go_wp2
    go_ret
    exact ⟨rfl, S1'.out, HG1.out⟩

end Go.Proofs.YtemmeopaihmlcaaDoor
