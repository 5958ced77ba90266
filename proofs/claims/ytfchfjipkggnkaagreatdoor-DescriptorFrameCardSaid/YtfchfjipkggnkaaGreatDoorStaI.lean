/- state: without, Without. state: Without, Apply. -/
import Derived.Test.YtfchfjipkggnkaaGreatDoorStaG
namespace Go.Proofs.YtfchfjipkggnkaaGreatDoor
open Go.RowKit

/-- What without leaves. -/
def WoPost (w : World) (t : Tree) (n : NameT) (e : Ending) (w' : World) : Prop := ∃ t', e = .returned (.pointer (ptrA t')) ∧ Below w.heap.size w w' ∧ TreeAt w' t' ∧ Del cmpN t n t'
theorem del_sz {t t' : Tree} {n : NameT} (p : Del cmpN t n t') : t'.sz ≤ t.sz := by
  rw [Tr.sz_ents, Tr.sz_ents, p.ents]; exact List.length_filter_le _ _
theorem Good.del {t t' : Tree} {n : NameT} (h : Good t) (p : Del cmpN t n t') : Good t' := by
  refine ⟨p.avl, by rw [p.ents]; exact sort_del h.sort n, fun e he => ?_, fun e he => ?_⟩
  all_goals
    rw [p.ents] at he
    have he' := (List.mem_filter.1 he).1
    first | exact h.fit e he' | exact h.val e he'
/-- The first entry of a tree. -/
theorem first_entry (t : Tree) : ∀ (w : World), TreeAt w t → t ≠ .nil → ∃ q n v es, t.ents = (n, v) :: es ∧ MidAt w q n v := by
  induction t with
  | nil => intro w h h0; exact absurd rfl h0
  | node p l n v r hl hr =>
    intro w h _
    cases l with
    | nil => exact ⟨p, n, v, r.ents, by simp [Tr.ents], h.mid⟩
    | node p' l' n' v' r' =>
      obtain ⟨q, m, u, es, h1, h2⟩ := hl w h.2.1 (by simp)
      refine ⟨q, m, u, es ++ (n, v) :: r.ents, ?_, h2⟩
      rw [Tr.ents, h1]; rfl

set_option maxRecDepth 100000 in
set_option maxHeartbeats 6400000 in
theorem without_any (t : Tree) : ∀ (n : NameT) (w : World), FitN n → TreeAt w t → Good t → t.sz ≤ 70000 → (getL cmpN t.ents n).isSome = true →
    Calls Tryz.prog 72 #[.pointer (ptrA t), nameV n] w (WoPost w t n) := by
  induction t with
  | nil => intro n w hn ht hg hz hs; simp [Tr.ents, getL] at hs
  | node b l m u r ihl ihr =>
    intro n w hn ht hg hz hs
    obtain ⟨gl, gr, fm, hu⟩ := hg.parts
    have hzs : l.sz + r.sz + 1 ≤ 70000 := by simp only [Tr.sz] at hz; omega
    have k0 : w.cell? ⟨b, 0, none⟩ = some (.pointer (ptrA l)) := cell_of_heap ht.1 0
    have k1 : w.cell? ⟨b, 1, none⟩ = some (.pointer (ptrA r)) := cell_of_heap ht.1 1
    have k2 : w.cell? ⟨b, 2, none⟩ = some (.int .i64 m.kind) := cell_of_heap ht.1 2
    have k3 : w.cell? ⟨b, 3, none⟩ = some (.string m.owner) := cell_of_heap ht.1 3
    have k4 : w.cell? ⟨b, 4, none⟩ = some (.int .i64 m.number) := cell_of_heap ht.1 4
    have k5 : w.cell? ⟨b, 5, none⟩ = some (.int .i64 m.index) := cell_of_heap ht.1 5
    have k6 : w.cell? ⟨b, 6, none⟩ = some (.string m.text) := cell_of_heap ht.1 6
    have hlb : b < w.heap.size := lt_of_heap ht.1
    have hcon := fun (W : World) => oCompare_any n m hn fm W
    have Hst : Hid (getL cmpN (Tr.node b l m u r).ents n = if cmpN n m = 0 then some u else if cmpN n m < 0 then getL cmpN l.ents n else getL cmpN r.ents n) := find_step hg.sort n
    have Hs := Lib.hid hs; clear hs
    have Ht := Lib.hid ht; clear ht
    have Hg := Lib.hid hg; clear hg
    have Ihl := Lib.hid (ihl n); clear ihl
    have Ihr := Lib.hid ihr; clear ihr
    have Hn := Lib.hid hn; clear hn
    clear hz
    have Hc1 : Hid (∀ l' t', cmpN n m < 0 → Del cmpN l n l' → Bal l' m u r t' → Del cmpN (.node b l m u r) n t') := fun l' t' h => del_lo_t cmpN_ok b Hg.out.sort Hg.out.avl h
    have Hc2 : Hid (∀ r' t', 0 < cmpN n m → Del cmpN r n r' → Bal l m u r' t' → Del cmpN (.node b l m u r) n t') := fun r' t' h => del_hi_t cmpN_ok b Hg.out.sort Hg.out.avl h
    have Hc0 : Hid (r = .nil → cmpN n m = 0 → Del cmpN (.node b l m u r) n l) := fun e h => by
      subst e; exact del_last cmpN_ok b Hg.out.sort Hg.out.avl h
    have Hc3 : Hid (∀ k x es r' t', cmpN n m = 0 → r.ents = (k, x) :: es → Del cmpN r k r' → Bal l k x r' t' → Del cmpN (.node b l m u r) n t') := fun k x es r' t' h hk hp hb => del_mid cmpN_ok b Hg.out.sort Hg.out.avl h hk hp hb
    dsimp only [ptrA]
    generalize cmpN n m = c at *
    obtain ⟨n1, n2, n3, n4, n5⟩ := n
    dsimp only [nameV] at *
    go_enter Tryz.func72, Tryz.ntmps72
    go_wp2_with fail
    have e0 : (w.alloc (.cells #[.int .i64 n1, .string n2, .int .i64 n3, .int .i64 n4, .string n5] 56)).heap[w.heap.size]? = some (.cells #[.int .i64 n1, .string n2, .int .i64 n3, .int .i64 n4, .string n5] 56 (0, 0)) := World.alloc_heap_new w _
    have hbA : Below w.heap.size w (w.alloc (.cells #[.int .i64 n1, .string n2, .int .i64 n3, .int .i64 n4, .string n5] 56)) := (Below.refl _ _).alloc (Nat.le_refl _) _
    have hlX : w.heap.size < (w.alloc (.cells #[.int .i64 n1, .string n2, .int .i64 n3, .int .i64 n4, .string n5] 56)).heap.size := by simp
    go_region_held3 (fun w' => w'.cell? ⟨b, 0, none⟩ = some (.pointer (ptrA l)) ∧ w'.cell? ⟨b, 1, none⟩ = some (.pointer (ptrA r)) ∧ w'.cell? ⟨b, 2, none⟩ = some (.int .i64 m.kind) ∧ w'.cell? ⟨b, 3, none⟩ = some (.string m.owner) ∧ w'.cell? ⟨b, 4, none⟩ = some (.int .i64 m.number) ∧ w'.cell? ⟨b, 5, none⟩ = some (.int .i64 m.index) ∧ w'.cell? ⟨b, 6, none⟩ = some (.string m.text) ∧ w'.cell? ⟨w.heap.size, 0, none⟩ = some (.int .i64 n1) ∧ w'.cell? ⟨w.heap.size, 1, none⟩ = some (.string n2) ∧ w'.cell? ⟨w.heap.size, 2, none⟩ = some (.int .i64 n3) ∧ w'.cell? ⟨w.heap.size, 3, none⟩ = some (.int .i64 n4) ∧ w'.cell? ⟨w.heap.size, 4, none⟩ = some (.string n5))
      (first | go_keep | (refine ⟨?_, ?_, ?_, ?_, ?_, ?_, ?_, ?_, ?_, ?_, ?_, ?_⟩ <;> (first | (rw [(bcell hb).1 _ _ (Nat.lt_trans hlb hlX)]; go_keep) | (rw [(bcell hb).1 _ _ hlX]; go_keep))))
      (first | (go_at_call 68; refine (hcon _).mono ?_; rintro e w1 ⟨rfl, hb⟩) | fail)
    have hb' : Below w.heap.size w w1 := hbA.trans ((show Below (w.alloc (.cells #[.int .i64 n1, .string n2, .int .i64 n3, .int .i64 n4, .string n5] 56)).heap.size (w.alloc (.cells #[.int .i64 n1, .string n2, .int .i64 n3, .int .i64 n4, .string n5] 56)) w1 from ⟨hb.os, hb.tape, hb.output, hb.size, hb.block⟩).mono (Nat.le_of_lt hlX))
    have hX1 : w1.heap[w.heap.size]? = some (.cells #[.int .i64 n1, .string n2, .int .i64 n3, .int .i64 n4, .string n5] 56 (0, 0)) := (hb.block w.heap.size hlX).trans e0
    have q0 : w1.cell? ⟨b, 0, none⟩ = some (.pointer (ptrA l)) := ((bcell hb').1 b 0 hlb).trans k0
    have q1 : w1.cell? ⟨b, 1, none⟩ = some (.pointer (ptrA r)) := ((bcell hb').1 b 1 hlb).trans k1
    have p0 : w1.cell? ⟨w.heap.size, 0, none⟩ = some (.int .i64 n1) := cell_of_heap hX1 0
    have p1 : w1.cell? ⟨w.heap.size, 1, none⟩ = some (.string n2) := cell_of_heap hX1 1
    have p2 : w1.cell? ⟨w.heap.size, 2, none⟩ = some (.int .i64 n3) := cell_of_heap hX1 2
    have p3 : w1.cell? ⟨w.heap.size, 3, none⟩ = some (.int .i64 n4) := cell_of_heap hX1 3
    have p4 : w1.cell? ⟨w.heap.size, 4, none⟩ = some (.string n5) := cell_of_heap hX1 4
    have Tl := Lib.hid (Ht.out.2.1.below hb')
    have Tr_ := Lib.hid (Ht.out.2.2.below hb')
    have Tm := Lib.hid (Ht.out.mid.below hb')
    have hlb1 : b < w1.heap.size := Nat.lt_of_lt_of_le hlb hb'.size
    have hlx1 : w.heap.size < w1.heap.size := lt_of_heap hX1
    have Hb' := Lib.hid hb'; clear hb'
    clear hb k0 k1 k2 k3 k4 k5 k6 hcon e0 hbA hlX hX1
    generalize w.heap.size = X at p0 p1 p2 p3 p4 hlx1 ⊢
    rcases Int.lt_trichotomy c 0 with hc | hc | hc
    · have c1 : (c == 0) = false := beq_eq_false_iff_ne.2 (by omega)
      have c2 : decide (c < 0) = true := by simpa using hc
      have Hsl : Hid ((getL cmpN l.ents ⟨n1, n2, n3, n4, n5⟩).isSome = true) := by
        have := Hs.out
        rw [Hst.out, if_neg (by omega), if_pos hc] at this
        exact this
      have He := Lib.hid hc; clear hc
      go_wp2_with fail
      go_region_held3 (fun w' => w'.cell? ⟨b, 0, none⟩ = some (.pointer (ptrA l)) ∧ w'.cell? ⟨b, 1, none⟩ = some (.pointer (ptrA r)) ∧ w'.cell? ⟨X, 0, none⟩ = some (.int .i64 n1) ∧ w'.cell? ⟨X, 1, none⟩ = some (.string n2) ∧ w'.cell? ⟨X, 2, none⟩ = some (.int .i64 n3) ∧ w'.cell? ⟨X, 3, none⟩ = some (.int .i64 n4) ∧ w'.cell? ⟨X, 4, none⟩ = some (.string n5))
        (first | go_keep | (refine ⟨?_, ?_, ?_, ?_, ?_, ?_, ?_⟩ <;> (first | (rw [(bcell hb2).1 _ _ hlb1]; go_keep) | (rw [(bcell hb2).1 _ _ hlx1]; go_keep))) | (refine ⟨?_, ?_, ?_, ?_, ?_, ?_, ?_⟩ <;> (first | (rw [(bcell hb3).1 _ _ (Nat.lt_of_lt_of_le hlb1 hb2.size), (bcell hb2).1 _ _ hlb1]; go_keep) | (rw [(bcell hb3).1 _ _ (Nat.lt_of_lt_of_le hlx1 hb2.size), (bcell hb2).1 _ _ hlx1]; go_keep))))
        (first
          | (go_at_call 72; refine (Ihl.out w1.drew Hn.out (Tl.out.same (w' := w1.drew) rfl) gl (by omega) Hsl.out).mono ?_; rintro e w2 ⟨l', rfl, hb2, ht2, hp2⟩)
          | (go_at_call 112; refine (balance_any l' r b m u w2 ht2 ((Tr_.out.same (w' := w1.drew) rfl).below hb2) ((Tm.out.same (w' := w1.drew) rfl).below hb2) (jc_of (gl.del hp2) gr hu (by have := del_sz hp2; omega)) hp2.avl gr.avl (del_near_lo Hg.out.avl hp2).1 (del_near_lo Hg.out.avl hp2).2 (gl.del hp2).val gr.val).mono ?_; rintro e w3 ⟨t', rfl, hb3, ht3, hba⟩)
          | fail)
      all_goals go_wp2_with fail
      all_goals go_ret
      all_goals exact ⟨t', rfl, (Hb'.out.trans ((show Below w1.heap.size w1 w2 from ⟨hb2.os, hb2.tape, hb2.output, hb2.size, hb2.block⟩).mono Hb'.out.size)).trans (hb3.mono (Nat.le_trans Hb'.out.size hb2.size)), ht3, Hc1.out l' t' He.out hp2 hba⟩
    · clear Hst Hs p0 p1 p2 p3 p4 hlx1 Hc1 Hc2 Ihl
      cases r with
      | nil =>
        have Hd : Hid (Del cmpN (.node b l m u .nil) ⟨n1, n2, n3, n4, n5⟩ l) := Hc0.out rfl hc
        clear Hc0 Hc3
        subst hc
        dsimp only [ptrA] at q1
        go_wp2_with fail
        go_ret
        exact ⟨l, rfl, Hb'.out, Tl.out, Hd.out⟩
      | node p rl k0 x0 rr =>
        have Hd : Hid (∀ k x es r' t', (Tr.node p rl k0 x0 rr).ents = (k, x) :: es → Del cmpN (.node p rl k0 x0 rr) k r' → Bal l k x r' t' → Del cmpN (.node b l m u (.node p rl k0 x0 rr)) ⟨n1, n2, n3, n4, n5⟩ t') := fun k x es r' t' h => Hc3.out k x es r' t' hc h
        clear Hc0 Hc3
        subst hc
        have Hst0 : Hid (∃ s : Tree, some ⟨p, 0, none⟩ = ptrA s ∧ s ≠ .nil ∧ s.ht ≤ (Tr.node p rl k0 x0 rr).ht ∧ TreeAt w1 s ∧ s.ents.head? = (Tr.node p rl k0 x0 rr).ents.head?) :=
          ⟨.node p rl k0 x0 rr, rfl, by simp, Nat.le_refl _, Tr_.out, rfl⟩
        generalize hgr : (Tr.node p rl k0 x0 rr).ht = g at Hst0
        clear hgr
        go_wp2_with fail
        go_loopg [6] g (fun gk a wr => ∃ s : Tree, a = .pointer (ptrA s) ∧ Hid (s ≠ .nil) ∧ Hid (s.ht ≤ gk) ∧ Hid (TreeAt w1 s ∧ s.ents.head? = (Tr.node p rl k0 x0 rr).ents.head?) ∧ wr = w1)
        case atStart =>
          obtain ⟨s, h1, h2, h3, h4, h5⟩ := Hst0.out
          exact ⟨s, by rw [← h1]; rfl, h2, h3, ⟨h4, h5⟩, rfl⟩
        case round =>
          clear Hst0
          obtain ⟨s, rfl, Hne, Hht, Hs, rfl⟩ := hrel
          cases s with
          | nil => exact absurd rfl Hne.out
          | node ps sl sk sx sr =>
            clear Hne
            have c0 : wr.cell? ⟨ps, 0, none⟩ = some (.pointer (ptrA sl)) := cell_of_heap Hs.out.1.1 0
            cases sl with
            | nil =>
              have hen : Hid ((Tr.node p rl k0 x0 rr).ents = (sk, sx) :: (Tr.node p rl k0 x0 rr).ents.tail) := by
                have := Hs.out.2
                cases hR : (Tr.node p rl k0 x0 rr).ents with
                | nil => rw [hR] at this; simp [Tr.ents] at this
                | cons e es =>
                  rw [hR] at this
                  simp [Tr.ents] at this
                  rw [← this]; rfl
              have Hfk : Hid (FitN sk ∧ sx.size ≤ 100000000) := ⟨gr.fit (sk, sx) (by rw [hen.out]; simp), gr.val (sk, sx) (by rw [hen.out]; simp)⟩
              have Hsk : Hid ((getL cmpN (Tr.node p rl k0 x0 rr).ents sk).isSome = true) := by
                show _ = _
                rw [hen.out, getL, if_pos (cmpN_ok.refl _)]; rfl
              have Hmid := Lib.hid Hs.out.1.mid
              have s2 : wr.cell? ⟨ps, 2, none⟩ = some (.int .i64 sk.kind) := cell_of_heap Hs.out.1.1 2
              have s3 : wr.cell? ⟨ps, 3, none⟩ = some (.string sk.owner) := cell_of_heap Hs.out.1.1 3
              have s4 : wr.cell? ⟨ps, 4, none⟩ = some (.int .i64 sk.number) := cell_of_heap Hs.out.1.1 4
              have s5 : wr.cell? ⟨ps, 5, none⟩ = some (.int .i64 sk.index) := cell_of_heap Hs.out.1.1 5
              have s6 : wr.cell? ⟨ps, 6, none⟩ = some (.string sk.text) := cell_of_heap Hs.out.1.1 6
              have hlp : ps < wr.heap.size := lt_of_heap Hs.out.1.1
              clear Hs Hht
              dsimp only [ptrA] at c0 ⊢
              go_wp2_with fail
              go_region_held3 (fun w' => w'.cell? ⟨b, 0, none⟩ = some (.pointer (ptrA l)) ∧ w'.cell? ⟨b, 1, none⟩ = some (.pointer (ptrA (Tr.node p rl k0 x0 rr))) ∧ w'.cell? ⟨ps, 2, none⟩ = some (.int .i64 sk.kind) ∧ w'.cell? ⟨ps, 3, none⟩ = some (.string sk.owner) ∧ w'.cell? ⟨ps, 4, none⟩ = some (.int .i64 sk.number) ∧ w'.cell? ⟨ps, 5, none⟩ = some (.int .i64 sk.index) ∧ w'.cell? ⟨ps, 6, none⟩ = some (.string sk.text))
                (first | go_keep | (refine ⟨?_, ?_, ?_, ?_, ?_, ?_, ?_⟩ <;> (first | (rw [(bcell hb2).1 _ _ hlb1]; go_keep) | (rw [(bcell hb2).1 _ _ hlp]; go_keep))) | (refine ⟨?_, ?_, ?_, ?_, ?_, ?_, ?_⟩ <;> (first | (rw [(bcell hb3).1 _ _ (Nat.lt_of_lt_of_le hlb1 hb2.size), (bcell hb2).1 _ _ hlb1]; go_keep) | (rw [(bcell hb3).1 _ _ (Nat.lt_of_lt_of_le hlp hb2.size), (bcell hb2).1 _ _ hlp]; go_keep))))
                (first
                  | (go_at_call 72; refine (Ihr.out sk wr.drew Hfk.out.1 (Tr_.out.same (w' := wr.drew) rfl) gr (by omega) Hsk.out).mono ?_; rintro e w2 ⟨r', rfl, hb2, ht2, hp2⟩)
                  | (go_at_call 112; refine (balance_any l r' ps sk sx w2 ((Tl.out.same (w' := wr.drew) rfl).below hb2) ht2 ((Hmid.out.same (w' := wr.drew) rfl).below hb2) (jc_of gl (gr.del hp2) Hfk.out.2 (by have := del_sz hp2; omega)) gl.avl hp2.avl (del_near_hi Hg.out.avl hp2).1 (del_near_hi Hg.out.avl hp2).2 gl.val (gr.del hp2).val).mono ?_; rintro e w3 ⟨t', rfl, hb3, ht3, hba⟩)
                  | fail)
              all_goals go_wp2_with fail
              all_goals go_ret
              all_goals exact ⟨t', rfl, (Hb'.out.trans ((show Below wr.heap.size wr w2 from ⟨hb2.os, hb2.tape, hb2.output, hb2.size, hb2.block⟩).mono Hb'.out.size)).trans (hb3.mono (Nat.le_trans Hb'.out.size hb2.size)), ht3, Hd.out sk sx _ r' t' hen.out hp2 hba⟩
            | node pl sll slk slx slr =>
              have Hnx : Hid (TreeAt wr (.node pl sll slk slx slr) ∧ (Tr.node pl sll slk slx slr).ents.head? = (Tr.node p rl k0 x0 rr).ents.head?) := ⟨Hs.out.1.2.1, by
                have := Hs.out.2
                rw [← this]
                obtain ⟨q, y, z, es, h1, _⟩ := first_entry (.node pl sll slk slx slr) wr Hs.out.1.2.1 (by simp)
                show _ = ((Tr.node pl sll slk slx slr).ents ++ (sk, sx) :: sr.ents).head?
                rw [h1]; rfl⟩
              have hl : Hid ((Tr.node pl sll slk slx slr).ht ≤ gk - 1 ∧ gk - 1 < gk) := by have := Hht.out; simp only [Tr.ht] at this ⊢; exact ⟨by omega, by omega⟩
              clear Hs Hht
              dsimp only [ptrA] at c0 ⊢
              go_wp2_with fail
              go_roundg (gk - 1)
              case measure => exact hl.out.2
              case rel => exact ⟨.node pl sll slk slx slr, rfl, (fun h => by cases h), hl.out.1, Hnx.out, rfl⟩
    · have c1 : (c == 0) = false := beq_eq_false_iff_ne.2 (by omega)
      have c2 : decide (c < 0) = false := by simp; omega
      have c3 : decide (0 < c) = true := by simpa using hc
      have Hsl : Hid ((getL cmpN r.ents ⟨n1, n2, n3, n4, n5⟩).isSome = true) := by
        have := Hs.out
        rw [Hst.out, if_neg (by omega), if_neg (by omega)] at this
        exact this
      have He := Lib.hid hc; clear hc
      go_wp2_with fail
      go_region_held3 (fun w' => w'.cell? ⟨b, 0, none⟩ = some (.pointer (ptrA l)) ∧ w'.cell? ⟨b, 1, none⟩ = some (.pointer (ptrA r)) ∧ w'.cell? ⟨X, 0, none⟩ = some (.int .i64 n1) ∧ w'.cell? ⟨X, 1, none⟩ = some (.string n2) ∧ w'.cell? ⟨X, 2, none⟩ = some (.int .i64 n3) ∧ w'.cell? ⟨X, 3, none⟩ = some (.int .i64 n4) ∧ w'.cell? ⟨X, 4, none⟩ = some (.string n5))
        (first | go_keep | (refine ⟨?_, ?_, ?_, ?_, ?_, ?_, ?_⟩ <;> (first | (rw [(bcell hb2).1 _ _ hlb1]; go_keep) | (rw [(bcell hb2).1 _ _ hlx1]; go_keep))) | (refine ⟨?_, ?_, ?_, ?_, ?_, ?_, ?_⟩ <;> (first | (rw [(bcell hb3).1 _ _ (Nat.lt_of_lt_of_le hlb1 hb2.size), (bcell hb2).1 _ _ hlb1]; go_keep) | (rw [(bcell hb3).1 _ _ (Nat.lt_of_lt_of_le hlx1 hb2.size), (bcell hb2).1 _ _ hlx1]; go_keep))))
        (first
          | (go_at_call 72; refine (Ihr.out _ w1.drew Hn.out (Tr_.out.same (w' := w1.drew) rfl) gr (by omega) Hsl.out).mono ?_; rintro e w2 ⟨r', rfl, hb2, ht2, hp2⟩)
          | (go_at_call 112; refine (balance_any l r' b m u w2 ((Tl.out.same (w' := w1.drew) rfl).below hb2) ht2 ((Tm.out.same (w' := w1.drew) rfl).below hb2) (jc_of gl (gr.del hp2) hu (by have := del_sz hp2; omega)) gl.avl hp2.avl (del_near_hi Hg.out.avl hp2).1 (del_near_hi Hg.out.avl hp2).2 gl.val (gr.del hp2).val).mono ?_; rintro e w3 ⟨t', rfl, hb3, ht3, hba⟩)
          | fail)
      all_goals go_wp2_with fail
      all_goals go_ret
      all_goals exact ⟨t', rfl, (Hb'.out.trans ((show Below w1.heap.size w1 w2 from ⟨hb2.os, hb2.tape, hb2.output, hb2.size, hb2.block⟩).mono Hb'.out.size)).trans (hb3.mono (Nat.le_trans Hb'.out.size hb2.size)), ht3, Hc2.out r' t' He.out hp2 hba⟩
end Go.Proofs.YtfchfjipkggnkaaGreatDoor

namespace Go.Proofs.YtfchfjipkggnkaaGreatDoor
open Go.RowKit

/-- A state without a value. -/
def delF (f : NameT → Option ByteArray) (n : NameT) : NameT → Option ByteArray := fun k => if k = n then none else f k
def SDPost (N : Nat) (w : World) (f : NameT → Option ByteArray) (n : NameT) (r : Ending) (w' : World) : Prop :=
  ∃ sp', r = .returned (.tuple #[.pointer (some ⟨sp', 0, none⟩), .int .i64 0]) ∧ Below w.heap.size w w' ∧ BaseN N w'.heap.size w' sp' (delF f n)

theorem wo_fin {N : Nat} {w w3 w4 : World} {f : NameT → Option ByteArray} {n : NameT} {t' : Tree} {r : Ending} (hr : r = .returned (.tuple #[.pointer (some ⟨w3.heap.size, 0, none⟩), .int .i64 0])) (hw : w4 = w3.alloc (.cells #[.pointer (ptrA t')] 97)) (hb : Below w.heap.size w w3)
    (hn : ∀ W sp', TreeAt W t' → W.heap[sp']? = some (.cells #[.pointer (ptrA t')] 97 (0, 0)) → BaseN N W.heap.size W sp' (delF f n)) (ht : TreeAt w3 t') : SDPost N w f n r w4 := by
  subst hw
  have hb2 : Below w3.heap.size w3 (w3.alloc (.cells #[.pointer (ptrA t')] 97)) := (Below.refl _ _).alloc (Nat.le_refl _) _
  exact ⟨_, hr, hb.trans (hb2.mono hb.size), hn _ _ (ht.below hb2) (World.alloc_heap_new w3 _)⟩
set_option maxRecDepth 100000 in
set_option maxHeartbeats 3200000 in
theorem baseWithout {N B : Nat} {sp : Nat} {f : NameT → Option ByteArray} {n : NameT} {w : World} (hu : Usages w) (hb : BaseN N B w sp f) (hB : B ≤ w.heap.size) (hn : NameOk n) :
    Calls Tryz.prog 42 #[.pointer (some ⟨sp, 0, none⟩), nameV n] w (SDPost N w f n) := by
  obtain ⟨t, hs, hz, hf⟩ := hb
  have hc : w.cell? ⟨sp, 0, none⟩ = some (.pointer (ptrA t)) := cell_of_heap hs.cell 0
  have hlt : sp < w.heap.size := lt_of_heap hs.cell
  have hfind := fun (W : World) (hW : Below w.heap.size w W) => find_any t n W (hs.at_.below hW) hs.good.sort hs.good.fit hn.1
  have hwo := fun (W : World) (hW : Below w.heap.size w W) (hsome : (getL cmpN t.ents n).isSome = true) => without_any t n W hn.1 (hs.at_.below hW) hs.good (by have := hs.sz; omega) hsome
  have Hkeep : Hid (f n = none → ∀ W, Below w.heap.size w W → BaseN N W.heap.size W sp (delF f n)) := fun h0 W hW => ⟨t, (hs.up hB).later hW |>.up hW.size, hz, fun k => by
    unfold delF
    by_cases e : k = n
    · rw [if_pos e, e, ← hf n, h0]
    · rw [if_neg e]; exact hf k⟩
  have Hnew : Hid (∀ W sp' t', Del cmpN t n t' → TreeAt W t' → W.heap[sp']? = some (.cells #[.pointer (ptrA t')] 97 (0, 0)) → BaseN N W.heap.size W sp' (delF f n)) := fun W sp' t' hp ht hc' =>
    ⟨t', ⟨hc', lt_of_heap hc', ht, ht.lt, hs.good.del hp, fun e he => by rw [hp.ents] at he; exact hs.vals e (List.mem_filter.1 he).1, Nat.le_trans (del_sz hp) hs.sz⟩, Nat.le_trans (del_sz hp) hz, fun k => by
      rw [hp.ents, get_del cmpN_ok]
      unfold delF
      simp only [cmpN_ok.zero, hf k]⟩
  have Hfn : Hid (f n = getL cmpN t.ents n) := hf n
  have Hfind := Lib.hid hfind; clear hfind
  have Hwo := Lib.hid hwo; clear hwo
  have Hu := Lib.hid hu; clear hu
  have Hn := Lib.hid hn; clear hn
  clear hs hz hf hB
  obtain ⟨n1, n2, n3, n4, n5⟩ := n
  dsimp only [nameV] at *
  go_enter Tryz.func42, Tryz.ntmps42
  go_wp2_with fail
  refine (Hn.out.2 _ (Hu.out.below ((Below.refl _ _).alloc (Nat.le_refl _) _) Hu.out.pos)).mono ?_
  rintro e w1 ⟨rfl, hb1⟩
  have hb1' : Below w.heap.size w w1 := ((Below.refl _ _).alloc (Nat.le_refl _) _).trans (hb1.mono (by simp))
  have q : ∀ j, w1.cell? ⟨w.heap.size, j, none⟩ = (#[.int .i64 n1, .string n2, .int .i64 n3, .int .i64 n4, .string n5] : Array Value)[j]? := fun j => ((bcell hb1).1 _ _ (by simp)).trans (cell_of_heap (World.alloc_heap_new w _) j)
  have q0 := q 0
  have q1 := q 1
  have q2 := q 2
  have q3 := q 3
  have q4 := q 4
  have hlt1 : w.heap.size < w1.heap.size := by have := hb1.size; simp at this; omega
  have hlts : sp < w1.heap.size := Nat.lt_trans hlt hlt1
  have c0 : w1.cell? ⟨sp, 0, none⟩ = some (.pointer (ptrA t)) := ((bcell hb1').1 _ _ hlt).trans hc
  clear q hb1 hc
  dsimp at q0 q1 q2 q3 q4
  have Hb1 := Lib.hid hb1'; clear hb1'
  go_wp2_with fail
  go_region_held3 (fun w' => w'.cell? ⟨sp, 0, none⟩ = some (.pointer (ptrA t)) ∧ w'.cell? ⟨w.heap.size, 0, none⟩ = some (.int .i64 n1) ∧ w'.cell? ⟨w.heap.size, 1, none⟩ = some (.string n2) ∧ w'.cell? ⟨w.heap.size, 2, none⟩ = some (.int .i64 n3) ∧ w'.cell? ⟨w.heap.size, 3, none⟩ = some (.int .i64 n4) ∧ w'.cell? ⟨w.heap.size, 4, none⟩ = some (.string n5))
    (first | go_keep | (refine ⟨?_, ?_, ?_, ?_, ?_, ?_⟩ <;> (first | (rw [(bcell hb).1 _ _ hlts]; go_keep) | (rw [(bcell hb).1 _ _ hlt1]; go_keep))))
    (first | (go_at_call 71; refine (Hfind.out w1.drew (Hb1.out.drew)).mono ?_; rintro e w2 ⟨a, rfl, hb, hfp⟩) | fail)
  have hb2' : Below w.heap.size w w2 := Hb1.out.trans ((show Below w1.heap.size w1 w2 from ⟨hb.os, hb.tape, hb.output, hb.size, hb.block⟩).mono (Nat.le_of_lt hlt1))
  have x0 : w2.cell? ⟨w.heap.size, 0, none⟩ = some (.int .i64 n1) := ((bcell hb).1 _ _ hlt1).trans q0
  have x1 : w2.cell? ⟨w.heap.size, 1, none⟩ = some (.string n2) := ((bcell hb).1 _ _ hlt1).trans q1
  have x2 : w2.cell? ⟨w.heap.size, 2, none⟩ = some (.int .i64 n3) := ((bcell hb).1 _ _ hlt1).trans q2
  have x3 : w2.cell? ⟨w.heap.size, 3, none⟩ = some (.int .i64 n4) := ((bcell hb).1 _ _ hlt1).trans q3
  have x4 : w2.cell? ⟨w.heap.size, 4, none⟩ = some (.string n5) := ((bcell hb).1 _ _ hlt1).trans q4
  have d0 : w2.cell? ⟨sp, 0, none⟩ = some (.pointer (ptrA t)) := ((bcell hb).1 _ _ hlts).trans c0
  have hlt2 : w.heap.size < w2.heap.size := Nat.lt_of_lt_of_le hlt1 hb.size
  have hlts2 : sp < w2.heap.size := Nat.lt_trans hlt hlt2
  have Hb2 := Lib.hid hb2'; clear hb2'
  clear hb q0 q1 q2 q3 q4 c0 hlt1 hlts
  rcases hfp with ⟨rfl, h0⟩ | ⟨p, v, rfl, h0, _⟩
  · have Hk := Lib.hid (Hkeep.out (Hfn.out.trans h0) w2 Hb2.out)
    clear h0
    go_wp2_with fail
    go_ret2
    exact ⟨sp, rfl, Hb2.out, Hk.out⟩
  · have Hsome : Hid ((getL cmpN t.ents ⟨n1, n2, n3, n4, n5⟩).isSome = true) := by show _ = _; rw [h0]; rfl
    clear h0
    go_wp2_with fail
    go_region_held3 (fun w' => w'.cell? ⟨sp, 0, none⟩ = some (.pointer (ptrA t)) ∧ w'.cell? ⟨w.heap.size, 0, none⟩ = some (.int .i64 n1) ∧ w'.cell? ⟨w.heap.size, 1, none⟩ = some (.string n2) ∧ w'.cell? ⟨w.heap.size, 2, none⟩ = some (.int .i64 n3) ∧ w'.cell? ⟨w.heap.size, 3, none⟩ = some (.int .i64 n4) ∧ w'.cell? ⟨w.heap.size, 4, none⟩ = some (.string n5))
      (first | go_keep | (refine ⟨?_, ?_, ?_, ?_, ?_, ?_⟩ <;> (first | (rw [(bcell hb).1 _ _ hlts2]; go_keep) | (rw [(bcell hb).1 _ _ hlt2]; go_keep))))
      (first | (go_at_call 72; refine (Hwo.out w2.drew (Hb2.out.drew) Hsome.out).mono ?_; rintro e w3 ⟨t', rfl, hb, ht, hp⟩) | fail)
    all_goals go_wp2_with fail
    all_goals go_ret2
    all_goals exact wo_fin rfl rfl (Hb2.out.trans ((show Below w2.heap.size w2 w3 from ⟨hb.os, hb.tape, hb.output, hb.size, hb.block⟩).mono (Nat.le_of_lt hlt2))) (fun W sp' h1 h2 => Hnew.out W sp' t' hp h1 h2) ht

/-- A slice that reads as a list of changes. -/
def RowC (w : World) (v : Value) (cs : List ChangeT) : Prop :=
  ∃ a cap, v = .slice a cs.length cap ∧ ∀ i c, cs[i]? = some c → ∃ g, a = some ⟨g, 0, none⟩ ∧ ∀ j u, (changeCells c)[j]? = some u → w.cell? ⟨g, i * 7 + j, none⟩ = some u
theorem RowC.later {w w' : World} {v : Value} {cs : List ChangeT} (h : RowC w v cs) (hb : Below w.heap.size w w') : RowC w' v cs := by
  obtain ⟨a, cap, rfl, hc⟩ := h
  refine ⟨a, cap, rfl, fun i c hi => ?_⟩
  obtain ⟨g, rfl, hg⟩ := hc i c hi
  exact ⟨g, rfl, fun j u hj => (hb.cell (p := ⟨g, i * 7 + j, none⟩) (World.block_lt_of_cell? w _ (hg j u hj))).trans (hg j u hj)⟩
/-- A state after a change. -/
def applyC (f : NameT → Option ByteArray) (c : ChangeT) : NameT → Option ByteArray := if c.absent = true then delF f c.name else setF f c.name c.value
def applyF (f : NameT → Option ByteArray) (cs : List ChangeT) : NameT → Option ByteArray := cs.foldl applyC f
def SAPost (N : Nat) (w : World) (f : NameT → Option ByteArray) (cs : List ChangeT) (r : Ending) (w' : World) : Prop :=
  ∃ sp', r = .returned (.tuple #[.pointer (some ⟨sp', 0, none⟩), .int .i64 0]) ∧ Below w.heap.size w w' ∧ BaseN (N + cs.length) w'.heap.size w' sp' (applyF f cs)
theorem applyF_take {f : NameT → Option ByteArray} {cs : List ChangeT} {k : Nat} {c : ChangeT} (h : cs[k]? = some c) : applyF f (cs.take (k + 1)) = applyC (applyF f (cs.take k)) c := by
  unfold applyF
  rw [List.take_add_one, h]
  simp

set_option maxRecDepth 100000 in
set_option maxHeartbeats 3200000 in
theorem baseApply {N B : Nat} {sp : Nat} {f : NameT → Option ByteArray} {v : Value} {cs : List ChangeT} {w : World} (hu : Usages w) (hb : BaseN N B w sp f) (hB : B ≤ w.heap.size) (hN : N + cs.length < 60000) (hr : RowC w v cs) (ho : ∀ c ∈ cs, CallOk c) :
    Calls Tryz.prog 20 #[.pointer (some ⟨sp, 0, none⟩), v] w (SAPost N w f cs) := by
  obtain ⟨a, cap, rfl, hrow⟩ := hr
  have Hrow := Lib.hid hrow; clear hrow
  have Ho := Lib.hid ho; clear ho
  have Hu := Lib.hid hu; clear hu
  have Hb : Hid (BaseN N w.heap.size w sp f) := hb.up hB
  clear hb hB
  go_enter Tryz.func20, Tryz.ntmps20
  go_wp2_with fail
  go_loopw [0, 13] (fun sv i wr => ∃ (k : Nat) (sp' : Nat), sv = .pointer (some ⟨sp', 0, none⟩) ∧ i = .int .i64 k ∧ k ≤ cs.length ∧ Hid (Below w.heap.size w wr) ∧ Hid (BaseN (N + k) wr.heap.size wr sp' (applyF f (cs.take k)))) (fun _ i _ => cs.length - (intOf i).toNat)
  case atStart => exact ⟨0, sp, rfl, rfl, Nat.zero_le _, Below.refl _ _, (show BaseN (N + 0) w.heap.size w sp (applyF f (cs.take 0)) from Hb.out)⟩
  case round =>
    clear Hb
    obtain ⟨k, sp', rfl, rfl, hk, HB, HN⟩ := hrel
    by_cases hlt : k < cs.length
    · obtain ⟨c, hc⟩ : ∃ c, cs[k]? = some c := ⟨cs[k], List.getElem?_eq_getElem hlt⟩
      obtain ⟨g, rfl, hg⟩ := Hrow.out k c hc
      have Hc := Lib.hid hc; clear hc
      have hcell : ∀ j u, (changeCells c)[j]? = some u → wr.cell? ⟨g, k * 7 + j, none⟩ = some u := fun j u hj => (HB.out.cell (p := ⟨g, k * 7 + j, none⟩) (World.block_lt_of_cell? w _ (hg j u hj))).trans (hg j u hj)
      have e0 : wr.cell? ⟨g, k * 7, none⟩ = some (.int .i64 c.name.kind) := hcell 0 _ rfl
      have e1 : wr.cell? ⟨g, k * 7 + 1, none⟩ = some (.string c.name.owner) := hcell 1 _ rfl
      have e2 : wr.cell? ⟨g, k * 7 + 2, none⟩ = some (.int .i64 c.name.number) := hcell 2 _ rfl
      have e3 : wr.cell? ⟨g, k * 7 + 3, none⟩ = some (.int .i64 c.name.index) := hcell 3 _ rfl
      have e4 : wr.cell? ⟨g, k * 7 + 4, none⟩ = some (.string c.name.text) := hcell 4 _ rfl
      have e5 : wr.cell? ⟨g, k * 7 + 5, none⟩ = some (.string c.value) := hcell 5 _ rfl
      have e6 : wr.cell? ⟨g, k * 7 + 6, none⟩ = some (.bool c.absent) := hcell 6 _ rfl
      clear hg hcell
      have HBa : Hid (∀ o, Below w.heap.size w (wr.alloc o)) := fun o => HB.out.alloc HB.out.size _
      have HNa : Hid (∀ o, BaseN (N + k) wr.heap.size (wr.alloc o) sp' (applyF f (cs.take k))) := fun o => HN.out.later ((Below.refl _ _).alloc (Nat.le_refl _) _)
      have Hco : Hid (CallOk c) := Ho.out c (List.mem_of_getElem? Hc.out)
      cases hab : c.absent with
      | false =>
        rw [hab] at e6
        have Hst : Hid (applyF f (cs.take (k + 1)) = setF (applyF f (cs.take k)) c.name c.value) := by
          show _ = _
          rw [applyF_take Hc.out, applyC, hab]; rfl
        clear hab
        go_wp2_with fail
        refine (baseWith (n := c.name) (Hu.out.below (HBa.out _) Hu.out.pos) (HNa.out _) (by omega) Hco.out.1 Hco.out.2).mono ?_
        rintro e w2 ⟨sp2, rfl, hb2, hbn⟩
        have HB2 : Hid (Below w.heap.size w w2) := (HBa.out _).trans (hb2.mono (HBa.out _).size)
        have HN2 : Hid (BaseN (N + (k + 1)) w2.heap.size w2 sp2 (applyF f (cs.take (k + 1)))) := by
          rw [Hst.out]; exact hbn
        clear hb2 hbn Hst
        go_wp2_with fail
        go_roundw
        case rel => exact ⟨k + 1, sp2, rfl, by go_num, by omega, HB2.out, HN2.out⟩
        case measure => simp [intOf]; omega
      | true =>
        rw [hab] at e6
        have Hst : Hid (applyF f (cs.take (k + 1)) = delF (applyF f (cs.take k)) c.name) := by
          show _ = _
          rw [applyF_take Hc.out, applyC, hab]; rfl
        clear hab
        go_wp2_with fail
        refine (baseWithout (n := c.name) (Hu.out.below (HBa.out _) Hu.out.pos) (HNa.out _) (by simp) Hco.out.1).mono ?_
        rintro e w2 ⟨sp2, rfl, hb2, hbn⟩
        have HB2 : Hid (Below w.heap.size w w2) := (HBa.out _).trans (hb2.mono (HBa.out _).size)
        have HN2 : Hid (BaseN (N + (k + 1)) w2.heap.size w2 sp2 (applyF f (cs.take (k + 1)))) := by
          rw [Hst.out]
          obtain ⟨t, h1, h2, h3⟩ := hbn
          exact ⟨t, h1, Nat.le_trans h2 (Nat.le_add_right _ 1), h3⟩
        clear hb2 hbn Hst
        go_wp2_with fail
        go_roundw
        case rel => exact ⟨k + 1, sp2, rfl, by go_num, by omega, HB2.out, HN2.out⟩
        case measure => simp [intOf]; omega
    · have hk' : k = cs.length := by omega
      have Hfin : Hid (BaseN (N + cs.length) wr.heap.size wr sp' (applyF f cs)) := by
        have := HN.out
        rw [hk', List.take_length] at this
        exact this
      clear hk'
      go_wp2_with fail
      go_ret2
      exact ⟨sp', rfl, HB.out, Hfin.out⟩
end Go.Proofs.YtfchfjipkggnkaaGreatDoor
