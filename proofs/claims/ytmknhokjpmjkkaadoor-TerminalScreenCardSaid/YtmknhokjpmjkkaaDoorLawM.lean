/- TerminalLines: the walk, its end. -/
import Derived.Test.YtmknhokjpmjkkaaDoorLawL
namespace Go.Proofs.YtmknhokjpmjkkaaDoor
open Go.RowKit
attribute [local go_sem ↓] Go.wp_at_zero Go.wp_at_succ

theorem take_busy {l : ByteArray} (t : TermT) (h1 : t.session.size ≠ 0) (h2 : withinB l t.session = true) (h3 : t.typed.length = 0) : (opTake l t).2 = 19 ∧ stepT (opTake l) t = t ∧ readL l t = ⟨#[]⟩ := by simp [stepT, readL, opTake, h1, h2, h3]
theorem l_take {t : TermT} (hs : t.session = ⟨#[51]⟩) : t.session.size ≠ 0 ∧ withinB ⟨#[51, 46, 50]⟩ t.session = true := by
  rw [hs]; exact ⟨by rw [sz_one]; decide, l_within⟩
theorem append_drop {Gt ls : List ByteArray} (h : ls.length ≠ 0) : Gt ++ ls = (Gt ++ [ls.getD 0 ⟨#[]⟩]) ++ ls.drop 1 := by
  cases ls with
  | nil => simp at h
  | cons a r => simp
theorem SH.typed16 {w0 w : World} {b : Nat} {n e : Int} {N : Nat} {t : TermT} {G : Nat → Prop} (s : SH w0 w b n e N t G) : t.typed.length ≤ 16 := by
  obtain ⟨⟨V, h, hv, h1, h2, h3, h4⟩, h5⟩ := s
  exact (checkT_ok h3.ok).2.2.1
theorem getD_mem {ls : List ByteArray} {k : Nat} (h : k < ls.length) : ls.getD k ⟨#[]⟩ ∈ ls := by
  rw [List.getD_eq_getElem?_getD, List.getElem?_eq_getElem h]
  exact List.getElem_mem _

theorem SH.guard_ge {w0 w : World} {b : Nat} {n e : Int} {N : Nat} {t : TermT} {G : Nat → Prop} (s : SH w0 w b n e N t G) {k : Nat} (hk : G k) : w0.heap.size ≤ k := by
  obtain ⟨⟨V, h, hv, h1, h2, h3, h4⟩, h5⟩ := s
  exact Nat.le_trans h2 (h4 k hk).2.2
theorem SSl.at_ {w : World} {a : Option Addr} {n : Nat} {ls : List ByteArray} (h : SSl w a n ls) {k : Nat} (hk : k < n) : ∃ g off, a = some ⟨g, off, none⟩ ∧ w.cell? ⟨g, off + k, none⟩ = some (.string (ls.getD k ⟨#[]⟩)) := by
  obtain ⟨g, off, h1, h2⟩ := h.2 (by omega)
  exact ⟨g, off, h1, h2 k hk⟩
theorem SSl.drewN {w : World} {a : Option Addr} {n : Nat} {ls : List ByteArray} (h : SSl w a n ls) (j : Nat) : SSl (w.drewN j) a n ls := h
/-- Behind the lines' last append. -/
structure LEnd (w wr : World) (A B : Option Addr) (n : Nat) (ls : List ByteArray) : Prop where
  a : SSl wr A n ls
  b : SSl wr B n ls
  low : Below w.heap.size w wr
theorem l_end {w w1 w5 w6 : World} {o : Obj} {b : Nat} {n e : Int} {N : Nat} {A6 A7 A8 : Option Addr} {n6 n7 n8 c6 c7 c8 : Nat} {Gt ls : List ByteArray} {t : TermT} {G : Nat → Prop} (s5 : SH w1 w5 b n e N t G) (hG : ∀ g, (Value.slice A7 n7 c7).ownBlock = some g → G g) (low : Below w.heap.size w w1) (hT : SRow w5 (.slice A6 n6 c6) (Gt ++ ls)) (hne : ∀ g, (Value.slice A6 n6 c6).ownBlock = some g → (Value.slice A7 n7 c7).ownBlock ≠ some g)
    (hrow : SRow w6 (.slice A8 n8 c8) (Gt ++ ls)) (hg : (w5.alloc o).grownBy w6 (Value.slice A7 n7 c7).ownBlock) : n8 = n6 ∧ LEnd w w6 A8 A6 n8 (Gt ++ ls) := by
  have e1 := hrow.sl.1
  have e2 := hT.sl.1
  have h6 : SRow w6 (.slice A6 n6 c6) (Gt ++ ls) := SRow.grown (World.ownsRow.alloc hT o) hg (fun k hk h => hne k h hk)
  refine ⟨by omega, hrow.sl, by have := h6.sl; rw [← e1, e2]; exact this, ?_⟩
  have k1 : Below w1.heap.size w5 (w5.alloc o) := (Below.refl _ _).alloc s5.below.size _
  have k2 : Kept G (w5.alloc o) w6 := Kept.of_grown hg G hG
  have k3 : Below w1.heap.size (w5.alloc o) w6 := k2.below (Nat.le_trans s5.below.size k1.size) (fun k hk => s5.guard_ge hk)
  exact low.trans ((s5.below.trans (k1.trans k3)).mono low.size)
theorem cell_later {w w' : World} {g o : Nat} {v : Value} (h : w.cell? ⟨g, o, none⟩ = some v) (hb : Below w.heap.size w w') : w'.cell? ⟨g, o, none⟩ = some v :=
  ((bcell hb).1 g o (World.block_lt_of_cell? w ⟨g, o, none⟩ h)).trans h
theorem mid_bad {w1 w5 : World} {k : Nat} {tv gv : Value} {T Gt : List ByteArray} {t : TermT} {l : ByteArray} {q : Nat} (hm : LMem w1 w5 (w1.heap.size + 3) 1 0 (2 * k + 1 + 1) tv gv T Gt (stepT (opAdd l) t)) (hT : T = Gt ++ t.typed) (hse : t.session = ⟨#[51]⟩) (hl1 : T.length ≤ k) (hl2 : Gt.length ≤ k) (hq : (opAdd l t).2 = q) (h0 : q ≠ 0) : LMid w1 w5 k tv gv := by
  rw [add_bad hq h0] at hm
  exact ⟨T, Gt, t, hm, hT, hse, Nat.le_succ_of_le hl1, hl2⟩
theorem mid_good {w1 w6 : World} {k : Nat} {tv gv : Value} {T Gt : List ByteArray} {t : TermT} {l : ByteArray} (hm : LMem w1 w6 (w1.heap.size + 3) 1 0 (2 * k + 1 + 1) tv gv (T ++ [l]) Gt (stepT (opAdd l) t)) (hT : T = Gt ++ t.typed) (hse : t.session = ⟨#[51]⟩) (hl1 : T.length ≤ k) (hl2 : Gt.length ≤ k) (hq : (opAdd l t).2 = 0) : LMid w1 w6 k tv gv :=
  ⟨T ++ [l], Gt, _, hm, by rw [(add_good hq).1, hT, List.append_assoc], (add_good hq).2.trans hse, by simp; omega, hl2⟩
theorem inv_same {w1 w5 : World} {k : Nat} {tv gv : Value} {T Gt : List ByteArray} {t : TermT} (hm : LMem w1 w5 (w1.heap.size + 3) 1 0 (2 * k + 2 + 1) tv gv T Gt t) (hT : T = Gt ++ t.typed) (hse : t.session = ⟨#[51]⟩) (hl1 : T.length ≤ k + 1) (hl2 : Gt.length ≤ k) : LInv w1 w5 (k + 1) tv gv := ⟨T, Gt, t, hm, hT, hse, hl1, Nat.le_succ_of_le hl2⟩
theorem SH.mono {w0 w : World} {b : Nat} {n e : Int} {N M : Nat} {t : TermT} {G : Nat → Prop} (s : SH w0 w b n e N t G) (h : N ≤ M) : SH w0 w b n e M t G := by
  obtain ⟨⟨V, hh, hv, h1, h2, h3, h4⟩, h5⟩ := s
  exact ⟨⟨V, hh, hv, h1, h2, h3.mono h, h4⟩, h5⟩
theorem inv_next {w1 w5 : World} {k : Nat} {tv gv : Value} (h : LMid w1 w5 k tv gv) : LInv w1 w5 (k + 1) tv gv := by
  obtain ⟨T, Gt, t, hm, hT, hse, hl1, hl2⟩ := h
  exact inv_same ⟨hm.sh.mono (Nat.le_succ _), hm.rt, hm.rg, hm.ne⟩ hT hse hl1 hl2
theorem inv_took {w1 w6 : World} {k : Nat} {tv gv : Value} {T Gt : List ByteArray} {t : TermT} (hm : LMem w1 w6 (w1.heap.size + 3) 1 0 (2 * k + 2 + 1) tv gv T (Gt ++ [t.typed.getD 0 ⟨#[]⟩]) ⟨t.epoch, t.session, t.typed.drop 1, t.screen⟩) (hT : T = Gt ++ t.typed) (hse : t.session = ⟨#[51]⟩) (hl1 : T.length ≤ k + 1) (hl2 : Gt.length ≤ k) (h0 : t.typed.length ≠ 0) : LInv w1 w6 (k + 1) tv gv :=
  ⟨T, _, _, hm, by rw [hT]; exact append_drop h0, hse, hl1, by simp; omega⟩

set_option maxRecDepth 100000 in
set_option maxHeartbeats 8000000 in
theorem lines_any (a : Option Addr) (n c : Nat) (ls : List ByteArray) (a' : Option Addr) (n' c' : Nat) (bs : List Bool) (w : World) (hu : Usages w) (hn : n ≤ 9223372036854775807) (hn' : n' ≤ 9223372036854775807) (hls : ∀ s ∈ ls, s.size ≤ 9223372036854775807) (hs : SSl w a n ls) (ho : OSl w a' n' bs) :
    Calls Tryd.prog 3 #[.slice a n c, .slice a' n' c'] w (TruePost w) := by
  have Hu := Lib.hid hu; clear hu
  have Hs := Lib.hid hs; clear hs
  have Ho := Lib.hid ho; clear ho
  have Hls := Lib.hid hls; clear hls
  by_cases hlen : 40 < n
  · go_enter Tryd.func3, Tryd.ntmps3
    go_wp2_with fail
    refine (known_any _ Hu.out).mono ?_
    rintro e w1 ⟨rfl, hb1⟩
    have Hb1 := Lib.hid hb1; clear hb1
    go_wp2_with fail
    refine (known_any _ (Hu.out.below Hb1.out Hu.out.pos)).mono ?_
    rintro e w2 ⟨rfl, hb2⟩
    have Hb2 := Lib.hid hb2; clear hb2
    go_wp2
    go_ret
    exact ⟨rfl, Hb1.out.trans (Hb2.out.mono Hb1.out.size)⟩
  · go_enter Tryd.func3, Tryd.ntmps3
    go_wp2_with fail
    refine (known_any _ Hu.out).mono ?_
    rintro e w1 ⟨rfl, hb1⟩
    have Hb1 := Lib.hid hb1; clear hb1
    have Hu1 := Lib.hid (Hu.out.below Hb1.out Hu.out.pos)
    go_wp2_with fail
    refine (shNew w1 Hu1.out 1 0 l_range).mono ?_
    rintro e w2 ⟨rfl, hnew⟩
    have Hnew := Lib.hid hnew; clear hnew
    go_wp2_with fail
    refine Hnew.out.mono ?_
    rintro e w3 ⟨rfl, s0⟩
    clear Hnew
    have S0 := Lib.hid s0; clear s0
    go_wp2_with fail
    refine (shBegin_is w1 w3 _ 1 0 0 (newT 0) _ ⟨#[51]⟩ S0.out (by decide) (sz1 _).2.1 0 _ l_begin.1 l_begin.2).mono ?_
    rintro e w4 ⟨rfl, s1, -⟩
    have HI : Hid (LInv w1 w4 0 (.slice none 0 0) (.slice none 0 0)) :=
      ⟨[], [], _, ⟨s1.fresh (Below.refl _ _) (fun k hk => by rcases hk with hk | hk <;> cases hk), World.ownsRow_nil _ _ _ _, World.ownsRow_nil _ _ _ _, fun g hg => by cases hg⟩, rfl, rfl, Nat.le_refl _, Nat.le_refl _⟩
    clear s1 S0 Hu1
    go_wp2_with fail
    go_loopg [6, 7, 8] n (fun gk tv gv i wr => ∃ k : Nat, k + gk = n ∧ i = .int .i64 k ∧ Hid (LInv w1 wr k tv gv))
    case atStart => exact ⟨0, by omega, rfl, HI.out⟩
    case round =>

      clear HI
      obtain ⟨k, hk, rfl, HI⟩ := hrel
      have Hkk := Lib.hid hk
      have hkn : k ≤ n := by omega
      clear hk
      obtain ⟨T, Gt, t, hm, hT, hse, hl1, hl2⟩ := HI.out
      have HM := Lib.hid hm; clear hm
      have HT := Lib.hid hT; clear hT
      have Hse := Lib.hid hse; clear hse
      clear HI
      have HB : Hid (Below w.heap.size w wr) := Hb1.out.trans (HM.out.sh.below.mono Hb1.out.size)
      by_cases hlt : k < n
      · obtain ⟨g, off, rfl, hc⟩ := (Hs.out.later HB.out).2 (by omega)
        have hck := hc k hlt
        clear hc
        have hlk : (ls.getD k ⟨#[]⟩).size ≤ 9223372036854775807 := Hls.out _ (getD_mem (by rw [Hs.out.1]; exact hlt))
        have Hcw : Hid (w.cell? ⟨g, off + k, none⟩ = some (.string (ls.getD k ⟨#[]⟩))) := by
          obtain ⟨g', off', h1, h2⟩ := Hs.out.2 (by omega)
          cases h1
          exact h2 k hlt
        generalize hl : ls.getD k ⟨#[]⟩ = l at *
        clear hl
        obtain ⟨q, hq⟩ : ∃ q, (opAdd l t).2 = q := ⟨_, rfl⟩
        have Hq := Lib.hid hq; clear hq
        go_wp2_with fail
        refine (shType_is w1 wr _ 1 0 (2 * k + 1) t _ l HM.out.sh (by omega) hlk q _ Hq.out rfl).mono ?_
        rintro e w5 ⟨rfl, s5, hk5⟩
        have HM5 := Lib.hid (HM.out.op s5 hk5)
        have HB5 : Hid (Below w.heap.size w w5) := Hb1.out.trans (HM5.out.sh.below.mono Hb1.out.size)
        have hck5 : w5.cell? ⟨g, off + k, none⟩ = some (.string l) := cell_later Hcw.out HB5.out
        clear s5 hk5 hck
        go_upto_if 39 with fail
        go_cut [6] (fun tv wx => Hid (LMid w1 wx k tv u7))
        case first =>
          by_cases h0 : q = 0
          · subst h0
            have Hrow : Hid (∀ o, SRow (w5.alloc o) u6 T) := fun o => World.ownsRow.alloc HM5.out.rt o
            have Hl : Hid (T.length ≤ 1000000) := by show _ ≤ _; omega
            go_wp2_with (at_builtin; refine wpList_append_string rfl _ _ rfl _ T rfl (Hrow.out _) l w5.heap.size rfl (heap_alloc_new w5 _) Hl.out ?_; intro g6 m6 cap6 w6 hrow6 hg6 hat6; have HM6 := Lib.hid (HM5.out.addT hrow6 hg6 hat6); clear hrow6 hg6 hat6)
            go_meet
            exact mid_good HM6.out HT.out Hse.out hl1 hl2 Hq.out
          · have h0' : ((q : Int) == 0) = false := beq_eq_false_iff_ne.2 (by omega)
            have H0 := Lib.hid h0; clear h0
            go_wp2
            go_meet
            exact mid_bad HM5.out HT.out Hse.out hl1 hl2 Hq.out H0.out
        case rest =>
          clear hck5 HM5 HB5 Hq HM HT Hse hl1 hl2 HB Hcw
          rename_i v6
          by_cases hr : k < n'
          · obtain ⟨T, Gt, t, hm, hT, hse, hl1, hl2⟩ := hcut.out
            have HM := Lib.hid hm; clear hm
            have HT := Lib.hid hT; clear hT
            have Hse := Lib.hid hse; clear hse
            have HB : Hid (Below w.heap.size w wc) := Hb1.out.trans (HM.out.sh.below.mono Hb1.out.size)
            obtain ⟨g2, off2, rfl, hc2⟩ := (Ho.out.later HB.out).2 (by omega)
            have hck := hc2 k hr
            clear hc2
            cases hbit : bs.getD k false with
            | true =>
              rw [hbit] at hck
              clear hbit hcut
              have Hlt := Lib.hid (l_take Hse.out)
              by_cases h0 : t.typed.length = 0
              · have Ht := Lib.hid (take_busy (l := ⟨#[51, 46, 50]⟩) t Hlt.out.1 Hlt.out.2 h0)
                clear h0
                go_wp2_with fail
                refine (shRead_is w1 wc _ 1 0 (2 * k + 2) t _ ⟨#[51, 46, 50]⟩ HM.out.sh (by omega) (sz33 _ _ _) 19 t ⟨#[]⟩ Ht.out.1 Ht.out.2.1 Ht.out.2.2).mono ?_
                rintro e w7 ⟨rfl, s7, hk7⟩
                have HI7 : Hid (LInv w1 w7 (k + 1) _ _) := inv_same (HM.out.op s7 hk7) HT.out Hse.out hl1 hl2
                clear s7 hk7
                go_wp2
                go_roundg (n - (k + 1))
                case measure => have := Hkk.out; omega
                case rel => exact ⟨k + 1, by have := Hkk.out; omega, by go_num, HI7.out⟩
              · have Ht := Lib.hid (take_ok (l := ⟨#[51, 46, 50]⟩) t Hlt.out.1 Hlt.out.2 h0)
                have H0 := Lib.hid h0; clear h0
                have Hl : Hid (Gt.length ≤ 1000000) := by show _ ≤ _; omega
                obtain ⟨x, hx⟩ : ∃ x, t.typed.getD 0 ⟨#[]⟩ = x := ⟨_, rfl⟩
                have Hx := Lib.hid hx; clear hx
                go_wp2_with fail
                refine (shRead_is w1 wc _ 1 0 (2 * k + 2) t _ ⟨#[51, 46, 50]⟩ HM.out.sh (by omega) (sz33 _ _ _) 0 _ x Ht.out.1 Ht.out.2.1 (Ht.out.2.2.trans Hx.out)).mono ?_
                rintro e w7 ⟨rfl, s7, hk7⟩
                have HM7 := Lib.hid (HM.out.op s7 hk7).swap
                clear s7 hk7
                have Hrow : Hid (∀ o, SRow (w7.alloc o) u7 Gt) := fun o => World.ownsRow.alloc HM7.out.rt o
                go_wp2_with (at_builtin; refine wpList_append_string rfl _ _ rfl _ Gt rfl (Hrow.out _) x w7.heap.size rfl (heap_alloc_new w7 _) Hl.out ?_; intro g8 m8 cap8 w8 hrow8 hg8 hat8; have HM8 := Lib.hid (HM7.out.addT hrow8 hg8 hat8).swap; clear hrow8 hg8 hat8)
                go_roundg (n - (k + 1))
                case measure => have := Hkk.out; omega
                case rel => exact ⟨k + 1, by have := Hkk.out; omega, by go_num, inv_took (by have := HM8.out; rw [← Hx.out] at this; exact this) HT.out Hse.out hl1 hl2 H0.out⟩
            | false =>
              rw [hbit] at hck
              clear hbit
              go_wp2
              go_roundg (n - (k + 1))
              case measure => have := Hkk.out; omega
              case rel => exact ⟨k + 1, by have := Hkk.out; omega, by go_num, inv_next hcut.out⟩
          · go_wp2
            go_roundg (n - (k + 1))
            case measure => have := Hkk.out; omega
            case rel => exact ⟨k + 1, by have := Hkk.out; omega, by go_num, inv_next hcut.out⟩
      · go_wp2_with fail
        refine (shGet w1 wr _ 1 0 (2 * k + 1) t _ HM.out.sh (by omega)).mono ?_
        rintro e w5 ⟨a5, m5, c5, rfl, hrow5, hlie5, s5, hk5⟩
        have h16 := s5.typed16
        have hln5 := hrow5.sl.1
        rw [hln5] at h16
        have Hln5 := Lib.hid hln5; clear hln5
        obtain rfl := HT.out
        clear HT
        have HT5 : Hid (SRow w5 u6 (Gt ++ t.typed)) := HM.out.rt.block (fun g hg => hk5 g (.inl hg))
        have HG5 : Hid (SRow w5 u7 Gt) := HM.out.rg.block (fun g hg => hk5 g (.inr hg))
        have Hne := Lib.hid HM.out.ne
        have HS5 : Hid (SH w1 w5 (w1.heap.size + 3) 1 0 (2 * k + 1) t (fun k => (u6.ownBlock = some k ∨ u7.ownBlock = some k) ∨ (Value.slice a5 m5 c5).ownBlock = some k)) := s5
        have HR5 := Lib.hid hrow5.sl
        have Hl : Hid (Gt.length + t.typed.length ≤ 1000000) := by show _ ≤ _; have := Hln5.out; omega
        clear hrow5 hlie5 hk5 s5 HM Hse
        obtain ⟨A6, n6, c6, rfl⟩ := HT5.out.form
        obtain ⟨A7, n7, c7, rfl⟩ := HG5.out.form
        generalize hte : t.epoch = tep at *
        generalize hts : t.session = tse at *
        generalize htc : t.screen = tsc at *
        clear hte hts htc
        have HGa : Hid (∀ o, SRow (w5.alloc o) (.slice A7 n7 c7) Gt) := fun o => World.ownsRow.alloc HG5.out o
        have HRa : Hid (∀ o, SSl (w5.alloc o) a5 m5 t.typed) := fun o => HR5.out.later ((Below.refl _ _).alloc (Nat.le_refl _) _)
        have hm63 : n6 ≤ 1000000 := by have := HT5.out.sl.1; have := Hl.out; simp at *; omega
        go_wp2_with (at_builtin; refine wpList_append_strs rfl _ _ rfl _ Gt rfl (HGa.out _) a5 m5 c5 t.typed rfl (HRa.out _) Hl.out ?_; intro A8 n8 c8 w6 hrow6 hg6 hat6; have hE := l_end HS5.out (fun g hg => .inl (.inr hg)) Hb1.out HT5.out Hne.out hrow6 hg6; obtain ⟨rfl, hE⟩ := hE; have HE := Lib.hid hE; clear hE hrow6 hg6 hat6)
        go_loopw [13] (fun i wx => ∃ j : Nat, j ≤ n8 ∧ i = .int .i64 j ∧ Hid (LEnd w wx A8 A6 n8 (Gt ++ t.typed))) (fun i _ => n8 - (intOf i).toNat)
        case atStart => exact ⟨0, Nat.zero_le _, rfl, HE.out⟩
        case round =>
          clear HE
          obtain ⟨j, hj, rfl, HE⟩ := hrel
          by_cases hjn : j < n8
          · obtain ⟨g1, o1, rfl, d1⟩ := HE.out.a.at_ hjn
            obtain ⟨g2, o2, rfl, d2⟩ := HE.out.b.at_ hjn
            generalize hx : (Gt ++ t.typed).getD j ⟨#[]⟩ = x at *
            clear hx
            have hxx : (x.toList != x.toList) = false := by simp
            go_wp2_with fail
            go_quiet (fail)
            go_wp2
            go_roundw
            case rel => exact ⟨j + 1, by omega, by go_num, ⟨HE.out.a, HE.out.b, HE.out.low.trans ((below_drewN (Below.refl _ _) _).mono (Nat.le_refl _))⟩⟩
            case measure => simp [intOf]; omega
          · go_wp2
            go_ret
            exact ⟨rfl, HE.out.low⟩

end Go.Proofs.YtmknhokjpmjkkaaDoor
