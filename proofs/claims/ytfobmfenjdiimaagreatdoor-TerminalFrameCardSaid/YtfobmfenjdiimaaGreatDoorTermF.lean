/- terminal: Get. terminal: begin, end, show, add. -/
import Derived.Test.YtfobmfenjdiimaaGreatDoorTermD
namespace Go.Proofs.YtfobmfenjdiimaaGreatDoor
open Go.RowKit
attribute [local go_sem ↓] Go.wp_at_zero Go.wp_at_succ

/-- What an operation on a view leaves, and where the view lies then. -/
def VP (h : VH) (w : World) (V : AV) (w' : World) (h' : VH) : Prop := ViewAt w' h' V ∧ h'.b = h.b ∧ h'.rm = h.rm ∧ h'.lm = h.lm ∧ h'.bs = h.bs ∧ h'.sp = h.sp ∧ Kept h.fp w w' ∧ ∀ k, h'.fp k → h.fp k ∨ w.heap.size ≤ k
theorem VPost.vp {h : VH} {w : World} {V : AV} {w' : World} (p : VPost h w V w') : ∃ h', VP h w V w' h' := p
theorem VP.post {h : VH} {w : World} {V : AV} {w' : World} {h' : VH} (p : VP h w V w' h') : VPost h w V w' := ⟨h', p⟩
theorem VP.refl {h : VH} {w : World} {V : AV} (v : ViewAt w h V) : VP h w V w h := ⟨v, rfl, rfl, rfl, rfl, rfl, Kept.refl _ _, fun _ hk => .inl hk⟩
theorem VP.later {h : VH} {w : World} {V : AV} {w1 w2 : World} {h' : VH} (p : VP h w V w1 h') (hb : Below w1.heap.size w1 w2) : VP h w V w2 h' := by
  obtain ⟨h1, h2, h3, h4, h5, h6, h7, h8⟩ := p
  exact ⟨h1.later hb, h2, h3, h4, h5, h6, h7.trans (Kept.of_below hb _) (fun _ _ hs => hs), h8⟩
theorem VP.after {h : VH} {w : World} {V : AV} {w1 w2 : World} {h' : VH} (hb : Below w.heap.size w w1) (p : VP h w1 V w2 h') : VP h w V w2 h' := by
  obtain ⟨h1, h2, h3, h4, h5, h6, h7, h8⟩ := p
  exact ⟨h1, h2, h3, h4, h5, h6, (Kept.of_below hb _).trans h7 (fun _ _ hs => hs), fun k hk => (h8 k hk).imp id (fun h => Nat.le_trans hb.size h)⟩
theorem VP.trans {h h1 h2 : VH} {w w1 w2 : World} {V1 V2 : AV} (p : VP h w V1 w1 h1) (q : VP h1 w1 V2 w2 h2) : VP h w V2 w2 h2 := by
  obtain ⟨a1, a2, a3, a4, a5, a6, a7, a8⟩ := p
  obtain ⟨b1, b2, b3, b4, b5, b6, b7, b8⟩ := q
  refine ⟨b1, b2.trans a2, b3.trans a3, b4.trans a4, b5.trans a5, b6.trans a6, a7.trans b7 (fun i hi hs => ?_), fun k hk => ?_⟩
  · rcases a8 i hs with h | h
    · exact h
    · omega
  · rcases b8 k hk with h | h
    · exact a8 k h
    · exact .inr (Nat.le_trans a7.size h)
/-- Stores into blocks that the view does not have. -/
theorem VP.kept {h : VH} {w : World} {V : AV} {w1 w2 : World} {h' : VH} {S : Nat → Prop} (p : VP h w V w1 h') (hbs : h.bs ≤ w.heap.size) (hk : Kept S w1 w2) (hS : ∀ k, S k → w.heap.size ≤ k ∧ ¬ h'.fp k) : VP h w V w2 h' := by
  obtain ⟨h1, h2, h3, h4, h5, h6, h7, h8⟩ := p
  have htop : h'.bs ≤ w1.heap.size := h1.top
  refine ⟨h1.kept ?_ (fun k hf => hk.block k (h1.fp_lt hf) (fun hs => (hS k hs).2 hf)), h2, h3, h4, h5, h6, h7.trans hk (fun i hi hs => ?_), h8⟩
  · refine ⟨hk.os, hk.tape, hk.output, hk.size, fun k hkk => hk.block k (Nat.lt_of_lt_of_le hkk htop) (fun hs => ?_)⟩
    have h9 := (hS k hs).1
    rw [h5] at hkk
    omega
  · have := (hS i hs).1
    omega

/-- What Get answers. -/
def inRange (number epoch : Int) : Bool := decide (1 ≤ number ∧ number ≤ 99) && epochB epoch
def zeroT : TermT := ⟨0, ⟨#[]⟩, [], ⟨#[]⟩⟩
def newT (epoch : Int) : TermT := ⟨epoch, ⟨#[]⟩, [], ⟨#[]⟩⟩
def ofValue (v : ByteArray × Bool) (epoch : Int) : TermT × Nat :=
  if v.2 = false then (newT epoch, 0) else if (decT v.1).2 ≠ 0 then (zeroT, (decT v.1).2) else if (decT v.1).1.epoch ≠ epoch then (newT epoch, 0) else ((decT v.1).1, 0)
def tGet (V : AV) (number epoch : Int) : TermT × Nat := if inRange number epoch = false then (zeroT, 2) else ofValue (avGet V (ofTerm number)) epoch
def tSeen (V : AV) (number epoch : Int) : AV := if inRange number epoch = false then V else avSeen V (ofTerm number)

def GetTPost (h : VH) (w : World) (V : AV) (t : TermT) (e : Nat) (r : Ending) (w' : World) : Prop :=
  ∃ a n c h', r = .returned (.tuple #[.agg #[.int .i64 t.epoch, .string t.session, .slice a n c, .string t.screen], .int .i64 e]) ∧ SRow w' (.slice a n c) t.typed ∧ (∀ g, (Value.slice a n c).ownBlock = some g → w.heap.size ≤ g ∧ ¬ h'.fp g) ∧ VP h w V w' h'

theorem get_post {h : VH} {w : World} {V : AV} {w1 X : World} {h' : VH} {R : Nat} {t : TermT} {e : Nat} {a : Option Addr} {n c : Nat} (hbs : h.bs ≤ w.heap.size) (p : VP h w V w1 h') (hR : w.heap.size ≤ R ∧ ¬ h'.fp R) (hg : w1.grownBy X (some R)) (hr : SRow w1 (.slice a n c) t.typed)
    (hl : ∀ g, (Value.slice a n c).ownBlock = some g → R < g ∧ w.heap.size ≤ g ∧ ¬ h'.fp g) :
    GetTPost h w V t e (.returned (.tuple #[.agg #[.int .i64 t.epoch, .string t.session, .slice a n c, .string t.screen], .int .i64 e])) X :=
  ⟨a, n, c, h', rfl, hr.grown hg (fun k hk e => by cases hk; exact absurd (hl _ e).1 (Nat.lt_irrefl _)), fun g hg => (hl g hg).2, p.kept hbs (S := fun k => k = R) (Kept.of_grown hg _ (fun k hk => by cases hk; rfl)) (fun k hk => by cases hk; exact hR)⟩
theorem get_nil {h : VH} {w : World} {V : AV} {w1 X : World} {h' : VH} {R : Nat} {ep : Int} {e : Nat} (hbs : h.bs ≤ w.heap.size) (p : VP h w V w1 h') (hR : w.heap.size ≤ R ∧ ¬ h'.fp R) (hg : w1.grownBy X (some R)) :
    GetTPost h w V (newT ep) e (.returned (.tuple #[.agg #[.int .i64 ep, .string ⟨#[]⟩, .slice none 0 0, .string ⟨#[]⟩], .int .i64 e])) X :=
  get_post (t := newT ep) hbs p hR hg (World.ownsRow_nil _ _ _ _) (fun g hg => by cases hg)

theorem set4_alloc {w : World} {R : Nat} {p0 p1 p2 p3 : Value} {T : TypeId} (hR : w.heap[R]? = some (.cells #[p0, p1, p2, p3] T (0, 0))) (a b c d : Value) (o : Obj) (j : Nat) :
    (((((w.setCell ⟨R, 0, none⟩ a).setCell ⟨R, 1, none⟩ b).setCell ⟨R, 2, none⟩ c).setCell ⟨R, 3, none⟩ d).alloc o).cell? ⟨R, j, none⟩ = (#[a, b, c, d] : Array Value)[j]? := by
  have h1 := heap_setCell_same (heap_setCell_same (heap_setCell_same (heap_setCell_same hR 0 a) 1 b) 2 c) 3 d
  have h2 := (Below.heap_alloc ((((w.setCell ⟨R, 0, none⟩ a).setCell ⟨R, 1, none⟩ b).setCell ⟨R, 2, none⟩ c).setCell ⟨R, 3, none⟩ d) o R (lt_of_heap h1)).trans h1
  exact cell_of_heap h2 j
theorem grown_set4_alloc (w : World) (R : Nat) (a b c d : Value) (o : Obj) : w.grownBy (((((w.setCell ⟨R, 0, none⟩ a).setCell ⟨R, 1, none⟩ b).setCell ⟨R, 2, none⟩ c).setCell ⟨R, 3, none⟩ d).alloc o) (some R) :=
  grown_trans (grown_set4 w R a b c d) (World.grownBy_alloc _ _ _)

set_option maxRecDepth 100000 in
set_option maxHeartbeats 4000000 in
theorem tGet_any (h : VH) (V : AV) (number epoch : Int) (w : World) (hv : ViewAt w h V) (hsz : (avGet V (ofTerm number)).1.size ≤ 35184372088832) :
    Calls Tryz.prog 21 #[.pointer (some ⟨h.b, 0, none⟩), .int .i64 number, .int .i64 epoch] w (GetTPost h w (tSeen V number epoch) (tGet V number epoch).1 (tGet V number epoch).2) := by
  have Hv := Lib.hid hv; clear hv
  have hR : (w.alloc (.cells #[.int .i64 0, .string ⟨#[]⟩, .slice none 0 0, .string ⟨#[]⟩] 38)).heap[w.heap.size]? = some (.cells #[.int .i64 0, .string ⟨#[]⟩, .slice none 0 0, .string ⟨#[]⟩] 38 (0, 0)) := World.alloc_heap_new w _
  have HR := Lib.hid hR; clear hR
  have Ha : Hid (Below w.heap.size w (w.alloc (.cells #[.int .i64 0, .string ⟨#[]⟩, .slice none 0 0, .string ⟨#[]⟩] 38))) := (Below.refl _ _).alloc (Nat.le_refl _) _
  have Hf : Hid (w.heap.size ≤ w.heap.size ∧ ¬ h.fp w.heap.size) := ⟨Nat.le_refl _, fun e => absurd (Hv.out.fp_lt e) (Nat.lt_irrefl _)⟩
  have Hsz := Lib.hid hsz; clear hsz
  by_cases h1 : number < 1
  · have he : Hid (inRange number epoch = false) := by show _ = _; simp [inRange]; omega
    go_enter Tryz.func21, Tryz.ntmps21
    go_wp2
    refine bodyPost_ret (v := .tuple #[.agg #[.int .i64 0, .string ⟨#[]⟩, .slice none 0 0, .string ⟨#[]⟩], .int .i64 2]) (by simp [results, Tryz.results21, go_sem]) rfl ?_
    simp only [tSeen, tGet, he.out, if_true]
    exact get_nil Hv.out.top ((VP.refl Hv.out).later Ha.out) Hf.out (grown_refl _ _)
  · by_cases h2 : 99 < number
    · have he : Hid (inRange number epoch = false) := by show _ = _; simp [inRange]; omega
      go_enter Tryz.func21, Tryz.ntmps21
      go_wp2
      refine bodyPost_ret (v := .tuple #[.agg #[.int .i64 0, .string ⟨#[]⟩, .slice none 0 0, .string ⟨#[]⟩], .int .i64 2]) (by simp [results, Tryz.results21, go_sem]) rfl ?_
      simp only [tSeen, tGet, he.out, if_true]
      exact get_nil Hv.out.top ((VP.refl Hv.out).later Ha.out) Hf.out (grown_refl _ _)
    · cases h3 : epochB epoch with
      | false =>
        have he : Hid (inRange number epoch = false) := by show _ = _; simp [inRange, h3]
        go_enter Tryz.func21, Tryz.ntmps21
        go_wp2_with fail
        refine (isEpoch_is epoch _ h3 _).mono ?_
        rintro e w1 ⟨rfl, rfl⟩
        go_wp2
        refine bodyPost_ret (v := .tuple #[.agg #[.int .i64 0, .string ⟨#[]⟩, .slice none 0 0, .string ⟨#[]⟩], .int .i64 2]) (by simp [results, Tryz.results21, go_sem]) rfl ?_
        simp only [tSeen, tGet, he.out, if_true]
        exact get_nil Hv.out.top ((VP.refl Hv.out).later Ha.out) Hf.out (grown_refl _ _)
      | true =>
        have he : Hid (inRange number epoch = true) := by show _ = _; simp [inRange, h3]; omega
        have es : Hid (tSeen V number epoch = avSeen V (ofTerm number)) := by show _ = _; simp [tSeen, he.out]
        have eg : Hid (tGet V number epoch = ofValue (avGet V (ofTerm number)) epoch) := by show _ = _; simp [tGet, he.out]
        rw [es.out, eg.out]
        clear es eg he
        have Hn : Hid (NameOk (ofTerm number)) := nameOk_term number (by omega) (by omega)
        go_enter Tryz.func21, Tryz.ntmps21
        go_wp2_with fail
        refine (isEpoch_is epoch _ h3 _).mono ?_
        rintro e w1 ⟨rfl, rfl⟩
        go_wp2_with fail
        refine (ofTerminal_any number _).mono ?_
        rintro e w1 ⟨rfl, hb1⟩
        have Hb1 : Hid (Below w.heap.size w w1) := Ha.out.trans (hb1.mono (by simp))
        have HR1 : Hid (w1.heap[w.heap.size]? = some (.cells #[.int .i64 0, .string ⟨#[]⟩, .slice none 0 0, .string ⟨#[]⟩] 38 (0, 0))) := (hb1.block _ (by simp)).trans HR.out
        clear hb1 HR
        go_wp2_with fail
        refine (vGet_any h V (ofTerm number) w1 (Hv.out.later Hb1.out) Hn.out).mono ?_
        rintro e w2 ⟨rfl, hp⟩
        obtain ⟨h', hp⟩ := hp.vp
        have HP : Hid (VP h w (avSeen V (ofTerm number)) w2 h') := VP.after Hb1.out hp
        have HR2 : Hid (w2.heap[w.heap.size]? = some (.cells #[.int .i64 0, .string ⟨#[]⟩, .slice none 0 0, .string ⟨#[]⟩] 38 (0, 0))) := (hp.2.2.2.2.2.2.1.block _ (lt_of_heap HR1.out) Hf.out.2).trans HR1.out
        have Hf2 : Hid (w.heap.size ≤ w.heap.size ∧ ¬ h'.fp w.heap.size) := ⟨Nat.le_refl _, fun e => by
          rcases hp.2.2.2.2.2.2.2 _ e with h | h
          · exact Hf.out.2 h
          · have := lt_of_heap HR1.out; omega⟩
        clear hp HR1 Hf
        have hR2 := HR2.out
        have r0 : w2.cell? ⟨w.heap.size, 0, none⟩ = some (.int .i64 0) := cell_of_heap hR2 0
        have r1 : w2.cell? ⟨w.heap.size, 1, none⟩ = some (.string ⟨#[]⟩) := cell_of_heap hR2 1
        have r2 : w2.cell? ⟨w.heap.size, 2, none⟩ = some (.slice none 0 0) := cell_of_heap hR2 2
        have r3 : w2.cell? ⟨w.heap.size, 3, none⟩ = some (.string ⟨#[]⟩) := cell_of_heap hR2 3
        have g0 : w2.frozen? ⟨w.heap.size, 0, none⟩ = false := frozen_of_heap hR2 0
        have g1 : w2.frozen? ⟨w.heap.size, 1, none⟩ = false := frozen_of_heap hR2 1
        have g2 : w2.frozen? ⟨w.heap.size, 2, none⟩ = false := frozen_of_heap hR2 2
        have g3 : w2.frozen? ⟨w.heap.size, 3, none⟩ = false := frozen_of_heap hR2 3
        clear hR2
        generalize hav : avGet V (ofTerm number) = av at *
        have Hav := Lib.hid hav; clear hav
        obtain ⟨sv, ok⟩ := av
        dsimp only at *
        cases ok with
        | false =>
          go_wp2
          refine bodyPost_ret (v := .tuple #[.agg #[.int .i64 epoch, .string ⟨#[]⟩, .slice none 0 0, .string ⟨#[]⟩], .int .i64 0]) (by simp [results, Tryz.results21, go_sem, r0, r1, r2, r3]) rfl ?_
          have e5 : ofValue (sv, false) epoch = (newT epoch, 0) := rfl
          rw [e5]
          exact get_nil Hv.out.top HP.out Hf2.out (grown_set4 _ _ _ _ _ _)
        | true =>
          go_wp2_with fail
          refine (decode_any sv _ (Nat.le_trans Hsz.out (by decide)) Hsz.out).mono ?_
          rintro e w3 ⟨a, n, c, rfl, hrow, hlie, hb3⟩
          have HP3 := Lib.hid (HP.out.later hb3)
          have hR3 := (hb3.block _ (lt_of_heap HR2.out)).trans HR2.out
          have Hl : Hid (∀ g, (Value.slice a n c).ownBlock = some g → w.heap.size < g ∧ w.heap.size ≤ g ∧ ¬ h'.fp g) := fun g hg => by
            have h4 := hlie g hg
            have h5 := lt_of_heap HR2.out
            exact ⟨by omega, by omega, fun e => by have := HP.out.1.fp_lt e; omega⟩
          have hlt3 : w.heap.size < w3.heap.size := lt_of_heap hR3
          clear r0 r1 r2 r3 g0 g1 g2 g3 hb3 hlie HP HR2
          have r0 : w3.cell? ⟨w.heap.size, 0, none⟩ = some (.int .i64 0) := cell_of_heap hR3 0
          have r1 : w3.cell? ⟨w.heap.size, 1, none⟩ = some (.string ⟨#[]⟩) := cell_of_heap hR3 1
          have r2 : w3.cell? ⟨w.heap.size, 2, none⟩ = some (.slice none 0 0) := cell_of_heap hR3 2
          have r3 : w3.cell? ⟨w.heap.size, 3, none⟩ = some (.string ⟨#[]⟩) := cell_of_heap hR3 3
          have g0 : w3.frozen? ⟨w.heap.size, 0, none⟩ = false := frozen_of_heap hR3 0
          have g1 : w3.frozen? ⟨w.heap.size, 1, none⟩ = false := frozen_of_heap hR3 1
          have g2 : w3.frozen? ⟨w.heap.size, 2, none⟩ = false := frozen_of_heap hR3 2
          have g3 : w3.frozen? ⟨w.heap.size, 3, none⟩ = false := frozen_of_heap hR3 3
          have hne := World.new_ne w3 ⟨w.heap.size, 0, none⟩ r0
          have HR3 := Lib.hid hR3; clear hR3
          have Hrow := Lib.hid hrow; clear hrow
          generalize hd : decT sv = d at *
          have Hd := Lib.hid hd; clear hd
          obtain ⟨⟨ep, se, ls, sc⟩, q⟩ := d
          dsimp only at *
          by_cases hq : q = 0
          · subst hq
            by_cases hep : ep = epoch
            · subst hep
              have e5 : Hid (ofValue (sv, true) ep = (⟨ep, se, ls, sc⟩, 0)) := by show _ = _; simp [ofValue, Hd.out]
              go_wp2
              have x := set4_alloc HR3.out (.int .i64 ep) (.string se) (.slice a n c) (.string sc) (.cells #[.int .i64 ep, .string se, .slice a n c, .string sc] 38)
              have x0 := x 0
              have x1 := x 1
              have x2 := x 2
              have x3 := x 3
              dsimp at x0 x1 x2 x3
              refine bodyPost_ret (v := .tuple #[.agg #[.int .i64 ep, .string se, .slice a n c, .string sc], .int .i64 0]) (by simp [results, Tryz.results21, go_sem, x0, x1, x2, x3]) rfl ?_
              rw [e5.out]
              exact get_post (t := ⟨ep, se, ls, sc⟩) Hv.out.top HP3.out Hf2.out (grown_set4_alloc _ _ _ _ _ _ _) Hrow.out Hl.out
            · have e5 : Hid (ofValue (sv, true) epoch = (newT epoch, 0)) := by show _ = _; simp [ofValue, Hd.out, hep]
              have hep' : (ep != epoch) = true := bne_iff_ne.2 hep
              clear hep
              go_wp2
              have x := set4_alloc HR3.out (.int .i64 epoch) (.string ⟨#[]⟩) (.slice none 0 0) (.string ⟨#[]⟩) (.cells #[.int .i64 ep, .string se, .slice a n c, .string sc] 38)
              have x0 := x 0
              have x1 := x 1
              have x2 := x 2
              have x3 := x 3
              dsimp at x0 x1 x2 x3
              refine bodyPost_ret (v := .tuple #[.agg #[.int .i64 epoch, .string ⟨#[]⟩, .slice none 0 0, .string ⟨#[]⟩], .int .i64 0]) (by simp [results, Tryz.results21, go_sem, x0, x1, x2, x3]) rfl ?_
              rw [e5.out]
              exact get_nil Hv.out.top HP3.out Hf2.out (grown_set4_alloc _ _ _ _ _ _ _)
          · have e5 : Hid (ofValue (sv, true) epoch = (zeroT, q)) := by show _ = _; simp [ofValue, Hd.out, hq]
            have hq' : ((q : Int) != 0) = true := bne_iff_ne.2 (by omega)
            clear hq
            go_wp2
            have x := set4_alloc HR3.out (.int .i64 0) (.string ⟨#[]⟩) (.slice none 0 0) (.string ⟨#[]⟩) (.cells #[.int .i64 ep, .string se, .slice a n c, .string sc] 38)
            have x0 := x 0
            have x1 := x 1
            have x2 := x 2
            have x3 := x 3
            dsimp at x0 x1 x2 x3
            refine bodyPost_ret (v := .tuple #[.agg #[.int .i64 0, .string ⟨#[]⟩, .slice none 0 0, .string ⟨#[]⟩], .int .i64 q]) (by simp [results, Tryz.results21, go_sem, x0, x1, x2, x3]) rfl ?_
            rw [e5.out]
            exact get_nil Hv.out.top HP3.out Hf2.out (grown_set4_alloc _ _ _ _ _ _ _)

end Go.Proofs.YtfobmfenjdiimaaGreatDoor

namespace Go.Proofs.YtfobmfenjdiimaaGreatDoor
open Go.RowKit
attribute [local go_sem ↓] Go.wp_at_zero Go.wp_at_succ

def showS (a b : ByteArray) : ByteArray := if 2048 < (a ++ b).size then (a ++ b).extract ((a ++ b).size - 2048) (a ++ b).size else a ++ b
def opBegin (l : ByteArray) (t : TermT) : TermT × Nat := if l.size = 0 ∨ validB l = false then (t, 12) else if t.session.size ≠ 0 then (t, 19) else (⟨t.epoch, l, [], ⟨#[]⟩⟩, 0)
def opEnd (l : ByteArray) (t : TermT) : TermT × Nat := if l.size = 0 ∨ t.session ≠ l then (t, 10) else (⟨t.epoch, ⟨#[]⟩, [], t.screen⟩, 0)
def opAdd (line : ByteArray) (t : TermT) : TermT × Nat := if lineE line ≠ 0 then (t, lineE line) else if t.session.size = 0 then (t, 10) else if 16 ≤ t.typed.length then (t, 9) else (⟨t.epoch, t.session, t.typed ++ [line], showS t.screen (line ++ ⟨#[10]⟩)⟩, 0)
def opShow (s : ByteArray) (t : TermT) : TermT × Nat := if 65536 < s.size then (t, 5) else (⟨t.epoch, t.session, t.typed, showS t.screen s⟩, 0)

/-- What an operation on the terminal at X leaves; S: the blocks that it may write. -/
def OpPost (X : Nat) (S : Nat → Prop) (w : World) (p : TermT × Nat) (r : Ending) (w' : World) : Prop :=
  r = .returned (.int .i64 p.2) ∧ Kept S w w' ∧ (p.2 = 0 → ∃ a n c, w'.heap[X]? = some (.cells #[.int .i64 p.1.epoch, .string p.1.session, .slice a n c, .string p.1.screen] 38 (0, 0)) ∧ SSl w' a n p.1.typed)

theorem op_fail {X : Nat} {S : Nat → Prop} {w w' : World} {t : TermT} {e : Nat} (he : e ≠ 0) (hb : Below w.heap.size w w') : OpPost X S w (t, e) (.returned (.int .i64 e)) w' :=
  ⟨rfl, Kept.of_below hb _, fun h => absurd h he⟩
theorem SSl.nil (w : World) : SSl w none 0 [] := ⟨rfl, fun h => absurd h (Nat.lt_irrefl _)⟩
theorem SSl.grown {w w' : World} {a : Option Addr} {n : Nat} {ls : List ByteArray} {row : Option Nat} (h : SSl w a n ls) (hb : w.grownBy w' row) (hr : ∀ g off, a = some ⟨g, off, none⟩ → row ≠ some g) : SSl w' a n ls := by
  refine ⟨h.1, fun h0 => ?_⟩
  obtain ⟨g, off, ha, hc⟩ := h.2 h0
  refine ⟨g, off, ha, fun j hj => ?_⟩
  have hlt := World.block_lt_of_cell? w ⟨g, off, none⟩ (hc 0 h0)
  exact (World.cell?_of_block (a := ⟨g, off + j, none⟩) (hb.block g hlt (fun e => hr g off ha e.symm))).trans (hc j hj)

theorem empty_of {s : ByteArray} (h : s.size = 0) : s.toList.isEmpty = true := by rw [toList_empty]; simp [h]
theorem nonempty_of {s : ByteArray} (h : s.size ≠ 0) : s.toList.isEmpty = false := by rw [toList_empty]; simp [h]

set_option maxRecDepth 100000 in
set_option maxHeartbeats 1000000 in
theorem begin_any (l : ByteArray) (X : Nat) (ep : Int) (se sc : ByteArray) (ls : List ByteArray) (tv : Value) (S : Nat → Prop) (hSX : S X) (w : World) (hl : l.size ≤ 70368744177664)
    (hX : w.heap[X]? = some (.cells #[.int .i64 ep, .string se, tv, .string sc] 38 (0, 0))) :
    Calls Tryz.prog 45 #[.string l, .pointer (some ⟨X, 0, none⟩)] w (OpPost X S w (opBegin l ⟨ep, se, ls, sc⟩)) := by
  have HX := Lib.hid hX; clear hX
  by_cases h1 : l.size = 0
  · have he : Hid (opBegin l ⟨ep, se, ls, sc⟩ = (⟨ep, se, ls, sc⟩, 12)) := by show _ = _; simp [opBegin, h1]
    have h1' := empty_of h1
    go_enter Tryz.func45, Tryz.ntmps45
    go_wp2
    go_ret
    rw [he.out]
    exact op_fail (by decide) (Below.refl _ _)
  · have h1' := nonempty_of h1
    cases h2 : validB l with
    | false =>
      have he : Hid (opBegin l ⟨ep, se, ls, sc⟩ = (⟨ep, se, ls, sc⟩, 12)) := by show _ = _; simp [opBegin, h2]
      go_enter Tryz.func45, Tryz.ntmps45
      go_wp2_with fail
      refine (valid_is l _ hl h2 _).mono ?_
      rintro e w1 ⟨rfl, hb1⟩
      go_wp2
      go_ret
      rw [he.out]
      exact op_fail (by decide) hb1
    | true =>
      go_enter Tryz.func45, Tryz.ntmps45
      go_wp2_with fail
      refine (valid_is l _ hl h2 _).mono ?_
      rintro e w1 ⟨rfl, hb1⟩
      have hX1 := (hb1.block X (lt_of_heap HX.out)).trans HX.out
      have c0 : w1.cell? ⟨X, 0, none⟩ = some (.int .i64 ep) := cell_of_heap hX1 0
      have c1 : w1.cell? ⟨X, 1, none⟩ = some (.string se) := cell_of_heap hX1 1
      have c2 : w1.cell? ⟨X, 2, none⟩ = some tv := cell_of_heap hX1 2
      have c3 : w1.cell? ⟨X, 3, none⟩ = some (.string sc) := cell_of_heap hX1 3
      have g0 : w1.frozen? ⟨X, 0, none⟩ = false := frozen_of_heap hX1 0
      have g1 : w1.frozen? ⟨X, 1, none⟩ = false := frozen_of_heap hX1 1
      have g2 : w1.frozen? ⟨X, 2, none⟩ = false := frozen_of_heap hX1 2
      have g3 : w1.frozen? ⟨X, 3, none⟩ = false := frozen_of_heap hX1 3
      have HX1 := Lib.hid hX1; clear hX1
      have Hb1 := Lib.hid hb1; clear hb1
      by_cases h3 : se.size = 0
      · have he : Hid (opBegin l ⟨ep, se, ls, sc⟩ = (⟨ep, l, [], ⟨#[]⟩⟩, 0)) := by show _ = _; simp [opBegin, h1, h2, h3]
        have h3' := empty_of h3
        go_wp2
        go_ret
        rw [he.out]
        refine ⟨rfl, (Kept.of_below Hb1.out _).trans (Kept.of_grown (grown_set4 _ _ _ _ _ _) S (fun k hk => by cases hk; exact hSX)) (fun _ _ h => h), fun _ => ⟨none, 0, 0, ?_, SSl.nil _⟩⟩
        exact heap_setCell_same (heap_setCell_same (heap_setCell_same (heap_setCell_same HX1.out 0 _) 1 _) 2 _) 3 _
      · have he : Hid (opBegin l ⟨ep, se, ls, sc⟩ = (⟨ep, se, ls, sc⟩, 19)) := by show _ = _; simp [opBegin, h1, h2, h3]
        have h3' := nonempty_of h3
        go_wp2
        go_ret
        rw [he.out]
        exact op_fail (by decide) Hb1.out

set_option maxRecDepth 100000 in
set_option maxHeartbeats 1000000 in
theorem end_any (l : ByteArray) (X : Nat) (ep : Int) (se sc : ByteArray) (ls : List ByteArray) (tv : Value) (S : Nat → Prop) (hSX : S X) (w : World)
    (hX : w.heap[X]? = some (.cells #[.int .i64 ep, .string se, tv, .string sc] 38 (0, 0))) :
    Calls Tryz.prog 64 #[.string l, .pointer (some ⟨X, 0, none⟩)] w (OpPost X S w (opEnd l ⟨ep, se, ls, sc⟩)) := by
  have c1 : w.cell? ⟨X, 1, none⟩ = some (.string se) := cell_of_heap hX 1
  have c2 : w.cell? ⟨X, 2, none⟩ = some tv := cell_of_heap hX 2
  have g1 : w.frozen? ⟨X, 1, none⟩ = false := frozen_of_heap hX 1
  have g2 : w.frozen? ⟨X, 2, none⟩ = false := frozen_of_heap hX 2
  have HX := Lib.hid hX; clear hX
  by_cases h1 : l.size = 0
  · have he : Hid (opEnd l ⟨ep, se, ls, sc⟩ = (⟨ep, se, ls, sc⟩, 10)) := by show _ = _; simp [opEnd, h1]
    have h1' := empty_of h1
    go_enter Tryz.func64, Tryz.ntmps64
    go_wp2
    go_ret
    rw [he.out]
    exact op_fail (by decide) (Below.refl _ _)
  · have h1' := nonempty_of h1
    by_cases h2 : se = l
    · have he : Hid (opEnd l ⟨ep, se, ls, sc⟩ = (⟨ep, ⟨#[]⟩, [], sc⟩, 0)) := by show _ = _; simp [opEnd, h1, h2]
      have h2' : (se.toList == l.toList) = true := by rw [h2]; simp
      clear h2
      go_enter Tryz.func64, Tryz.ntmps64
      go_wp2
      go_ret
      rw [he.out]
      refine ⟨rfl, Kept.of_grown (grown_trans (grown_setCell _ _ _ _) (grown_setCell _ _ _ _)) S (fun k hk => by cases hk; exact hSX), fun _ => ⟨none, 0, 0, ?_, SSl.nil _⟩⟩
      exact heap_setCell_same (heap_setCell_same HX.out 1 _) 2 _
    · have he : Hid (opEnd l ⟨ep, se, ls, sc⟩ = (⟨ep, se, ls, sc⟩, 10)) := by show _ = _; simp [opEnd, h2]
      have h2' : (se.toList == l.toList) = false := by rw [str_beq]; simp [h2]
      clear h2
      go_enter Tryz.func64, Tryz.ntmps64
      go_wp2
      go_ret
      rw [he.out]
      exact op_fail (by decide) (Below.refl _ _)

def ShowPost (X : Nat) (w : World) (p0 p1 p2 : Value) (s : ByteArray) (r : Ending) (w' : World) : Prop :=
  r = .returned (.tuple #[]) ∧ w'.heap[X]? = some (.cells #[p0, p1, p2, .string s] 38 (0, 0)) ∧ w.grownBy w' (some X)

set_option maxRecDepth 100000 in
set_option maxHeartbeats 1000000 in
theorem show_any (X : Nat) (p0 p1 p2 : Value) (sc b : ByteArray) (w : World) (hX : w.heap[X]? = some (.cells #[p0, p1, p2, .string sc] 38 (0, 0))) (hl : sc.size + b.size ≤ 70368744177664) :
    Calls Tryz.prog 72 #[.pointer (some ⟨X, 0, none⟩), .string b] w (ShowPost X w p0 p1 p2 (showS sc b)) := by
  have c3 : w.cell? ⟨X, 3, none⟩ = some (.string sc) := cell_of_heap hX 3
  have g3 : w.frozen? ⟨X, 3, none⟩ = false := frozen_of_heap hX 3
  have HX := Lib.hid hX; clear hX
  by_cases h1 : 2048 < sc.size + b.size
  · have he : Hid (showS sc b = (sc ++ b).extract (sc.size + b.size - 2048) (sc.size + b.size)) := by show _ = _; unfold showS; rw [ByteArray.size_append, if_pos h1]
    go_enter Tryz.func72, Tryz.ntmps72
    go_wp2
    go_end0
    rw [he.out]
    exact ⟨rfl, heap_setCell_same (heap_setCell_same HX.out 3 _) 3 _, grown_trans (grown_setCell _ _ _ _) (grown_setCell _ _ _ _)⟩
  · have he : Hid (showS sc b = sc ++ b) := by show _ = _; unfold showS; rw [ByteArray.size_append, if_neg h1]
    go_enter Tryz.func72, Tryz.ntmps72
    go_wp2
    go_end0
    rw [he.out]
    exact ⟨rfl, heap_setCell_same HX.out 3 _, grown_setCell _ _ _ _⟩

set_option maxRecDepth 100000 in
set_option maxHeartbeats 1000000 in
theorem shownAdd_any (b : ByteArray) (X : Nat) (ep : Int) (se sc : ByteArray) (ls : List ByteArray) (a : Option Addr) (n c : Nat) (S : Nat → Prop) (hSX : S X) (w : World) (hs : SSl w a n ls) (hne : ∀ g off, a = some ⟨g, off, none⟩ → g ≠ X) (hl : sc.size + b.size ≤ 70368744177664)
    (hX : w.heap[X]? = some (.cells #[.int .i64 ep, .string se, .slice a n c, .string sc] 38 (0, 0))) :
    Calls Tryz.prog 36 #[.string b, .pointer (some ⟨X, 0, none⟩)] w (OpPost X S w (opShow b ⟨ep, se, ls, sc⟩)) := by
  have HX := Lib.hid hX; clear hX
  have Hs := Lib.hid hs; clear hs
  by_cases h1 : 65536 < b.size
  · have he : Hid (opShow b ⟨ep, se, ls, sc⟩ = (⟨ep, se, ls, sc⟩, 5)) := by show _ = _; simp [opShow, h1]
    go_enter Tryz.func36, Tryz.ntmps36
    go_wp2
    go_ret
    rw [he.out]
    exact op_fail (by decide) (Below.refl _ _)
  · have he : Hid (opShow b ⟨ep, se, ls, sc⟩ = (⟨ep, se, ls, showS sc b⟩, 0)) := by show _ = _; simp [opShow, h1]
    go_enter Tryz.func36, Tryz.ntmps36
    go_wp2_with fail
    refine (show_any X _ _ _ sc b _ HX.out hl).mono ?_
    rintro e w1 ⟨rfl, hX1, hg⟩
    have HX1 := Lib.hid hX1; clear hX1
    have Hg := Lib.hid hg; clear hg
    go_wp2
    go_ret
    rw [he.out]
    exact ⟨rfl, Kept.of_grown Hg.out S (fun k hk => by cases hk; exact hSX), fun _ => ⟨a, n, c, HX1.out, Hs.out.grown Hg.out (fun g off ha e => by cases e; exact hne _ _ ha rfl)⟩⟩

theorem add_post {X : Nat} {S : Nat → Prop} {w w2 w3 : World} {o : Obj} {v : Value} {g m cap : Nat} {ep : Int} {se sc : ByteArray} {ls : List ByteArray} (hSX : S X) (hS : ∀ g, v.ownBlock = some g → S g) (hlt : X < w.heap.size) (hne : ∀ g, v.ownBlock = some g → g ≠ X)
    (hg2 : (w.alloc o).grownBy w2 v.ownBlock) (hrow : SRow w2 (.slice (some ⟨g, 0, none⟩) m cap) ls) (hat : v.ownBlock = some g ∨ g = (w.alloc o).heap.size)
    (hX3 : w3.heap[X]? = some (.cells #[.int .i64 ep, .string se, .slice (some ⟨g, 0, none⟩) m cap, .string sc] 38 (0, 0))) (hg3 : (w2.setCell ⟨X, 2, none⟩ (.slice (some ⟨g, 0, none⟩) m cap)).grownBy w3 (some X)) :
    OpPost X S w (⟨ep, se, ls, sc⟩, 0) (.returned (.int .i64 0)) w3 := by
  have hgX : g ≠ X := by
    rcases hat with h | h
    · exact hne g h
    · rw [h]; simp; omega
  have hg : w2.grownBy w3 (some X) := grown_trans (grown_setCell _ _ _ _) hg3
  refine ⟨rfl, ((Kept.of_below ((Below.refl _ _).alloc (Nat.le_refl _) _) S).trans (Kept.of_grown hg2 S (fun k hk => hS k hk)) (fun _ _ h => h)).trans (Kept.of_grown hg S (fun k hk => by cases hk; exact hSX)) (fun _ _ h => h), fun _ => ⟨_, _, _, hX3, hrow.sl.grown hg (fun g' off ha e => ?_)⟩⟩
  cases ha
  cases e
  exact hgX rfl

set_option maxRecDepth 100000 in
set_option maxHeartbeats 2000000 in
theorem typedAdd_any (l : ByteArray) (X : Nat) (ep : Int) (se sc : ByteArray) (ls : List ByteArray) (a : Option Addr) (n c : Nat) (S : Nat → Prop) (hSX : S X) (w : World) (hs : SRow w (.slice a n c) ls) (hne : ∀ g, (Value.slice a n c).ownBlock = some g → g ≠ X) (hS : ∀ g, (Value.slice a n c).ownBlock = some g → S g) (hl : l.size ≤ 9223372036854775807) (hsc : sc.size ≤ 65536)
    (hX : w.heap[X]? = some (.cells #[.int .i64 ep, .string se, .slice a n c, .string sc] 38 (0, 0))) :
    Calls Tryz.prog 46 #[.string l, .pointer (some ⟨X, 0, none⟩)] w (OpPost X S w (opAdd l ⟨ep, se, ls, sc⟩)) := by
  have c1 : w.cell? ⟨X, 1, none⟩ = some (.string se) := cell_of_heap hX 1
  have c2 : w.cell? ⟨X, 2, none⟩ = some (.slice a n c) := cell_of_heap hX 2
  have hlt := lt_of_heap hX
  have hnw := World.new_ne w ⟨X, 2, none⟩ c2
  have hn := hs.sl.1
  have HX := Lib.hid hX; clear hX
  have Hs := Lib.hid hs; clear hs
  have Hn := Lib.hid hn; clear hn
  generalize hq : lineE l = q at *
  have Hq := Lib.hid hq; clear hq
  by_cases h0 : q = 0
  · subst h0
    by_cases h1 : se.size = 0
    · have he : Hid (opAdd l ⟨ep, se, ls, sc⟩ = (⟨ep, se, ls, sc⟩, 10)) := by show _ = _; simp [opAdd, Hq.out, h1]
      have h1' := empty_of h1
      go_enter Tryz.func46, Tryz.ntmps46
      go_wp2_with fail
      refine (checkLine_is l _ Hq.out _ (by omega)).mono ?_
      rintro e w1 ⟨rfl, rfl⟩
      go_wp2
      go_ret
      rw [he.out]
      exact op_fail (by decide) (Below.refl _ _)
    · have h1' := nonempty_of h1
      by_cases h2 : 16 ≤ n
      · have he : Hid (opAdd l ⟨ep, se, ls, sc⟩ = (⟨ep, se, ls, sc⟩, 9)) := by show _ = _; simp [opAdd, Hq.out, h1, Hn.out, h2]
        go_enter Tryz.func46, Tryz.ntmps46
        go_wp2_with fail
        refine (checkLine_is l _ Hq.out _ (by omega)).mono ?_
        rintro e w1 ⟨rfl, rfl⟩
        go_wp2
        go_ret
        rw [he.out]
        exact op_fail (by decide) (Below.refl _ _)
      · have he : Hid (opAdd l ⟨ep, se, ls, sc⟩ = (⟨ep, se, ls ++ [l], showS sc (l ++ ⟨#[10]⟩)⟩, 0)) := by show _ = _; simp [opAdd, Hq.out, h1, Hn.out, h2]
        have Hl : Hid (ls.length ≤ 1000000) := by show _ ≤ _; rw [Hn.out]; omega
        have hl1024 : l.size ≤ 1024 := lineE_size Hq.out
        have Hl2 : Hid (sc.size + (l ++ (⟨#[10]⟩ : ByteArray)).size ≤ 70368744177664) := by
          show _ ≤ _
          rw [ByteArray.size_append]
          show sc.size + (l.size + 1) ≤ _
          omega
        go_enter Tryz.func46, Tryz.ntmps46
        go_wp2_with fail
        refine (checkLine_is l _ Hq.out _ (by omega)).mono ?_
        rintro e w1 ⟨rfl, rfl⟩
        have Hrow : Hid (∀ o, SRow (w.alloc o) (.slice a n c) ls) := fun o => World.ownsRow.alloc Hs.out o
        have HXa : Hid (∀ o, (w.alloc o).heap[X]? = some (.cells #[.int .i64 ep, .string se, .slice a n c, .string sc] 38 (0, 0))) := fun o => (Below.heap_alloc w o X hlt).trans HX.out
        have Hne := Lib.hid hne; clear hne
        go_wp2_with (at_builtin; refine wpList_append_string rfl _ _ rfl _ ls rfl (Hrow.out _) l w.heap.size rfl (heap_alloc_new w _) Hl.out ?_; intro g m cap w2 hrow2 hg2 hat2; have hh2 := (hg2.block X (by simp; omega) (fun e => Hne.out X e.symm rfl)).trans (HXa.out _); have d2 : w2.cell? ⟨X, 2, none⟩ = some (.slice a n c) := cell_of_heap hh2 2; have f2 : w2.frozen? ⟨X, 2, none⟩ = false := frozen_of_heap hh2 2; have Hrow2 := Lib.hid hrow2; clear hrow2; have Hg2 := Lib.hid hg2; clear hg2; have Hat2 := Lib.hid hat2; clear hat2; have Hh2 := Lib.hid hh2; clear hh2)
        refine (show_any X _ _ _ sc _ _ (heap_setCell_same Hh2.out 2 _) Hl2.out).mono ?_
        rintro e w3 ⟨rfl, hX3, hg3⟩
        have HX3 := Lib.hid hX3; clear hX3
        have Hg3 := Lib.hid hg3; clear hg3
        clear d2 f2
        go_wp2
        go_ret
        rw [he.out]
        exact add_post hSX hS hlt Hne.out Hg2.out Hrow2.out Hat2.out HX3.out Hg3.out
  · have he : Hid (opAdd l ⟨ep, se, ls, sc⟩ = (⟨ep, se, ls, sc⟩, q)) := by show _ = _; simp [opAdd, Hq.out, h0]
    have h0' : ((q : Int) != 0) = true := bne_iff_ne.2 (by omega)
    have H0 := Lib.hid h0; clear h0
    go_enter Tryz.func46, Tryz.ntmps46
    go_wp2_with fail
    refine (checkLine_is l _ Hq.out _ (by omega)).mono ?_
    rintro e w1 ⟨rfl, rfl⟩
    go_wp2
    go_ret
    rw [he.out]
    exact op_fail H0.out (Below.refl _ _)

end Go.Proofs.YtfobmfenjdiimaaGreatDoor
