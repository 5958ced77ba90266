/- A terminal in a view, for the laws: each operation by its plain meaning. -/
import Derived.Test.YtfobmfenjdiimaaGreatDoorPlainA
namespace Go.Proofs.YtfobmfenjdiimaaGreatDoor
open Go.RowKit
attribute [local go_sem ↓] Go.wp_at_zero Go.wp_at_succ

/-- The view at b, made after w0, holds terminal n in epoch e as t; the blocks of G are not the view's. -/
structure SH (w0 w : World) (b : Nat) (n e : Int) (N : Nat) (t : TermT) (G : Nat → Prop) : Prop where
  ex : ∃ V h, ViewAt w h V ∧ h.b = b ∧ w0.heap.size ≤ h.bs ∧ Holds V n e N t ∧ ∀ k, G k → ¬ h.fp k ∧ k < w.heap.size ∧ h.bs ≤ k
  below : Below w0.heap.size w0 w

def SPost (w0 : World) (b : Nat) (n e : Int) (N : Nat) (t : TermT) (G : Nat → Prop) (w : World) (v : Value) (r : Ending) (w' : World) : Prop :=
  r = .returned v ∧ SH w0 w' b n e N t G ∧ ∀ k, G k → w'.heap[k]? = w.heap[k]?

theorem sh_post {w0 w w' : World} {b : Nat} {n e : Int} {N : Nat} {t : TermT} {G : Nat → Prop} {V V' : AV} {h : VH} (hv : ViewAt w h V) (hb : h.b = b) (hbs : w0.heap.size ≤ h.bs) (hG : ∀ k, G k → ¬ h.fp k ∧ k < w.heap.size ∧ h.bs ≤ k) (hlow : Below w0.heap.size w0 w) (hp : VPost h w V' w') (hh : Holds V' n e N t) :
    SH w0 w' b n e N t G ∧ ∀ k, G k → w'.heap[k]? = w.heap[k]? := by
  obtain ⟨h', a1, a2, a3, a4, a5, a6, a7, a8⟩ := hp
  refine ⟨⟨⟨V', h', a1, a2.trans hb, by rw [a5]; exact hbs, hh, fun k hk => ⟨fun hf => ?_, Nat.lt_of_lt_of_le (hG k hk).2.1 a7.size, by rw [a5]; exact (hG k hk).2.2⟩⟩, ?_⟩, fun k hk => a7.block k (hG k hk).2.1 (hG k hk).1⟩
  · rcases a8 k hf with h | h
    · exact (hG k hk).1 h
    · have := (hG k hk).2.1; omega
  · refine hlow.trans (a7.below (Nat.le_trans hbs hv.top) (fun k hk => Nat.le_trans hbs (hv.lo k hk)))

theorem SH.later {w0 w w' : World} {b : Nat} {n e : Int} {N : Nat} {t : TermT} {G : Nat → Prop} (s : SH w0 w b n e N t G) (hb : Below w.heap.size w w') : SH w0 w' b n e N t G := by
  obtain ⟨⟨V, h, hv, h1, h2, h3, h4⟩, h5⟩ := s
  exact ⟨⟨V, h, hv.later hb, h1, h2, h3, fun k hk => ⟨(h4 k hk).1, Nat.lt_of_lt_of_le (h4 k hk).2.1 hb.size, (h4 k hk).2.2⟩⟩, h5.trans (hb.mono h5.size)⟩
/-- Blocks that are new are not the view's. -/
theorem SH.fresh {w0 w w' : World} {b : Nat} {n e : Int} {N : Nat} {t : TermT} {G G' : Nat → Prop} (s : SH w0 w b n e N t G) (hb : Below w.heap.size w w') (hG : ∀ k, G' k → G k ∨ (w.heap.size ≤ k ∧ k < w'.heap.size)) : SH w0 w' b n e N t G' := by
  obtain ⟨⟨V, h, hv, h1, h2, h3, h4⟩, h5⟩ := s
  refine ⟨⟨V, h, hv.later hb, h1, h2, h3, fun k hk => ?_⟩, h5.trans (hb.mono h5.size)⟩
  rcases hG k hk with h | h
  · exact ⟨(h4 k h).1, Nat.lt_of_lt_of_le (h4 k h).2.1 hb.size, (h4 k h).2.2⟩
  · exact ⟨fun hf => by have := hv.fp_lt hf; omega, h.2, Nat.le_trans hv.top h.1⟩
/-- Stores into guarded blocks leave the view; new blocks can be guarded. -/
theorem SH.guarded {w0 w w' : World} {b : Nat} {n e : Int} {N : Nat} {t : TermT} {G G' : Nat → Prop} (s : SH w0 w b n e N t G) (hk : Kept G w w') (hG : ∀ k, G' k → G k ∨ (w.heap.size ≤ k ∧ k < w'.heap.size)) : SH w0 w' b n e N t G' := by
  obtain ⟨⟨V, h, hv, h1, h2, h3, h4⟩, h5⟩ := s
  refine ⟨⟨V, h, hv.kept (hk.below hv.top (fun k hs => (h4 k hs).2.2)) (fun k hf => hk.block k (hv.fp_lt hf) (fun hs => (h4 k hs).1 hf)), h1, h2, h3, fun k hs => ?_⟩, h5.trans (hk.below h5.size (fun k hs => Nat.le_trans h2 (h4 k hs).2.2))⟩
  rcases hG k hs with h | h
  · exact ⟨(h4 k h).1, Nat.lt_of_lt_of_le (h4 k h).2.1 hk.size, (h4 k h).2.2⟩
  · exact ⟨fun hf => by have := hv.fp_lt hf; omega, h.2, Nat.le_trans hv.top h.1⟩

def stepT (op : TermT → TermT × Nat) (t : TermT) : TermT := if (op t).2 = 0 then (op t).1 else t
/-- The operation keeps terminals good. -/
def GoodOp (op : TermT → TermT × Nat) : Prop := ∀ t, checkT t = 0 → Small t → (op t).2 = 0 → checkT (op t).1 = 0 ∧ Small (op t).1 ∧ (op t).1.epoch = t.epoch

theorem Holds.mono {V : AV} {n e : Int} {N M : Nat} {t : TermT} (h : Holds V n e N t) (hm : N ≤ M) : Holds V n e M t := ⟨h.range, h.get, h.size, Nat.le_trans h.len hm, h.small, h.ok, h.ep⟩
theorem Holds.step {V : AV} {n e : Int} {N : Nat} {t : TermT} (h : Holds V n e N t) {op : TermT → TermT × Nat} (hg : GoodOp op) : (tChange op V n e).2 = (op t).2 ∧ Holds (tChange op V n e).1 n e (N + 1) (stepT op t) := by
  by_cases h0 : (op t).2 = 0
  · obtain ⟨h1, h2, h3⟩ := hg t h.ok h.small h0
    have := h.goes (op := op) (t' := (op t).1) (by rw [← h0]) h2 h1 (h3.trans h.ep)
    rw [h0]
    simpa [stepT, h0] using this
  · have := h.fails (op := op) (t' := (op t).1) (e := (op t).2) rfl h0
    refine ⟨this.1, ?_⟩
    have h4 := this.2.mono (Nat.le_add_right N 1)
    simpa [stepT, h0] using h4

theorem checkT_mk {t : TermT} (h1 : 0 ≤ t.epoch ∧ t.epoch ≤ 1073741824) (h2 : validB t.session = true) (h3 : t.typed.length ≤ 16) (h4 : linesE t.typed = 0) (h5 : ¬ (t.session.size = 0 ∧ 0 < t.typed.length)) (h6 : t.screen.size ≤ 2048) : checkT t = 0 := by
  unfold checkT
  rw [if_neg (by simp [epochB, h1]), if_neg (by simp [h2]), if_neg (by omega), if_neg (by simp [h4]), if_neg h5, if_neg (by omega)]
theorem valid_empty : validB ⟨#[]⟩ = true := by decide +kernel
theorem linesE_append {ls : List ByteArray} {l : ByteArray} (h : linesE ls = 0) (hl : lineE l = 0) : linesE (ls ++ [l]) = 0 := by
  induction ls with
  | nil => simp [linesE, hl]
  | cons s r ih =>
    have := linesE_size h s (by simp)
    simp only [linesE, this] at h
    simp only [List.cons_append, linesE, this]
    exact ih h
theorem linesE_drop {ls : List ByteArray} (h : linesE ls = 0) : linesE (ls.drop 1) = 0 := by
  cases ls with
  | nil => rfl
  | cons s r =>
    have := linesE_size h s (by simp)
    simp only [linesE, this] at h
    simpa using h
theorem showS_le (a b : ByteArray) : (showS a b).size ≤ 2048 := by
  unfold showS
  split
  · rw [ByteArray.size_extract]; omega
  · omega

theorem good_begin (l : ByteArray) (hl : l.size ≤ 1000) : GoodOp (opBegin l) := fun t hc hs h0 => by
  obtain ⟨h1, _⟩ := checkT_ok hc
  unfold opBegin at h0 ⊢
  split at h0
  · cases h0
  · rename_i hA
    split at h0
    · cases h0
    · rename_i hB
      rw [if_neg hA, if_neg hB]
      refine ⟨checkT_mk h1 ?_ (Nat.zero_le _) rfl (fun h => absurd h.2 (Nat.lt_irrefl _)) (Nat.zero_le _), ⟨hl, Nat.zero_le _, Nat.zero_le _, fun s hs => by cases hs⟩, rfl⟩
      cases hv : validB l with
      | true => rfl
      | false => exact absurd (.inr hv) hA
theorem good_end (l : ByteArray) : GoodOp (opEnd l) := fun t hc hs h0 => by
  obtain ⟨h1, _, _, _, _, h6⟩ := checkT_ok hc
  unfold opEnd at h0 ⊢
  split at h0
  · cases h0
  · rename_i hA
    rw [if_neg hA]
    exact ⟨checkT_mk h1 valid_empty (Nat.zero_le _) rfl (fun h => absurd h.2 (Nat.lt_irrefl _)) h6, ⟨Nat.zero_le _, hs.screen, Nat.zero_le _, fun s hs => by cases hs⟩, rfl⟩
theorem good_add (l : ByteArray) : GoodOp (opAdd l) := fun t hc hs h0 => by
  obtain ⟨h1, h2, h3, h4, h5, h6⟩ := checkT_ok hc
  unfold opAdd at h0 ⊢
  split at h0
  · contradiction
  · rename_i hA
    split at h0
    · cases h0
    · rename_i hB
      split at h0
      · cases h0
      · rename_i hC
        rw [if_neg hA, if_neg hB, if_neg hC]
        have hA' : lineE l = 0 := by simpa using hA
        refine ⟨checkT_mk h1 h2 (by simp; omega) (linesE_append h4 hA') (fun h => hB h.1) (showS_le _ _), ⟨hs.session, Nat.le_trans (showS_le _ _) (by decide), by simp; omega, fun s hm => ?_⟩, rfl⟩
        simp only [List.mem_append, List.mem_singleton] at hm
        rcases hm with hm | rfl
        · exact hs.lines s hm
        · exact Nat.le_trans (lineE_size hA') (by decide)
theorem good_take (l : ByteArray) : GoodOp (opTake l) := fun t hc hs h0 => by
  obtain ⟨h1, h2, h3, h4, h5, h6⟩ := checkT_ok hc
  unfold opTake at h0 ⊢
  split at h0
  · cases h0
  · rename_i hA
    split at h0
    · cases h0
    · rename_i hB
      rw [if_neg hA, if_neg hB]
      refine ⟨checkT_mk h1 h2 (by simp; omega) (linesE_drop h4) (fun h => hA (.inl h.1)) h6, ⟨hs.session, hs.screen, by have := hs.typed; simp; omega, fun s hm => hs.lines s (List.mem_of_mem_drop hm)⟩, rfl⟩
theorem good_show (l : ByteArray) : GoodOp (opShow l) := fun t hc hs h0 => by
  obtain ⟨h1, h2, h3, h4, h5, h6⟩ := checkT_ok hc
  unfold opShow at h0 ⊢
  split at h0
  · cases h0
  · rename_i hA
    rw [if_neg hA]
    exact ⟨checkT_mk h1 h2 h3 h4 h5 (showS_le _ _), ⟨hs.session, Nat.le_trans (showS_le _ _) (by decide), hs.typed, hs.lines⟩, rfl⟩

theorem shBegin (w0 w : World) (b : Nat) (n e : Int) (N : Nat) (t : TermT) (G : Nat → Prop) (l : ByteArray) (s : SH w0 w b n e N t G) (hN : N < 1000000) (hl : l.size ≤ 1000) :
    Calls Tryz.prog 19 #[.pointer (some ⟨b, 0, none⟩), .int .i64 n, .int .i64 e, .string l] w (SPost w0 b n e (N + 1) (stepT (opBegin l) t) G w (.int .i64 (opBegin l t).2)) := by
  obtain ⟨⟨V, h, hv, rfl, h2, h3, h4⟩, h5⟩ := s
  refine (tBegin_any h V n e l w hv (h3.ready hN) hl).mono ?_
  rintro r w' ⟨rfl, hp⟩
  have hs := h3.step (good_begin l hl)
  rw [hs.1]
  exact ⟨rfl, sh_post hv rfl h2 h4 h5 hp hs.2⟩
theorem shEnd (w0 w : World) (b : Nat) (n e : Int) (N : Nat) (t : TermT) (G : Nat → Prop) (l : ByteArray) (s : SH w0 w b n e N t G) (hN : N < 1000000) :
    Calls Tryz.prog 29 #[.pointer (some ⟨b, 0, none⟩), .int .i64 n, .int .i64 e, .string l] w (SPost w0 b n e (N + 1) (stepT (opEnd l) t) G w (.int .i64 (opEnd l t).2)) := by
  obtain ⟨⟨V, h, hv, rfl, h2, h3, h4⟩, h5⟩ := s
  refine (tEnd_any h V n e l w hv (h3.ready hN)).mono ?_
  rintro r w' ⟨rfl, hp⟩
  have hs := h3.step (good_end l)
  rw [hs.1]
  exact ⟨rfl, sh_post hv rfl h2 h4 h5 hp hs.2⟩
theorem shType (w0 w : World) (b : Nat) (n e : Int) (N : Nat) (t : TermT) (G : Nat → Prop) (l : ByteArray) (s : SH w0 w b n e N t G) (hN : N < 1000000) (hl : l.size ≤ 9223372036854775807) :
    Calls Tryz.prog 20 #[.pointer (some ⟨b, 0, none⟩), .int .i64 n, .int .i64 e, .string l] w (SPost w0 b n e (N + 1) (stepT (opAdd l) t) G w (.int .i64 (opAdd l t).2)) := by
  obtain ⟨⟨V, h, hv, rfl, h2, h3, h4⟩, h5⟩ := s
  refine (tType_any h V n e l w hv (h3.ready hN) hl).mono ?_
  rintro r w' ⟨rfl, hp⟩
  have hs := h3.step (good_add l)
  rw [hs.1]
  exact ⟨rfl, sh_post hv rfl h2 h4 h5 hp hs.2⟩
def showT (l : ByteArray) (t : TermT) : TermT := if l.size = 0 then t else stepT (opShow l) t
def showE (l : ByteArray) (t : TermT) : Nat := if l.size = 0 then 0 else (opShow l t).2
theorem shShow (w0 w : World) (b : Nat) (n e : Int) (N : Nat) (t : TermT) (G : Nat → Prop) (l : ByteArray) (s : SH w0 w b n e N t G) (hN : N < 1000000) (hl : l.size ≤ 35184372088832) :
    Calls Tryz.prog 13 #[.pointer (some ⟨b, 0, none⟩), .int .i64 n, .int .i64 e, .string l] w (SPost w0 b n e (N + 1) (showT l t) G w (.int .i64 (showE l t))) := by
  obtain ⟨⟨V, h, hv, rfl, h2, h3, h4⟩, h5⟩ := s
  refine (tShow_any h V n e l w hv (h3.ready hN) hl).mono ?_
  rintro r w' ⟨rfl, hp⟩
  unfold tShow at hp ⊢
  unfold showT showE
  by_cases h0 : l.size = 0
  · simp only [if_pos h0] at hp ⊢
    rw [h3.get]
    exact ⟨rfl, sh_post hv rfl h2 h4 h5 hp ((h3.seen n e).mono (Nat.le_add_right _ _))⟩
  · simp only [if_neg h0] at hp ⊢
    have hs := h3.step (good_show l)
    rw [hs.1]
    exact ⟨rfl, sh_post hv rfl h2 h4 h5 hp hs.2⟩
def readL (l : ByteArray) (t : TermT) : ByteArray := if (opTake l t).2 = 0 then t.typed.getD 0 ⟨#[]⟩ else ⟨#[]⟩
theorem shRead (w0 w : World) (b : Nat) (n e : Int) (N : Nat) (t : TermT) (G : Nat → Prop) (l : ByteArray) (s : SH w0 w b n e N t G) (hN : N < 1000000) (hl : l.size ≤ 35184372088832) :
    Calls Tryz.prog 23 #[.pointer (some ⟨b, 0, none⟩), .int .i64 n, .int .i64 e, .string l] w (SPost w0 b n e (N + 1) (stepT (opTake l) t) G w (.tuple #[.string (readL l t), .int .i64 (opTake l t).2])) := by
  obtain ⟨⟨V, h, hv, rfl, h2, h3, h4⟩, h5⟩ := s
  refine (tRead_any h V n e l w hv (h3.ready hN) hl).mono ?_
  rintro r w' ⟨rfl, hp⟩
  have hs := h3.step (good_take l)
  unfold tRead at hp ⊢
  unfold readL
  simp only [hs.1, h3.get] at hp ⊢
  exact ⟨rfl, sh_post hv rfl h2 h4 h5 hp hs.2⟩

/-- What Get leaves. -/
def SGet (w0 : World) (b : Nat) (n e : Int) (N : Nat) (t : TermT) (G : Nat → Prop) (w : World) (r : Ending) (w' : World) : Prop :=
  ∃ a m c, r = .returned (.tuple #[.agg #[.int .i64 t.epoch, .string t.session, .slice a m c, .string t.screen], .int .i64 0]) ∧ SRow w' (.slice a m c) t.typed ∧ (∀ g, (Value.slice a m c).ownBlock = some g → w.heap.size ≤ g) ∧
    SH w0 w' b n e N t (fun k => G k ∨ (Value.slice a m c).ownBlock = some k) ∧ ∀ k, G k → w'.heap[k]? = w.heap[k]?
theorem shGet (w0 w : World) (b : Nat) (n e : Int) (N : Nat) (t : TermT) (G : Nat → Prop) (s : SH w0 w b n e N t G) (hN : N < 1000000) :
    Calls Tryz.prog 21 #[.pointer (some ⟨b, 0, none⟩), .int .i64 n, .int .i64 e] w (SGet w0 b n e N t G w) := by
  obtain ⟨⟨V, h, hv, rfl, h2, h3, h4⟩, h5⟩ := s
  refine (tGet_any h V n e w hv (h3.ready hN).size).mono ?_
  rintro r w' ⟨a, m, c, h', rfl, hrow, hlie, hp⟩
  rw [h3.get] at hrow ⊢
  have hsp := sh_post hv rfl h2 h4 h5 hp.post (h3.seen n e)
  refine ⟨a, m, c, rfl, hrow, fun g hg => (hlie g hg).1, ?_, hsp.2⟩
  obtain ⟨a1, a2, a3, a4, a5, a6, a7, a8⟩ := hp
  refine ⟨⟨_, h', a1, a2, by rw [a5]; exact h2, h3.seen n e, fun k hk => ?_⟩, hsp.1.below⟩
  rcases hk with hk | hk
  · refine ⟨fun hf => ?_, Nat.lt_of_lt_of_le (h4 k hk).2.1 a7.size, by rw [a5]; exact (h4 k hk).2.2⟩
    rcases a8 k hf with h | h
    · exact (h4 k hk).1 h
    · have := (h4 k hk).2.1; omega
  · obtain ⟨cur, hc⟩ := row_lt hrow hk
    exact ⟨(hlie k hk).2, lt_of_heap hc, by rw [a5]; exact Nat.le_trans hv.top (hlie k hk).1⟩

/-- A new view: every terminal is as new. -/
theorem shNew (w : World) (hu : Usages w) (n e : Int) (hr : inRange n e = true) :
    Calls Tryz.prog 6 #[] w fun r w1 => r = .returned (.pointer (some ⟨w.heap.size, 0, none⟩)) ∧ Calls Tryz.prog 9 #[.pointer (some ⟨w.heap.size, 0, none⟩)] w1 fun r w2 => r = .returned (.pointer (some ⟨w.heap.size + 3, 0, none⟩)) ∧ SH w w2 (w.heap.size + 3) n e 0 (newT e) (fun _ => False) := by
  refine (stateNew_any w).mono ?_
  rintro r w1 ⟨rfl, rfl⟩
  refine ⟨rfl, ?_⟩
  have hb1 : Below w.heap.size w (w.alloc (.cells #[.pointer none] 68)) := (Below.refl _ _).alloc (Nat.le_refl _) _
  have hbase : BaseOk (w.alloc (.cells #[.pointer none] 68)).heap.size (w.alloc (.cells #[.pointer none] 68)) w.heap.size (fun _ => none) := baseOk_empty w
  refine (viewNew_any w.heap.size (fun _ => none) _ (hu.below hb1 hu.pos) hbase).mono ?_
  rintro r w2 ⟨rfl, hb2, hv⟩
  have hsz : (w.alloc (.cells #[.pointer none] 68)).heap.size = w.heap.size + 1 := by simp
  refine ⟨by rw [hsz], ⟨⟨_, _, hv, by rw [hsz], by rw [hsz]; exact Nat.le_succ _, ?_, fun k hk => hk.elim⟩, hb1.trans (hb2.mono (by simp))⟩⟩
  have hep : epochB e = true := by
    unfold inRange at hr
    exact (Bool.and_eq_true_iff.1 hr).2
  refine ⟨hr, ?_, ?_, Nat.zero_le _, ⟨Nat.zero_le _, Nat.zero_le _, Nat.zero_le _, fun s hs => by cases hs⟩, ?_, rfl⟩
  · simp [tGet, hr, avGet, lastCall, ofValue]
  · exact Nat.zero_le _
  · exact checkT_mk (by simpa [epochB, newT] using hep) valid_empty (Nat.zero_le _) rfl (fun h => absurd h.2 (Nat.lt_irrefl _)) (Nat.zero_le _)

end Go.Proofs.YtfobmfenjdiimaaGreatDoor
