/- A pipe in a view, for the laws: each operation by its plain meaning. -/
import Derived.Test.YtemmeopaihmlcaaGreatDoorPipH
import Derived.Test.YtemmeopaihmlcaaGreatDoorViewH
namespace Go.Proofs.YtemmeopaihmlcaaGreatDoor
open Go.RowKit
attribute [local go_sem ↓] Go.wp_at_zero Go.wp_at_succ

def oneM : ByteArray := ⟨#[51, 46, 49]⟩
/-- The view holds the pipe, if there is one; it has N calls. -/
structure HoldsP (V : AV) (N : Nat) (o : Option PipeT) : Prop where
  len : V.calls.length = N
  size : (avGet V (ofPipe oneM 2)).1.size ≤ 35184372088832
  no : o = none → avGet V (ofPipe oneM 2) = (⟨#[]⟩, false)
  yes : ∀ p, o = some p → avGet V (ofPipe oneM 2) = (strOf (encPB p), true) ∧ checkP p = 0

/-- A change by an operation in an epoch: the pipe, the error, and whether there was a call. -/
def pStep (op : PipeT → PipeT × Nat) (e : Int) : Option PipeT → Option PipeT × Nat × Nat
  | none => (none, 8, 0)
  | some p => if p.epoch ≠ e then (some p, 8, 0) else if (op p).2 ≠ 0 then (some p, (op p).2, 0) else if (op p).1 = p then (some p, 0, 0)
    else if (op p).1.readers = 0 ∧ (op p).1.writers = 0 then (none, 0, 1) else (some (op p).1, 0, 1)
def pHas (e : Int) : Option PipeT → PipeT × Nat
  | none => (zeroP, 8)
  | some p => if p.epoch ≠ e then (zeroP, 8) else (p, 0)
def GoodP (op : PipeT → PipeT × Nat) : Prop := ∀ p, checkP p = 0 → (op p).2 = 0 → ¬ ((op p).1.readers = 0 ∧ (op p).1.writers = 0) → checkP (op p).1 = 0

theorem one_valid : validB oneM = true := by decide +kernel
theorem one_size : oneM.size ≤ 70368744177664 := by decide
theorem one_args {e : Int} (h : pEpochB e = true) : pArgs oneM 2 e = 0 := by
  unfold pArgs birthB
  rw [one_valid]
  simp [h]
theorem strOf_size (l : List UInt8) : (strOf l).size = l.length := by rw [← size_toList]; rfl
theorem encPB_size {p : PipeT} (h : checkP p = 0) : (strOf (encPB p)).size ≤ 65536 := by
  have := encP_size p
  unfold encP at this
  rwa [if_pos h] at this

theorem HoldsP.getV {V : AV} {N : Nat} {o : Option PipeT} (h : HoldsP V N o) {e : Int} (he : pEpochB e = true) : pGet V oneM 2 e = pHas e o := by
  unfold pGet
  rw [one_args he, if_neg (by simp)]
  cases o with
  | none =>
    unfold ofPV
    rw [if_pos (by rw [h.no rfl])]
    rfl
  | some p =>
    obtain ⟨h1, h2⟩ := h.yes p rfl
    rw [h1, ofPV_true, pdec_enc p h2]
    unfold pHas
    by_cases hep : p.epoch = e
    · simp [hep]
    · simp [hep]
theorem avGet_seen (V : AV) (n : NameT) : avGet (avSeen V n) n = avGet V n := by
  unfold avGet avSeen
  cases h : lastCall V.calls n with
  | none => simp [h]
  | some c => simp [h]
theorem avGet_call (V : AV) (n : NameT) (s : ByteArray) (a : Bool) : avGet ⟨(avSeen V n).base, (avSeen V n).reads, (avSeen V n).calls ++ [⟨n, s, a⟩]⟩ n = (s, !a) := by
  unfold avGet
  simp only [lastCall_snoc, if_true]
theorem HoldsP.seen {V : AV} {N : Nat} {o : Option PipeT} (h : HoldsP V N o) : HoldsP (avSeen V (ofPipe oneM 2)) N o :=
  ⟨by rw [avSeen_calls]; exact h.len, by rw [avGet_seen]; exact h.size, fun e => by rw [avGet_seen]; exact h.no e, fun p e => by rw [avGet_seen]; exact h.yes p e⟩
theorem HoldsP.set {V : AV} {N : Nat} {o : Option PipeT} (h : HoldsP V N o) {p : PipeT} (hc : checkP p = 0) : HoldsP ⟨(avSeen V (ofPipe oneM 2)).base, (avSeen V (ofPipe oneM 2)).reads, (avSeen V (ofPipe oneM 2)).calls ++ [⟨ofPipe oneM 2, strOf (encPB p), false⟩]⟩ (N + 1) (some p) :=
  ⟨by simp [avSeen_calls, h.len], by rw [avGet_call]; exact Nat.le_trans (encPB_size hc) (by decide), (fun e => by cases e), (fun q e => by cases e; rw [avGet_call]; exact ⟨rfl, hc⟩)⟩
theorem HoldsP.del {V : AV} {N : Nat} {o : Option PipeT} (h : HoldsP V N o) : HoldsP ⟨(avSeen V (ofPipe oneM 2)).base, (avSeen V (ofPipe oneM 2)).reads, (avSeen V (ofPipe oneM 2)).calls ++ [⟨ofPipe oneM 2, ⟨#[]⟩, true⟩]⟩ (N + 1) none :=
  ⟨by simp [avSeen_calls, h.len], by rw [avGet_call]; exact Nat.zero_le _, fun _ => by rw [avGet_call]; rfl, fun q e => by cases e⟩
theorem HoldsP.ready {V : AV} {N : Nat} {o : Option PipeT} (h : HoldsP V N o) (hN : N < 1000000) : PReady V oneM 2 := ⟨one_size, h.size, by rw [h.len]; exact hN⟩

theorem HoldsP.step {V : AV} {N : Nat} {o : Option PipeT} (h : HoldsP V N o) {op : PipeT → PipeT × Nat} (hg : GoodP op) {e : Int} (he : pEpochB e = true) :
    (pChange op V oneM 2 e).2 = (pStep op e o).2.1 ∧ HoldsP (pChange op V oneM 2 e).1 (N + (pStep op e o).2.2) (pStep op e o).1 := by
  have hs : pSeen V oneM 2 e = avSeen V (ofPipe oneM 2) := by unfold pSeen; rw [one_args he, if_neg (by simp)]
  unfold pChange
  rw [h.getV he, hs]
  cases o with
  | none => exact ⟨rfl, h.seen⟩
  | some p =>
    obtain ⟨h1, h2⟩ := h.yes p rfl
    by_cases hep : p.epoch = e
    · have hn1 : ¬ p.epoch ≠ e := fun h3 => h3 hep
      have hph : pHas e (some p) = (p, 0) := if_neg hn1
      rw [hph]
      dsimp only
      rw [if_neg (by simp)]
      by_cases hq : (op p).2 = 0
      · have hn2 : ¬ (op p).2 ≠ 0 := fun h3 => h3 hq
        rw [if_neg hn2]
        by_cases hsm : (op p).1 = p
        · have hps : pStep op e (some p) = (some p, 0, 0) := by simp only [pStep]; rw [if_neg hn1, if_neg hn2, if_pos hsm]
          rw [hps, if_pos hsm]
          exact ⟨rfl, h.seen⟩
        · rw [if_neg hsm]
          by_cases hz : (op p).1.readers = 0 ∧ (op p).1.writers = 0
          · have hps : pStep op e (some p) = (none, 0, 1) := by simp only [pStep]; rw [if_neg hn1, if_neg hn2, if_neg hsm, if_pos hz]
            rw [hps, if_pos hz]
            exact ⟨rfl, h.del⟩
          · have hps : pStep op e (some p) = (some (op p).1, 0, 1) := by simp only [pStep]; rw [if_neg hn1, if_neg hn2, if_neg hsm, if_neg hz]
            have hck := hg p h2 hq hz
            have hen : encP (op p).1 = (strOf (encPB (op p).1), 0) := by unfold encP; rw [if_pos hck]
            rw [hps, if_neg hz, hen, if_neg (by simp)]
            exact ⟨rfl, h.set hck⟩
      · have hps : pStep op e (some p) = (some p, (op p).2, 0) := by simp only [pStep]; rw [if_neg hn1, if_pos hq]
        rw [hps, if_pos hq]
        exact ⟨rfl, h.seen⟩
    · have hph : pHas e (some p) = (zeroP, 8) := if_pos hep
      have hps : pStep op e (some p) = (some p, 8, 0) := by simp only [pStep]; rw [if_pos (show p.epoch ≠ e from hep)]
      rw [hph, hps]
      dsimp only
      rw [if_pos (by decide)]
      exact ⟨rfl, h.seen⟩

theorem checkP_mk {p : PipeT} (h1 : 0 ≤ p.epoch ∧ p.epoch ≤ 1073741824) (h2 : 0 ≤ p.readers ∧ p.readers ≤ 64) (h3 : 0 ≤ p.writers ∧ p.writers ≤ 64) (h4 : ¬ (p.readers = 0 ∧ p.writers = 0)) (h5 : p.bytes.size ≤ 256) : checkP p = 0 := by
  unfold checkP
  rw [if_neg (by simp [pEpochB, pEndsB, h1, h2, h3]), if_neg h4, if_neg (by omega)]
theorem good_read (most : Int) : GoodP (opRead most) := fun p hc hq hz => by
  obtain ⟨h1, h2, h3, h4, h5⟩ := checkP_ok hc
  unfold opRead at hq hz ⊢
  split at hq
  · cases hq
  · rename_i ha
    split at hq
    · cases hq
    · rename_i hb
      rw [if_neg ha, if_neg hb] at hz ⊢
      exact checkP_mk h1 h2 h3 h4 (by simp; omega)
theorem good_write (s : ByteArray) : GoodP (opWrite s) := fun p hc hq hz => by
  obtain ⟨h1, h2, h3, h4, h5⟩ := checkP_ok hc
  unfold opWrite at hq hz ⊢
  split at hq
  · rename_i ha
    rw [if_pos ha]
    exact hc
  · rename_i ha
    split at hq
    · cases hq
    · rename_i hb
      split at hq
      · cases hq
      · rename_i hd
        rw [if_neg ha, if_neg hb, if_neg hd] at hz ⊢
        refine checkP_mk h1 h2 h3 h4 ?_
        simp only [ByteArray.size_append, ByteArray.size_extract, writeN, if_neg ha]
        omega
theorem good_join (b : Bool) : GoodP (opJoin b) := fun p hc hq hz => by
  obtain ⟨h1, h2, h3, h4, h5⟩ := checkP_ok hc
  unfold opJoin at hq hz ⊢
  cases b with
  | true =>
    simp only [if_true] at hq hz ⊢
    split at hq
    · cases hq
    · rename_i ha
      split at hq
      · cases hq
      · rename_i hb
        rw [if_neg ha, if_neg hb] at hz ⊢
        exact checkP_mk h1 h2 (by dsimp only; omega) hz h5
  | false =>
    simp only [Bool.false_eq_true, if_false] at hq hz ⊢
    split at hq
    · cases hq
    · rename_i ha
      split at hq
      · cases hq
      · rename_i hb
        rw [if_neg ha, if_neg hb] at hz ⊢
        exact checkP_mk h1 (by dsimp only; omega) h3 hz h5
theorem good_leave (b : Bool) : GoodP (opLeave b) := fun p hc hq hz => by
  obtain ⟨h1, h2, h3, h4, h5⟩ := checkP_ok hc
  unfold opLeave at hq hz ⊢
  cases b with
  | true =>
    simp only [if_true] at hq hz ⊢
    split at hq
    · cases hq
    · rename_i ha
      rw [if_neg ha] at hz ⊢
      exact checkP_mk h1 h2 (by dsimp only; omega) hz h5
  | false =>
    simp only [Bool.false_eq_true, if_false] at hq hz ⊢
    split at hq
    · cases hq
    · rename_i ha
      rw [if_neg ha] at hz ⊢
      exact checkP_mk h1 (by dsimp only; omega) h3 hz h5

/-- The view at b, made after w0, holds the pipe; the blocks of G are not the view's. -/
structure SP (w0 w : World) (b N : Nat) (o : Option PipeT) (G : Nat → Prop) : Prop where
  ex : ∃ V h, ViewAt w h V ∧ h.b = b ∧ w0.heap.size ≤ h.bs ∧ HoldsP V N o ∧ ∀ k, G k → ¬ h.fp k ∧ k < w.heap.size ∧ h.bs ≤ k
  below : Below w0.heap.size w0 w
def SPP (w0 : World) (b N : Nat) (o : Option PipeT) (G : Nat → Prop) (w : World) (v : Value) (r : Ending) (w' : World) : Prop :=
  r = .returned v ∧ SP w0 w' b N o G ∧ ∀ k, G k → w'.heap[k]? = w.heap[k]?
theorem sp_post {w0 w w' : World} {b N : Nat} {o : Option PipeT} {G : Nat → Prop} {V V' : AV} {h h' : VH} (hv : ViewAt w h V) (hb : h.b = b) (hbs : w0.heap.size ≤ h.bs) (hG : ∀ k, G k → ¬ h.fp k ∧ k < w.heap.size ∧ h.bs ≤ k) (hlow : Below w0.heap.size w0 w) (hp : VQ h (fun _ => False) w V' w' h') (hh : HoldsP V' N o) :
    SP w0 w' b N o G ∧ ∀ k, G k → w'.heap[k]? = w.heap[k]? := by
  refine ⟨⟨⟨V', h', hp.at_, hp.b.trans hb, by rw [hp.bs]; exact hbs, hh, fun k hk => ⟨fun hf => ?_, Nat.lt_of_lt_of_le (hG k hk).2.1 hp.kept.size, by rw [hp.bs]; exact (hG k hk).2.2⟩⟩, ?_⟩, fun k hk => hp.kept.block k (hG k hk).2.1 (fun hf => ?_)⟩
  · rcases hp.fp k hf with h1 | h1
    · exact (hG k hk).1 h1
    · have := (hG k hk).2.1; omega
  · refine hlow.trans (hp.kept.below (Nat.le_trans hbs hv.top) (fun k hk => ?_))
    rcases hk with h1 | h1
    · exact Nat.le_trans hbs (hv.lo k h1)
    · exact h1.elim
  · rcases hf with h1 | h1
    · exact (hG k hk).1 h1
    · exact h1
theorem SP.later {w0 w w' : World} {b N : Nat} {o : Option PipeT} {G : Nat → Prop} (s : SP w0 w b N o G) (hb : Below w.heap.size w w') : SP w0 w' b N o G := by
  obtain ⟨⟨V, h, hv, h1, h2, h3, h4⟩, h5⟩ := s
  exact ⟨⟨V, h, hv.later hb, h1, h2, h3, fun k hk => ⟨(h4 k hk).1, Nat.lt_of_lt_of_le (h4 k hk).2.1 hb.size, (h4 k hk).2.2⟩⟩, h5.trans (hb.mono h5.size)⟩
theorem SP.fresh {w0 w w' : World} {b N : Nat} {o : Option PipeT} {G G' : Nat → Prop} (s : SP w0 w b N o G) (hb : Below w.heap.size w w') (hG : ∀ k, G' k → G k ∨ (w.heap.size ≤ k ∧ k < w'.heap.size)) : SP w0 w' b N o G' := by
  obtain ⟨⟨V, h, hv, h1, h2, h3, h4⟩, h5⟩ := s
  refine ⟨⟨V, h, hv.later hb, h1, h2, h3, fun k hk => ?_⟩, h5.trans (hb.mono h5.size)⟩
  rcases hG k hk with h | h
  · exact ⟨(h4 k h).1, Nat.lt_of_lt_of_le (h4 k h).2.1 hb.size, (h4 k h).2.2⟩
  · exact ⟨fun hf => by have := hv.fp_lt hf; omega, h.2, Nat.le_trans hv.top h.1⟩
theorem SP.guarded {w0 w w' : World} {b N : Nat} {o : Option PipeT} {G G' : Nat → Prop} (s : SP w0 w b N o G) (hk : Kept G w w') (hG : ∀ k, G' k → G k ∨ (w.heap.size ≤ k ∧ k < w'.heap.size)) : SP w0 w' b N o G' := by
  obtain ⟨⟨V, h, hv, h1, h2, h3, h4⟩, h5⟩ := s
  refine ⟨⟨V, h, hv.kept (hk.below hv.top (fun k hs => (h4 k hs).2.2)) (fun k hf => hk.block k (hv.fp_lt hf) (fun hs => (h4 k hs).1 hf)), h1, h2, h3, fun k hs => ?_⟩, h5.trans (hk.below h5.size (fun k hs => Nat.le_trans h2 (h4 k hs).2.2))⟩
  rcases hG k hs with h | h
  · exact ⟨(h4 k h).1, Nat.lt_of_lt_of_le (h4 k h).2.1 hk.size, (h4 k h).2.2⟩
  · exact ⟨fun hf => by have := hv.fp_lt hf; omega, h.2, Nat.le_trans hv.top h.1⟩
theorem SP.check {w0 w : World} {b N : Nat} {p : PipeT} {G : Nat → Prop} (s : SP w0 w b N (some p) G) : checkP p = 0 := by
  obtain ⟨⟨V, h, hv, h1, h2, h3, h4⟩, h5⟩ := s
  exact (h3.yes p rfl).2

def oneV : Value := .agg #[.string ⟨#[51, 46, 49]⟩, .int .i64 2]
section
variable (w0 w : World) (b N : Nat) (o : Option PipeT) (G : Nat → Prop) (e : Int) (s : SP w0 w b N o G) (hN : N < 1000000) (he : pEpochB e = true)
include s hN he
theorem spLeave (x : Bool) (o' : Option PipeT) (q d : Nat) (hst : pStep (opLeave x) e o = (o', q, d)) :
    Calls Tryz.prog 36 #[.pointer (some ⟨b, 0, none⟩), .agg #[.string ⟨#[51, 46, 49]⟩, .int .i64 2], .int .i64 e, .bool x] w (SPP w0 b (N + d) o' G w (.int .i64 q)) := by
  obtain ⟨⟨V, h, hv, rfl, h2, h3, h4⟩, h5⟩ := s
  refine (pLeave_any h V oneM 2 e x w hv (h3.ready hN)).mono ?_
  rintro r w' ⟨h', rfl, hp⟩
  have hs := h3.step (good_leave x) he
  rw [hst] at hs
  rw [hs.1]
  exact ⟨rfl, sp_post hv rfl h2 h4 h5 hp hs.2⟩
theorem spJoin (x : Bool) (o' : Option PipeT) (q d : Nat) (hst : pStep (opJoin x) e o = (o', q, d)) :
    Calls Tryz.prog 35 #[.pointer (some ⟨b, 0, none⟩), .agg #[.string ⟨#[51, 46, 49]⟩, .int .i64 2], .int .i64 e, .bool x] w (SPP w0 b (N + d) o' G w (.int .i64 q)) := by
  obtain ⟨⟨V, h, hv, rfl, h2, h3, h4⟩, h5⟩ := s
  refine (pJoin_any h V oneM 2 e x w hv (h3.ready hN)).mono ?_
  rintro r w' ⟨h', rfl, hp⟩
  have hs := h3.step (good_join x) he
  rw [hst] at hs
  rw [hs.1]
  exact ⟨rfl, sp_post hv rfl h2 h4 h5 hp hs.2⟩
theorem spRead (most : Int) (hm : most ≤ 9223372036854775807) (o' : Option PipeT) (q d : Nat) (hst : pStep (opRead most) e o = (o', q, d)) (x : ByteArray) (hx : (if q = 0 then readB most (pHas e o).1 else ⟨#[]⟩) = x) :
    Calls Tryz.prog 32 #[.pointer (some ⟨b, 0, none⟩), .agg #[.string ⟨#[51, 46, 49]⟩, .int .i64 2], .int .i64 e, .int .i64 most] w (SPP w0 b (N + d) o' G w (.tuple #[.string x, .int .i64 q])) := by
  obtain ⟨⟨V, h, hv, rfl, h2, h3, h4⟩, h5⟩ := s
  refine (pRead_any h V oneM 2 e most w hv (h3.ready hN) hm).mono ?_
  rintro r w' ⟨h', rfl, hp⟩
  have hs := h3.step (good_read most) he
  rw [hst] at hs
  have hb : pReadB most V oneM 2 e = x := by unfold pReadB; rw [hs.1, h3.getV he]; exact hx
  rw [hs.1, hb]
  exact ⟨rfl, sp_post hv rfl h2 h4 h5 hp hs.2⟩
theorem spWrite (t : ByteArray) (ht : t.size ≤ 9223372036854775807) (o' : Option PipeT) (q d : Nat) (hst : pStep (opWrite t) e o = (o', q, d)) (n : Nat) (hx : (if q = 0 then writeN t (pHas e o).1 else 0) = n) :
    Calls Tryz.prog 34 #[.pointer (some ⟨b, 0, none⟩), .agg #[.string ⟨#[51, 46, 49]⟩, .int .i64 2], .int .i64 e, .string t] w (SPP w0 b (N + d) o' G w (.tuple #[.int .i64 n, .int .i64 q])) := by
  obtain ⟨⟨V, h, hv, rfl, h2, h3, h4⟩, h5⟩ := s
  refine (pWrite_any h V oneM 2 e t w hv (h3.ready hN) ht).mono ?_
  rintro r w' ⟨h', rfl, hp⟩
  have hs := h3.step (good_write t) he
  rw [hst] at hs
  have hb : pWriteN t V oneM 2 e = n := by unfold pWriteN; rw [hs.1, h3.getV he]; exact hx
  rw [hs.1, hb]
  exact ⟨rfl, sp_post hv rfl h2 h4 h5 hp hs.2⟩
omit hN in
theorem spGet (p : PipeT) (q : Nat) (hst : pHas e o = (p, q)) :
    Calls Tryz.prog 30 #[.pointer (some ⟨b, 0, none⟩), .agg #[.string ⟨#[51, 46, 49]⟩, .int .i64 2], .int .i64 e] w (SPP w0 b N o G w (.tuple #[pipeV p, .int .i64 q])) := by
  obtain ⟨⟨V, h, hv, rfl, h2, h3, h4⟩, h5⟩ := s
  refine (pGet_any h V oneM 2 e w hv one_size h3.size).mono ?_
  rintro r w' ⟨h', rfl, hp⟩
  rw [h3.getV he, hst]
  have hs : pSeen V oneM 2 e = avSeen V (ofPipe oneM 2) := by unfold pSeen; rw [one_args he, if_neg (by simp)]
  rw [hs] at hp
  exact ⟨rfl, sp_post hv rfl h2 h4 h5 hp h3.seen⟩
theorem spMake (o' : Option PipeT) (q d : Nat) (hst : (if o.isSome = true then (o, 13, 0) else (some ⟨e, 1, 1, ⟨#[]⟩⟩, 0, 1)) = (o', q, d)) :
    Calls Tryz.prog 31 #[.pointer (some ⟨b, 0, none⟩), .agg #[.string ⟨#[51, 46, 49]⟩, .int .i64 2], .int .i64 e] w (SPP w0 b (N + d) o' G w (.int .i64 q)) := by
  obtain ⟨⟨V, h, hv, rfl, h2, h3, h4⟩, h5⟩ := s
  refine (pMake_any h V oneM 2 e w hv (h3.ready hN)).mono ?_
  rintro r w' ⟨h', rfl, hp⟩
  unfold pMake at hp ⊢
  rw [one_args he, if_neg (by simp)] at hp ⊢
  cases o with
  | none =>
    have h6 : ¬ (avGet V (ofPipe oneM 2)).2 = true := by rw [h3.no rfl]; simp
    rw [if_neg h6] at hp ⊢
    cases hst
    have hen : encP ⟨e, 1, 1, ⟨#[]⟩⟩ = (strOf (encPB ⟨e, 1, 1, ⟨#[]⟩⟩), 0) := by unfold encP; rw [if_pos (make_ok he)]
    rw [hen] at hp
    exact ⟨rfl, sp_post hv rfl h2 h4 h5 hp (h3.set (make_ok he))⟩
  | some p =>
    have h6 : (avGet V (ofPipe oneM 2)).2 = true := by rw [(h3.yes p rfl).1]
    rw [if_pos h6] at hp ⊢
    cases hst
    exact ⟨rfl, sp_post hv rfl h2 h4 h5 hp h3.seen⟩
end
theorem spMark (w0 w : World) (b N : Nat) (o : Option PipeT) (G : Nat → Prop) (s : SP w0 w b N o G) :
    Calls Tryz.prog 114 #[.pointer (some ⟨b, 0, none⟩)] w fun r w' => r = .returned (.int .i64 N) ∧ w = w' := by
  obtain ⟨⟨V, h, hv, rfl, h2, h3, h4⟩, h5⟩ := s
  refine (vMark_any h V w hv).mono ?_
  rintro r w' ⟨rfl, rfl⟩
  rw [h3.len]
  exact ⟨rfl, rfl⟩
theorem spHas (w0 w : World) (b N : Nat) (o : Option PipeT) (G : Nat → Prop) (s : SP w0 w b N o G) :
    Calls Tryz.prog 83 #[.pointer (some ⟨b, 0, none⟩), .agg #[.int .i64 11, .string ⟨#[51, 46, 49]⟩, .int .i64 2, .int .i64 0, .string ⟨#[]⟩]] w (SPP w0 b N o G w (.bool o.isSome)) := by
  obtain ⟨⟨V, h, hv, rfl, h2, h3, h4⟩, h5⟩ := s
  refine (vHas_any h V (ofPipe oneM 2) w hv (nameOk_pipe one_valid one_size (by decide) (by decide))).mono ?_
  rintro r w' ⟨rfl, hp⟩
  obtain ⟨h', hp⟩ := hp.vq
  have hb : (avGet V (ofPipe oneM 2)).2 = o.isSome := by
    cases o with
    | none => rw [h3.no rfl]; rfl
    | some p => rw [(h3.yes p rfl).1]; rfl
  rw [hb]
  exact ⟨rfl, sp_post hv rfl h2 h4 h5 hp h3.seen⟩
/-- A new view: there is no pipe. -/
theorem spNew (w : World) (hu : Usages w) :
    Calls Tryz.prog 12 #[] w fun r w1 => r = .returned (.pointer (some ⟨w.heap.size, 0, none⟩)) ∧ Calls Tryz.prog 17 #[.pointer (some ⟨w.heap.size, 0, none⟩)] w1 fun r w2 => r = .returned (.pointer (some ⟨w.heap.size + 3, 0, none⟩)) ∧ SP w w2 (w.heap.size + 3) 0 none (fun _ => False) := by
  refine (stateNew_any w).mono ?_
  rintro r w1 ⟨rfl, rfl⟩
  refine ⟨rfl, ?_⟩
  have hb1 : Below w.heap.size w (w.alloc (.cells #[.pointer none] 117)) := (Below.refl _ _).alloc (Nat.le_refl _) _
  have hbase : BaseOk (w.alloc (.cells #[.pointer none] 117)).heap.size (w.alloc (.cells #[.pointer none] 117)) w.heap.size (fun _ => none) := baseOk_empty w
  refine (viewNew_any w.heap.size (fun _ => none) _ (hu.below hb1 hu.pos) hbase).mono ?_
  rintro r w2 ⟨rfl, hb2, hv⟩
  have hsz : (w.alloc (.cells #[.pointer none] 117)).heap.size = w.heap.size + 1 := by simp
  refine ⟨by rw [hsz], ⟨⟨_, _, hv, by rw [hsz], by rw [hsz]; exact Nat.le_succ _, ?_, fun k hk => hk.elim⟩, hb1.trans (hb2.mono (by simp))⟩⟩
  exact ⟨rfl, Nat.zero_le _, fun _ => rfl, fun p e => by cases e⟩
set_option maxRecDepth 100000 in
theorem one_any (w : World) : Calls Tryz.prog 28 #[] w fun r w' => r = .returned (.agg #[.string ⟨#[51, 46, 49]⟩, .int .i64 2]) ∧ Below w.heap.size w w' := by
  go_enter Tryz.func28, Tryz.ntmps28
  go_wp2
  exact bodyPost_ret (v := .agg #[.string ⟨#[51, 46, 49]⟩, .int .i64 2]) (by simp [results, Tryz.results28, go_sem]) rfl ⟨rfl, (Below.refl _ _).alloc (Nat.le_refl _) _⟩

end Go.Proofs.YtemmeopaihmlcaaGreatDoor
