/- Law 31: the operations at the process "1" whose table is known; file. (printed by wip/gen_dscs.py) -/
import Derived.Test.YtfchfjipkggnkaaDoorDscP
import Derived.Test.YtfchfjipkggnkaaDoorDscR
namespace Go.Proofs.YtfchfjipkggnkaaDoor
open Go.RowKit

theorem valid_K : validB ⟨#[49]⟩ = true := by decide +kernel
theorem size_K : (⟨#[49]⟩ : ByteArray).size ≤ 70368744177664 := by decide
def fileO (n : Int) : OpnT := ⟨1, ⟨#[49]⟩, n, 0, 0, true, false, false⟩
theorem check_file {n : Int} (h0 : 0 ≤ n) (h1 : n ≤ 1073741824) : checkO (fileO n) = 0 := by
  unfold checkO fileO
  dsimp only
  rw [if_neg (by omega), if_neg (by simp [formedO]), if_neg (by omega), if_pos (.inl rfl)]
  unfold birthO
  rw [valid_K, if_neg (by decide), if_pos ⟨h0, h1⟩]
def stepD (f : List OpnT → ResD × ChD) (t : List OpnT) : Option (List OpnT) := match (f t).2 with
  | none => some t
  | some c => c
theorem hasD_step {V : AV} {who : ByteArray} {t : List OpnT} {f : List OpnT → ResD × ChD} (hv : validB who = true) (h : HasD V who (some t)) (hg : GoodF f) : ((dOne who f).run V).2 = (f t).1 ∧ HasD ((dOne who f).run V).1 who (stepD f t) ∧ ((dOne who f).run V).1.calls.length ≤ V.calls.length + 1 := by
  have hg' := hg t h.2.1 h.2.2
  have e : (dOne who f).run V = putR (avSeen V (ofTab who)) who (f t) := dOne_has hv h f
  rw [e]
  unfold stepD
  obtain ⟨⟨r, c⟩, hf⟩ : ∃ p, f t = p := ⟨_, rfl⟩
  rw [hf] at hg' ⊢
  cases c with
  | none => exact ⟨rfl, h.same (avSeen_get _ _ _), by show (avSeen V _).calls.length ≤ _; rw [avSeen_cal]; omega⟩
  | some c => exact ⟨rfl, HasD.put (fun t' e => hg' t' (by rw [e])), by show ((avSeen V _).calls ++ [_]).length ≤ _; rw [avSeen_cal]; simp⟩
/-- A view in which the table of "1" is known. -/
def KV (w0 w : World) (b M : Nat) (G : Nat → Prop) (k : Nat) (t : Option (List OpnT)) : Prop := ∃ V, QM w0 w b M V G ∧ HasD V ⟨#[49]⟩ t ∧ V.calls.length ≤ k
def KP (w0 : World) (b M : Nat) (G : Nat → Prop) (k : Nat) (t : Option (List OpnT)) (w : World) (v : Value) (r : Ending) (w' : World) : Prop := r = .returned v ∧ KV w0 w' b M G k t ∧ ∀ j, G j → w'.heap[j]? = w.heap[j]?
section
variable {w0 w w' : World} {b M k : Nat} {G G' : Nat → Prop} {t : List OpnT} {u : Option (List OpnT)}
theorem KV.later (h : KV w0 w b M G k u) (hb : Below w.heap.size w w') : KV w0 w' b M G k u := by
  obtain ⟨V, s, h1, h2⟩ := h
  exact ⟨V, s.later hb, h1, h2⟩
theorem KV.fresh (h : KV w0 w b M G k u) (hb : Below w.heap.size w w') (hG : ∀ k, G' k → G k ∨ (w.heap.size ≤ k ∧ k < w'.heap.size)) : KV w0 w' b M G' k u := by
  obtain ⟨V, s, h1, h2⟩ := h
  exact ⟨V, s.fresh hb hG, h1, h2⟩
theorem KV.below (h : KV w0 w b M G k u) : Below w0.heap.size w0 w := by
  obtain ⟨V, s, -, -⟩ := h
  exact s.below
theorem KV.glt (h : KV w0 w b M G k u) {j : Nat} (hj : G j) : j < w.heap.size := by
  obtain ⟨V, s, -, -⟩ := h
  exact s.glt hj
theorem kMake (h : KV w0 w b M G k none) (hk : k < 999999) : Calls Tryd.prog 17 #[.pointer (some ⟨b, 0, none⟩), .string ⟨#[49]⟩] w (KP w0 b M G (k + 1) (some zeroTab) w (.int .i64 0)) := by
  obtain ⟨V, s, h, hl⟩ := h
  refine (qdMake s ⟨#[49]⟩ size_K (by omega)).mono ?_
  rintro r w' ⟨rfl, s', hk⟩
  have e : (dMake ⟨#[49]⟩).run V = (addV (avSeen V (ofTab ⟨#[49]⟩)) (chgD ⟨#[49]⟩ (some zeroTab)), errD 0) := by
    have h' : (avGet V (ofTab ⟨#[49]⟩)).2 = false := h
    rw [dMake_run, if_neg (by rw [valid_K]; decide), if_neg (by rw [h']; decide)]
  rw [e] at s' ⊢
  exact ⟨rfl, ⟨_, s', HasD.put (fun t' e => by cases e; exact ⟨tabE_zeroTab, zeroTab_len⟩), by show ((avSeen V _).calls ++ [_]).length ≤ _; rw [avSeen_cal]; simp; omega⟩, hk⟩
theorem kGet (h : KV w0 w b M G k (some t)) (fd : Int) : Calls Tryd.prog 24 #[.pointer (some ⟨b, 0, none⟩), .string ⟨#[49]⟩, .int .i64 fd] w (KP w0 b M G (k + 1) (stepD (getF fd) t) w (.tuple #[opnA (getF fd t).1.O, .int .i64 (getF fd t).1.E])) := by
  obtain ⟨V, s, h, hl⟩ := h
  refine (qdGet s ⟨#[49]⟩ size_K fd).mono ?_
  rintro r w' ⟨rfl, s', hk⟩
  obtain ⟨e1, e2, e3⟩ := hasD_step valid_K h (good_get fd)
  rw [e1]
  exact ⟨rfl, ⟨_, s', e2, by omega⟩, hk⟩
theorem kClose (h : KV w0 w b M G k (some t)) (hk : k < 999999) (fd : Int) : Calls Tryd.prog 21 #[.pointer (some ⟨b, 0, none⟩), .string ⟨#[49]⟩, .int .i64 fd] w (KP w0 b M G (k + 1) (stepD (closeF fd) t) w (.tuple #[opnA (closeF fd t).1.O, .int .i64 (closeF fd t).1.E])) := by
  obtain ⟨V, s, h, hl⟩ := h
  refine (qdClose s ⟨#[49]⟩ size_K fd (by omega)).mono ?_
  rintro r w' ⟨rfl, s', hk⟩
  obtain ⟨e1, e2, e3⟩ := hasD_step valid_K h (good_close fd)
  rw [e1]
  exact ⟨rfl, ⟨_, s', e2, by omega⟩, hk⟩
theorem kSeek (h : KV w0 w b M G k (some t)) (hk : k < 999999) (fd d : Int) : Calls Tryd.prog 22 #[.pointer (some ⟨b, 0, none⟩), .string ⟨#[49]⟩, .int .i64 fd, .int .i64 d] w (KP w0 b M G (k + 1) (stepD (moveF fd (fun _ => d)) t) w (.int .i64 (moveF fd (fun _ => d) t).1.E)) := by
  obtain ⟨V, s, h, hl⟩ := h
  refine (qdSeek s ⟨#[49]⟩ size_K fd d (by omega)).mono ?_
  rintro r w' ⟨rfl, s', hk⟩
  obtain ⟨e1, e2, e3⟩ := hasD_step valid_K h (good_move fd _)
  rw [e1]
  exact ⟨rfl, ⟨_, s', e2, by omega⟩, hk⟩
theorem kAdvance (h : KV w0 w b M G k (some t)) (hk : k < 999999) (fd d : Int) (hd : -9223372036854775808 ≤ d ∧ d ≤ 9223372036854775807) : Calls Tryd.prog 23 #[.pointer (some ⟨b, 0, none⟩), .string ⟨#[49]⟩, .int .i64 fd, .int .i64 d] w (KP w0 b M G (k + 1) (stepD (moveF fd (advG d)) t) w (.int .i64 (moveF fd (advG d) t).1.E)) := by
  obtain ⟨V, s, h, hl⟩ := h
  refine (qdAdvance s ⟨#[49]⟩ size_K fd d hd (by omega)).mono ?_
  rintro r w' ⟨rfl, s', hk⟩
  obtain ⟨e1, e2, e3⟩ := hasD_step valid_K h (good_move fd _)
  rw [e1]
  exact ⟨rfl, ⟨_, s', e2, by omega⟩, hk⟩
theorem kAdd (h : KV w0 w b M G k (some t)) (hk : k < 999999) (n : Int) (h0 : 0 ≤ n) (h1 : n ≤ 1073741824) : Calls Tryd.prog 18 #[.pointer (some ⟨b, 0, none⟩), .string ⟨#[49]⟩, .agg #[.int .i64 1, .string ⟨#[49]⟩, .int .i64 n, .int .i64 0, .int .i64 0, .bool true, .bool false, .bool false]] w (KP w0 b M G (k + 1) (stepD (addF (fileO n)) t) w (.tuple #[.int .i64 (addF (fileO n) t).1.N, .int .i64 (addF (fileO n) t).1.E])) := by
  obtain ⟨V, s, h, hl⟩ := h
  refine (qdAdd s ⟨#[49]⟩ size_K 1 ⟨#[49]⟩ n 0 0 true false false size_K (by omega)).mono ?_
  rintro r w' ⟨rfl, s', hk⟩
  have hc := check_file h0 h1
  have e : dAdd ⟨#[49]⟩ ⟨1, ⟨#[49]⟩, n, 0, 0, true, false, false⟩ = dOne ⟨#[49]⟩ (addF (fileO n)) := if_neg (by rw [show (⟨1, ⟨#[49]⟩, n, 0, 0, true, false, false⟩ : OpnT) = fileO n from rfl, hc]; decide)
  rw [e] at s' ⊢
  obtain ⟨e1, e2, e3⟩ := hasD_step valid_K h (good_add hc)
  rw [e1]
  exact ⟨rfl, ⟨_, s', e2, by omega⟩, hk⟩
theorem KP.is {v v' : Value} {u' : Option (List OpnT)} {r : Ending} (h : KP w0 b M G k u w v r w') (hv : v = v') (hu : u = u') : KP w0 b M G k u' w v' r w' := by subst hv hu; exact h
set_option maxRecDepth 100000 in
theorem file_any (n : Int) (w : World) : Calls Tryd.prog 19 #[.int .i64 n] w fun r w' => r = .returned (.agg #[.int .i64 1, .string ⟨#[49]⟩, .int .i64 n, .int .i64 0, .int .i64 0, .bool true, .bool false, .bool false]) ∧ Below w.heap.size w w' := by
  have HB : Hid (∀ v t, Below w.heap.size w (w.alloc (.cells v t))) := fun v t => (Below.refl _ _).alloc (Nat.le_refl _) _
  go_enter Tryd.func19, Tryd.ntmps19
  have hX := World.alloc_heap_new w (.cells #[.int .i64 1, .string ⟨#[49]⟩, .int .i64 n, .int .i64 0, .int .i64 0, .bool true, .bool false, .bool false] 26)
  go_wp2
  refine bodyPost_ret (v := .agg #[.int .i64 1, .string ⟨#[49]⟩, .int .i64 n, .int .i64 0, .int .i64 0, .bool true, .bool false, .bool false]) (results_cell_row rfl _ _ w.heap.size _ _ _ _ (by rfl) hX Tryd.underlying26 rfl infoOpn) rfl ?_
  exact ⟨rfl, HB.out _ _⟩
/-- A new view of the empty state. -/
theorem kEmpty (w : World) (hu : Usages w) :
    Calls Tryd.prog 16 #[] w fun r w1 => r = .returned (.pointer (some ⟨w.heap.size, 0, none⟩)) ∧ Calls Tryd.prog 15 #[.pointer (some ⟨w.heap.size, 0, none⟩)] w1 fun r w2 => r = .returned (.pointer (some ⟨w.heap.size + 3, 0, none⟩)) ∧ KV w w2 (w.heap.size + 3) 0 (fun _ => False) 0 none := by
  refine (stateNew_any w).mono ?_
  rintro r w1 ⟨rfl, rfl⟩
  refine ⟨rfl, ?_⟩
  have hb1 : Below w.heap.size w (w.alloc (.cells #[.pointer none] 89)) := (Below.refl _ _).alloc (Nat.le_refl _) _
  have hbn := baseN_empty w
  have hsz : (w.alloc (.cells #[.pointer none] 89)).heap.size = w.heap.size + 1 := by simp
  refine (qmNew (w0 := w) (hu.below hb1 hu.pos) hb1 hbn).mono ?_
  rintro r w2 ⟨rfl, s, -⟩
  rw [hsz] at s
  exact ⟨by rw [hsz], ⟨_, s, rfl, Nat.le_refl _⟩⟩
end
end Go.Proofs.YtfchfjipkggnkaaDoor
