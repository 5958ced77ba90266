/- PipeValues: the walk. -/
import Derived.Test.YtmknhokjpmjkkaaDoorRefH
import Derived.Test.YtmknhokjpmjkkaaDoorPipK
import Derived.BigQuiet
namespace Go.Proofs.YtmknhokjpmjkkaaDoor
open Go.RowKit
attribute [local go_sem ↓] Go.wp_at_zero Go.wp_at_succ
attribute [local go_sem ↓] run_eql_pipe

set_option maxRecDepth 100000 in
set_option maxHeartbeats 1000000 in
theorem to_any (ep re wr : Int) (by_ : ByteArray) (w : World) :
    Calls Tryd.prog 46 #[.agg #[.int .i64 ep, .int .i64 re, .int .i64 wr, .string by_]] w fun r w' => r = .returned (.agg #[.int .i64 ep, .int .i64 re, .int .i64 wr, .string by_]) ∧ Below w.heap.size w w' := by
  go_enter Tryd.func46, Tryd.ntmps46
  go_wp2
  refine bodyPost_ret (v := .agg #[.int .i64 ep, .int .i64 re, .int .i64 wr, .string by_]) (by simp [results, Tryd.results46, go_sem]) rfl ⟨rfl, ?_⟩
  exact ((Below.refl _ _).alloc (Nat.le_refl _) _).alloc (by simp) _

/-- The boxes of three pipes. -/
def Three (w : World) (X Q R : Nat) (TR : TypeId) (p q r : PipeT) : Prop :=
  w.heap[X]? = some (.cells (pCells p) 71 (0, 0)) ∧ w.heap[Q]? = some (.cells (pCells q) 73 (0, 0)) ∧ w.heap[R]? = some (.cells (pCells r) TR (0, 0))
theorem Three.later {w w' : World} {X Q R : Nat} {TR : TypeId} {p q r : PipeT} (h : Three w X Q R TR p q r) (hb : Below w.heap.size w w') : Three w' X Q R TR p q r :=
  ⟨(hb.block _ (lt_of_heap h.1)).trans h.1, (hb.block _ (lt_of_heap h.2.1)).trans h.2.1, (hb.block _ (lt_of_heap h.2.2)).trans h.2.2⟩
theorem Three.drew {w : World} {X Q R : Nat} {TR : TypeId} {p q r : PipeT} (h : Three w X Q R TR p q r) : Three w.drew X Q R TR p q r := h
def C4 (w : World) (X : Nat) (p : PipeT) : Prop := w.cell? ⟨X, 0, none⟩ = some (.int .i64 p.epoch) ∧ w.cell? ⟨X, 1, none⟩ = some (.int .i64 p.readers) ∧ w.cell? ⟨X, 2, none⟩ = some (.int .i64 p.writers) ∧ w.cell? ⟨X, 3, none⟩ = some (.string p.bytes)
theorem c4_of {w : World} {X : Nat} {T : TypeId} {p : PipeT} (h : w.heap[X]? = some (.cells (pCells p) T (0, 0))) : C4 w X p := ⟨cell_of_heap h 0, cell_of_heap h 1, cell_of_heap h 2, cell_of_heap h 3⟩

set_option maxRecDepth 100000 in
set_option maxHeartbeats 2000000 in
theorem values_any (ep re wr : Int) (by_ s : ByteArray) (w : World) (hby : by_.size ≤ 9223372036854775807) (hs : s.size ≤ 9223372036854775807) (hu : Usages w) :
    Calls Tryd.prog 8 #[.agg #[.int .i64 ep, .int .i64 re, .int .i64 wr, .string by_], .string s] w (TruePost w) := by
  have Hu := Lib.hid hu; clear hu
  have Ha : Hid (∀ o, Below w.heap.size w (w.alloc o)) := fun o => (Below.refl _ _).alloc (Nat.le_refl _) _
  have HX : Hid (∀ o, (w.alloc o).heap[w.heap.size]? = some o) := fun o => heap_alloc_new w o
  go_enter Tryd.func8, Tryd.ntmps8
  go_wp2_with fail
  refine (pKnown_any _ (Hu.out.below (Ha.out _) Hu.out.pos)).mono ?_
  rintro e w1 ⟨rfl, hb⟩
  have HX1 := Lib.hid ((hb.block _ (lt_of_heap (HX.out _))).trans (HX.out _))
  have HB1 : Hid (Below w.heap.size w w1) := (Ha.out _).trans (hb.mono (Ha.out _).size)
  clear hb HX Ha
  have x3 : w1.cell? ⟨w.heap.size, 3, none⟩ = some (.string by_) := cell_of_heap HX1.out 3
  by_cases h1 : 400 < by_.size ∨ 400 < s.size
  · have hways : 400 < by_.size ∨ (by_.size ≤ 400 ∧ 400 < s.size) := by omega
    clear h1
    rcases hways with h1 | ⟨h1, h2⟩
    all_goals
      go_wp2_with fail
      refine (pKnown_any _ (Hu.out.below HB1.out Hu.out.pos)).mono ?_
      rintro e w2 ⟨rfl, hb⟩
      have HB2 : Hid (Below w.heap.size w w2) := HB1.out.trans (hb.mono HB1.out.size)
      clear hb
      go_wp2
      go_ret
      exact ⟨rfl, HB2.out⟩
  obtain ⟨h1, h2⟩ : by_.size ≤ 400 ∧ s.size ≤ 400 := by omega
  have x0 : w1.cell? ⟨w.heap.size, 0, none⟩ = some (.int .i64 ep) := cell_of_heap HX1.out 0
  have x1 : w1.cell? ⟨w.heap.size, 1, none⟩ = some (.int .i64 re) := cell_of_heap HX1.out 1
  have x2 : w1.cell? ⟨w.heap.size, 2, none⟩ = some (.int .i64 wr) := cell_of_heap HX1.out 2
  obtain ⟨es, en, hen⟩ : ∃ es en, encP ⟨ep, re, wr, by_⟩ = (es, en) := ⟨_, _, rfl⟩
  have Hen := Lib.hid hen; clear hen
  obtain ⟨de, dr, dw, db, dq, hd⟩ : ∃ de dr dw db dq, decP_ s = (⟨de, dr, dw, db⟩, dq) := ⟨_, _, _, _, _, rfl⟩
  have Hd := Lib.hid hd; clear hd
  go_wp2_with fail
  refine (to_any ep re wr by_ _).mono ?_
  rintro e w2 ⟨rfl, hb⟩
  have HX2 := Lib.hid ((hb.block _ (lt_of_heap HX1.out)).trans HX1.out)
  have HB2 : Hid (Below w.heap.size w w2) := HB1.out.trans (hb.mono HB1.out.size)
  clear hb HX1 HB1 x0 x1 x2 x3
  go_wp2_with fail
  refine (pEncode_any ep re wr by_ _).mono ?_
  rw [Hen.out]
  rintro e w3 ⟨rfl, hb⟩
  have HX3 := Lib.hid ((hb.block _ (lt_of_heap HX2.out)).trans HX2.out)
  have HB3 : Hid (Below w.heap.size w w3) := HB2.out.trans (hb.mono HB2.out.size)
  clear hb HX2 HB2
  have x0 : w3.cell? ⟨w.heap.size, 0, none⟩ = some (.int .i64 ep) := cell_of_heap HX3.out 0
  have x1 : w3.cell? ⟨w.heap.size, 1, none⟩ = some (.int .i64 re) := cell_of_heap HX3.out 1
  have x2 : w3.cell? ⟨w.heap.size, 2, none⟩ = some (.int .i64 wr) := cell_of_heap HX3.out 2
  have x3 : w3.cell? ⟨w.heap.size, 3, none⟩ = some (.string by_) := cell_of_heap HX3.out 3
  go_wp2_with fail
  refine (rfEncode_any ep re wr by_ _).mono ?_
  rw [Hen.out]
  rintro e w4 ⟨rfl, hb⟩
  have HX4 := Lib.hid ((hb.block _ (lt_of_heap HX3.out)).trans HX3.out)
  have HB4 : Hid (Below w.heap.size w w4) := HB3.out.trans (hb.mono HB3.out.size)
  clear hb HX3 HB3 x0 x1 x2 x3
  go_wp2_with fail
  refine (pDecode_any s _ (by omega)).mono ?_
  rw [Hd.out]
  rintro e w5 ⟨rfl, hb⟩
  have HX5 := Lib.hid ((hb.block _ (lt_of_heap HX4.out)).trans HX4.out)
  have HB5 : Hid (Below w.heap.size w w5) := HB4.out.trans (hb.mono HB4.out.size)
  clear hb HX4 HB4
  have HXa : Hid (∀ o, (w5.alloc o).heap[w.heap.size]? = some (.cells (pCells ⟨ep, re, wr, by_⟩) 71 (0, 0))) := fun o => (Below.heap_alloc w5 o _ (lt_of_heap HX5.out)).trans HX5.out
  have HQa : Hid (∀ o, (w5.alloc o).heap[w5.heap.size]? = some o) := fun o => heap_alloc_new w5 o
  have HBa : Hid (∀ o, Below w.heap.size w (w5.alloc o)) := fun o => HB5.out.alloc HB5.out.size _
  dsimp only [pipeV]
  go_wp2_with fail
  refine (rfDecode_any s _ (by omega)).mono ?_
  rw [rDec_is, Hd.out]
  rintro e w6 ⟨rfl, hb⟩
  have HX6 := Lib.hid ((hb.block _ (lt_of_heap (HXa.out _))).trans (HXa.out _))
  have HQ6 := Lib.hid ((hb.block _ (lt_of_heap (HQa.out _))).trans (HQa.out _))
  have HB6 : Hid (Below w.heap.size w w6) := (HBa.out _).trans (hb.mono (HBa.out _).size)
  clear hb HXa HQa HBa HX5 HB5
  have HT : Hid (Three (w6.alloc (.cells #[.int .i64 de, .int .i64 dr, .int .i64 dw, .string db] 71)) w.heap.size w5.heap.size w6.heap.size 71 ⟨ep, re, wr, by_⟩ ⟨de, dr, dw, db⟩ ⟨de, dr, dw, db⟩) :=
    ⟨(Below.heap_alloc w6 _ _ (lt_of_heap HX6.out)).trans HX6.out, (Below.heap_alloc w6 _ _ (lt_of_heap HQ6.out)).trans HQ6.out, heap_alloc_new w6 _⟩
  have HB7 : Hid (Below w.heap.size w (w6.alloc (.cells #[.int .i64 de, .int .i64 dr, .int .i64 dw, .string db] 71))) := HB6.out.alloc HB6.out.size _
  clear HX6 HQ6 HB6
  dsimp only [pipeV]
  go_upto_region 7 with fail
  generalize hR : w6.heap.size = R at *
  generalize w6.alloc (.cells #[.int .i64 de, .int .i64 dr, .int .i64 dw, .string db] 71) = W7 at *
  clear hR
  obtain ⟨⟨k0, k1, k2, k3⟩, ⟨k4, k5, k6, k7⟩, ⟨k8, k9, k10, k11⟩⟩ : C4 W7 w.heap.size ⟨ep, re, wr, by_⟩ ∧ C4 W7 w5.heap.size ⟨de, dr, dw, db⟩ ∧ C4 W7 R ⟨de, dr, dw, db⟩ := ⟨c4_of HT.out.1, c4_of HT.out.2.1, c4_of HT.out.2.2⟩
  dsimp only at k0 k1 k2 k3 k4 k5 k6 k7 k8 k9 k10 k11
  have HckP : Hid (∃ q, checkP ⟨ep, re, wr, by_⟩ = q) := ⟨_, rfl⟩
  obtain ⟨cq, hcq⟩ := HckP.out
  have Hcq := Lib.hid hcq; clear hcq HckP
  have hcmp : samePB ⟨de, dr, dw, db⟩ ⟨de, dr, dw, db⟩ = true := decide_eq_true rfl
  have twelve : Hid (∀ W', Three W' w.heap.size w5.heap.size R 71 ⟨ep, re, wr, by_⟩ ⟨de, dr, dw, db⟩ ⟨de, dr, dw, db⟩ → (W'.cell? ⟨w.heap.size, 0, none⟩ = some (.int .i64 ep) ∧ W'.cell? ⟨w.heap.size, 1, none⟩ = some (.int .i64 re) ∧ W'.cell? ⟨w.heap.size, 2, none⟩ = some (.int .i64 wr) ∧ W'.cell? ⟨w.heap.size, 3, none⟩ = some (.string by_) ∧ W'.cell? ⟨w5.heap.size, 0, none⟩ = some (.int .i64 de) ∧ W'.cell? ⟨w5.heap.size, 1, none⟩ = some (.int .i64 dr) ∧ W'.cell? ⟨w5.heap.size, 2, none⟩ = some (.int .i64 dw) ∧ W'.cell? ⟨w5.heap.size, 3, none⟩ = some (.string db) ∧ W'.cell? ⟨R, 0, none⟩ = some (.int .i64 de) ∧ W'.cell? ⟨R, 1, none⟩ = some (.int .i64 dr) ∧ W'.cell? ⟨R, 2, none⟩ = some (.int .i64 dw) ∧ W'.cell? ⟨R, 3, none⟩ = some (.string db))) := fun W' h => by
    obtain ⟨a0, a1, a2, a3⟩ := c4_of h.1
    obtain ⟨a4, a5, a6, a7⟩ := c4_of h.2.1
    obtain ⟨a8, a9, a10, a11⟩ := c4_of h.2.2
    exact ⟨a0, a1, a2, a3, a4, a5, a6, a7, a8, a9, a10, a11⟩
  go_region_held3 (fun w' => w'.cell? ⟨w.heap.size, 0, none⟩ = some (.int .i64 ep) ∧ w'.cell? ⟨w.heap.size, 1, none⟩ = some (.int .i64 re) ∧ w'.cell? ⟨w.heap.size, 2, none⟩ = some (.int .i64 wr) ∧ w'.cell? ⟨w.heap.size, 3, none⟩ = some (.string by_) ∧ w'.cell? ⟨w5.heap.size, 0, none⟩ = some (.int .i64 de) ∧ w'.cell? ⟨w5.heap.size, 1, none⟩ = some (.int .i64 dr) ∧ w'.cell? ⟨w5.heap.size, 2, none⟩ = some (.int .i64 dw) ∧ w'.cell? ⟨w5.heap.size, 3, none⟩ = some (.string db) ∧ w'.cell? ⟨R, 0, none⟩ = some (.int .i64 de) ∧ w'.cell? ⟨R, 1, none⟩ = some (.int .i64 dr) ∧ w'.cell? ⟨R, 2, none⟩ = some (.int .i64 dw) ∧ w'.cell? ⟨R, 3, none⟩ = some (.string db)) (first | with_reducible exact S4.out | with_reducible exact S3.out | with_reducible exact S2.out | with_reducible exact S1.out | go_keep)
    (first
      | (go_at_call 46; have _g := k0; clear _g; refine (to_any ep re wr by_ _).mono ?_; rintro r v1 ⟨rfl, hb⟩; have T1 := Lib.hid (HT.out.drew.later hb); have B1 := Lib.hid (HB7.out.drew.trans (hb.mono HB7.out.drew.size)); have S1 := Lib.hid (twelve.out _ T1.out); clear hb k0)
      | (go_at_call 50; refine (pCheck_is ep re wr by_ cq Hcq.out _).mono ?_; rintro r v2 ⟨rfl, hb⟩; have T2 := Lib.hid (T1.out.later hb); have B2 := Lib.hid (B1.out.trans (hb.mono B1.out.size)); have S2 := Lib.hid (twelve.out _ T2.out); clear hb)
      | (go_at_call 51; refine (rfCheck_is ep re wr by_ cq Hcq.out _).mono ?_; rintro r v3 ⟨rfl, hb⟩; have T3 := Lib.hid (T2.out.later hb); have B3 := Lib.hid (B2.out.trans (hb.mono B2.out.size)); have S3 := Lib.hid (twelve.out _ T3.out); clear hb)
      | (go_at_call 46; refine (to_any de dr dw db _).mono ?_; rintro r v4 ⟨rfl, hb⟩; have T4 := Lib.hid (T3.out.later hb); have B4 := Lib.hid (B3.out.trans (hb.mono B3.out.size)); have S4 := Lib.hid (twelve.out _ T4.out); clear hb)
      | fail)
  go_wp2_with fail
  have hes : es.size ≤ 65536 := by have := encP_size ⟨ep, re, wr, by_⟩; rw [Hen.out] at this; exact this
  obtain ⟨be, br, bw, bb, bq, hbk⟩ : ∃ be br bw bb bq, decP_ es = (⟨be, br, bw, bb⟩, bq) := ⟨_, _, _, _, _, rfl⟩
  have Hbk := Lib.hid hbk; clear hbk
  refine (pDecode_any es _ (by omega)).mono ?_
  rw [Hbk.out]
  rintro e v5 ⟨rfl, hb⟩
  have T5 := Lib.hid (T4.out.later hb)
  have B5 := Lib.hid (B4.out.trans (hb.mono B4.out.size))
  clear hb S1 S2 S3 S4 T1 T2 T3 T4 B1 B2 B3 B4 k1 k2 k3 k4 k5 k6 k7 k8 k9 k10 k11 twelve hcmp HT HB7
  have HX8 : Hid (∀ o, (v5.alloc o).heap[w.heap.size]? = some (.cells (pCells ⟨ep, re, wr, by_⟩) 71 (0, 0))) := fun o => (Below.heap_alloc v5 o _ (lt_of_heap T5.out.1)).trans T5.out.1
  have HQ8 : Hid (∀ o, (v5.alloc o).heap[v5.heap.size]? = some o) := fun o => heap_alloc_new v5 o
  have HB8 : Hid (∀ o, Below w.heap.size w (v5.alloc o)) := fun o => B5.out.alloc B5.out.size _
  dsimp only [pipeV]
  go_upto_region 10 with fail
  by_cases h0 : en = 0
  · subst h0
    have hck : checkP ⟨ep, re, wr, by_⟩ = 0 := by rw [← encP_err, Hen.out]
    have hpe : decP_ es = (⟨ep, re, wr, by_⟩, 0) := by
      have h3 : encP ⟨ep, re, wr, by_⟩ = (strOf (encPB ⟨ep, re, wr, by_⟩), 0) := if_pos hck
      rw [Hen.out] at h3
      rw [(Prod.mk.inj h3).1]
      exact pdec_enc _ hck
    rw [Hbk.out] at hpe
    cases hpe
    have hcmp : samePB ⟨ep, re, wr, by_⟩ ⟨ep, re, wr, by_⟩ = true := decide_eq_true rfl
    have HX9 := Lib.hid (HX8.out (.cells #[.int .i64 ep, .int .i64 re, .int .i64 wr, .string by_] 73))
    have HQ9 := Lib.hid (HQ8.out (.cells #[.int .i64 ep, .int .i64 re, .int .i64 wr, .string by_] 73))
    have HB9 := Lib.hid (HB8.out (.cells #[.int .i64 ep, .int .i64 re, .int .i64 wr, .string by_] 73))
    generalize v5.alloc (.cells #[.int .i64 ep, .int .i64 re, .int .i64 wr, .string by_] 73) = W9 at *
    obtain ⟨⟨k0, k1, k2, k3⟩, ⟨k4, k5, k6, k7⟩⟩ : C4 W9 w.heap.size ⟨ep, re, wr, by_⟩ ∧ C4 W9 v5.heap.size ⟨ep, re, wr, by_⟩ := ⟨c4_of HX9.out, c4_of (p := ⟨ep, re, wr, by_⟩) HQ9.out⟩
    dsimp only at k0 k1 k2 k3 k4 k5 k6 k7
    go_region_held3 (fun w' => w'.cell? ⟨w.heap.size, 0, none⟩ = some (.int .i64 ep) ∧ w'.cell? ⟨w.heap.size, 1, none⟩ = some (.int .i64 re) ∧ w'.cell? ⟨w.heap.size, 2, none⟩ = some (.int .i64 wr) ∧ w'.cell? ⟨w.heap.size, 3, none⟩ = some (.string by_) ∧ w'.cell? ⟨v5.heap.size, 0, none⟩ = some (.int .i64 ep) ∧ w'.cell? ⟨v5.heap.size, 1, none⟩ = some (.int .i64 re) ∧ w'.cell? ⟨v5.heap.size, 2, none⟩ = some (.int .i64 wr) ∧ w'.cell? ⟨v5.heap.size, 3, none⟩ = some (.string by_)) (first | with_reducible exact S1.out | go_keep)
      (first
        | (go_at_call 46; refine (to_any ep re wr by_ _).mono ?_; rintro r v6 ⟨rfl, hb⟩; have B6 := Lib.hid (HB9.out.drew.trans (hb.mono HB9.out.drew.size)); have S1 : Hid (v6.cell? ⟨w.heap.size, 0, none⟩ = some (.int .i64 ep) ∧ v6.cell? ⟨w.heap.size, 1, none⟩ = some (.int .i64 re) ∧ v6.cell? ⟨w.heap.size, 2, none⟩ = some (.int .i64 wr) ∧ v6.cell? ⟨w.heap.size, 3, none⟩ = some (.string by_) ∧ v6.cell? ⟨v5.heap.size, 0, none⟩ = some (.int .i64 ep) ∧ v6.cell? ⟨v5.heap.size, 1, none⟩ = some (.int .i64 re) ∧ v6.cell? ⟨v5.heap.size, 2, none⟩ = some (.int .i64 wr) ∧ v6.cell? ⟨v5.heap.size, 3, none⟩ = some (.string by_)) := by
            obtain ⟨a0, a1, a2, a3⟩ := c4_of (p := ⟨ep, re, wr, by_⟩) ((hb.block _ (lt_of_heap (w := W9) HX9.out)).trans HX9.out)
            obtain ⟨a4, a5, a6, a7⟩ := c4_of (p := ⟨ep, re, wr, by_⟩) ((hb.block _ (lt_of_heap (w := W9) HQ9.out)).trans HQ9.out)
            exact ⟨a0, a1, a2, a3, a4, a5, a6, a7⟩
           clear hb)
        | fail)
    go_wp2
    go_ret
    exact ⟨rfl, B6.out⟩
  · have h0' : ((en : Int) != 0) = true := bne_iff_ne.2 (by omega)
    clear h0
    have HB9 := Lib.hid (HB8.out (.cells #[.int .i64 be, .int .i64 br, .int .i64 bw, .string bb] 73))
    generalize v5.alloc (.cells #[.int .i64 be, .int .i64 br, .int .i64 bw, .string bb] 73) = W9 at *
    go_quiet (fail)
    go_wp2
    go_ret
    exact ⟨rfl, below_drewN HB9.out _⟩

end Go.Proofs.YtmknhokjpmjkkaaDoor
