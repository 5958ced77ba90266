/- descriptor, upon a view whose value is known: Add. (printed by wip/gen_dsci.py) -/
import Derived.Test.YtfchfjipkggnkaaDoorDscJ
namespace Go.Proofs.YtfchfjipkggnkaaDoor
open Go.RowKit
attribute [local go_sem ↓] run_eql_opn run_neq_opn

section
variable {w0 w : World} {b M : Nat} {V : AV} {G : Nat → Prop} (s : QM w0 w b M V G)
include s
set_option maxRecDepth 100000 in
set_option maxHeartbeats 6400000 in
theorem qdAdd (who : ByteArray) (hw : who.size ≤ 70368744177664) (kd : Int) (mak : ByteArray) (bn num off : Int) (rd wr ap : Bool) (hm : mak.size ≤ 70368744177664) (hlen : V.calls.length < 1000000) : Calls Tryd.prog 18 #[.pointer (some ⟨b, 0, none⟩), .string who, .agg #[.int .i64 kd, .string mak, .int .i64 bn, .int .i64 num, .int .i64 off, .bool rd, .bool wr, .bool ap]] w (QMP w0 b M ((dAdd who ⟨kd, mak, bn, num, off, rd, wr, ap⟩).run V).1 G w (.tuple #[.int .i64 ((dAdd who ⟨kd, mak, bn, num, off, rd, wr, ap⟩).run V).2.N, .int .i64 ((dAdd who ⟨kd, mak, bn, num, off, rd, wr, ap⟩).run V).2.E])) := by
  have hE0 : ∀ k, k = w.heap.size → w.heap.size ≤ k ∧ k < (w.alloc (.cells #[.int .i64 kd, .string mak, .int .i64 bn, .int .i64 num, .int .i64 off, .bool rd, .bool wr, .bool ap] 26)).heap.size := fun k hk => by subst hk; simp
  have hb0 : Below w.heap.size w (w.alloc (.cells #[.int .i64 kd, .string mak, .int .i64 bn, .int .i64 num, .int .i64 off, .bool rd, .bool wr, .bool ap] 26)) := (Below.refl _ _).alloc (Nat.le_refl _) _
  have Q0 := Lib.hid (s.qi (W := (w.alloc (.cells #[.int .i64 kd, .string mak, .int .i64 bn, .int .i64 num, .int .i64 off, .bool rd, .bool wr, .bool ap] 26))) (E := fun k => k = w.heap.size) hb0 hE0)
  have X0 : Hid (OpnAt (w.alloc (.cells #[.int .i64 kd, .string mak, .int .i64 bn, .int .i64 num, .int .i64 off, .bool rd, .bool wr, .bool ap] 26)) w.heap.size ⟨kd, mak, bn, num, off, rd, wr, ap⟩) := World.alloc_heap_new w _
  clear hE0 hb0 s
  have HT : Hid ((dAdd who ⟨kd, mak, bn, num, off, rd, wr, ap⟩).run V = if checkO ⟨kd, mak, bn, num, off, rd, wr, ap⟩ ≠ 0 then (V, errD (checkO ⟨kd, mak, bn, num, off, rd, wr, ap⟩)) else (dOne who (addF ⟨kd, mak, bn, num, off, rd, wr, ap⟩)).run V) := by
    show _ = _
    unfold dAdd
    by_cases h : checkO ⟨kd, mak, bn, num, off, rd, wr, ap⟩ ≠ 0
    · rw [if_pos h, if_pos h]; rfl
    · rw [if_neg h, if_neg h]
  obtain ⟨q, hq⟩ : ∃ q, checkO ⟨kd, mak, bn, num, off, rd, wr, ap⟩ = q := ⟨_, rfl⟩
  rw [hq] at HT
  have Hq := Lib.hid hq
  clear hq
  go_enter Tryd.func18, Tryd.ntmps18
  go_wp2_with fail
  refine (oCheck_is kd mak bn num off rd wr ap q Hq.out _ hm).mono ?_
  rintro r w2 ⟨rfl, hb⟩
  have Q1 := Lib.hid (Q0.out.later hb)
  have X1 := Lib.hid (X0.out.later hb)
  clear hb Q0 X0
  by_cases h0 : q = 0
  · subst h0
    have HT2 := Lib.hid ((HT.out.trans (if_neg (by simp))).trans (dOne_run V who (addF ⟨kd, mak, bn, num, off, rd, wr, ap⟩)))
    clear HT
    have Ho : Hid (checkO ⟨kd, mak, bn, num, off, rd, wr, ap⟩ = 0) := Hq.out
    go_wp2_with fail
    refine (qdAll Q1.out.s who hw).mono ?_
    rintro r w3 ⟨rfl, s3, hk⟩
    have Q2 := Lib.hid (Q1.out.step s3 hk)
    have X2 := Lib.hid (X1.out.kept (hk w.heap.size (.inr rfl)))
    clear s3 hk Q1 X1
    have HV := Lib.hid (allR_valid (V := V) (who := who))
    have HG := Lib.hid (allR_good (V := V) (who := who))
    have hl := allR_len V who
    obtain ⟨⟨t, e⟩, ht⟩ : ∃ p, allR V who = p := ⟨_, rfl⟩
    rw [ht] at HT2 HV HG hl ⊢
    clear ht
    dsimp only at HT2 HV HG hl ⊢
    have hns := new_store w3 hl
    have hsz := tabA_128 hl
    have hb3 : Below w3.heap.size w3 (w3.alloc (.cells (tabA t) 31)) := (Below.refl _ _).alloc (Nat.le_refl _) _
    have Q3 := Lib.hid (Q2.out.later hb3)
    have X3 := Lib.hid (X2.out.later hb3)
    have T3 := Lib.hid (new_tab w3 hl)
    clear hb3 Q2 X2
    by_cases h1 : e = 0
    · subst h1
      have HV2 := Lib.hid (HV.out rfl)
      have HG2 := Lib.hid (HG.out rfl)
      clear HV HG
      have HR := Lib.hid (HT2.out.trans (if_neg (by simp)))
      clear HT2
      have HL : Hid ((allV V who).calls.length < 1000000) := by
        show _ < _
        unfold allV
        split
        · exact hlen
        · rw [avSeen_cal]; exact hlen
      obtain ⟨c0, c1, c2, c3, c4, c5, c6, c7⟩ := X3.out.cells
      clear hlen
      go_wp2
      refine wp_load_tab _ (by rfl) w3.heap.size (by rfl) T3.out ?_
      go_wp2_with fail
      refine (qdAddT Q3.out.s who hw HV2.out t HG2.out.2 HG2.out.1 kd mak bn num off rd wr ap Ho.out HL.out).mono ?_
      rintro r w5 ⟨rfl, s5, hk⟩
      have Q4 := Lib.hid (Q3.out.step s5 hk)
      clear s5 hk Q3 X3 T3
      generalize putR (allV V who) who (addF ⟨kd, mak, bn, num, off, rd, wr, ap⟩ t) = pr at *
      obtain ⟨V9, ⟨rT, rO, rN, rE⟩⟩ := pr
      dsimp only at HR Q4 ⊢
      go_wp2
      go_ret2
      rw [HR.out]
      exact Q4.out.post _
    · have HR := Lib.hid (HT2.out.trans (if_pos h1))
      have hq' : ((e : Int) != 0) = true := bne_iff_ne.2 (by omega)
      clear h1 HT2
      go_wp2
      go_ret2
      rw [HR.out]
      exact Q3.out.post _
  · have HR := Lib.hid (HT.out.trans (if_pos h0))
    have hq' : ((q : Int) != 0) = true := bne_iff_ne.2 (by omega)
    clear h0 HT
    go_wp2
    go_ret2
    rw [HR.out]
    exact Q1.out.post _
end
end Go.Proofs.YtfchfjipkggnkaaDoor
