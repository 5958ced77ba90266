/- graph: Components. (printed by wip/gen_gmz.py) -/
import Derived.Test.YteiddebjbiadbaaGmY
import Derived.Test.YteiddebjbiadbaaGmU
import Derived.OwnWalk
namespace Go.Proofs.Yteiddebjbiadbaa
open Go.RowKit Go.Shelf Gr
attribute [local go_sem] Oper.semAt_some
attribute [local go_sem ↓] Go.wp_at_zero Go.wp_at_succ

def CompPost (w : World) (L : List (List Nat)) (r : Ending) (w' : World) : Prop :=
  ∃ (v : Value) (rows : List (Option Addr × Nat × Nat)), r = .returned v ∧ Below w.heap.size w w' ∧ RowK kRow w' v rows ∧ rows.length = L.length ∧ ∀ (i : Nat) (e : Option Addr × Nat × Nat) (l : List Nat), rows[i]? = some e → L[i]? = some l → RowK kNat w' (.slice e.1 e.2.1 e.2.2) l
def nds {n : Nat} (pre : List (NdI n)) : List Nat := pre.map (·.2.1)
def CmI (w : World) (s p n : Nat) (B : Nat → List Nat) (pre : List (NdI n)) (W : World) : Prop := CmAt w W s (s + 1 + 1) (s + 1) (s + 1 + 1 + 1) p n (gst B n (nds pre)).1 (gst B n (nds pre)).2
theorem sub_list (n : Nat) : ∀ (l : List Nat), (∀ x ∈ l, x < n) → ∃ ls : List { x : Nat // x < n }, ls.map (·.1) = l
  | [], _ => ⟨[], rfl⟩
  | x :: l, h => by
    obtain ⟨ls, hls⟩ := sub_list n l (fun y hy => h y (List.mem_cons_of_mem _ hy))
    exact ⟨⟨x, h x List.mem_cons_self⟩ :: ls, by rw [List.map_cons, hls]⟩
set_option maxRecDepth 100000 in
set_option maxHeartbeats 4000000 in
theorem components_in {w : World} {p n : Nat} {A B : Nat → List Nat} {es : List Ed} (h : GOk w p n A B) (hE : GEs es n A B) :
    CallsIn Fence.wide 3 Try.prog 26 #[.pointer (some ⟨p, 0, none⟩)] w (CompPost w (componentsF A B n)) := by
  have HG := Lib.hid h
  have HE := Lib.hid hE
  obtain ⟨hn, ga, gb, c0, -⟩ := h.at_
  have Hc0 := Lib.hid c0
  have hmk := run_make_row' (P := Try.prog) 30 3 (.int .i64 0) 8 Try.underlying30 (by kernel_rfl) rfl .i64 .i64 n (by omega) (by omega)
  have d0 := cellL c0 (Below.alloc (Below.refl w.heap.size w) (Nat.le_refl _) (.cells #[.pointer (some ⟨p, 0, none⟩)] 25))
  clear h hE c0
  refine callsIn_of_wp_marks Try.func26 rfl trivial ?_ rfl
  simp only [Try.ntmps26, List.size_toArray, List.length_cons, List.length_nil, Nat.reduceAdd, Nat.reduceSub, Array.replicate_succ, Array.replicate_zero, List.push_toArray, List.append_toArray, List.nil_append, List.cons_append]
  refine wpIn_wide.2 ?_
  go_upto_region 5 with fail
  obtain ⟨x1, hx1⟩ : ∃ x1, w.alloc (.cells #[.pointer (some ⟨p, 0, none⟩)] 25) = x1 := ⟨_, rfl⟩
  have b1 : Below w.heap.size w x1 := by rw [← hx1]; exact (Below.refl _ _).alloc (Nat.le_refl _) _
  have r1 : RowIs x1 (w.heap.size) 25 [.pointer (some ⟨p, 0, none⟩)] := by rw [← hx1]; exact new_row _ _ _
  have z1 : x1.heap.size = w.heap.size + 1 := by rw [← hx1, World.size_alloc]
  obtain ⟨x2, hx2⟩ : ∃ x2, x1.alloc (.cells (madeCells #[.int .i64 0] n) 3) = x2 := ⟨_, rfl⟩
  have b2 : Below x1.heap.size x1 x2 := by rw [← hx2]; exact (Below.refl _ _).alloc (Nat.le_refl _) _
  have r2 : RowIs x2 (w.heap.size + 1) 3 (List.replicate n (.int .i64 0)) := by rw [← hx2, ← z1]; exact made_row _ _ _ _
  have z2 : x2.heap.size = w.heap.size + 1 + 1 := by rw [← hx2, World.size_alloc, z1]
  obtain ⟨x3, hx3⟩ : ∃ x3, x2.alloc (.cells #[.slice (some ⟨w.heap.size + 1, 0, none⟩) n n] 30) = x3 := ⟨_, rfl⟩
  have b3 : Below x2.heap.size x2 x3 := by rw [← hx3]; exact (Below.refl _ _).alloc (Nat.le_refl _) _
  have r3 : RowIs x3 (w.heap.size + 1 + 1) 30 [.slice (some ⟨w.heap.size + 1, 0, none⟩) n n] := by rw [← hx3, ← z2]; exact new_row _ _ _
  have z3 : x3.heap.size = w.heap.size + 1 + 1 + 1 := by rw [← hx3, World.size_alloc, z2]
  obtain ⟨x4, hx4⟩ : ∃ x4, x3.alloc (.cells #[.int .i64 0] 3) = x4 := ⟨_, rfl⟩
  have b4 : Below x3.heap.size x3 x4 := by rw [← hx4]; exact (Below.refl _ _).alloc (Nat.le_refl _) _
  have r4 : RowIs x4 (w.heap.size + 1 + 1 + 1) 3 [.int .i64 0] := by rw [← hx4, ← z3]; exact new_row _ _ _
  have z4 : x4.heap.size = w.heap.size + 1 + 1 + 1 + 1 := by rw [← hx4, World.size_alloc, z3]
  rw [hx1, hx2, hx3, hx4]
  obtain ⟨s, hs⟩ : ∃ s, w.heap.size = s := ⟨_, rfl⟩
  have H0 : Hid (CmAt w x4 s (s + 1 + 1) (s + 1) (s + 1 + 1 + 1) p n (gst B n []).1 (gst B n []).2) := by
    rw [hs] at r1 r2 r3 r4
    refine ⟨((b1.trans (b2.mono (by omega))).trans (b3.mono (by omega))).trans (b4.mono (by omega)), ((r1.later b2).later b3).later b4, r3.later b4, ?_, r4, by simp [gst]⟩
    have := (r2.later b3).later b4
    unfold MarkRow
    rw [show (gst B n []).1.map natV = List.replicate n (Value.int .i64 0) from by simp [gst, natV]]
    exact this
  have Z4 : Hid (x4.heap.size = s + 1 + 1 + 1 + 1) := by rw [hs] at z4; exact z4
  rw [hs]
  have Hs := Lib.hid hs
  clear hmk hx1 hx2 hx3 hx4 z1 z2 z3 z4 b1 b2 b3 b4 r1 r2 r3 r4 d0 hs
  have e1 := H0.out.gr.cell (i := 0) rfl
  have HF := Lib.hid (finished_any (HG.out.later H0.out.low))
  go_wp2_with fail
  refine HF.out.mono ?_
  rintro r w2 ⟨v, rfl, ho2, hb2⟩
  obtain ⟨a, c, rfl, -⟩ := ho2.row.form
  have H2 := Lib.hid (H0.out.later hb2)
  have Ho := Lib.hid ho2
  have HB2 := Lib.hid hb2
  clear hb2 ho2 HF e1 H0
  go_wp2_with fail
  refine (callsIn_wide.1 (backward_in Fence.wide 3 trivial rfl _ _ _ _)).mono ?_
  rintro r w3 ⟨rfl, hw3⟩
  have HR3 : Hid (RowIs w3 w2.heap.size 30 [.slice a (finishedF A n).length c]) := by rw [hw3]; exact new_row _ _ _
  have HB3 : Hid (Below w2.heap.size w2 w3) := by rw [hw3]; exact (Below.refl _ _).alloc (Nat.le_refl _) _
  have Z3 : Hid (w3.heap.size = w2.heap.size + 1) := by rw [hw3]; exact World.size_alloc _ _
  have H3 := Lib.hid (H2.out.later HB3.out)
  have HO3 := Lib.hid (Ho.out.later HB3.out)
  clear hw3 H2 Ho
  go_wp2
  have hperm := finished_perm HG.out.a
  obtain ⟨ls, hls⟩ := sub_list n (finishedF A n) (fun x hx => List.mem_range.1 (hperm.mem_iff.1 hx))
  have hln : ls.length = n := by have h1 := hperm.length_eq; rw [← hls, List.length_map, List.length_range] at h1; exact h1
  have Hls := Lib.hid hls
  have hsz : s + 1 + 1 + 1 + 1 < w3.heap.size := by have := HB2.out.size; have := Z4.out; have := Z3.out; omega
  have hsz2 : s + 1 + 1 + 1 < w2.heap.size := by have := HB2.out.size; have := Z4.out; omega
  have hap : ∀ k, (Value.slice a (finishedF A n).length c).ownBlock = some k → s + 1 + 1 + 1 < k ∧ k < w3.heap.size := fun k hk => by have := HO3.out.lt hk; have := Z4.out; omega
  have Hap := Lib.hid hap
  refine (wpIn_wide (n := 3)).1 ?_
  refine wpIn_rangeFunc_ownG rfl (by decide) (gf := 65) (lb := #[.pointer (some ⟨w2.heap.size, 0, none⟩)]) rfl trivial (enters_of Try.func65 (by kernel_rfl) rfl)
    (backward_stops Fence.wide (3 - 1) trivial rfl (by decide) w2.heap.size n (.slice a (finishedF A n).length c) ls (by omega) w3 HR3.out (by rw [hls]; exact HO3.out.row) (fun k hk => (hap k hk).2))
    (fun h k => h.trans k) (fun W l o o' hl ho hc hw => ⟨by rw [World.putObj_size]; exact Nat.le_refl _, fun k hk _ => by
      refine World.putObj_heap_other ?_
      rcases hk with rfl | hk
      · have := Z3.out; omega
      · have := (Hap.out k hk).2; omega⟩) (Below.refl _ _) (fun _ => rfl)
    (CmI w s p n B)
    (fun _ _ _ => False)
    (fun pre X Y row h hg hr => CmAt.grown h hg (fun k e => by have h1 := (hr k e).1; have h2 := Hs.out; omega))
    (fun _ _ _ _ _ hs _ _ => hs)
    H3.out
    (fun x => { tmps := #[.pointer (some ⟨p, 0, none⟩), .pointer (some ⟨s, 0, none⟩), .slice none 0 0, .pointer (some ⟨s + 1 + 1, 0, none⟩), .pointer (some ⟨s + 1 + 1 + 1, 0, none⟩), undef, .int .i64 (x.2.1 : Int), undef, undef, undef, undef, undef, .pointer (some ⟨p, 0, none⟩), .bool false, .pointer (some ⟨p, 0, none⟩), .pointer (some ⟨p, 0, none⟩), .pointer (some ⟨p, 0, none⟩), .slice (some ⟨ga, 0, none⟩) n n, .int .i64 (n : Int), .slice (some ⟨s + 1, 0, none⟩) n n, .pointer (some ⟨p, 0, none⟩), .slice a (finishedF A n).length c, .func (.func 65) #[] #[.pointer (some ⟨w2.heap.size, 0, none⟩)], .int .i64 (x.1 : Int), .int .i64 (x.2.1 : Int), undef, undef, undef, undef, undef, undef, undef, undef, undef, undef, undef, undef, undef, undef, undef, undef, undef, undef, undef, undef, undef, undef, undef, undef, undef, undef, undef, undef, undef, undef, undef, undef, undef, undef, undef, undef, undef, undef, undef, undef, undef, undef, undef, undef, undef, undef, undef, undef, undef, undef, undef, undef], defers := [] }) ?assign ?body ?done ?stop
  case assign =>
    intro l x W K hK
    unfold encI
    gi_wp2
    exact hK
  case body =>
    rintro l pre ⟨i, x, hx⟩ W hI hlt
    dsimp only at hx ⊢
    unfold CmI at hI
    have hst : gst B n (nds (pre ++ [((i, ⟨x, hx⟩) : NdI n)])) = groupStep B n (gst B n (nds pre)) x := by
      unfold nds; rw [List.map_append]; exact gst_snoc _ _ _ _
    have hcl : (gst B n (nds pre)).2 ≤ 4096 := by have := gst_le B n (nds pre); unfold nds at this ⊢; rw [List.length_map] at this; omega
    have hI2 : CmI w s p n B (pre ++ [((i, ⟨x, hx⟩) : NdI n)]) = fun W => CmAt w W s (s + 1 + 1) (s + 1) (s + 1 + 1 + 1) p n (groupStep B n (gst B n (nds pre)) x).1 (groupStep B n (gst B n (nds pre)) x).2 := by funext W; unfold CmI; rw [hst]
    obtain ⟨⟨g, cc⟩, hS⟩ : ∃ S, gst B n (nds pre) = S := ⟨_, rfl⟩
    rw [hS] at hI hcl hI2
    dsimp only at hI hcl
    have d1 := hI.m.cell (i := 0) rfl
    have d2 := MarkRow.at_ hI.row (i := x) (by rw [hI.len]; exact hx)
    have d3 := hI.c.cell (i := 0) rfl
    have d4 := RowIs.free hI.c 0
    have hxi : (x : Int) < (n : Int) := by omega
    by_cases hv : val g x = 0
    · rw [hv] at d2
      have hg2 := grown_setCell W (s + 1 + 1 + 1) 0 (.int .i64 ((cc : Int) + 1))
      have HI2 : Hid (CmAt w (W.setCell ⟨s + 1 + 1 + 1, 0, none⟩ (.int .i64 ((cc : Int) + 1))) s (s + 1 + 1) (s + 1) (s + 1 + 1 + 1) p n g (cc + 1)) :=
        ⟨hI.low.setCell (p := ⟨s + 1 + 1 + 1, 0, none⟩) (by have := Hs.out; show w.heap.size ≤ s + 1 + 1 + 1; omega) _, RowIs.other_set hI.gr (by omega) _ _, RowIs.other_set hI.m (by omega) _ _, RowIs.other_set hI.row (by omega) _ _, RowIs.set hI.c 0 _, hI.len⟩
      have f1 := HI2.out.m.cell (i := 0) rfl
      have f2 := HI2.out.gr.cell (i := 0) rfl
      have f3 := HI2.out.c.cell (i := 0) rfl
      have HC := Lib.hid (group_any (c := cc + 1) (mg := s + 1) HG.out (by omega) HI2.out.low (by have := Hs.out; omega) HI2.out.row hI.len hx)
      have hk1 : KeepsFrom w3.heap.size W (W.setCell ⟨s + 1 + 1 + 1, 0, none⟩ (.int .i64 ((cc : Int) + 1))) := (KeepsOthers.setCell _ _ _).from _
      have Hk1 := Lib.hid hk1
      have Hg2 := Lib.hid hg2
      have Hstp : Hid (groupStep B n (g, cc) x = ((visitF B (cc + 1) n (g, []) x).1, cc + 1)) := by show _ = _; unfold groupStep; rw [if_neg (by simpa using hv)]
      have HI2e := Lib.hid hI2
      have ecc : ((cc + 1 : Nat) : Int) = (cc : Int) + 1 := by omega
      rw [ecc] at HC
      have f3' : (W.setCell ⟨s + 1 + 1 + 1, 0, none⟩ (.int .i64 ((cc : Int) + 1))).cell? ⟨s + 1 + 1 + 1, 0, none⟩ = some (.int .i64 ((cc : Int) + 1)) := by rw [← ecc]; rw [← ecc] at f3; exact f3
      clear hg2 hk1 hv hI hI2 hS hst f3 ecc
      gi_wp2_with (refine ⟨trivial, ?_⟩; gi_at_call 52; refine (CallsIn.inRound l (callsIn_wide.2 HC.out)).mono ?_; rintro e w6 ⟨rfl, hr6, hg6⟩)
      have hgl := (visit_vis (c := cc + 1) (by omega) HG.out.b n g [] x HI2.out.len (by have := zeros_le g; rw [HI2.out.len] at this; exact this) hx).len.trans HI2.out.len
      refine ⟨Hk1.out.trans (KeepsFrom.of_grownBy hg6 (fun j e => by cases e; omega)), ⟨Nat.le_trans Hg2.out.size hg6.size, fun k hk hkl => ?_⟩, ?_⟩
      · have h1 : k ≠ s + 1 ∧ k ≠ s + 1 + 1 + 1 := by
          rcases hk with rfl | hk
          · omega
          · have := (Hap.out k hk).1; omega
        exact (hg6.block k (Nat.lt_of_lt_of_le hkl Hg2.out.size) (fun e => h1.1 (Option.some.inj e))).trans (Hg2.out.block k hkl (fun e => h1.2 (Option.some.inj e)))
      · rw [HI2e.out, Hstp.out]
        have h1 := HI2.out
        exact ⟨below_grow h1.low hg6 (Nat.le_refl _) (fun k e => by cases e; have := Hs.out; omega), RowIs.kept h1.gr (hg6.block s h1.gr.lt (fun e => by have := Option.some.inj e; omega)), RowIs.kept h1.m (hg6.block _ h1.m.lt (fun e => by have := Option.some.inj e; omega)), hr6, RowIs.kept h1.c (hg6.block _ h1.c.lt (fun e => by have := Option.some.inj e; omega)), hgl⟩
    · have hvi : ¬ (val g x : Int) = 0 := by omega
      have hstp : groupStep B n (g, cc) x = (g, cc) := by unfold groupStep; rw [if_pos hv]
      rw [hstp] at hI2
      gi_wp2
      exact ⟨KeepsFrom.refl _ _, KpB.refl _ _ _, by rw [hI2]; exact hI⟩
  case done =>
    rintro D ys W hD hys hI hK
    unfold CmI at hI
    have hnd : nds ys = (finishedF A n).reverse := by
      unfold nds
      have : ys.map (·.2.1) = (ys.map (·.2)).map (·.1) := by rw [List.map_map]; rfl
      rw [this, hys, ← Hls.out, List.map_reverse]
    rw [hnd] at hI
    have hgr : gst B n (finishedF A n).reverse = groupsF B n (finishedF A n) := rfl
    rw [hgr] at hI
    have hgl := hI.len
    have hgok := (groups_ok HE.out.a HE.out.b HE.out.ins).1.le
    have hcn : (groupsF B n (finishedF A n)).2 ≤ n := by
      have := gst_le B n (finishedF A n).reverse
      rw [hgr, List.length_reverse, hperm.length_eq, List.length_range] at this
      exact this
    have hcm : componentsF A B n = asmF (groupsF B n (finishedF A n)).1 (groupsF B n (finishedF A n)).2 := rfl
    rw [hcm]
    obtain ⟨⟨g, cc⟩, hgc⟩ : ∃ S, groupsF B n (finishedF A n) = S := ⟨_, rfl⟩
    rw [hgc] at hcm
    have Hcm : Hid (componentsF A B n = asmF g cc) := hcm
    rw [hgc] at hI hgl hgok hcn ⊢
    dsimp only at hI hgl hgok hcn ⊢
    have HI := Lib.hid hI
    have hmk := run_make_row' (P := Try.prog) 30 3 (.int .i64 0) 8 Try.underlying30 (by kernel_rfl) rfl .i64 .i64 (cc + 1) (by omega) (by omega)
    have hmk' : ((cc + 1 : Nat) : Int) = (cc : Int) + 1 := by omega
    rw [hmk'] at hmk
    have d1 := hI.c.cell (i := 0) rfl
    have d2 := cellL (hI.m.cell (i := 0) rfl) ((Below.refl W.heap.size W).alloc (Nat.le_refl _) (.cells (madeCells #[.int .i64 0] (cc + 1)) 3))
    have HD := Lib.hid hD
    have HK := Lib.hid hK
    clear hI hgc hcm hD hK hgr hnd hys hperm hls hap
    go_wp2
    obtain ⟨W1, hW1⟩ : ∃ W1, W.alloc (.cells (madeCells #[.int .i64 0] (cc + 1)) 3) = W1 := ⟨_, rfl⟩
    obtain ⟨ab, hab⟩ : ∃ b, W.heap.size = b := ⟨_, rfl⟩
    have r1 : RowIs W1 ab 3 (List.replicate (cc + 1) (.int .i64 0)) := by rw [← hW1, ← hab]; exact made_row _ _ _ _
    have hb1 : Below ab W W1 := by rw [← hW1, ← hab]; exact (Below.refl _ _).alloc (Nat.le_refl _) _
    rw [hW1, hab]
    have HA0 : Hid (AsmAt W1 ab (.slice none 0 0) [] (asmS g cc 0).1 (asmS g cc 0).2) := by
      refine ⟨?_, OwnK.nil _ _, rfl, fun i e l he => by simp at he, fun i e he => by simp at he, fun i j e f he => by simp at he⟩
      unfold MarkRow
      rw [show (asmS g cc 0).1.map natV = List.replicate (cc + 1) (Value.int .i64 0) from by simp [asmS, natV]]
      exact r1
    have HB0 : Hid (Below ab W W1) := hb1
    have Hwab : Hid (ab ≤ W.heap.size) := by show _ ≤ _; omega
    have Hab0 := Lib.hid hab
    have Hgok := Lib.hid hgok
    clear r1 hb1 hW1 d1 d2 hmk hab hgok
    go_loopg [7, 42] n (fun gk vt iv wr => ∃ (i : Nat) (rows : List RowE), Hid (i + gk = n) ∧ iv = .int .i64 i ∧ Hid (AsmAt wr ab vt rows (asmS g cc i).1 (asmS g cc i).2) ∧ Hid (Below ab W wr))
    case atStart => exact ⟨0, [], Nat.zero_add _, rfl, HA0, HB0⟩
    case round =>
      clear HA0 HB0
      obtain ⟨i, rows, Hi, rfl, HA, HB⟩ := hrel
      by_cases hlt : i < n
      · have hlow : Below W.heap.size W wr := by rw [Hab0.out]; exact HB.out
        have d1 := MarkRow.at_ (RowIs.later HI.out.row hlow) (i := i) (by rw [hgl]; exact hlt)
        have hvc := Hgok.out i hlt
        have hvg : g.getD i 0 = val g i := val_getD (by rw [hgl]; exact hlt)
        have hok := asmS_ok g cc i
        obtain ⟨ta, tc, hvt, -⟩ := HA.out.tab.row.form
        subst hvt
        generalize val g i = v at d1 hvc hvg
        have hstep : asmS g cc (i + 1) = asmStep g (asmS g cc i) i := asmS_succ g cc i
        obtain ⟨⟨at0, ls0⟩, hS⟩ : ∃ S, asmS g cc i = S := ⟨_, rfl⟩
        have HS := Lib.hid hS
        rw [hS] at HA hok
        have hsm := hok.small
        have hcnt := hok.cnt
        have hal := hok.len
        have hle := hok.le
        dsimp only at HA hsm hcnt hal hle
        have d2 := MarkRow.at_ HA.out.at_ (i := v) (by omega)
        have f2 := RowIs.free HA.out.at_ v
        have hvi : (v : Int) < (cc : Int) + 1 := by omega
        have hii : (i : Int) < (n : Int) := by omega
        have Hlt := Lib.hid hlt
        have hrl := HA.out.len
        have Hrlen := Lib.hid hrl
        clear hok hS hlow hlt hstep
        by_cases h0 : val at0 v = 0
        · rw [h0] at d2
          have Hab : Hid (ab + 1 ≤ wr.heap.size) := RowIs.lt HA.out.at_
          have Hrl : Hid (rows.length + 1 ≤ 1000000) := by show _ ≤ _; omega
          have hst0 := asm_new (g := g) (i := i) hvg (show v < at0.length by omega) h0 (ls0 := ls0)
          clear hrl
          go_upto_region 17 with (first
            | (at_builtin; refine wpList_append_one (K := kRow) rfl _ _ rfl (ab + 1) (.slice ta rows.length tc) rows rfl HA.out.tab (none, 0, 0) _ _ rfl rfl Hrl.out Hab.out ?_; intro v9 w9 ho9 hg9 hat9; obtain ⟨a9, c9, rfl⟩ : (∃ a c, v9 = Value.slice a (rows.length + 1) c) := (by obtain ⟨a, c, h, -⟩ := (OwnK.row ho9).form; rw [List.length_append, List.length_singleton] at h; exact ⟨a, c, h⟩); have HA9 := Lib.hid (HA.out.add hg9 ho9 hat9); have HB9 : Hid (Below ab W w9) := below_grow HB.out hg9 Hwab.out (fun k hk => by have := (HA.out.tab.lt hk).1; omega); clear ho9 hg9 hat9)
            | go_in)
          have d9 := MarkRow.at_ HA9.out.at_ (i := v) (by omega)
          have f9 := RowIs.free HA9.out.at_ v
          have HA1 := Lib.hid (HA9.out.set v (rows.length + 1))
          have HB1 : Hid (Below ab W (w9.setCell ⟨ab, v, none⟩ (.int .i64 ((rows.length + 1 : Nat) : Int)))) := HB9.out.setCell (p := ⟨ab, v, none⟩) (Nat.le_refl _) _
          have dT := MarkRow.at_ HA1.out.at_ (i := v) (by rw [List.length_set]; omega)
          have hvs : val (at0.set v (rows.length + 1)) v = rows.length + 1 := by unfold val; rw [List.getD_eq_getElem?_getD, List.getElem?_set_self (by omega)]; rfl
          rw [hvs] at dT
          have ecast : ((rows.length + 1 : Nat) : Int) = (rows.length : Int) + 1 := by omega
          rw [ecast] at dT
          clear ecast
          go_upto_region 18 with fail
          have ecast : ((rows.length + 1 : Nat) : Int) = (rows.length : Int) + 1 := by omega
          rw [ecast] at HA1 HB1
          have hrl := Hrlen.out
          obtain ⟨w1, hw1⟩ : ∃ w1, w9.setCell ⟨ab, v, none⟩ (.int .i64 ((rows.length : Int) + 1)) = w1 := ⟨_, rfl⟩
          obtain ⟨j, hj⟩ : ∃ j, rows.length = j := ⟨_, rfl⟩
          rw [hw1] at HA1 HB1 dT ⊢
          rw [← hrl, hj] at hst0
          rw [hj] at HA1 dT ⊢
          have he : (rows ++ [((none, 0, 0) : RowE)])[j]? = some (none, 0, 0) := by rw [← hj]; simp
          have hN : j + 1 = (rows ++ [((none, 0, 0) : RowE)]).length := by rw [List.length_append, List.length_singleton, hj]
          have hst : ∀ l, (ls0 ++ [[]])[j]? = some l → asmStep g (asmS g cc i) i = (at0.set v (j + 1), (ls0 ++ [[]]).set j (l ++ [i])) := fun l hl => by
            rw [HS.out, hst0]
            rw [← hj, hrl] at hl
            simp at hl
            rw [← hl]
          have hsm1 : ∀ l ∈ ls0 ++ [[]], l.length ≤ i := fun l hl => by
            rcases List.mem_append.1 hl with q | q
            · exact hsm l q
            · simp at q; subst q; simp
          have hji : j ≤ 4096 := by omega
          generalize rows ++ [((none, 0, 0) : RowE)] = rows1 at HA1 he hN
          generalize ls0 ++ [[]] = ls1 at HA1 hst hsm1
          generalize at0.set v (j + 1) = at1 at HA1 hst
          generalize hNN : j + 1 = N at HA1 hN ⊢
          have hsm := hsm1
          have he2 := he
          clear he
          obtain ⟨e, he⟩ : ∃ e : RowE, rows1[j]? = some e := ⟨_, he2⟩
          clear he2
          have hNs : N ≤ 5001 := by omega
          clear hNN
          clear ecast hw1 hj hst0 d2 d9 f9 f2 HA9 HB9 HA HB hrl hal hle hcnt hvs h0 hsm1 Hrl Hab
          obtain ⟨l, hl, hol⟩ := HA1.out.get he
          obtain ⟨gt, ct, hvt, hct, hcf⟩ := HA1.out.tabAt he
          obtain ⟨ea, em, ec⟩ := e
          have hem : em = l.length := (OwnK.row hol).len.symm
          subst hem
          unfold rowV at hct hol
          dsimp only at hct hol
          have hjl : j < rows1.length := (List.getElem?_eq_some_iff.1 he).1
          obtain ⟨rfl, rfl⟩ : a9 = some ⟨gt, 0, none⟩ ∧ c9 = ct := by simp at hvt; exact ⟨hvt.1, hvt.2.2⟩
          have Hol := Lib.hid hol
          have Hst : Hid (asmStep g (asmS g cc i) i = (at1, ls1.set j (l ++ [i]))) := hst l hl
          have He := Lib.hid he
          have hll : Hid (l.length + 1 ≤ 1000000) := by have := hsm l (List.mem_of_getElem? hl); show _ ≤ _; omega
          have Hab : Hid (ab + 1 ≤ w1.heap.size) := RowIs.lt HA1.out.at_
          have hjli : (j : Int) < (N : Int) := by omega
          have HN := Lib.hid hN
          have hjs2 : j ≤ 5000 := by omega
          have hgtl : ab < gt := (HA1.out.tab.lt rfl).1
          have Hgtl := Lib.hid hgtl
          have Hel : Hid (∀ k, (rowV (ea, l.length, ec)).ownBlock = some k → ab < k) := fun k hk => (HA1.out.rlt He.out hk).1
          have hcf0 := hcf j
          clear hst hl hol he hsm hcf hgtl hN hjl
          go_wp2_with (first
            | (at_builtin; refine wpList_append_one (K := kNat) rfl _ _ rfl (ab + 1) (.slice ea l.length ec) l rfl Hol.out i _ _ rfl rfl hll.out Hab.out ?_; intro v9 w9 ho9 hg9 hat9; obtain ⟨b9, m9, d9, rfl⟩ : (∃ a m c, v9 = Value.slice a m c) := (by obtain ⟨a, c, h, -⟩ := (OwnK.row ho9).form; exact ⟨a, _, c, h⟩); obtain ⟨k1, k2⟩ := HA1.out.tab9 (w9 := w9) (by rw [HN.out]) He.out hg9; unfold rowV at k1; dsimp only at k1; have HP := Lib.hid (HA1.out.put (w9 := w9) (e' := (b9, m9, d9)) (by rw [HN.out]) He.out hg9 ho9 hat9); have HB9 : Hid (Below ab W w9) := below_grow HB1.out hg9 Hwab.out (fun k hk => Nat.le_of_lt (Hel.out k hk)); clear ho9 hg9 hat9)
            | go_in)
          go_roundg (n - (i + 1))
          case measure => have := Hi.out; have := Hlt.out; omega
          case rel =>
            refine ⟨i + 1, rows1.set j (b9, m9, d9), by have := Hi.out; have := Hlt.out; show _ = _; omega, by go_num, ?_, HB9.out.setCell (p := ⟨gt, j, none⟩) (Nat.le_of_lt Hgtl.out) _⟩
            rw [asmS_succ, Hst.out]; exact HP
        · obtain ⟨j, hj⟩ : ∃ j, val at0 v = j + 1 := ⟨val at0 v - 1, by omega⟩
          rw [hj] at d2
          have ecast : ((j + 1 : Nat) : Int) = (j : Int) + 1 := by omega
          rw [ecast] at d2
          have h0i : ¬ ((j : Int) + 1 = 0) := by omega
          have hjls : j < ls0.length := by
            have h1 : val at0 v ∈ at0 := by rw [← val_getD (by omega), List.getD_eq_getElem?_getD, List.getElem?_eq_getElem (by omega)]; exact List.getElem_mem _
            have := hle _ h1
            omega
          have hst : ∀ l, ls0[j]? = some l → asmStep g (asmS g cc i) i = (at0, ls0.set j (l ++ [i])) := fun l hl => by rw [HS.out]; exact asm_old hvg (by omega) hj hl
          obtain ⟨e, he⟩ : ∃ e : RowE, rows[j]? = some e := ⟨_, List.getElem?_eq_getElem (by omega)⟩
          have hN : rows.length = rows.length := rfl
          have HA1 := HA
          have HB1 := HB
          have hji : j ≤ 4096 := by omega
          clear ecast hrl hal hle hj h0 HA HB hjls
          have hNs : rows.length ≤ 5001 := by have := Hrlen.out; omega
          clear hcnt
          go_upto_region 18 with fail
          obtain ⟨l, hl, hol⟩ := HA1.out.get he
          obtain ⟨gt, ct, hvt, hct, hcf⟩ := HA1.out.tabAt he
          obtain ⟨ea, em, ec⟩ := e
          have hem : em = l.length := (OwnK.row hol).len.symm
          subst hem
          unfold rowV at hct hol
          dsimp only at hct hol
          have hjl : j < rows.length := (List.getElem?_eq_some_iff.1 he).1
          obtain ⟨rfl, rfl⟩ : ta = some ⟨gt, 0, none⟩ ∧ tc = ct := by simp at hvt; exact ⟨hvt.1, hvt.2⟩
          have Hol := Lib.hid hol
          have Hst : Hid (asmStep g (asmS g cc i) i = (at0, ls0.set j (l ++ [i]))) := hst l hl
          have He := Lib.hid he
          have hll : Hid (l.length + 1 ≤ 1000000) := by have := hsm l (List.mem_of_getElem? hl); show _ ≤ _; omega
          have Hab : Hid (ab + 1 ≤ wr.heap.size) := RowIs.lt HA1.out.at_
          have hjli : (j : Int) < (rows.length : Int) := by omega
          have HN := Lib.hid hN
          have hjs2 : j ≤ 5000 := by omega
          have hgtl : ab < gt := (HA1.out.tab.lt rfl).1
          have Hgtl := Lib.hid hgtl
          have Hel : Hid (∀ k, (rowV (ea, l.length, ec)).ownBlock = some k → ab < k) := fun k hk => (HA1.out.rlt He.out hk).1
          have hcf0 := hcf j
          clear hst hl hol he hsm hcf hgtl hN hjl
          go_wp2_with (first
            | (at_builtin; refine wpList_append_one (K := kNat) rfl _ _ rfl (ab + 1) (.slice ea l.length ec) l rfl Hol.out i _ _ rfl rfl hll.out Hab.out ?_; intro v9 w9 ho9 hg9 hat9; obtain ⟨b9, m9, d9, rfl⟩ : (∃ a m c, v9 = Value.slice a m c) := (by obtain ⟨a, c, h, -⟩ := (OwnK.row ho9).form; exact ⟨a, _, c, h⟩); obtain ⟨k1, k2⟩ := HA1.out.tab9 (w9 := w9) (by rw [HN.out]) He.out hg9; unfold rowV at k1; dsimp only at k1; have HP := Lib.hid (HA1.out.put (w9 := w9) (e' := (b9, m9, d9)) (by rw [HN.out]) He.out hg9 ho9 hat9); have HB9 : Hid (Below ab W w9) := below_grow HB1.out hg9 Hwab.out (fun k hk => Nat.le_of_lt (Hel.out k hk)); clear ho9 hg9 hat9)
            | go_in)
          go_roundg (n - (i + 1))
          case measure => have := Hi.out; have := Hlt.out; omega
          case rel =>
            refine ⟨i + 1, rows.set j (b9, m9, d9), by have := Hi.out; have := Hlt.out; show _ = _; omega, by go_num, ?_, HB9.out.setCell (p := ⟨gt, j, none⟩) (Nat.le_of_lt Hgtl.out) _⟩
            rw [asmS_succ, Hst.out]; exact HP
      · have hii : ¬ (i : Int) < (n : Int) := by omega
        obtain rfl : n = i := by have := Hi.out; omega
        clear hlt
        go_wp2
        have hDl : D < ab := by have := lt_of_heap HK.out; rw [Hab0.out] at this; exact this
        have hK' := (HB.out.block D hDl).trans HK.out
        refine ⟨by simp, .inl ⟨_, _, rfl, run_takeDeferred hK', ?_⟩⟩
        refine ⟨_, results_tmp rfl _ _ _, ?_⟩
        have hp : ∀ k, ab < k → (wr.putObj D (.deferred none)).heap[k]? = wr.heap[k]? := fun k hk => World.putObj_heap_other (by omega)
        have hrg : (asmS g cc n).2 = asmF g cc := by rw [← asmS_all, hgl]
        have hA := HA.out
        rw [hrg] at hA
        rw [Hcm.out]
        refine ⟨_, rows, rfl, ?_, hA.tab.row.keptB (fun k hk => hp k (hA.tab.lt hk).1), hA.len, fun i2 e2 l2 he2 hl2 => (hA.row i2 e2 l2 he2 hl2).row.keptB (fun k hk => hp k (hA.rlt he2 hk).1)⟩
        have h1 : Below w.heap.size w wr := HI.out.low.trans (HB.out.mono (by have := HI.out.low.size; rw [Hab0.out] at this; exact this))
        exact h1.trans (belowK_b (w := w) (Nat.le_refl _) wr D _ _ (by have := HD.out; have := Hs.out; omega) hK' rfl rfl)
  case stop =>
    rintro D c pre W _ _ h _
    exact h.elim
theorem components_any {w : World} {p n : Nat} {A B : Nat → List Nat} {es : List Ed} (h : GOk w p n A B) (hE : GEs es n A B) : Calls Try.prog 26 #[.pointer (some ⟨p, 0, none⟩)] w (CompPost w (componentsF A B n)) := callsIn_wide.1 (components_in h hE)
end Go.Proofs.Yteiddebjbiadbaa
