/- graph: Order. -/
import Derived.Test.YteiddebjbiadbaaGmH
import Derived.Test.YteiddebjbiadbaaGmP
namespace Go.Proofs.Yteiddebjbiadbaa
open Go.RowKit Gr
attribute [local go_sem ↓] Go.wp_at_zero Go.wp_at_succ

def lenL (B : Nat → List Nat) (n i : Nat) : List Int := ((List.range i).map fun j => ((B j).length : Int)) ++ List.replicate (n - i) 0
theorem lenL_len (B : Nat → List Nat) {n i : Nat} (hi : i ≤ n) : (lenL B n i).length = n := by
  unfold lenL; rw [List.length_append, List.length_map, List.length_range, List.length_replicate]; omega
theorem lenL_set (B : Nat → List Nat) {n i : Nat} (hi : i < n) : (lenL B n i).set i ((B i).length : Int) = lenL B n (i + 1) := by
  unfold lenL
  rw [List.set_append_right _ _ (by simp), List.range_succ, List.map_append, List.append_assoc]
  congr 1
  rw [List.length_map, List.length_range, Nat.sub_self]
  obtain ⟨k, hk⟩ : ∃ k, n - i = k + 1 := ⟨n - i - 1, by omega⟩
  rw [hk, show n - (i + 1) = k by omega, List.replicate_succ]
  rfl
theorem lenL_all (B : Nat → List Nat) (n : Nat) : lenL B n n = (List.range n).map fun j => ((B j).length : Int) := by
  unfold lenL; rw [Nat.sub_self]; simp
theorem free_succ (B : Nat → List Nat) (i : Nat) : freeF B (i + 1) = if (B i).length = 0 then pushF (freeF B i) i else freeF B i := by
  unfold freeF; rw [List.range_succ, List.foldl_append]; rfl
theorem free_len (B : Nat → List Nat) (i : Nat) : (freeF B i).length ≤ i := by
  rw [(free_perm B i).length_eq]
  exact Nat.le_trans (List.length_filter_le _ _) (by simp)
theorem push_len (h : List Nat) (x : Nat) : (pushF h x).length = h.length + 1 := by rw [(push_perm h x).length_eq]; rfl
theorem kahn_start {es : List Ed} {B : Nat → List Nat} {n : Nat} : Kahn es B n (lenL B n n) (freeF B n) [] := by
  have hat : ∀ i, i < n → at_ ((List.range n).map fun i => ((B i).length : Int)) i = (B i).length := fun i hi => by
    unfold at_
    rw [List.getD_eq_getElem?_getD, List.getElem?_map, List.getElem?_range hi]
    rfl
  rw [lenL_all]
  refine ⟨by simp, fun i hi => ?_, ?_, fun i => ?_, fun l1 x l2 e => by simp at e⟩
  · rw [hat i hi]
    simp [List.countP_true]
  · rw [List.append_nil]
    exact (free_perm B n).nodup_iff.2 (List.Nodup.sublist List.filter_sublist List.nodup_range)
  · rw [List.append_nil, (free_perm B n).mem_iff, List.mem_filter, List.mem_range]
    constructor
    · rintro ⟨a, b⟩
      rw [hat i a]
      exact ⟨a, by have : (B i).length = 0 := by simpa using b
                   omega⟩
    · rintro ⟨a, b⟩
      rw [hat i a] at b
      exact ⟨a, by rw [decide_eq_true_iff]; omega⟩
/-- Behind some steps of a row: the numbers stay small. -/
theorem fold_low : ∀ (ms : List Nat) (L : List Int) (h : List Nat) (c : Nat), (∀ m ∈ ms, m < L.length) → (∀ i, -(c : Int) ≤ at_ L i ∧ at_ L i ≤ 4096) →
    (ms.foldl kahnRow (L, h)).1.length = L.length ∧ (∀ i, -((c + ms.length : Nat) : Int) ≤ at_ (ms.foldl kahnRow (L, h)).1 i ∧ at_ (ms.foldl kahnRow (L, h)).1 i ≤ 4096) ∧ (ms.foldl kahnRow (L, h)).2.length ≤ h.length + ms.length
  | [], _, _, _, _, hv => ⟨rfl, hv, Nat.le_refl _⟩
  | m :: ms, L, h, c, hm, hv => by
    rw [List.foldl_cons]
    have h0 := hm m List.mem_cons_self
    have := fold_low ms (kahnRow (L, h) m).1 (kahnRow (L, h) m).2 (c + 1) (fun x hx => by
      show x < (L.set m _).length
      rw [List.length_set]; exact hm x (List.mem_cons_of_mem _ hx)) (fun i => by
      show _ ≤ at_ (L.set m (at_ L m - 1)) i ∧ at_ (L.set m (at_ L m - 1)) i ≤ _
      rw [at_set h0]
      have h1 := hv i
      have h2 := hv m
      split <;> omega)
    obtain ⟨a, b, c'⟩ := this
    refine ⟨a.trans (List.length_set ..), fun i => ?_, Nat.le_trans c' ?_⟩
    · refine ⟨Int.le_trans ?_ (b i).1, (b i).2⟩
      rw [List.length_cons]
      omega
    · have : (kahnRow (L, h) m).2.length ≤ h.length + 1 := by
        show (if _ then pushF h m else h).length ≤ _
        split
        · rw [push_len]; exact Nat.le_refl _
        · omega
      rw [List.length_cons]
      omega
theorem kahn_le {es : List Ed} {B : Nat → List Nat} {n : Nat} {L : List Int} {h l : List Nat} (k : Kahn es B n L h l) : (h ++ l).length ≤ n := by
  have := nodup_len (b := List.range n) k.nod (fun x hx => List.mem_range.2 ((k.mem x).1 hx).1)
  rwa [List.length_range] at this
theorem kahn_at {es : List Ed} {B : Nat → List Nat} {n : Nat} {L : List Int} {h l : List Nat} (k : Kahn es B n L h l) (hB : ∀ i, (B i).length ≤ 4096) (i : Nat) : -((1 : Nat) : Int) ≤ at_ L i ∧ at_ L i ≤ 4096 := by
  by_cases hi : i < n
  · rw [k.lef i hi]
    have h1 : (B i).countP (fun j => !l.contains j) ≤ (B i).length := List.countP_le_length
    have h2 := hB i
    omega
  · have : at_ L i = -1 := by
      unfold at_
      rw [List.getD_eq_getElem?_getD, List.getElem?_eq_none (by rw [k.len]; omega)]
      rfl
    rw [this]; omega
/-- Order under way: left, and the heap. -/
structure OrAt (y w : World) (lg q n : Nat) (v : Value) (h : List Nat) (L : List Int) : Prop where
  low : Below y.heap.size y w
  row : RowIs w lg 3 (L.map (Value.int .i64))
  hp : HpAt w q v h
  len : L.length = n
  up : y.heap.size ≤ lg ∧ lg < q
section
variable {y w w' : World} {lg q n : Nat} {v v' : Value} {h h' : List Nat} {L : List Int}
theorem OrAt.not (H : OrAt y w lg q n v h L) {k : Nat} (hk : k ≤ q) : v.ownBlock ≠ some k := fun e => by have := (H.hp.own.lt e).1; omega
theorem OrAt.later (H : OrAt y w lg q n v h L) (hb : Below w.heap.size w w') : OrAt y w' lg q n v h L :=
  ⟨H.low.trans (hb.mono H.low.size), H.row.later hb, H.hp.later hb, H.len, H.up⟩
theorem OrAt.set (H : OrAt y w lg q n v h L) (i : Nat) (c : Int) : OrAt y (w.setCell ⟨lg, i, none⟩ (.int .i64 c)) lg q n v h (L.set i c) := by
  have hg := grown_setCell w lg i (.int .i64 c)
  have h1 := H.up
  refine ⟨H.low.setCell (p := ⟨lg, i, none⟩) H.up.1 _, numRow_set H.row i c, H.hp.kept hg (fun e => by cases e; omega) (fun k hk e => ?_), by rw [List.length_set]; exact H.len, H.up⟩
  cases e
  exact H.not (by omega) hk
theorem OrAt.push (H : OrAt y w lg q n v h L) (hA : HpAt w' q v' h') (hF : HpFr w w' q v v') : OrAt y w' lg q n v' h' L := by
  have h1 := H.up
  refine ⟨⟨hF.os.trans H.low.os, hF.tape.trans H.low.tape, hF.output.trans H.low.output, Nat.le_trans H.low.size hF.size, fun k hk => ?_⟩, RowIs.kept H.row (hF.block lg H.row.lt (by omega) (H.not (by omega))), hA, H.len, H.up⟩
  exact (hF.block k (Nat.lt_of_lt_of_le hk H.low.size) (by omega) (H.not (by omega))).trans (H.low.block k hk)
theorem OrAt.grown (H : OrAt y w lg q n v h L) {row : Option Nat} (hg : w.grownBy w' row) (hr : ∀ k, row = some k → q < k ∧ v.ownBlock ≠ some k) : OrAt y w' lg q n v h L := by
  have h1 := H.up
  refine ⟨below_grow H.low hg (Nat.le_refl _) (fun k hk => by have := (hr k hk).1; omega), RowIs.kept H.row (hg.block lg H.row.lt (fun e => by have := (hr lg e.symm).1; omega)), H.hp.kept hg (fun e => by have := (hr q e).1; omega) (fun k hk e => (hr k e).2 hk), H.len, H.up⟩
/-- The list of nodes, apart from the heap. -/
structure LsAt (w : World) (q : Nat) (v vl : Value) (l : List Nat) : Prop where
  own : OwnK kNat (q + 1) w vl l
  ne : ∀ k, vl.ownBlock = some k → v.ownBlock ≠ some k
variable {vl : Value} {l : List Nat}
theorem LsAt.later (H : LsAt w q v vl l) (hb : Below w.heap.size w w') : LsAt w' q v vl l := ⟨H.own.later hb, H.ne⟩
theorem LsAt.set (H : LsAt w q v vl l) (hl : lg < q) (i : Nat) (u : Value) : LsAt (w.setCell ⟨lg, i, none⟩ u) q v vl l := ⟨H.own.set (by omega), H.ne⟩
theorem LsAt.push (H : LsAt w q v vl l) (hF : HpFr w w' q v v') : LsAt w' q v' vl l := by
  refine ⟨⟨H.own.1, ?_⟩, fun k hk => ?_⟩
  · rcases H.own.2 with h2 | ⟨g, cap, cur, hv, hgb, hh, r⟩
    · exact .inl h2
    · exact .inr ⟨g, cap, cur, hv, hgb, (hF.block g (lt_of_heap hh) (by omega) (H.ne g (by rw [hv]; rfl))).trans hh, r⟩
  · have h1 := H.own.lt hk
    rcases hF.own with e | ⟨j, e, hj⟩
    · rw [e]; exact H.ne k hk
    · rw [e]; intro e2; cases e2; omega
end
def OrdPost (w : World) (n : Nat) (A B : Nat → List Nat) (r : Ending) (w' : World) : Prop :=
  Below w.heap.size w w' ∧ ((orderF A B n).length < n ∧ r = .returned nilT ∨ ¬ (orderF A B n).length < n ∧ ∃ v, r = .returned (.tuple #[v, .bool true]) ∧ OwnK kNat w.heap.size w' v (orderF A B n))
set_option maxHeartbeats 3200000 in
theorem order_any {w : World} {p n : Nat} {A B : Nat → List Nat} {es : List Ed} (h : GOk w p n A B) (hE : GEs es n A B) (hna : ∀ i, (A i).Nodup) (hnb : ∀ i, (B i).Nodup) : Calls Try.prog 29 #[.pointer (some ⟨p, 0, none⟩)] w (OrdPost w n A B) := by
  have H := Lib.hid h
  obtain ⟨hn, ga, gb, c0, c1, hra, hrb⟩ := h.at_
  have Hn := Lib.hid hn
  have Hra := Lib.hid hra
  have Hrb := Lib.hid hrb
  have HE := Lib.hid hE
  have HNa := Lib.hid hna
  have HNb := Lib.hid hnb
  have hmk := run_make_row' (P := Try.prog) 30 3 (.int .i64 0) 8 Try.underlying30 (by kernel_rfl) rfl .i64 .i64 n (by omega) (by omega)
  clear h hra hrb hE hna hnb
  go_enter Try.func29, Try.ntmps29
  go_upto_region 5 with fail
  obtain ⟨x1, hx1⟩ : ∃ x1, w.alloc (.cells (madeCells #[.int .i64 0] n) 3) = x1 := ⟨_, rfl⟩
  have z1 : x1.heap.size = w.heap.size + 1 := by rw [← hx1, World.size_alloc]
  have r1 : RowIs x1 w.heap.size 3 (List.replicate n (.int .i64 0)) := by rw [← hx1]; exact made_row _ _ _ _
  have b1 : Below w.heap.size w x1 := by rw [← hx1]; exact (Below.refl _ _).alloc (Nat.le_refl _) _
  obtain ⟨x2, hx2⟩ : ∃ x2, x1.alloc (.cells #[.slice none 0 0] 96) = x2 := ⟨_, rfl⟩
  have r2 : RowIs x2 (w.heap.size + 1) 96 [.slice none 0 0] := by rw [← hx2, ← z1]; exact new_row _ _ _
  have b2 : Below x1.heap.size x1 x2 := by rw [← hx2]; exact (Below.refl _ _).alloc (Nat.le_refl _) _
  rw [hx1, hx2]
  have HO0 : Hid (OrAt w x2 w.heap.size (w.heap.size + 1) n (.slice none 0 0) (freeF B 0) (lenL B n 0)) := by
    refine ⟨b1.trans (b2.mono (by omega)), ?_, ⟨r2, OwnK.nil _ _⟩, lenL_len B (Nat.zero_le _), Nat.le_refl _, by omega⟩
    have := r1.later b2
    rw [show (lenL B n 0).map (Value.int .i64) = List.replicate n (Value.int .i64 0) from by simp [lenL]]
    exact this
  have c1' := cellL c1 HO0.out.low
  obtain ⟨q, hq⟩ : ∃ b, w.heap.size + 1 = b := ⟨_, rfl⟩
  obtain ⟨lg, hlg⟩ : ∃ b, w.heap.size = b := ⟨_, rfl⟩
  rw [hq] at HO0 ⊢
  rw [hlg] at HO0 ⊢
  have Hlg := Lib.hid hlg
  have HO0' : Hid (OrAt w x2 lg q n (.slice none 0 0) (freeF B 0) (lenL B n 0)) := by subst hlg; exact HO0
  have Hc0 := Lib.hid c0
  have Hc1 := Lib.hid c1
  clear HO0 hq hlg r1 r2 b1 b2 hx1 hx2 z1 hmk c0 c1
  go_wp2
  go_loopg [26] n (fun gk iv wr => ∃ (i : Nat) (v : Value), i + gk = n ∧ iv = .int .i64 i ∧ Hid (OrAt w wr lg q n v (freeF B i) (lenL B n i)))
  case atStart => exact ⟨0, _, by omega, rfl, HO0'⟩
  case round =>
    obtain ⟨i, v, hi, rfl, HO⟩ := hrel
    have Hi := Lib.hid hi
    by_cases hlt : i < n
    · obtain ⟨vr, hv1, hv2⟩ := Hrb.out i hlt
      obtain ⟨ra, rc, rfl, -⟩ := hv2.form
      have d1 := cellL hv1 HO.out.low
      have d2 := numRow_at HO.out.row (i := i) (by rw [HO.out.len]; exact hlt)
      have d3 := RowIs.free HO.out.row i
      have hli : (i : Int) < (n : Int) := by omega
      have his : i < 4096 := by omega
      have hbl := H.out.lb i
      have hsu := lenL_set B hlt
      have hfs := free_succ B i
      have hfl : (freeF B i).length + 1 ≤ 1000000 := by have := free_len B i; omega
      have HO1 := HO.out.set i ((B i).length : Int)
      rw [hsu] at HO1
      have HO1 := Lib.hid HO1
      have e1 := numRow_set HO.out.row i ((B i).length : Int)
      have e2 := numRow_at e1 (i := i) (by rw [List.length_set, HO.out.len]; exact hlt)
      rw [at_set (by rw [HO.out.len]; exact hlt), if_pos rfl] at e2
      have Hfs := Lib.hid hfs
      have Hlt := Lib.hid hlt
      clear hv1 hv2 e1 hsu hfs hi hlt HO
      go_upto_region 9 with fail
      obtain ⟨W, hW⟩ : ∃ W, wr.setCell ⟨lg, i, none⟩ (.int .i64 ((B i).length : Int)) = W := ⟨_, rfl⟩
      rw [hW] at HO1 e2 ⊢
      clear hW d1 d2 d3
      by_cases h0 : (B i).length = 0
      · rw [if_pos h0] at Hfs
        have h0i : ((B i).length : Int) = 0 := by omega
        have HP := Lib.hid (hpush_any HO1.out.hp hfl i)
        unfold ifc at HP
        rw [h0i] at e2
        clear h0
        go_wp2_with fail
        refine HP.out.mono ?_
        rintro r w2 ⟨rfl, v2, hA2, hF2⟩
        have HO2 := Lib.hid (HO1.out.push hA2 hF2)
        rw [← Hfs.out] at HO2
        clear hA2 hF2 HP HO1
        go_wp2
        go_roundg (n - (i + 1))
        case measure => have := Hi.out; have := Hlt.out; omega
        case rel => exact ⟨i + 1, _, by have := Hi.out; have := Hlt.out; omega, by go_num, HO2⟩
      · rw [if_neg h0] at Hfs
        rw [← Hfs.out] at HO1
        have h0i : ¬ ((B i).length : Int) = 0 := by omega
        go_wp2
        go_roundg (n - (i + 1))
        case measure => have := Hi.out; have := Hlt.out; omega
        case rel => exact ⟨i + 1, _, by have := Hi.out; have := Hlt.out; omega, by go_num, HO1⟩
    · have hli : ¬ (i : Int) < (n : Int) := by omega
      obtain rfl : n = i := by omega
      have HK0 : Hid (Kahn es B n (lenL B n n) (freeF B n) []) := kahn_start
      have Hor : Hid (kahnF A (n + 1) (lenL B n n) (freeF B n) [] = orderF A B n) := by show _ = _; rw [lenL_all]; rfl
      have HL0 : Hid (LsAt wr q v (.slice none 0 0) []) := ⟨OwnK.nil _ _, fun k hk => by cases hk⟩
      clear hi hlt hli Hrb Hi Hc1
      go_wp2
      go_loopg [8] (n + 1) (fun gk vl wr2 => ∃ (L : List Int) (h l : List Nat) (v : Value), Hid (gk + l.length = n + 1) ∧ Hid (OrAt w wr2 lg q n v h L) ∧ Hid (LsAt wr2 q v vl l) ∧ Hid (Kahn es B n L h l) ∧ Hid (kahnF A gk L h l = orderF A B n))
      case atStart => exact ⟨_, _, [], _, rfl, HO, HL0, HK0, Hor⟩
      case round =>
        clear HO HL0 HK0 Hor
        obtain ⟨L, h, l, v', Hg, HO, HL, HK, HF⟩ := hrel
        have hkl := kahn_le HK.out
        rw [List.length_append] at hkl
        obtain ⟨ha, hc, rfl, hhc⟩ := HO.out.hp.form
        obtain ⟨la, lc, rfl, -⟩ := HL.out.own.row.form
        have d1 := HO.out.hp.cell.cell (i := 0) rfl
        obtain ⟨gk0, rfl⟩ : ∃ g, gk = g + 1 := ⟨gk - 1, by have := Hg.out; omega⟩
        by_cases hh : h.length = 0
        · have hle : kahnF A (gk0 + 1) L h l = l := by unfold kahnF; rw [if_pos hh]
          have Hle : Hid (l = orderF A B n) := hle.symm.trans HF.out
          have hhi : (h.length : Int) = 0 := by omega
          have c0 := cellL Hc0.out HO.out.low
          have hli : (l.length : Int) ≤ 4096 := by omega
          clear hle
          go_wp2_with fail
          refine (len_any _ _ _).mono ?_
          rintro r w3 ⟨rfl, rfl⟩
          by_cases hlt : l.length < n
          · have hlti : (l.length : Int) < (n : Int) := by omega
            have Hlt := Lib.hid hlt
            clear hlt
            go_wp2
            refine bodyPost_ret (v := nilT) (by simp [results, nilT, Try.results29, go_sem]) rfl ?_
            exact ⟨HO.out.low, .inl ⟨by rw [← Hle.out]; exact Hlt.out, rfl⟩⟩
          · have hlti : ¬ (l.length : Int) < (n : Int) := by omega
            have Hlt := Lib.hid hlt
            clear hlt
            go_wp2
            refine bodyPost_ret (v := .tuple #[.slice la l.length lc, .bool true]) (by simp [results, Try.results29, go_sem]) rfl ?_
            have hm : OwnK kNat w.heap.size w3 (.slice la l.length lc) l := HL.out.own.mono (by have := HO.out.up; omega)
            rw [Hle.out] at hm
            refine ⟨HO.out.low, .inr ⟨by rw [← Hle.out]; exact Hlt.out, _, rfl, ?_⟩⟩
            rw [Hle.out]; exact hm
        · have hne : h ≠ [] := fun e => hh (by rw [e]; rfl)
          have hhi : ¬ (h.length : Int) = 0 := by omega
          have hhp : (0 : Int) < (h.length : Int) := by omega
          have HP := Lib.hid (hpop_any HO.out.hp (by omega) hne)
          have HK1 := Lib.hid (kahn_step HE.out.a HE.out.b HNa.out HNb.out HE.out.ins HK.out hne)
          have hpm := pop_perm hne
          have hx : (popF h).1 < n := ((HK.out.mem _).1 (List.mem_append_left _ (hpm.mem_iff.2 List.mem_cons_self))).1
          have hpl : (popF h).2.length + 1 = h.length := by rw [hpm.length_eq]; rfl
          have hF2 : kahnF A gk0 ((A (popF h).1).foldl kahnRow (L, (popF h).2)).1 ((A (popF h).1).foldl kahnRow (L, (popF h).2)).2 (l ++ [(popF h).1]) = orderF A B n := by
            rw [← HF.out]
            conv => rhs; unfold kahnF
            rw [if_neg hh]
          unfold ifc at HP
          generalize (popF h).1 = x at HP HK1 hx hF2
          generalize (popF h).2 = h2 at HP HK1 hpl hF2
          have HF2 := Lib.hid hF2
          have Hx := Lib.hid hx
          have Hpl := Lib.hid hpl
          have Hkl := Lib.hid hkl
          clear hF2 hpm hpl HF hh hkl hne
          go_wp2_with fail
          refine (len_any _ _ _).mono ?_
          rintro r w3 ⟨rfl, rfl⟩
          go_wp2_with fail
          refine HP.out.mono ?_
          rintro r w4 ⟨rfl, v4, hA4, hF4⟩
          have HO4 := Lib.hid (HO.out.push hA4 hF4)
          have HL4 := Lib.hid (HL.out.push hF4)
          have hta := run_assert_int (x : Int) 20 w4
          have c0 := cellL Hc0.out HO4.out.low
          obtain ⟨vr, hv1, hv2⟩ := Hra.out x hx
          obtain ⟨ra, rc, rfl, -⟩ := hv2.form
          have Hll : Hid (l.length + 1 ≤ 1000000) := by have := Hkl.out; show _ ≤ _; omega
          have Hsz : Hid (q + 1 ≤ w4.heap.size) := HO4.out.hp.cell.lt
          have Hrw := Lib.hid hv2
          have Hv1 := Lib.hid hv1
          have hxi : (x : Int) < (n : Int) := by omega
          clear hA4 hF4 HP HO HL d1 hv1 hv2
          go_upto_region 16 with (first
            | (at_builtin; refine wpList_append_one (K := kNat) rfl _ _ rfl (q + 1) (.slice la l.length lc) l rfl HL4.out.own x _ _ rfl rfl Hll.out Hsz.out ?_; intro v9 w9 ho9 hg9 hat9; obtain ⟨a9, m9, c9, rfl⟩ : (∃ a m c, v9 = Value.slice a m c) := (by obtain ⟨a, c, h, -⟩ := (OwnK.row ho9).form; exact ⟨a, _, c, h⟩); have HO9 := Lib.hid (HO4.out.grown hg9 (fun k hk => ⟨by have := (HL4.out.own.lt hk).1; omega, HL4.out.ne k hk⟩)); have HL9 : Hid (LsAt w9 q v4 (.slice a9 m9 c9) (l ++ [x])) := ⟨ho9, fun k hk e => by { have h1 := HO4.out.hp.own.lt e; rcases hat9 with e2 | e2; exact HL4.out.ne k (e2 ▸ hk) e; rw [e2] at hk; cases hk; omega }⟩; clear ho9 hg9 hat9 hta HO4 HL4 c0)
            | go_in)
          have c0 := cellL Hc0.out HO9.out.low
          have c2 := cellL Hv1.out HO9.out.low
          have HA0 : Hid (∃ v', OrAt w w9 lg q n v' (((A x).take 0).foldl kahnRow (L, h2)).2 (((A x).take 0).foldl kahnRow (L, h2)).1 ∧ LsAt w9 q v' (.slice a9 m9 c9) (l ++ [x])) := ⟨_, HO9.out, HL9.out⟩
          have hatL := kahn_at HK.out H.out.lb
          have Hat := Lib.hid hatL
          have HLn : Hid (L.length = n) := HK.out.len
          have hax : (A x).length ≤ 4096 := H.out.la x
          clear HO9 HL9 hatL Hsz Hll Hv1 HK
          go_wp2
          go_loopg [68] (A x).length (fun gj jv wr => ∃ j : Nat, Hid (j + gj = (A x).length) ∧ jv = .int .i64 j ∧ Hid (∃ v', OrAt w wr lg q n v' (((A x).take j).foldl kahnRow (L, h2)).2 (((A x).take j).foldl kahnRow (L, h2)).1 ∧ LsAt wr q v' (.slice a9 m9 c9) (l ++ [x])))
          case atStart => exact ⟨0, Nat.zero_add _, rfl, HA0⟩
          case round =>
            clear HA0 c0 c2
            obtain ⟨j, Hj, rfl, HA⟩ := hrel
            obtain ⟨v', hO, hL⟩ := HA.out
            by_cases hlt : j < (A x).length
            · obtain ⟨m, hm⟩ : ∃ m, (A x)[j]? = some m := ⟨_, List.getElem?_eq_getElem hlt⟩
              have hmn : m < n := H.out.a x m (List.mem_of_getElem? hm)
              obtain ⟨hf1, hf2, hf3⟩ := fold_low ((A x).take j) L h2 1 (fun y hy => by rw [HLn.out]; exact H.out.a x y (List.mem_of_mem_take hy)) Hat.out
              have hst : ((A x).take (j + 1)).foldl kahnRow (L, h2) = kahnRow (((A x).take j).foldl kahnRow (L, h2)) m := by
                rw [List.take_add_one, hm, List.foldl_append]; rfl
              have htl : ((A x).take j).length ≤ 4096 := Nat.le_trans (List.length_take_le' ..) hax
              generalize hS : ((A x).take j).foldl kahnRow (L, h2) = S at hO hL hf1 hf2 hf3 hst
              obtain ⟨L1, h1⟩ := S
              dsimp only at hO hL hf1 hf2 hf3 hst
              have hbm := hf2 m
              have HO := Lib.hid hO
              have HL := Lib.hid hL
              have d2 := numRow_at hO.row (i := m) (by rw [hO.len]; exact hmn)
              have d3 := RowIs.free hO.row m
              obtain ⟨ag, ao, rfl, hca⟩ := (Hrw.out.later hO.low).at_ hm
              have d1 := hca 0 _ rfl
              simp only [kNat, Nat.mul_one, Nat.add_zero] at d1
              have HO1 := Lib.hid (hO.set m (at_ L1 m - 1))
              have HL1 := Lib.hid (hL.set hO.up.2 m (.int .i64 (at_ L1 m - 1)) (lg := lg))
              have e2 := numRow_at HO1.out.row (i := m) (by rw [HO1.out.len]; exact hmn)
              rw [at_set (by rw [hO.len]; exact hmn), if_pos rfl] at e2
              have hmi : (m : Int) < (n : Int) := by omega
              have hji : (j : Int) < ((A x).length : Int) := by omega
              have hjs : j < 4096 := by omega
              have hfl : h1.length + 1 ≤ 1000000 := by have := Hpl.out; have := Hkl.out; omega
              have Hst := Lib.hid hst
              have Hlt := Lib.hid hlt
              unfold kahnRow at Hst
              dsimp only at Hst
              generalize at_ L1 m = a at d2 HO1 HL1 e2 Hst hbm
              obtain ⟨hb1, hb2⟩ := hbm
              have hb3 : -5000 ≤ a := by omega
              clear hb1 hf1 hf2 hf3 hS hst hca hm hO hL HA HO HL hlt
              go_upto_region 20 with fail
              obtain ⟨W, hW⟩ : ∃ W, wr.setCell ⟨lg, m, none⟩ (.int .i64 (a - 1)) = W := ⟨_, rfl⟩
              rw [hW] at HO1 HL1 e2 ⊢
              clear hW d1 d2 d3
              by_cases h0 : a - 1 = 0
              · rw [if_pos h0] at Hst
                have HP := Lib.hid (hpush_any HO1.out.hp hfl m)
                unfold ifc at HP
                rw [h0] at e2
                have Hst2 : Hid (((A x).take (j + 1)).foldl kahnRow (L, h2) = (L1.set m (a - 1), pushF h1 m)) := Hst
                clear h0 Hst
                go_wp2_with fail
                refine HP.out.mono ?_
                rintro r w5 ⟨rfl, v5, hA5, hF5⟩
                have HA6 : Hid (∃ v', OrAt w w5 lg q n v' (((A x).take (j + 1)).foldl kahnRow (L, h2)).2 (((A x).take (j + 1)).foldl kahnRow (L, h2)).1 ∧ LsAt w5 q v' (.slice a9 m9 c9) (l ++ [x])) := by
                  rw [Hst2.out]
                  exact ⟨v5, HO1.out.push hA5 hF5, HL1.out.push hF5⟩
                clear hA5 hF5 HP HO1 HL1 Hst2 e2
                go_wp2
                go_roundg ((A x).length - (j + 1))
                case measure => have := Hj.out; have := Hlt.out; omega
                case rel => exact ⟨j + 1, by have := Hj.out; have := Hlt.out; show _ = _; omega, by go_num, HA6⟩
              · rw [if_neg h0] at Hst
                have Hst2 : Hid (((A x).take (j + 1)).foldl kahnRow (L, h2) = (L1.set m (a - 1), h1)) := Hst
                have HA6 : Hid (∃ v', OrAt w W lg q n v' (((A x).take (j + 1)).foldl kahnRow (L, h2)).2 (((A x).take (j + 1)).foldl kahnRow (L, h2)).1 ∧ LsAt W q v' (.slice a9 m9 c9) (l ++ [x])) := by
                  rw [Hst2.out]
                  exact ⟨v', HO1.out, HL1.out⟩
                clear HO1 HL1 Hst Hst2
                go_wp2
                go_roundg ((A x).length - (j + 1))
                case measure => have := Hj.out; have := Hlt.out; omega
                case rel => exact ⟨j + 1, by have := Hj.out; have := Hlt.out; show _ = _; omega, by go_num, HA6⟩
            · have hji : ¬ (j : Int) < ((A x).length : Int) := by omega
              rw [List.take_of_length_le (by omega)] at hO
              have HO := Lib.hid hO
              have HL := Lib.hid hL
              clear hO hL HA hlt
              go_wp2
              go_roundg gk0
              case measure => omega
              case rel => exact ⟨_, _, l ++ [x], v', by have := Hg.out; show _ = _; rw [List.length_append, List.length_singleton]; omega, HO, HL, HK1, HF2⟩
end Go.Proofs.Yteiddebjbiadbaa
