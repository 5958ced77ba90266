/- law 08: GraphMany. (printed by wip/gen_gmlm.py) -/
import Derived.Test.YteiddebjbiadbaaGmV
import Derived.Test.YteiddebjbiadbaaGmD
import Derived.Test.YteiddebjbiadbaaGmI
namespace Go.Proofs.Yteiddebjbiadbaa
open Go.RowKit Gr
attribute [local go_sem ↓] Go.wp_at_zero Go.wp_at_succ

theorem make_edges : ∃ MC : Array Value, MC.size = 131072 ∧ ∀ w : World, (Instr.makeSlice 45 (.int .i64 65536) (.int .i64 65536)).run Try.prog w = .ok (.slice (some ⟨w.heap.size, 0, none⟩) 65536 65536) (w.alloc (.cells MC 60)) := by
  obtain ⟨i, hi, hz0, hz1, hz2⟩ := info_parts kEdge.info
  refine ⟨madeCells kEdge.z.cells (65536 * i.size), by rw [size_madeCells, hz1]; rfl, fun w => ?_⟩
  have hr := run_make (P := Try.prog) w 45 60 i kEdge.z Try.underlying45 hi hz0 .i64 .i64 65536 65536 (by decide) (by decide) (by rw [hz2]; decide) (by decide)
  exact hr
theorem row_rep {w : World} {b N : Nat} {L : List Value} {f t : Int} (h : RowIs w b 60 L) (hj : ∀ j, j < N → L[j * 2]? = some (.int .i64 f) ∧ L[j * 2 + 1]? = some (.int .i64 t)) : RowK kEdge w (.slice (some ⟨b, 0, none⟩) N N) (List.replicate N (f, t)) := by
  refine .inr ⟨b, 0, N, by rw [List.length_replicate], by rw [List.length_replicate]; exact Nat.le_refl _, fun j x hx i u hu => ?_⟩
  have hlt := (List.getElem?_eq_some_iff.1 hx).1
  rw [List.length_replicate] at hlt
  obtain rfl : (f, t) = x := by
    rw [List.getElem?_replicate, if_pos hlt] at hx
    exact Option.some.inj hx
  obtain ⟨h1, h2⟩ := hj j hlt
  rcases i with _ | _ | i
  · obtain rfl : Value.int .i64 f = u := by simpa [kEdge] using hu
    rw [show 0 + j * kEdge.S + 0 = j * 2 from by show 0 + j * 2 + 0 = _; omega]
    exact h.cell h1
  · obtain rfl : Value.int .i64 t = u := by simpa [kEdge] using hu
    rw [show 0 + j * kEdge.S + 1 = j * 2 + 1 from by show 0 + j * 2 + 1 = _; omega]
    exact h.cell h2
  · simp [kEdge] at hu
theorem es_rep {N f t : Nat} (hN : 0 < N) : esOf (List.replicate N ((f : Int), (t : Int))) = [(f, t)] := by
  unfold esOf
  refine norm_unique (refNew_ok _).1 (List.pairwise_singleton _ _) (fun e => ?_)
  rw [(refNew_ok _).2, List.map_replicate]
  simp only [List.mem_replicate, List.mem_singleton]
  have : toEd ((f : Int), (t : Int)) = (f, t) := by simp [toEd]
  rw [this]
  exact ⟨fun h => h.2, fun h => ⟨by omega, h⟩⟩
set_option linter.unusedSimpArgs false in
set_option maxRecDepth 100000 in
set_option maxHeartbeats 1600000 in
theorem lawMany_any {w : World} {f t : Nat} (hf : f ≤ 255) (ht : t ≤ 255) (more : Bool) :
    Calls Try.prog 7 #[.int .u8 (f : Int), .int .u8 (t : Int), .bool more] w (TruePost w) := by
  obtain ⟨MC, hMC, hmk⟩ := make_edges
  have Hft : Hid (f ≤ 255 ∧ t ≤ 255) := ⟨hf, ht⟩
  go_enter Try.func7, Try.ntmps7
  go_wp2_with fail
  refine (known_any _).mono ?_
  rintro r x2 ⟨rfl, hb2⟩
  have HB2 : Hid (Below w.heap.size w x2) := hb2
  clear hb2
  go_upto_region 4 with fail
  obtain ⟨y0, hy0⟩ : ∃ y, x2.alloc (.cells MC 60) = y := ⟨_, rfl⟩
  have HR0 : Hid (∃ L, RowIs y0 x2.heap.size 60 L ∧ L.length = 131072 ∧ ∀ j, j < 0 → L[j * 2]? = some (.int .i64 (f : Int)) ∧ L[j * 2 + 1]? = some (.int .i64 (t : Int))) := by
    refine ⟨MC.toList, ?_, by rw [Array.length_toList]; exact hMC, fun j hj => absurd hj (Nat.not_lt_zero j)⟩
    rw [← hy0]
    have := new_row x2 60 MC.toList
    rwa [Array.toArray_toList] at this
  have HBy : Hid (Below w.heap.size w y0) := by rw [← hy0]; exact HB2.out.alloc HB2.out.size _
  rw [hy0]
  have hle := HB2.out.size
  obtain ⟨b, hb⟩ : ∃ b, x2.heap.size = b := ⟨_, rfl⟩
  rw [hb] at HR0 hle ⊢
  have Hle := Lib.hid hle
  clear hy0 hb hle hmk hMC
  go_wp2
  go_loopg [8] 65536 (fun gk iv wr => ∃ i : Nat, Hid (i + gk = 65536) ∧ iv = .int .i64 i ∧ Hid (∃ L, RowIs wr b 60 L ∧ L.length = 131072 ∧ ∀ j, j < i → L[j * 2]? = some (.int .i64 (f : Int)) ∧ L[j * 2 + 1]? = some (.int .i64 (t : Int))) ∧ Hid (Below w.heap.size w wr))
  case atStart => exact ⟨0, Nat.zero_add _, rfl, HR0, HBy⟩
  case round =>
    clear HR0 HBy
    obtain ⟨i, Hi, rfl, HR, HB⟩ := hrel
    obtain ⟨L, hrow, hlen, hall⟩ := HR.out
    by_cases hlt : i < 65536
    · obtain ⟨u0, hu0⟩ : ∃ u, L[i * 2]? = some u := ⟨_, List.getElem?_eq_getElem (by omega)⟩
      obtain ⟨u1, hu1⟩ : ∃ u, L[i * 2 + 1]? = some u := ⟨_, List.getElem?_eq_getElem (by omega)⟩
      have d0 := hrow.cell hu0
      have d1 := hrow.cell hu1
      have f0 := RowIs.free hrow (i * 2)
      have f1 := RowIs.free hrow (i * 2 + 1)
      have HR2 : Hid (∃ L, RowIs ((wr.setCell ⟨b, i * 2, none⟩ (.int .i64 (f : Int))).setCell ⟨b, i * 2 + 1, none⟩ (.int .i64 (t : Int))) b 60 L ∧ L.length = 131072 ∧ ∀ j, j < i + 1 → L[j * 2]? = some (.int .i64 (f : Int)) ∧ L[j * 2 + 1]? = some (.int .i64 (t : Int))) := by
        refine ⟨_, RowIs.set (RowIs.set hrow (i * 2) _) (i * 2 + 1) _, by rw [List.length_set, List.length_set]; exact hlen, fun j hj => ?_⟩
        simp only [List.getElem?_set, List.length_set]
        rcases (by omega : j < i ∨ j = i) with q | q
        · rw [if_neg (by omega), if_neg (by omega), if_neg (by omega), if_neg (by omega)]
          exact hall j q
        · subst q
          rw [if_neg (by omega), if_pos rfl, if_pos (by omega), if_pos rfl, if_pos (by omega)]
          exact ⟨rfl, rfl⟩
      have HB2 : Hid (Below w.heap.size w ((wr.setCell ⟨b, i * 2, none⟩ (.int .i64 (f : Int))).setCell ⟨b, i * 2 + 1, none⟩ (.int .i64 (t : Int)))) :=
        (HB.out.setCell (p := ⟨b, i * 2, none⟩) Hle.out _).setCell (p := ⟨b, i * 2 + 1, none⟩) Hle.out _
      have hii : (i : Int) < 65536 := by omega
      have Hlt := Lib.hid hlt
      clear hrow hlen hall hu0 hu1 HR
      go_wp2
      go_roundg (65536 - (i + 1))
      case measure => have := Hi.out; have := Hlt.out; omega
      case rel => exact ⟨i + 1, by have := Hi.out; have := Hlt.out; show _ = _; omega, by go_num, HR2, HB2⟩
    · obtain rfl : i = 65536 := by have := Hi.out; omega
      have HK : Hid (RowK kEdge wr (.slice (some ⟨b, 0, none⟩) 65536 65536) (List.replicate 65536 ((f : Int), (t : Int)))) := row_rep hrow hall
      obtain ⟨h00, h01⟩ := hall 0 (by decide)
      have d0 := hrow.cell h00
      have d1 := hrow.cell h01
      simp only [Nat.zero_mul, Nat.zero_add] at d0 d1
      have hlr : (List.replicate 65536 ((f : Int), (t : Int))).length = 65536 := List.length_replicate
      have Hgood : Hid (∀ e ∈ List.replicate 65536 ((f : Int), (t : Int)), goodE 256 e) := fun e he => by
        have := (List.mem_replicate.1 he).2
        subst this
        have := Hft.out
        unfold goodE; dsimp only; omega
      have Hes : Hid (esOf (List.replicate 65536 ((f : Int), (t : Int))) = [(f, t)]) := es_rep (by decide)
      have Hlr := Lib.hid hlr
      clear hrow hlen hall h00 h01 hlr HR hlt Hi
      obtain ⟨xs, hxs⟩ : ∃ xs, List.replicate 65536 ((f : Int), (t : Int)) = xs := ⟨_, rfl⟩
      rw [hxs] at HK Hgood Hes Hlr
      clear hxs
      cases more
      · have HN := Lib.hid (new_ok (n := 256) HK.out (by rw [Hlr.out]; decide) (by decide) Hgood.out)
        clear d0 d1
        go_wp2_with fail
        refine HN.out.mono ?_
        rintro r x3 ⟨hb3, p, rfl, hG, -⟩
        have HB3 : Hid (Below w.heap.size w x3) := HB.out.trans (hb3.mono HB.out.size)
        rw [Hes.out] at hG
        have HG := Lib.hid hG
        have hnm : Norm [(f, t)] := List.pairwise_singleton _ _
        have hin : Ins 256 [(f, t)] := fun e he => by
          obtain rfl : e = (f, t) := by simpa using he
          have := Hft.out
          exact ⟨by show f < 256; omega, by show t < 256; omega⟩
        have hed := edges_aft hnm hin
        have HE := Lib.hid (edges_any HG.out (by rw [hed, List.length_singleton]; omega))
        rw [hed] at HE
        clear hb3 hG HN hed hin
        have Hnm := Lib.hid hnm
        clear hnm
        go_wp2_with fail
        refine HE.out.mono ?_
        rintro r x4 ⟨v4, rfl, ho4, hb4⟩
        have HB4 : Hid (Below w.heap.size w x4) := HB3.out.trans (hb4.mono HB3.out.size)
        obtain ⟨a4, c4, e4, -⟩ := ho4.row.form
        have e4 : v4 = .slice a4 1 c4 := e4
        subst e4
        have HH := Lib.hid (hasEdge_any (HG.out.later hb4) (fun i => aft_sort Hnm.out i) (f : Int) (t : Int))
        have hbb : (nodeB 256 (f : Int) && decide ((t : Int) ∈ ints (aft [(f, t)] (f : Int).toNat))) = true := by
          rw [Bool.and_eq_true, decide_eq_true_iff, Int.toNat_natCast]
          refine ⟨nodeB_iff.2 (by have := Hft.out; omega), ?_⟩
          unfold ints
          exact List.mem_map.2 ⟨t, mem_aft.2 List.mem_cons_self, rfl⟩
        rw [hbb] at HH
        clear hbb hb4 ho4 HE
        go_wp2_with fail
        refine HH.out.mono ?_
        rintro r x5 ⟨rfl, hb5⟩
        have HB5 : Hid (Below w.heap.size w x5) := HB4.out.trans (hb5.mono HB4.out.size)
        clear hb5 HH
        go_wp2
        go_ret
        exact ⟨rfl, HB5.out⟩
      · have HW : Hid (Below wr.heap.size wr (wr.alloc (.cells #[.int .i64 (f : Int), .int .i64 (t : Int)] 60))) := (Below.refl _ _).alloc (Nat.le_refl _) _
        go_wp2_with (first
          | (at_builtin; refine wpList_append_full (K := kEdge) rfl _ _ rfl b 0 65536 xs rfl Hlr.out (RowK.later HK.out HW.out) ((f : Int), (t : Int)) wr.heap.size _ _ rfl (heap_alloc_new wr _) rfl (by have := Hlr.out; omega) ?_; intro v9 w9 ho9 hb9; have HB9 : Hid (Below w.heap.size w w9) := HB.out.trans ((HW.out.trans (hb9.mono HW.out.size)).mono HB.out.size); have hl9 : (xs ++ [((f : Int), (t : Int))]).length = 65537 := (by have := Hlr.out; rw [List.length_append, List.length_singleton]; omega); obtain ⟨a9, c9, e9, -⟩ := (OwnK.row ho9).form; rw [hl9] at e9; subst e9; have HO9 := Lib.hid (OwnK.row ho9); have Hl9 := Lib.hid hl9; clear ho9 hb9 hl9)
          | fail)
        go_at_call 20
        refine (new_any (nodes := 256) HO9.out (by have := Hl9.out; omega)).mono ?_
        rintro r x3 ⟨hb3, q⟩
        have HB3 : Hid (Below w.heap.size w x3) := HB9.out.trans (hb3.mono HB9.out.size)
        obtain rfl : r = .returned (.tuple #[.pointer none, .int .i64 9]) := by
          rcases q with ⟨q, -⟩ | ⟨-, -, q⟩ | ⟨-, q, -⟩ | ⟨-, q, -⟩
          · omega
          · exact q
          · rw [Hl9.out] at q; omega
          · rw [Hl9.out] at q; omega
        clear q hb3 d0 d1
        go_wp2
        go_ret
        exact ⟨rfl, HB3.out⟩
end Go.Proofs.Yteiddebjbiadbaa
