/- reference 08: marks. -/
import Derived.Test.YteiddebjbiadbaaGmT
import Derived.Test.YteiddebjbiadbaaGmC
namespace Go.Proofs.Yteiddebjbiadbaa
open Go.RowKit Gr
attribute [local go_sem ↓] Go.wp_at_zero Go.wp_at_succ

theorem start_succ (n : Nat) (S : List Int) {i : Nat} {x : Int} (h : S[i]? = some x) : startF n (nodesF n (S.take (i + 1))) = if nodeB n x = true then (startF n (nodesF n (S.take i))).set x.toNat 1 else startF n (nodesF n (S.take i)) := by
  unfold startF nodesF
  rw [List.take_add_one, h, List.filter_append, List.map_append, List.foldl_append]
  by_cases q : nodeB n x = true <;> simp [q]
theorem start_len (n : Nat) (S : List Nat) : (startF n S).length = n := by
  unfold startF
  have : ∀ (S m : List Nat), (S.foldl (fun m s => m.set s 1) m).length = m.length := by
    intro S
    induction S with
    | nil => intro m; rfl
    | cons t S ih => intro m; rw [List.foldl_cons, ih, List.length_set]
  rw [this]; simp
theorem row_len : ∀ (fs : List Ed) (st : List Nat × Bool), (fs.foldl markRow st).1.length = st.1.length
  | [], _ => rfl
  | e :: fs, st => by
    rw [List.foldl_cons, row_len fs]
    unfold markRow
    split
    · exact List.length_set ..
    · rfl
/-- marks under way. -/
structure MkAt (w wr : World) (s b n : Nat) (v : Value) (m : List Nat) : Prop where
  low : Below w.heap.size w wr
  box : RowIs wr s 27 [.int .i64 (n : Int), v]
  row : BoolRow wr b m
  len : m.length = n
  up : w.heap.size ≤ s ∧ w.heap.size ≤ b ∧ s ≠ b
theorem MkAt.set {w wr : World} {s b n : Nat} {v : Value} {m : List Nat} (h : MkAt w wr s b n v m) (i : Nat) : MkAt w (wr.setCell ⟨b, i, none⟩ (.bool true)) s b n v (m.set i 1) :=
  ⟨h.low.setCell (p := ⟨b, i, none⟩) h.up.2.1 _, RowIs.other_set h.box (fun e => h.up.2.2 e.symm) _ _, h.row.set i 1 (by decide), by rw [List.length_set]; exact h.len, h.up⟩
theorem MkAt.later {w wr wr' : World} {s b n : Nat} {v : Value} {m : List Nat} (h : MkAt w wr s b n v m) (hb : Below wr.heap.size wr wr') : MkAt w wr' s b n v m :=
  ⟨h.low.trans (hb.mono h.low.size), h.box.later hb, RowIs.later h.row hb, h.len, h.up⟩
set_option maxHeartbeats 3200000 in
theorem marks_any {w : World} {n : Nat} {v vf : Value} {es : List Ed} {S : List Int} (h : RowK kE w v (es.map ofEd)) (hl : es.length ≤ 100000) (hin : Ins n es) (hn : n ≤ 4096) (hS : RowK kInt w vf S) (hSl : S.length ≤ 100000) :
    Calls Try.prog 42 #[.agg #[.int .i64 (n : Int), v], vf] w fun r w' => ∃ b, r = .returned (.slice (some ⟨b, 0, none⟩) n n) ∧ BoolRow w' b (marksF es (n + 1) (startF n (nodesF n S))) ∧ w.heap.size ≤ b ∧ Below w.heap.size w w' := by
  obtain ⟨av, cv0, rfl, -⟩ := h.form
  obtain ⟨af, cf, rfl, -⟩ := hS.form
  rw [List.length_map] at h ⊢
  have H := Lib.hid h
  have HS := Lib.hid hS
  have Hin := Lib.hid hin
  have hmk := run_make_row' (P := Try.prog) 78 4 (.bool false) 1 Try.underlying78 (by kernel_rfl) rfl .i64 .i64 n (by omega) (by omega)
  clear h hS hin
  go_enter Try.func42, Try.ntmps42
  go_upto_region 2 with fail
  obtain ⟨x1, hx1⟩ : ∃ x1, w.alloc (.cells #[.int .i64 (n : Int), .slice av es.length cv0] 27) = x1 := ⟨_, rfl⟩
  have b1 : Below w.heap.size w x1 := by rw [← hx1]; exact (Below.refl _ _).alloc (Nat.le_refl _) _
  have r1 : RowIs x1 (w.heap.size) 27 [.int .i64 (n : Int), .slice av es.length cv0] := by rw [← hx1]; exact new_row _ _ _
  have z1 : x1.heap.size = w.heap.size + 1 := by rw [← hx1, World.size_alloc]
  obtain ⟨x2, hx2⟩ : ∃ x2, x1.alloc (.cells (madeCells #[.bool false] n) 4) = x2 := ⟨_, rfl⟩
  have b2 : Below x1.heap.size x1 x2 := by rw [← hx2]; exact (Below.refl _ _).alloc (Nat.le_refl _) _
  have r2 : RowIs x2 (w.heap.size + 1) 4 (List.replicate n (.bool false)) := by rw [← hx2, ← z1]; exact made_row _ _ _ _
  have z2 : x2.heap.size = w.heap.size + 1 + 1 := by rw [← hx2, World.size_alloc, z1]
  rw [hx1, hx2]
  have H0 : Hid (MkAt w x2 w.heap.size (w.heap.size + 1) n (.slice av es.length cv0) (startF n (nodesF n (S.take 0)))) := by
    refine ⟨b1.trans (b2.mono (by omega)), r1.later b2, ?_, start_len _ _, by omega⟩
    unfold BoolRow
    rw [show (startF n (nodesF n (S.take 0))).map boolV = List.replicate n (Value.bool false) from by simp [startF, nodesF, boolV]]
    exact r2
  clear hx1 hx2 b1 b2 r1 r2 z1 z2 hmk
  obtain ⟨b, hb⟩ : ∃ b, w.heap.size + 1 = b := ⟨_, rfl⟩
  obtain ⟨s, hs⟩ : ∃ b, w.heap.size = b := ⟨_, rfl⟩
  rw [hb, hs] at H0
  rw [hb, hs]
  have Hs := Lib.hid hs
  have Hb := Lib.hid hb
  clear hb hs
  go_wp2
  go_loopg [6] S.length (fun gk iv wr => ∃ i : Nat, Hid (i + gk = S.length) ∧ iv = .int .i64 i ∧ Hid (MkAt w wr s b n (.slice av es.length cv0) (startF n (nodesF n (S.take i)))))
  case atStart => exact ⟨0, Nat.zero_add _, rfl, H0⟩
  case round =>
    clear H0
    obtain ⟨i, Hi, rfl, HM⟩ := hrel
    have g1 := HM.out.box.cell (i := 0) rfl
    by_cases hlt : i < S.length
    · obtain ⟨x, hx⟩ : ∃ x, S[i]? = some x := ⟨_, List.getElem?_eq_getElem hlt⟩
      obtain ⟨ag, ao, rfl, hca⟩ := (HS.out.later HM.out.low).at_ hx
      have d1 := hca 0 _ rfl
      simp only [kInt, Nat.mul_one, Nat.add_zero] at d1
      have hst := start_succ n S hx
      have hii : (i : Int) < (S.length : Int) := by omega
      have Hlt := Lib.hid hlt
      have hdn : ∀ k, Below wr.heap.size wr (wr.drewN k) := fun k => Below.dn (Below.refl _ _) k
      have Hdn := Lib.hid hdn
      clear hca hx hlt
      go_upto_region 5 with fail
      by_cases hq : 0 ≤ x ∧ x < (n : Int)
      · obtain ⟨h0, h1⟩ := hq
        obtain ⟨m, rfl⟩ := Int.eq_ofNat_of_zero_le h0
        have hq2 : nodeB n (m : Int) = true := by unfold nodeB; simp; omega
        rw [if_pos hq2] at hst
        have hm2 : ((m : Int)).toNat = m := by simp
        rw [hm2] at hst
        have Hst := Lib.hid hst
        have d3 := HM.out.row.at_ (i := m) (by rw [HM.out.len]; omega)
        have d4 := RowIs.free HM.out.row m
        clear hst hq2 hm2 hdn
        go_quiet (fail)
        go_wp2
        go_roundg (S.length - (i + 1))
        case measure => have := Hi.out; have := Hlt.out; omega
        case rel => exact ⟨i + 1, by have := Hi.out; have := Hlt.out; show _ = _; omega, by go_num, by rw [Hst.out]; exact (HM.out.later (Hdn.out _)).set m⟩
      · have hq2 : ¬ nodeB n x = true := by unfold nodeB; simp; omega
        rw [if_neg hq2] at hst
        have Hst := Lib.hid hst
        clear hst hq2 hdn
        by_cases h0 : 0 ≤ x
        · have h1 : decide (x < (n : Int)) = false := decide_eq_false (fun h => hq ⟨h0, h⟩)
          clear hq
          go_quiet (fail)
          go_wp2
          go_roundg (S.length - (i + 1))
          case measure => have := Hi.out; have := Hlt.out; omega
          case rel => exact ⟨i + 1, by have := Hi.out; have := Hlt.out; show _ = _; omega, by go_num, by rw [Hst.out]; exact HM.out.later (Hdn.out _)⟩
        · have h1 : decide (0 ≤ x) = false := decide_eq_false h0
          clear hq
          go_quiet (fail)
          go_wp2
          go_roundg (S.length - (i + 1))
          case measure => have := Hi.out; have := Hlt.out; omega
          case rel => exact ⟨i + 1, by have := Hi.out; have := Hlt.out; show _ = _; omega, by go_num, by rw [Hst.out]; exact HM.out.later (Hdn.out _)⟩
    · have hii : ¬ (i : Int) < (S.length : Int) := by omega
      rw [List.take_of_length_le (by omega)] at HM
      obtain ⟨T, hT⟩ : ∃ T, marksF es (n + 1) (startF n (nodesF n S)) = T := ⟨_, rfl⟩
      have HT := Lib.hid hT
      have Hz0 : Hid (zeros (startF n (nodesF n S)) < n + 1) := by have := zeros_le (startF n (nodesF n S)); rw [start_len] at this; show _ < _; omega
      have HK0 : Hid (Mk es n (nodesF n S) (startF n (nodesF n S))) := start_ok nodes_lt
      clear hlt hT
      go_wp2
      go_loopg [7] (n + 1) (fun gk cv wr2 => ∃ (m : List Nat) (c : Bool), cv = .bool c ∧ Hid (MkAt w wr2 s b n (.slice av es.length cv0) m) ∧ Hid (Mk es n (nodesF n S) m) ∧ Hid (c = true ∧ marksF es gk m = T ∧ zeros m < gk ∨ c = false ∧ m = T))
      case atStart => exact ⟨_, true, rfl, HM, HK0, .inl ⟨rfl, HT.out, Hz0.out⟩⟩
      case round =>
        clear HM HK0 g1
        obtain ⟨m, c, rfl, HM, HK, HC⟩ := hrel
        have g1 := HM.out.box.cell (i := 1) rfl
        rcases HC.out with ⟨rfl, hmT, hz⟩ | ⟨rfl, hmT⟩
        · obtain ⟨k, rfl⟩ : ∃ k, gk = k + 1 := ⟨gk - 1, by omega⟩
          have HmT := Lib.hid hmT
          have Hz := Lib.hid hz
          clear HC hmT hz
          go_wp2
          go_loopg [7, 8] es.length (fun gj cv jv wr2 => ∃ j : Nat, Hid (j + gj = es.length) ∧ jv = .int .i64 j ∧ cv = .bool ((es.take j).foldl markRow (m, false)).2 ∧ Hid (MkAt w wr2 s b n (.slice av es.length cv0) ((es.take j).foldl markRow (m, false)).1))
          case atStart => exact ⟨0, Nat.zero_add _, rfl, rfl, HM⟩
          case round =>
            clear HM g1
            obtain ⟨j, Hj, rfl, rfl, HM⟩ := hrel
            have g1 := HM.out.box.cell (i := 1) rfl
            by_cases hjl : j < es.length
            · obtain ⟨⟨p, q⟩, he⟩ : ∃ e, es[j]? = some e := ⟨_, List.getElem?_eq_getElem hjl⟩
              obtain ⟨g, off, c, hv, p1, p2⟩ := H.out.pair (i := j) (x := (p : Int)) (y := (q : Int)) (by rw [List.getElem?_map, he]; rfl)
              obtain ⟨rfl, rfl⟩ : av = some ⟨g, off, none⟩ ∧ cv0 = c := by simpa using hv
              have d1 := cellL p1 HM.out.low
              have d2 := cellL p2 HM.out.low
              obtain ⟨hpn, hqn⟩ := Hin.out _ (List.mem_of_getElem? he)
              dsimp only at hpn hqn
              have hst : (es.take (j + 1)).foldl markRow (m, false) = markRow ((es.take j).foldl markRow (m, false)) (p, q) := by
                rw [List.take_add_one, he, List.foldl_append]; rfl
              obtain ⟨⟨m1, c1⟩, hS⟩ : ∃ S, (es.take j).foldl markRow (m, false) = S := ⟨_, rfl⟩
              rw [hS] at HM hst ⊢
              dsimp only at HM ⊢
              have d3 := HM.out.row.at_ (i := p) (by rw [HM.out.len]; exact hpn)
              have d4 := HM.out.row.at_ (i := q) (by rw [HM.out.len]; exact hqn)
              have f4 := RowIs.free HM.out.row q
              unfold markRow at hst
              dsimp only at hst
              have hji : (j : Int) < (es.length : Int) := by omega
              have hpi : (p : Int) < (n : Int) := by omega
              have hqi : (q : Int) < (n : Int) := by omega
              have Hjl := Lib.hid hjl
              clear hv p1 p2 he hjl hS
              by_cases q1 : val m1 p ≠ 0
              · by_cases q2 : val m1 q = 0
                · rw [if_pos ⟨q1, q2⟩] at hst
                  have Hst : Hid ((es.take (j + 1)).foldl markRow (m, false) = (m1.set q 1, true)) := hst
                  rw [decide_eq_true q1] at d3
                  rw [decide_eq_false (by simpa using q2)] at d4
                  have HM2 := Lib.hid (HM.out.set q)
                  clear hst q1 q2
                  go_wp2
                  go_roundg (es.length - (j + 1))
                  case measure => have := Hj.out; have := Hjl.out; omega
                  case rel => exact ⟨j + 1, by have := Hj.out; have := Hjl.out; show _ = _; omega, by go_num, by rw [Hst.out], by rw [Hst.out]; exact HM2⟩
                · rw [if_neg (fun h => q2 h.2)] at hst
                  have Hst : Hid ((es.take (j + 1)).foldl markRow (m, false) = (m1, c1)) := hst
                  rw [decide_eq_true q1] at d3
                  rw [decide_eq_true q2] at d4
                  clear hst q1 q2
                  go_wp2
                  go_roundg (es.length - (j + 1))
                  case measure => have := Hj.out; have := Hjl.out; omega
                  case rel => exact ⟨j + 1, by have := Hj.out; have := Hjl.out; show _ = _; omega, by go_num, by rw [Hst.out], by rw [Hst.out]; exact HM⟩
              · rw [if_neg (fun h => q1 h.1)] at hst
                have Hst : Hid ((es.take (j + 1)).foldl markRow (m, false) = (m1, c1)) := hst
                rw [decide_eq_false q1] at d3
                clear hst q1
                go_wp2
                go_roundg (es.length - (j + 1))
                case measure => have := Hj.out; have := Hjl.out; omega
                case rel => exact ⟨j + 1, by have := Hj.out; have := Hjl.out; show _ = _; omega, by go_num, by rw [Hst.out], by rw [Hst.out]; exact HM⟩
            · have hji : ¬ (j : Int) < (es.length : Int) := by omega
              rw [List.take_of_length_le (by omega)] at HM ⊢
              obtain ⟨hk1, hk2⟩ := mark_fold Hin.out es m false (fun _ => id) HK.out
              have hmT := HmT.out
              unfold marksF at hmT
              obtain ⟨⟨m1, c1⟩, hS⟩ : ∃ S, es.foldl markRow (m, false) = S := ⟨_, rfl⟩
              rw [hS] at HM hk1 hk2 hmT ⊢
              dsimp only at HM hk1 hk2 hmT ⊢
              have HK1 := Lib.hid hk1
              have HN : Hid (c1 = true ∧ marksF es k m1 = T ∧ zeros m1 < k ∨ c1 = false ∧ m1 = T) := by
                have hz := Hz.out
                cases c1 with
                | true =>
                  rw [if_pos rfl] at hmT
                  rcases hk2 with ⟨q, -⟩ | ⟨-, q⟩
                  · cases q
                  · exact .inl ⟨rfl, hmT, by omega⟩
                | false =>
                  rw [if_neg (by decide)] at hmT
                  exact .inr ⟨rfl, hmT⟩
              clear hk1 hk2 hmT hS hjl
              go_wp2
              go_roundg k
              case measure => omega
              case rel => exact ⟨m1, c1, rfl, HM, HK1, HN⟩
        · subst hmT
          go_wp2
          go_ret
          exact ⟨b, rfl, by rw [HT.out]; exact HM.out.row, HM.out.up.2.1, HM.out.low⟩
end Go.Proofs.Yteiddebjbiadbaa
