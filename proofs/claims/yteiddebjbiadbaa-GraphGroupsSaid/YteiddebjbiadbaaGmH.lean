/- graph: the heap of free nodes. -/
import Derived.Test.YteiddebjbiadbaaGmP
import Derived.Test.YteiddebjbiadbaaGrF
import Derived.Test.YteiddebjbiadbaaGmN
import Derived.Handy
namespace Go.Proofs.Yteiddebjbiadbaa
open Go.RowKit Gr
attribute [local go_sem ↓] Go.wp_at_zero Go.wp_at_succ

/-- The heap's numbers. -/
def kHp : KindK Nat where
  cells x := [.int .i64 x]
  S := 1
  T := 3
  sl := 94
  z := .int .i64 0
  B := 8
  len _ := rfl
  pos := by decide
  one x u hu := by simp at hu; rcases hu with rfl; rfl
  und := Try.underlying94
  info := by kernel_rfl
  zs := rfl
  hB := by decide
theorem load_q {w : World} {q : Nat} {a : Option Addr} {m c : Nat} (hq : w.cell? ⟨q, 0, none⟩ = some (.slice a m c)) : (loadVar 94 ⟨q, 0, none⟩).run Try.prog w = .ok (.slice a m c) w := by
  simp [go_sem, hq]
set_option linter.unusedSimpArgs false in
theorem method_q {name : String} {f : FuncId} (hm : (Try.prog.info? 98).bind (fun i => (i.methods.find? (·.name == name)).map (fun m => (m.path.toList.map (fun s => (s.struct, s.index, s.deref)), m.func))) = some ([(96, 0, true)], some (f, false)))
    {w : World} {q : Nat} {a : Option Addr} {m c : Nat} (hq : w.cell? ⟨q, 0, none⟩ = some (.slice a m c)) (fuel : Nat) : (Go.method (fuel + 1) 98 (.pointer (some ⟨q, 0, none⟩)) name).run Try.prog w = .ok (f, .slice a m c) w := by
  obtain ⟨i, hi, hm⟩ := Option.bind_eq_some_iff.1 hm
  obtain ⟨md, hmd, hm⟩ := Option.map_eq_some_iff.1 hm
  obtain ⟨hp, hf⟩ := Prod.mk.inj hm
  obtain ⟨st, hst⟩ : ∃ st, md.path.toList = [st] ∧ (st.struct, st.index, st.deref) = (96, 0, true) := by
    cases h : md.path.toList with
    | nil => rw [h] at hp; cases hp
    | cons x xs =>
      rw [h] at hp
      cases xs with
      | nil => exact ⟨x, rfl, by simpa using hp⟩
      | cons y ys => simp at hp
  obtain ⟨hst, hs3⟩ := hst
  simp only [Prod.mk.injEq] at hs3
  obtain ⟨s1, s2, s3⟩ := hs3
  have hu : Try.prog.underlying 96 = some (.struct (Try.prog.fieldsOf 96)) := by kernel_rfl
  have hF : (Try.prog.fieldsOf 96)[0]?.map (fun f => (f.type, f.offset)) = some (94, 0) := by kernel_rfl
  obtain ⟨fd, hfd, hF⟩ := Option.map_eq_some_iff.1 hF
  obtain ⟨f1, f2⟩ := Prod.mk.inj hF
  have hsz := Try.sizeOf94
  have hadd : (⟨q, 0, none⟩ : Addr).add 0 = ⟨q, 0, none⟩ := rfl
  unfold Go.method
  simp [go_sem, typeInfo, hi, hmd, hst, hf, Go.follow, s1, s2, s3, hfd, f1, f2, fieldPlace, hsz, hadd, Go.receiverAt, Place.get, load_q hq, Try.underlying94, hu, asAddr, hq]
theorem meth_len : (Try.prog.info? 98).bind (fun i => (i.methods.find? (·.name == "Len")).map (fun m => (m.path.toList.map (fun s => (s.struct, s.index, s.deref)), m.func))) = some ([(96, 0, true)], some (55, false)) := by kernel_rfl
theorem meth_less : (Try.prog.info? 98).bind (fun i => (i.methods.find? (·.name == "Less")).map (fun m => (m.path.toList.map (fun s => (s.struct, s.index, s.deref)), m.func))) = some ([(96, 0, true)], some (104, false)) := by kernel_rfl
theorem meth_swap : (Try.prog.info? 98).bind (fun i => (i.methods.find? (·.name == "Swap")).map (fun m => (m.path.toList.map (fun s => (s.struct, s.index, s.deref)), m.func))) = some ([(96, 0, true)], some (106, false)) := by kernel_rfl
/-- What the heap's work leaves alone. -/
structure HpFr (w w' : World) (q : Nat) (v v' : Value) : Prop where
  os : w'.os = w.os
  tape : w'.tape = w.tape
  output : w'.output = w.output
  size : w.heap.size ≤ w'.heap.size
  block : ∀ k, k < w.heap.size → k ≠ q → v.ownBlock ≠ some k → w'.heap[k]? = w.heap[k]?
  own : v'.ownBlock = v.ownBlock ∨ ∃ k, v'.ownBlock = some k ∧ w.heap.size ≤ k
theorem HpFr.refl (w : World) (q : Nat) (v : Value) : HpFr w w q v v := ⟨rfl, rfl, rfl, Nat.le_refl _, fun _ _ _ _ => rfl, .inl rfl⟩
theorem HpFr.trans {w w1 w2 : World} {q : Nat} {v v1 v2 : Value} (h1 : HpFr w w1 q v v1) (h2 : HpFr w1 w2 q v1 v2) : HpFr w w2 q v v2 := by
  refine ⟨h2.os.trans h1.os, h2.tape.trans h1.tape, h2.output.trans h1.output, Nat.le_trans h1.size h2.size, fun k hk hq hv => ?_, ?_⟩
  · refine (h2.block k (Nat.lt_of_lt_of_le hk h1.size) hq (fun e => ?_)).trans (h1.block k hk hq hv)
    rcases h1.own with o | ⟨j, o, hj⟩
    · exact hv (o ▸ e)
    · rw [o] at e; cases e; omega
  · rcases h2.own with o | ⟨j, o, hj⟩
    · rcases h1.own with o1 | ⟨j, o1, hj⟩
      · exact .inl (o.trans o1)
      · exact .inr ⟨j, o.trans o1, hj⟩
    · exact .inr ⟨j, o, Nat.le_trans h1.size hj⟩
theorem HpFr.of_grown {w w' : World} (q : Nat) {v : Value} (h : w.grownBy w' v.ownBlock) : HpFr w w' q v v := ⟨h.os, h.tape, h.output, h.size, fun k hk _ hv => h.block k hk (fun e => hv e.symm), .inl rfl⟩
theorem HpFr.of_below {w w' : World} (q : Nat) (v : Value) (h : Below w.heap.size w w') : HpFr w w' q v v := ⟨h.os, h.tape, h.output, h.size, fun k hk _ _ => h.block k hk, .inl rfl⟩
/-- The heap: the queue's cell, and the row that it owns. -/
structure HpAt (w : World) (q : Nat) (v : Value) (h : List Nat) : Prop where
  cell : RowIs w q 96 [v]
  own : OwnK kHp (q + 1) w v h
theorem HpAt.form {w : World} {q : Nat} {v : Value} {h : List Nat} (H : HpAt w q v h) : ∃ a c, v = .slice a h.length c ∧ h.length ≤ c := by
  obtain ⟨a, c, h1, h2, -⟩ := H.own.row.form
  exact ⟨a, c, h1, h2⟩
theorem HpAt.later {w w' : World} {q : Nat} {v : Value} {h : List Nat} (H : HpAt w q v h) (hb : Below w.heap.size w w') : HpAt w' q v h := ⟨RowIs.later H.cell hb, H.own.later hb⟩
theorem HpAt.ne {w : World} {q : Nat} {v : Value} {h : List Nat} (H : HpAt w q v h) : v.ownBlock ≠ some q := fun e => by have := (H.own.lt e).1; omega
theorem HpAt.grown {w w' : World} {q : Nat} {v : Value} {h h' : List Nat} (H : HpAt w q v h) (hg : w.grownBy w' v.ownBlock) (ho : OwnK kHp (q + 1) w' v h') : HpAt w' q v h' :=
  ⟨RowIs.kept H.cell (hg.block q H.cell.lt (fun e => H.ne e.symm)), ho⟩
theorem HpAt.kept {w w' : World} {q : Nat} {v : Value} {h : List Nat} {row : Option Nat} (H : HpAt w q v h) (hg : w.grownBy w' row) (hq : row ≠ some q) (hv : ∀ k, v.ownBlock = some k → row ≠ some k) : HpAt w' q v h := by
  refine ⟨RowIs.kept H.cell (hg.block q H.cell.lt (fun e => hq e.symm)), World.ownsRow.kept H.own hg ?_⟩
  cases e : v.ownBlock with
  | none => exact .inl rfl
  | some k => exact .inr (fun e2 => hv k e e2.symm)
theorem hp_own {base : Nat} {w : World} {a : Option Addr} {n c : Nat} {h : List Nat} (H : OwnK kHp base w (.slice a n c) h) (hn : h ≠ []) : ∃ g, a = some ⟨g, 0, none⟩ ∧ n = h.length ∧ (∀ i, i < h.length → w.cell? ⟨g, i, none⟩ = some (.int .i64 (nth h i : Int))) ∧ (∀ i, w.frozen? ⟨g, i, none⟩ = false) ∧ ∀ (i x : Nat), OwnK kHp base (w.setCell ⟨g, i, none⟩ (.int .i64 (x : Int))) (.slice a n c) (h.set i x) ∧ w.grownBy (w.setCell ⟨g, i, none⟩ (.int .i64 (x : Int))) (some g) := by
  have hl := H.row.len
  have hpos : 0 < h.length := List.length_pos_iff.2 hn
  obtain ⟨h1, h2⟩ := H
  rcases h2 with ⟨h2, -⟩ | ⟨g, cap, cur, hv, r⟩
  · cases h2; omega
  · cases hv
    have H : w.ownsRow base 3 1 (.slice (some ⟨g, 0, none⟩) h.length c) h.length (h.flatMap kHp.cells) := ⟨h1, .inr ⟨g, c, cur, rfl, r⟩⟩
    have hm : ∀ l : List Nat, l.flatMap kHp.cells = l.map (fun x : Nat => Value.int .i64 (x : Int)) := fun l => by
      induction l with | nil => rfl | cons y r ih => simp only [List.flatMap_cons, List.map_cons, ih]; rfl
    refine ⟨g, rfl, rfl, fun i hi => ?_, H.frozenAt, fun i x => ?_⟩
    · rw [H.cellAt i (by omega), hm, List.getElem?_map, List.getElem?_eq_getElem hi, nth_get hi]; rfl
    · obtain ⟨s1, s2⟩ := H.stored i (.int .i64 (x : Int))
      refine ⟨?_, s2⟩
      unfold OwnK
      rw [List.length_set, hm, List.map_set, ← hm]
      exact s1
theorem less_any {w : World} {a : Option Addr} {n c : Nat} {h : List Nat} (H : RowK kHp w (.slice a n c) h) {i j : Nat} (hi : i < h.length) (hj : j < h.length) :
    Calls Try.prog 104 #[.slice a n c, .int .i64 (i : Int), .int .i64 (j : Int)] w fun r w' => r = .returned (.bool (decide (nth h i < nth h j))) ∧ Below w.heap.size w w' := by
  have hln := H.len
  obtain ⟨g, off, rfl, h1⟩ := H.at_ (List.getElem?_eq_getElem hi)
  obtain ⟨g', off', e, h2⟩ := H.at_ (List.getElem?_eq_getElem hj)
  cases e
  have d1 := h1 0 _ rfl
  have d2 := h2 0 _ rfl
  rw [← nth_get hi] at d1
  rw [← nth_get hj] at d2
  simp only [kHp, Nat.mul_one, Nat.add_zero] at d1 d2
  subst hln
  have e : decide (nth h i < nth h j) = decide ((nth h i : Int) < (nth h j : Int)) := by rw [decide_eq_decide]; omega
  rw [e]
  generalize (nth h i : Int) = x at d1 ⊢
  generalize (nth h j : Int) = y at d2 ⊢
  have hii : (i : Int) < (h.length : Int) := by omega
  have hji : (j : Int) < (h.length : Int) := by omega
  clear h1 h2 H e
  go_enter Try.func104, Try.ntmps104
  go_upto_region 1 with fail
  go_quiet (fail)
  go_wp2
  go_ret
  exact ⟨rfl, Below.dn (Below.refl _ _) _⟩
theorem swap_any {base : Nat} {w : World} {a : Option Addr} {n c : Nat} {h : List Nat} (H : OwnK kHp base w (.slice a n c) h) {i j : Nat} (hi : i < h.length) (hj : j < h.length) :
    Calls Try.prog 106 #[.slice a n c, .int .i64 (i : Int), .int .i64 (j : Int)] w fun r w' => r = .returned (.tuple #[]) ∧ OwnK kHp base w' (.slice a n c) (swapF h i j) ∧ w.grownBy w' (Value.slice a n c).ownBlock := by
  have hne : h ≠ [] := fun e => by rw [e] at hi; simp at hi
  obtain ⟨g, rfl, rfl, hc, hf, hs⟩ := hp_own H hne
  have d1 := hc i hi
  have d2 := hc j hj
  have f1 := hf i
  have f2 := hf j
  have hii : (i : Int) < (h.length : Int) := by omega
  have hji : (j : Int) < (h.length : Int) := by omega
  obtain ⟨s1, s2⟩ := hs i (nth h j)
  obtain ⟨g', e, -, hc2, hf2, hs2⟩ := hp_own s1 (fun e => by have := congrArg List.length e; rw [List.length_set] at this; simp at this; exact hne this)
  cases e
  have d3 := hc2 j (by rw [List.length_set]; exact hj)
  have f3 := hf2 j
  obtain ⟨s3, s4⟩ := hs2 j (nth h i)
  have HH := Lib.hid s3
  have HG : Hid (w.grownBy _ (some g)) := grown_trans s2 s4
  clear hc hf hs H s1 s2 s3 s4 hc2 hf2 hs2
  go_enter Try.func106, Try.ntmps106
  go_region
  go_wp2
  refine bodyPost_end (v := .tuple #[]) (by simp [results, Try.results106, go_sem]) rfl ?_
  exact ⟨rfl, HH.out, HG.out.os, HG.out.tape, HG.out.output, HG.out.size, HG.out.block⟩
theorem len_any {w : World} (a : Option Addr) (n c : Nat) : Calls Try.prog 55 #[.slice a n c] w fun r w' => r = .returned (.int .i64 (n : Int)) ∧ w' = w := by
  go_enter Try.func55, Try.ntmps55
  go_wp2
  go_ret
  exact ⟨rfl, rfl⟩
def ifc (q : Nat) : Value := .iface 98 (.pointer (some ⟨q, 0, none⟩))
theorem up_any {w : World} {q : Nat} {v : Value} {h : List Nat} (H : HpAt w q v h) (hl : h.length ≤ 1000000) {j k : Nat} (hj : j < h.length) (hk : j < k) :
    Calls Try.prog 70 #[ifc q, .int .i64 (j : Int)] w fun r w' => r = .returned (.tuple #[]) ∧ HpAt w' q v (upF k h j) ∧ HpFr w w' q v v := by
  have HH := Lib.hid H
  have Hj0 := Lib.hid hj
  have Hk := Lib.hid hk
  have Hl := Lib.hid hl
  clear H hj hk hl
  unfold ifc
  go_enter Try.func70, Try.ntmps70
  go_wp2
  go_loopg [1] k (fun gk jv wr => ∃ (h' : List Nat) (j' : Nat), jv = .int .i64 (j' : Int) ∧ Hid (h'.length = h.length ∧ j' < h'.length ∧ j' < gk ∧ upF gk h' j' = upF k h j) ∧ Hid (HpAt wr q v h') ∧ Hid (HpFr w wr q v v))
  case atStart => exact ⟨h, j, rfl, ⟨rfl, Hj0.out, Hk.out, rfl⟩, HH, HpFr.refl _ _ _⟩
  case round =>
    obtain ⟨h', j', rfl, Hi, HA, HF⟩ := hrel
    obtain ⟨a, c, rfl, hc⟩ := HA.out.form
    have hq := HA.out.cell.cell (i := 0) rfl
    have hjs : j' < 1000000 := by have := Hi.out; have := Hl.out; omega
    obtain ⟨gk, rfl⟩ : ∃ g, gk = g + 1 := ⟨gk - 1, by have := Hi.out; omega⟩
    obtain ⟨i, hi⟩ : ∃ i, (j' - 1) / 2 = i := ⟨_, rfl⟩
    have hqt : ((j' : Int) - 1).tdiv 2 = (i : Int) := by
      rcases Nat.eq_zero_or_pos j' with e | e
      · subst e; simp at hi; subst hi; decide
      · rw [Int.tdiv_eq_ediv_of_nonneg (by omega)]; omega
    have hlr : Hid (h'.length ≤ 1000000) := by have := Hi.out; have := Hl.out; show _ ≤ _; omega
    by_cases e : i = j'
    · subst e
      have hup : upF (gk + 1) h' i = h' := by unfold upF; rw [if_pos (.inl hi)]
      have Hup : Hid (h' = upF k h j) := by have := Hi.out.2.2.2; rw [hup] at this; exact this
      clear hup hi
      go_upto_region 1 with fail
      try rw [hqt]
      clear hqt
      go_wp2
      refine bodyPost_end (v := .tuple #[]) (by simp [results, Try.results70, go_sem]) rfl ?_
      exact ⟨rfl, Hup.out ▸ HA.out, HF.out⟩
    have hij : i < j' := by omega
    have hij2 : ¬ (i : Int) = (j' : Int) := by omega
    have HL := Lib.hid (less_any HA.out.own.row (i := j') (j := i) Hi.out.2.1 (by have := Hi.out.2.1; omega))
    have h1 := method_q meth_less hq
    clear hq
    go_upto_region 1 with fail
    try rw [hqt]
    clear hqt
    go_wp2_with fail
    refine HL.out.mono ?_
    rintro r w2 ⟨rfl, hb2⟩
    have HA2 := Lib.hid (HA.out.later hb2)
    have HF2 := Lib.hid (HF.out.trans (HpFr.of_below q (.slice a h'.length c) hb2))
    clear h1 hb2 HA HF HL
    by_cases hls : nth h' j' < nth h' i
    · have hup : upF (gk + 1) h' j' = upF gk (swapF h' i j') i := by
        conv => lhs; unfold upF
        rw [if_neg (by rw [hi]; rintro (e | e); exact Nat.ne_of_lt hij e; exact e hls), hi]
      have HS := Lib.hid (swap_any HA2.out.own (i := i) (j := j') (by have := Hi.out.2.1; omega) Hi.out.2.1)
      have hq := HA2.out.cell.cell (i := 0) rfl
      have h2 := method_q meth_swap hq
      rw [decide_eq_true hls]
      have Hup := Lib.hid hup
      clear hup hi hls hq hij2
      go_wp2_with fail
      refine HS.out.mono ?_
      rintro r w3 ⟨rfl, ho3, hg3⟩
      have HA3 := Lib.hid (HA2.out.grown hg3 ho3)
      have HF3 := Lib.hid (HF2.out.trans (HpFr.of_grown q hg3))
      clear h2 ho3 hg3 HA2 HF2 HS
      go_wp2
      go_roundg gk
      case measure => omega
      case rel => exact ⟨swapF h' i j', i, rfl, ⟨by rw [swap_len]; exact Hi.out.1, by rw [swap_len]; have := Hi.out.2.1; omega, by have := Hi.out.2.2.1; omega, by rw [← Hup.out]; exact Hi.out.2.2.2⟩, HA3, HF3⟩
    · have hup : upF (gk + 1) h' j' = h' := by unfold upF; rw [hi, if_pos (.inr hls)]
      have Hup : Hid (h' = upF k h j) := by have := Hi.out.2.2.2; rw [hup] at this; exact this
      rw [decide_eq_false hls]
      clear hup hi hls hij2
      go_wp2
      refine bodyPost_end (v := .tuple #[]) (by simp [results, Try.results70, go_sem]) rfl ?_
      exact ⟨rfl, Hup.out ▸ HA2.out, HF2.out⟩
set_option maxHeartbeats 3200000 in
theorem down_any {w : World} {q : Nat} {v : Value} {h : List Nat} (H : HpAt w q v h) (hl : h.length ≤ 1000000) {i0 n k : Nat} (hn : n ≤ h.length) (hi0 : i0 ≤ h.length) (hk : n ≤ k + i0) :
    Calls Try.prog 71 #[ifc q, .int .i64 (i0 : Int), .int .i64 (n : Int)] w fun r w' => (∃ b, r = .returned (.bool b)) ∧ HpAt w' q v (downF k h i0 n) ∧ HpFr w w' q v v := by
  have HH := Lib.hid H
  have Hn := Lib.hid hn
  have Hk := Lib.hid hk
  have Hl := Lib.hid hl
  have Hi0 := Lib.hid hi0
  have hns : n ≤ 1000000 := by omega
  clear H hn hk hl hi0
  unfold ifc
  go_enter Try.func71, Try.ntmps71
  go_wp2
  go_loopg [7] k (fun gk iv wr => ∃ (h' : List Nat) (i : Nat), iv = .int .i64 (i : Int) ∧ Hid (h'.length = h.length ∧ i ≤ h'.length ∧ n ≤ gk + i ∧ downF gk h' i n = downF k h i0 n) ∧ Hid (HpAt wr q v h') ∧ Hid (HpFr w wr q v v))
  case atStart => exact ⟨h, i0, rfl, ⟨rfl, Hi0.out, Hk.out, rfl⟩, HH, HpFr.refl _ _ _⟩
  case round =>
    obtain ⟨h', i, rfl, Hi, HA, HF⟩ := hrel
    obtain ⟨a, c, rfl, hc⟩ := HA.out.form
    have his : i ≤ 1000000 := by have := Hi.out; have := Hl.out; omega
    have hlr : Hid (h'.length ≤ 1000000) := by have := Hi.out; have := Hl.out; show _ ≤ _; omega
    by_cases hge : n ≤ 2 * i + 1
    · have hdn : downF gk h' i n = h' := by
        cases gk with
        | zero => rfl
        | succ gk => unfold downF; rw [if_pos hge]
      have Hup : Hid (h' = downF k h i0 n) := by have := Hi.out.2.2.2; rw [hdn] at this; exact this
      have hgi : (n : Int) ≤ 2 * (i : Int) + 1 := by omega
      clear hdn hge
      go_wp2
      go_ret
      exact ⟨⟨_, rfl⟩, Hup.out ▸ HA.out, HF.out⟩
    obtain ⟨gk, rfl⟩ : ∃ g, gk = g + 1 := ⟨gk - 1, by have := Hi.out; omega⟩
    obtain ⟨j1, hj1⟩ : ∃ j, 2 * i + 1 = j := ⟨_, rfl⟩
    obtain ⟨j2, hj2⟩ : ∃ j, 2 * i + 1 + 1 = j := ⟨_, rfl⟩
    have hz1 : 2 * (i : Int) + 1 = (j1 : Int) := by omega
    have hz2 : (j1 : Int) + 1 = (j2 : Int) := by omega
    have hgi : ¬ (n : Int) ≤ (j1 : Int) := by omega
    have hn0 : ¬ (j1 : Int) < 0 := by omega
    have hj1n : j1 < n := by omega
    obtain ⟨ch, hch⟩ : ∃ c, childF h' i n = c := ⟨_, rfl⟩
    have hchn : ch < n := by rw [← hch]; exact child_lt hge
    have hD : downF (gk + 1) h' i n = if ¬ nth h' ch < nth h' i then h' else downF gk (swapF h' i ch) ch n := by
      conv => lhs; unfold downF
      rw [if_neg hge, hch]
    have hci : ch = if j2 < n ∧ nth h' j2 < nth h' j1 then j2 else j1 := by rw [← hch]; unfold childF; rw [hj2, hj1]
    have HD := Lib.hid hD
    have hq := HA.out.cell.cell (i := 0) rfl
    have hle : Hid (n ≤ h'.length) := by show n ≤ h'.length; rw [Hi.out.1]; exact Hn.out
    have hgt : Hid (i < ch) := by show _ < _; rw [hci]; split <;> omega
    have h1 := method_q meth_less hq
    have hj2s : j2 ≤ 2000010 := by omega
    clear hq hD hch hge hj1 hj2
    have Hchn := Lib.hid hchn
    clear hchn
    by_cases hb : j2 < n
    · have HL := Lib.hid (less_any HA.out.own.row (i := j2) (j := j1) (by have := hle.out; omega) (by have := hle.out; omega))
      have hb2 : (j2 : Int) < (n : Int) := by omega
      go_upto_region 6 with fail
      go_wp2_with fail
      refine HL.out.mono ?_
      rintro r w2 ⟨rfl, hbw⟩
      have HA2 := Lib.hid (HA.out.later hbw)
      have HF2 := Lib.hid (HF.out.trans (HpFr.of_below q (.slice a h'.length c) hbw))
      clear h1 HA HF hbw HL
      by_cases hl1 : nth h' j2 < nth h' j1
      · rw [if_pos ⟨hb, hl1⟩] at hci
        rw [decide_eq_true hl1]
        subst hci
        clear hl1
        have HL2 := Lib.hid (less_any HA2.out.own.row (i := ch) (j := i) (by have := hle.out; have := Hchn.out; omega) (by have := hle.out; have := Hchn.out; have := hgt.out; omega))
        have hq2 := HA2.out.cell.cell (i := 0) rfl
        have h12 := method_q meth_less hq2
        clear hq2
        go_wp2_with fail
        refine HL2.out.mono ?_
        rintro r w3 ⟨rfl, hb3⟩
        have HA3 := Lib.hid (HA2.out.later hb3)
        have HF3 := Lib.hid (HF2.out.trans (HpFr.of_below q (.slice a h'.length c) hb3))
        clear h12 hb3 HA2 HF2 HL2
        by_cases hls : nth h' ch < nth h' i
        · rw [decide_eq_true hls]
          have Hd : Hid (downF (gk + 1) h' i n = downF gk (swapF h' i ch) ch n) := by have := HD.out; rw [if_neg (by simpa using hls)] at this; exact this
          have HS := Lib.hid (swap_any HA3.out.own (i := i) (j := ch) (by have := hle.out; have := Hchn.out; have := hgt.out; omega) (by have := hle.out; have := Hchn.out; omega))
          have hq := HA3.out.cell.cell (i := 0) rfl
          have h2 := method_q meth_swap hq
          clear hls hq
          go_wp2_with fail
          refine HS.out.mono ?_
          rintro r w4 ⟨rfl, ho4, hg4⟩
          have HA4 := Lib.hid (HA3.out.grown hg4 ho4)
          have HF4 := Lib.hid (HF3.out.trans (HpFr.of_grown q hg4))
          clear h2 ho4 hg4 HA3 HF3 HS
          go_wp2
          go_roundg gk
          case measure => omega
          case rel => exact ⟨swapF h' i ch, ch, rfl, ⟨by rw [swap_len]; exact Hi.out.1, by rw [swap_len]; have := hle.out; have := Hchn.out; omega, by have := Hi.out.2.2.1; have := hgt.out; omega, by rw [← Hd.out]; exact Hi.out.2.2.2⟩, HA4, HF4⟩
        · rw [decide_eq_false hls]
          have Hd : Hid (h' = downF k h i0 n) := by have := HD.out; rw [if_pos hls] at this; exact this.symm.trans Hi.out.2.2.2
          clear hls
          go_wp2
          go_ret
          exact ⟨⟨_, rfl⟩, Hd.out ▸ HA3.out, HF3.out⟩
      · rw [if_neg (fun e => hl1 e.2)] at hci
        rw [decide_eq_false hl1]
        subst hci
        clear hl1
        have HL2 := Lib.hid (less_any HA2.out.own.row (i := ch) (j := i) (by have := hle.out; have := Hchn.out; omega) (by have := hle.out; have := Hchn.out; have := hgt.out; omega))
        have hq2 := HA2.out.cell.cell (i := 0) rfl
        have h12 := method_q meth_less hq2
        clear hq2
        go_wp2_with fail
        refine HL2.out.mono ?_
        rintro r w3 ⟨rfl, hb3⟩
        have HA3 := Lib.hid (HA2.out.later hb3)
        have HF3 := Lib.hid (HF2.out.trans (HpFr.of_below q (.slice a h'.length c) hb3))
        clear h12 hb3 HA2 HF2 HL2
        by_cases hls : nth h' ch < nth h' i
        · rw [decide_eq_true hls]
          have Hd : Hid (downF (gk + 1) h' i n = downF gk (swapF h' i ch) ch n) := by have := HD.out; rw [if_neg (by simpa using hls)] at this; exact this
          have HS := Lib.hid (swap_any HA3.out.own (i := i) (j := ch) (by have := hle.out; have := Hchn.out; have := hgt.out; omega) (by have := hle.out; have := Hchn.out; omega))
          have hq := HA3.out.cell.cell (i := 0) rfl
          have h2 := method_q meth_swap hq
          clear hls hq
          go_wp2_with fail
          refine HS.out.mono ?_
          rintro r w4 ⟨rfl, ho4, hg4⟩
          have HA4 := Lib.hid (HA3.out.grown hg4 ho4)
          have HF4 := Lib.hid (HF3.out.trans (HpFr.of_grown q hg4))
          clear h2 ho4 hg4 HA3 HF3 HS
          go_wp2
          go_roundg gk
          case measure => omega
          case rel => exact ⟨swapF h' i ch, ch, rfl, ⟨by rw [swap_len]; exact Hi.out.1, by rw [swap_len]; have := hle.out; have := Hchn.out; omega, by have := Hi.out.2.2.1; have := hgt.out; omega, by rw [← Hd.out]; exact Hi.out.2.2.2⟩, HA4, HF4⟩
        · rw [decide_eq_false hls]
          have Hd : Hid (h' = downF k h i0 n) := by have := HD.out; rw [if_pos hls] at this; exact this.symm.trans Hi.out.2.2.2
          clear hls
          go_wp2
          go_ret
          exact ⟨⟨_, rfl⟩, Hd.out ▸ HA3.out, HF3.out⟩
    · have hb2 : ¬ (j2 : Int) < (n : Int) := by omega
      rw [if_neg (fun e => hb e.1)] at hci
      subst hci
      clear h1
      have HA2 := HA
      have HF2 := HF
      clear HA HF
      go_upto_region 6 with fail
      have HL2 := Lib.hid (less_any HA2.out.own.row (i := ch) (j := i) (by have := hle.out; have := Hchn.out; omega) (by have := hle.out; have := Hchn.out; have := hgt.out; omega))
      have hq2 := HA2.out.cell.cell (i := 0) rfl
      have h12 := method_q meth_less hq2
      clear hq2
      go_wp2_with fail
      refine HL2.out.mono ?_
      rintro r w3 ⟨rfl, hb3⟩
      have HA3 := Lib.hid (HA2.out.later hb3)
      have HF3 := Lib.hid (HF2.out.trans (HpFr.of_below q (.slice a h'.length c) hb3))
      clear h12 hb3 HA2 HF2 HL2
      by_cases hls : nth h' ch < nth h' i
      · rw [decide_eq_true hls]
        have Hd : Hid (downF (gk + 1) h' i n = downF gk (swapF h' i ch) ch n) := by have := HD.out; rw [if_neg (by simpa using hls)] at this; exact this
        have HS := Lib.hid (swap_any HA3.out.own (i := i) (j := ch) (by have := hle.out; have := Hchn.out; have := hgt.out; omega) (by have := hle.out; have := Hchn.out; omega))
        have hq := HA3.out.cell.cell (i := 0) rfl
        have h2 := method_q meth_swap hq
        clear hls hq
        go_wp2_with fail
        refine HS.out.mono ?_
        rintro r w4 ⟨rfl, ho4, hg4⟩
        have HA4 := Lib.hid (HA3.out.grown hg4 ho4)
        have HF4 := Lib.hid (HF3.out.trans (HpFr.of_grown q hg4))
        clear h2 ho4 hg4 HA3 HF3 HS
        go_wp2
        go_roundg gk
        case measure => omega
        case rel => exact ⟨swapF h' i ch, ch, rfl, ⟨by rw [swap_len]; exact Hi.out.1, by rw [swap_len]; have := hle.out; have := Hchn.out; omega, by have := Hi.out.2.2.1; have := hgt.out; omega, by rw [← Hd.out]; exact Hi.out.2.2.2⟩, HA4, HF4⟩
      · rw [decide_eq_false hls]
        have Hd : Hid (h' = downF k h i0 n) := by have := HD.out; rw [if_pos hls] at this; exact this.symm.trans Hi.out.2.2.2
        clear hls
        go_wp2
        go_ret
        exact ⟨⟨_, rfl⟩, Hd.out ▸ HA3.out, HF3.out⟩
theorem HpFr.put {w w9 : World} {q : Nat} {v v' : Value} (hg : w.grownBy w9 v.ownBlock) (hat : v'.ownBlock = v.ownBlock ∨ v'.ownBlock = some (w.heap.size + 1)) : HpFr w (w9.setCell ⟨q, 0, none⟩ v') q v v' :=
  ⟨hg.os, hg.tape, hg.output, by rw [size_setCell]; exact hg.size, fun k hk hq hv => (Below.heap_setCell w9 ⟨q, 0, none⟩ v' k hq).trans (hg.block k hk (fun e => hv e.symm)), hat.imp id (fun e => ⟨_, e, by omega⟩)⟩
theorem run_assert_int (x : Int) (xT : TypeId) (w : World) : (Instr.typeAssert (.iface 3 (.int .i64 x)) xT 3 true).run Try.prog w = .ok (.tuple #[.int .i64 x, .bool true]) w := by
  have hu := Try.underlying3
  simp [Instr.typeAssert, run_underlying hu, go_sem, Result.andThen]
theorem qpush_any {w : World} {q : Nat} {v : Value} {h : List Nat} (H : HpAt w q v h) (hl : h.length + 1 ≤ 1000000) (x : Nat) :
    Calls Try.prog 108 #[.pointer (some ⟨q, 0, none⟩), .iface 3 (.int .i64 (x : Int))] w fun r w' => r = .returned (.tuple #[]) ∧ ∃ v', HpAt w' q v' (h ++ [x]) ∧ HpFr w w' q v v' := by
  obtain ⟨a, c, rfl, hc⟩ := H.form
  have hq := H.cell.cell (i := 0) rfl
  have HH := Lib.hid H
  have Hl := Lib.hid hl
  have Hsz : Hid (q + 1 ≤ w.heap.size) := H.cell.lt
  clear H hl
  go_enter Try.func108, Try.ntmps108
  have hta := run_assert_int x 20 w
  go_upto_region 2 with fail
  go_wp2_with (first
    | (at_builtin; refine wpList_append_one (K := kHp) rfl _ _ rfl (q + 1) (.slice a h.length c) h rfl HH.out.own x _ _ rfl rfl Hl.out Hsz.out ?_; intro v9 w9 ho9 hg9 hat9; obtain ⟨a9, m9, c9, rfl⟩ : (∃ a m c, v9 = Value.slice a m c) := (by obtain ⟨a, c, h, -⟩ := (OwnK.row ho9).form; exact ⟨a, _, c, h⟩); have HR9 := RowIs.kept HH.out.cell (hg9.block q HH.out.cell.lt (fun e => HH.out.ne e.symm)); have e1 := HR9.cell (i := 0) rfl; have e2 := HR9.free 0; have HR := Lib.hid HR9; have HO := Lib.hid ho9; have HG := Lib.hid hg9; have HT := Lib.hid hat9; clear HR9 ho9 hg9 hat9)
    | go_in)
  refine bodyPost_end (v := .tuple #[]) (by simp [results, Try.results108, go_sem]) rfl ?_
  exact ⟨rfl, _, ⟨HR.out.set 0 _, HO.out.set (Nat.lt_succ_self q)⟩, HpFr.put HG.out HT.out⟩
theorem own_take {base : Nat} {w : World} {a : Option Addr} {n c : Nat} {h : List Nat} (H : OwnK kHp base w (.slice a n c) h) (hn : h ≠ []) : OwnK kHp base w (.slice a (h.length - 1) c) (h.take (h.length - 1)) := by
  obtain ⟨g, rfl, rfl, -⟩ := hp_own H hn
  have hpos : 0 < h.length := List.length_pos_iff.2 hn
  have e : h = h.take (h.length - 1) ++ [nth h (h.length - 1)] := by
    rw [nth_get (by omega)]
    conv => lhs; rw [← List.take_append_drop (h.length - 1) h]
    rw [List.drop_eq_getElem_cons (by omega), List.drop_eq_nil_of_le (by omega)]
  have hlt : (h.take (h.length - 1)).length = h.length - 1 := by rw [List.length_take]; omega
  generalize h.take (h.length - 1) = l at e hlt
  have e2 : h.length = l.length + 1 := by omega
  unfold OwnK at H ⊢
  rw [e2] at H ⊢
  rw [e, List.flatMap_append] at H
  simp only [Nat.add_sub_cancel]
  exact ownsRow_pop (kHp.flat_len l) H
theorem qpop_any {w : World} {q : Nat} {v : Value} {h : List Nat} (H : HpAt w q v h) (hl : h.length ≤ 1000000) (hne : h ≠ []) :
    Calls Try.prog 107 #[.pointer (some ⟨q, 0, none⟩)] w fun r w' => r = .returned (.iface 3 (.int .i64 (nth h (h.length - 1) : Int))) ∧ ∃ v', HpAt w' q v' (h.take (h.length - 1)) ∧ HpFr w w' q v v' := by
  obtain ⟨a, c, rfl, hc⟩ := H.form
  have hq := H.cell.cell (i := 0) rfl
  have hf := H.cell.free 0
  have hpos : 0 < h.length := List.length_pos_iff.2 hne
  obtain ⟨g, rfl, -, hcell, -⟩ := hp_own H.own hne
  have d1 := hcell (h.length - 1) (by omega)
  have HO := Lib.hid (own_take H.own hne)
  obtain ⟨m, hm⟩ : ∃ m, h.length - 1 = m := ⟨_, rfl⟩
  have hml : h.length = m + 1 := by omega
  rw [hm] at d1 HO ⊢
  have HC := Lib.hid H.cell
  have hms : m ≤ 1000000 := by omega
  have hmc : m + 1 ≤ c := by omega
  rw [hml] at hq HC ⊢
  clear hcell H hm hl hpos hc
  go_enter Try.func107, Try.ntmps107
  go_wp2
  go_ret
  exact ⟨rfl, _, ⟨HC.out.set 0 _, HO.out.set (Nat.lt_succ_self q)⟩, rfl, rfl, rfl, by simp, fun k hk hq hv => Below.heap_setCell w ⟨q, 0, none⟩ _ k hq, .inl rfl⟩
theorem hpush_any {w : World} {q : Nat} {v : Value} {h : List Nat} (H : HpAt w q v h) (hl : h.length + 1 ≤ 1000000) (x : Nat) :
    Calls Try.prog 54 #[ifc q, .iface 3 (.int .i64 (x : Int))] w fun r w' => r = .returned (.tuple #[]) ∧ ∃ v', HpAt w' q v' (pushF h x) ∧ HpFr w w' q v v' := by
  have HP := Lib.hid (qpush_any H hl x)
  have Hl := Lib.hid hl
  clear H hl
  unfold ifc
  go_enter Try.func54, Try.ntmps54
  go_wp2_with fail
  refine HP.out.mono ?_
  rintro r w1 ⟨rfl, v1, hA1, hF1⟩
  obtain ⟨a, c, rfl, hc⟩ := hA1.form
  have hq := hA1.cell.cell (i := 0) rfl
  have h1 := method_q meth_len hq
  have HA1 := Lib.hid hA1
  have HF1 := Lib.hid hF1
  have hln : (h ++ [x]).length = h.length + 1 := by simp
  rw [hln] at hq hc h1
  have hls : h.length ≤ 1000000 := by have := Hl.out; omega
  have HU := Lib.hid (up_any hA1 (j := h.length) (k := h.length + 1) (by have := Hl.out; omega) (by omega) (by omega))
  rw [hln] at HF1 HA1 HU
  clear hA1 hF1 HP hq hc hln
  unfold ifc at HU
  go_wp2_with fail
  refine (len_any _ _ _).mono ?_
  rintro r w2 ⟨rfl, rfl⟩
  go_wp2_with fail
  refine HU.out.mono ?_
  rintro r w3 ⟨rfl, hA3, hF3⟩
  have HA3 := Lib.hid hA3
  have HF3 := Lib.hid hF3
  clear hA3 hF3 HU h1
  go_wp2
  refine bodyPost_end (v := .tuple #[]) (by simp [results, Try.results54, go_sem]) rfl ?_
  exact ⟨rfl, _, HA3.out, HF1.out.trans HF3.out⟩
theorem hpop_any {w : World} {q : Nat} {v : Value} {h : List Nat} (H : HpAt w q v h) (hl : h.length ≤ 1000000) (hne : h ≠ []) :
    Calls Try.prog 56 #[ifc q] w fun r w' => r = .returned (.iface 3 (.int .i64 ((popF h).1 : Int))) ∧ ∃ v', HpAt w' q v' (popF h).2 ∧ HpFr w w' q v v' := by
  obtain ⟨a, c, rfl, hc⟩ := H.form
  have hpos : 0 < h.length := List.length_pos_iff.2 hne
  have hq := H.cell.cell (i := 0) rfl
  have HS := Lib.hid (swap_any H.own (i := 0) (j := h.length - 1) hpos (by omega))
  have HA := Lib.hid H
  have Hl := Lib.hid hl
  obtain ⟨m, hm⟩ : ∃ m, h.length - 1 = m := ⟨_, rfl⟩
  have hml : h.length = m + 1 := by omega
  have hms : m ≤ 1000000 := by omega
  rw [hm] at HS
  rw [hml] at HS HA hq
  unfold ifc
  have Hne := Lib.hid hne
  have h1 := method_q meth_len hq
  have h2 := method_q meth_swap hq
  have Hm := Lib.hid hm
  have Hml := Lib.hid hml
  clear H hc hpos hm hml hl hq hne
  go_enter Try.func56, Try.ntmps56
  go_wp2_with fail
  refine (len_any _ _ _).mono ?_
  rintro r w2 ⟨rfl, rfl⟩
  go_wp2_with fail
  refine HS.out.mono ?_
  rintro r w2 ⟨rfl, ho2, hg2⟩
  have hA2 := HA.out.grown hg2 ho2
  have HF2 := Lib.hid (HpFr.of_grown q hg2)
  have HD := Lib.hid (down_any hA2 (i0 := 0) (n := m) (k := h.length) (by rw [swap_len]; exact Hl.out) (by rw [swap_len, Hml.out]; omega) (by omega) (by rw [Hml.out]; omega))
  unfold ifc at HD
  have hww : downF h.length (swapF h 0 m) 0 m = popW h := by unfold popW; rw [Hm.out]
  rw [hww] at HD
  clear hA2 ho2 hg2 HA HS h1 h2 hww
  go_wp2_with fail
  refine HD.out.mono ?_
  rintro r w3 ⟨⟨b, rfl⟩, hA3, hF3⟩
  have hwl : (popW h).length = h.length := popW_len h
  have HP := Lib.hid (qpop_any hA3 (by rw [hwl]; exact Hl.out) (by rw [← List.length_pos_iff, hwl, Hml.out]; omega))
  have HF3 := Lib.hid (HF2.out.trans hF3)
  have hp1 : nth (popW h) ((popW h).length - 1) = (popF h).1 := by rw [hwl]; rfl
  have hp2 : (popW h).take ((popW h).length - 1) = (popF h).2 := by rw [hwl]; rfl
  rw [hp1, hp2] at HP
  clear hA3 hF3 HF2 HD hp1 hp2 hwl
  go_wp2_with fail
  refine HP.out.mono ?_
  rintro r w4 ⟨rfl, v4, hA4, hF4⟩
  have HA4 := Lib.hid hA4
  have HF4 := Lib.hid (HF3.out.trans hF4)
  clear hA4 hF4 HP HF3
  go_wp2
  go_ret
  exact ⟨rfl, _, HA4.out, by rw [Hml.out]; exact HF4.out⟩
end Go.Proofs.Yteiddebjbiadbaa
