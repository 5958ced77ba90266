/- law 08: the graph's Reverse and Equal. (printed by wip/gen_gmeq.py) -/
import Derived.Test.YteiddebjbiadbaaGmLs
import Derived.Test.YteiddebjbiadbaaGmI
namespace Go.Proofs.Yteiddebjbiadbaa
open Go.RowKit Gr
attribute [local go_sem ↓] Go.wp_at_zero Go.wp_at_succ

/-- It answers whether P holds. -/
def BoolIs (P : Prop) (w : World) (r : Ending) (w' : World) : Prop := ∃ bq : Bool, r = .returned (.bool bq) ∧ (bq = true ↔ P) ∧ Below w.heap.size w w'
theorem list_eq_nat {la lb : List Nat} (hl : la.length = lb.length) (h : ∀ j, j < la.length → la[j]? = lb[j]?) : la = lb := by
  apply List.ext_getElem?
  intro j
  by_cases hj : j < la.length
  · exact h j hj
  · rw [List.getElem?_eq_none (by omega), List.getElem?_eq_none (by omega)]
theorem equalI_any {w : World} {va vb : Value} {la lb : List Nat} (ha : RowK kNat w va la) (hb : RowK kNat w vb lb) (hs : la.length ≤ 1000000) :
    Calls Try.prog 60 #[va, vb] w (BoolIs (la = lb) w) := by
  obtain ⟨aa, ca, rfl, -⟩ := ha.form
  obtain ⟨ab, cb, rfl, -⟩ := hb.form
  have Ha := Lib.hid ha
  have Hb := Lib.hid hb
  clear ha hb
  go_enter Try.func60, Try.ntmps60
  by_cases hl : la.length = lb.length
  · have Hl := Lib.hid hl
    have hli : ((la.length : Int) = (lb.length : Int)) := by omega
    clear hl
    go_wp2
    go_loopg [13] la.length (fun gk iv wr => ∃ k : Nat, k + gk = la.length ∧ iv = .int .i64 k ∧ Hid (Below w.heap.size w wr) ∧ Hid (∀ j, j < k → la[j]? = lb[j]?))
    case atStart => exact ⟨0, by omega, rfl, Below.refl _ _, fun j hj => absurd hj (by omega)⟩
    case round =>
      obtain ⟨k, hk, rfl, hw, hj⟩ := hrel
      by_cases hlt : k < la.length
      · obtain ⟨x, hx⟩ : ∃ x, la[k]? = some x := ⟨_, List.getElem?_eq_getElem hlt⟩
        obtain ⟨y, hy⟩ : ∃ y, lb[k]? = some y := ⟨_, List.getElem?_eq_getElem (by have := Hl.out; omega)⟩
        obtain ⟨ga, oa, rfl, hca⟩ := ((Ha.out.later hw.out).at_ hx)
        obtain ⟨gb, ob, rfl, hcb⟩ := ((Hb.out.later hw.out).at_ hy)
        have c1 := hca 0 _ rfl
        have c2 := hcb 0 _ rfl
        simp only [kNat, Nat.mul_one, Nat.add_zero] at c1 c2
        have hlb : (k : Int) < (lb.length : Int) := by have := Hl.out; omega
        have hla : (k : Int) < (la.length : Int) := by omega
        have Hlt := Lib.hid hlt
        have Hk := Lib.hid hk
        go_upto_region 6 with fail
        go_quiet (fail)
        by_cases hxy : x = y
        · subst hxy
          go_wp2
          go_roundg (la.length - (k + 1))
          case measure => have := Hlt.out; have := Hk.out; omega
          case rel => exact ⟨k + 1, by have := Hlt.out; have := Hk.out; have := Hl.out; omega, by go_num, Below.dn hw.out _, fun j hj2 => by
            rcases (by omega : j < k ∨ j = k) with q | q
            · exact hj.out j q
            · rw [q, hx, hy]⟩
        · have hxyi : ¬ (x : Int) = (y : Int) := by omega
          have HF : Hid (false = true ↔ la = lb) := ⟨fun e => (by cases e), fun e => absurd (by rw [e, hy] at hx; exact (Option.some.inj hx).symm) hxy⟩
          go_wp2
          go_ret
          exact ⟨_, rfl, HF.out, Below.dn hw.out _⟩
      · have he : la = lb := list_eq_nat Hl.out (fun j hj2 => hj.out j (by omega))
        have HF : Hid (la = lb) := he
        clear he
        go_wp2
        go_ret
        exact ⟨_, rfl, ⟨fun _ => HF.out, fun _ => rfl⟩, hw.out⟩
  · have hli : ¬ ((la.length : Int) = (lb.length : Int)) := by omega
    have HF : Hid (false = true ↔ la = lb) := ⟨fun e => (by cases e), fun e => absurd (by rw [e]) hl⟩
    go_wp2
    go_ret
    exact ⟨_, rfl, HF.out, Below.refl _ _⟩
set_option linter.unusedSimpArgs false in
theorem equalFunc_any {w : World} {ga gb n : Nat} {A B : Nat → List Nat} (ha : RowsAt w ga n A) (hb : RowsAt w gb n B) (hn : n ≤ 4096) (hl : ∀ i, (A i).length ≤ 4096) :
    Calls Try.prog 59 #[.slice (some ⟨ga, 0, none⟩) n n, .slice (some ⟨gb, 0, none⟩) n n, .func (.func 60) #[] #[]] w (BoolIs (∀ i, i < n → A i = B i) w) := by
  have Ha := Lib.hid ha
  have Hb := Lib.hid hb
  have Hl := Lib.hid hl
  have Hn := Lib.hid hn
  clear ha hb hl
  go_enter Try.func59, Try.ntmps59
  go_wp2
  go_loopg [17] n (fun gk iv wr => ∃ k : Nat, Hid (k + gk = n) ∧ iv = .int .i64 k ∧ Hid (Below w.heap.size w wr) ∧ Hid (∀ j, j < k → A j = B j))
  case atStart => exact ⟨0, Nat.zero_add _, rfl, Below.refl _ _, fun j hj => absurd hj (by omega)⟩
  case round =>
    obtain ⟨k, Hk, rfl, HB, Hj⟩ := hrel
    by_cases hlt : k < n
    · obtain ⟨va, hva, hra⟩ := Ha.out k hlt
      obtain ⟨vb, hvb, hrb⟩ := Hb.out k hlt
      obtain ⟨aa, ca, rfl, -⟩ := hra.form
      obtain ⟨ab, cb, rfl, -⟩ := hrb.form
      have c1 := cellL hva HB.out
      have c2 := cellL hvb HB.out
      have HC := Lib.hid (equalI_any (hra.later HB.out) (hrb.later HB.out) (by have := Hl.out k; omega))
      have hki : (k : Int) < (n : Int) := by omega
      have hks : k ≤ 4096 := by omega
      have Hlt := Lib.hid hlt
      clear hva hvb hra hrb hlt
      go_wp2_with fail
      refine HC.out.mono ?_
      rintro r w2 ⟨bq, rfl, hq, hb2⟩
      have HB2 : Hid (Below w.heap.size w w2) := HB.out.trans (hb2.mono HB.out.size)
      have Hq := Lib.hid hq
      clear hb2 HC hq
      cases bq
      · have HF : Hid (false = true ↔ ∀ i, i < n → A i = B i) := ⟨fun e => (by cases e), fun e => absurd (Hq.out.2 (e k Hlt.out)) (by decide)⟩
        go_wp2
        go_ret
        exact ⟨_, rfl, HF.out, HB2.out⟩
      · have Hj2 : Hid (∀ j, j < k + 1 → A j = B j) := fun j hj2 => by
          rcases (by omega : j < k ∨ j = k) with q | q
          · exact Hj.out j q
          · rw [q]; exact Hq.out.1 rfl
        go_wp2
        go_roundg (n - (k + 1))
        case measure => have := Hlt.out; have := Hk.out; omega
        case rel => exact ⟨k + 1, by have := Hlt.out; have := Hk.out; show _ = _; omega, by go_num, HB2, Hj2⟩
    · have hki : ¬ (k : Int) < (n : Int) := by omega
      have HF : Hid (∀ i, i < n → A i = B i) := fun i hi => Hj.out i (by have := Hk.out; omega)
      go_wp2
      go_ret
      exact ⟨_, rfl, ⟨fun _ => HF.out, fun _ => rfl⟩, HB.out⟩
set_option linter.unusedSimpArgs false in
theorem gEqual_any {w : World} {p q n : Nat} {A B A' B' : Nat → List Nat} (h : GOk w p n A B) (h' : GOk w q n A' B') :
    Calls Try.prog 36 #[.pointer (some ⟨p, 0, none⟩), .pointer (some ⟨q, 0, none⟩)] w (BoolIs (∀ i, i < n → A i = A' i) w) := by
  obtain ⟨hn, ga, ga2, c0, -, hra, -⟩ := h.at_
  obtain ⟨-, gb, gb2, d0, -, hrb, -⟩ := h'.at_
  have HC : Hid (∀ W, Below w.heap.size w W → Calls Try.prog 59 #[.slice (some ⟨ga, 0, none⟩) n n, .slice (some ⟨gb, 0, none⟩) n n, .func (.func 60) #[] #[]] W (BoolIs (∀ i, i < n → A i = A' i) W)) :=
    fun W hW => equalFunc_any (hra.later hW) (hrb.later hW) hn h.la
  clear h h' hra hrb
  go_enter Try.func36, Try.ntmps36
  go_upto_region 3 with fail
  refine wp_region_held_drew (S := (fun W => W.cell? ⟨p, 0, none⟩ = some (.slice (some ⟨ga, 0, none⟩) n n) ∧ W.cell? ⟨q, 0, none⟩ = some (.slice (some ⟨gb, 0, none⟩) n n))) (by kernel_rfl) (⟨c0, d0⟩) (fun hH0 => ?_)
  refine wpAnyH_take (i := 0) (v := ?_) rfl (by kernel_rfl) (by kernel_rfl) (by kernel_rfl) (fun _ _ _ h => h) (Or.inl ⟨by rfl, ?_⟩) (by assumption) ?_
  rotate_left
  · (intro wx hSw; (try dsimp only at hSw); go_simp <;> with_reducible rfl)
  try simp only [Act.put, List.setIfInBounds_toArray, List.set_cons_zero, List.set_cons_succ, List.getElem_toArray, List.getElem_cons_zero, List.getElem_cons_succ]
  refine wpAnyH_take (i := 1) (v := ?_) rfl (by kernel_rfl) (by kernel_rfl) (by kernel_rfl) (fun _ _ _ h => h) (Or.inl ⟨by rfl, ?_⟩) (by assumption) ?_
  rotate_left
  · (intro wx hSw; (try dsimp only at hSw); go_simp <;> with_reducible rfl)
  try simp only [Act.put, List.setIfInBounds_toArray, List.set_cons_zero, List.set_cons_succ, List.getElem_toArray, List.getElem_cons_zero, List.getElem_cons_succ]
  refine wpAnyH_take (i := 2) (v := ?_) rfl (by kernel_rfl) (by kernel_rfl) (by kernel_rfl) (fun _ _ _ h => h) (Or.inl ⟨by rfl, ?_⟩) (by assumption) ?_
  rotate_left
  · (intro wx hSw; (try dsimp only at hSw); go_simp <;> with_reducible rfl)
  try simp only [Act.put, List.setIfInBounds_toArray, List.set_cons_zero, List.set_cons_succ, List.getElem_toArray, List.getElem_cons_zero, List.getElem_cons_succ]
  refine wpAnyH_take (i := 3) (v := ?_) rfl (by kernel_rfl) (by kernel_rfl) (by kernel_rfl) (fun _ _ _ h => h) (Or.inl ⟨by rfl, ?_⟩) (by assumption) ?_
  rotate_left
  · (intro wx hSw; (try dsimp only at hSw); go_simp <;> with_reducible rfl)
  try simp only [Act.put, List.setIfInBounds_toArray, List.set_cons_zero, List.set_cons_succ, List.getElem_toArray, List.getElem_cons_zero, List.getElem_cons_succ]
  refine wpAnyH_take (i := 4) (v := ?_) rfl (by kernel_rfl) (by kernel_rfl) (by kernel_rfl) (fun _ _ _ h => h) (Or.inl ⟨by rfl, ?_⟩) (by assumption) ?_
  rotate_left
  · (intro wx hSw; (try dsimp only at hSw); go_simp <;> with_reducible rfl)
  try simp only [Act.put, List.setIfInBounds_toArray, List.set_cons_zero, List.set_cons_succ, List.getElem_toArray, List.getElem_cons_zero, List.getElem_cons_succ]
  refine wpAnyH_take (i := 5) (v := ?_) rfl (by kernel_rfl) (by kernel_rfl) (by kernel_rfl) (fun _ _ _ h => h) (Or.inl ⟨by rfl, ?_⟩) (by assumption) ?_
  rotate_left
  · (intro wx hSw; (try dsimp only at hSw); go_simp <;> with_reducible rfl)
  try simp only [Act.put, List.setIfInBounds_toArray, List.set_cons_zero, List.set_cons_succ, List.getElem_toArray, List.getElem_cons_zero, List.getElem_cons_succ]
  refine wpAnyH_take (i := 6) (v := ?_) rfl (by kernel_rfl) (by kernel_rfl) (by kernel_rfl) (fun _ _ _ h => h) (Or.inl ⟨by rfl, ?_⟩) (by assumption) ?_
  rotate_left
  · (intro wx hSw; (try dsimp only at hSw); go_simp <;> with_reducible rfl)
  try simp only [Act.put, List.setIfInBounds_toArray, List.set_cons_zero, List.set_cons_succ, List.getElem_toArray, List.getElem_cons_zero, List.getElem_cons_succ]
  refine wpAnyH_take (i := 7) (v := ?_) rfl (by kernel_rfl) (by kernel_rfl) (by kernel_rfl) (fun _ _ _ h => h) (Or.inl ⟨by rfl, ?_⟩) (by assumption) ?_
  rotate_left
  · (intro wx hSw; (try dsimp only at hSw); go_simp <;> with_reducible rfl)
  try simp only [Act.put, List.setIfInBounds_toArray, List.set_cons_zero, List.set_cons_succ, List.getElem_toArray, List.getElem_cons_zero, List.getElem_cons_succ]
  refine wpAnyH_ready (rs := [8]) (by kernel_rfl) (by simp) ?_
  refine AllReadyH.cons rfl (fun K hK => ?_) AllReadyH.nil
  go_simp
  go_at_call 59
  with_reducible refine (HC.out _ (Below.refl _ _).drew).mono ?_
  rintro r y1 ⟨bq, rfl, hq, hb1⟩
  have HB1 : Hid (Below w.heap.size w y1) := (Below.refl w.heap.size w).drew.trans hb1
  have Hq := Lib.hid hq
  clear hq HC
  go_wp2_with fail
  refine hK.out _ _ (⟨cellL hH0.1 hb1, cellL hH0.2 hb1⟩) (fun hH1 => ?_)
  clear hK K hH0
  try simp only [Act.put, List.setIfInBounds_toArray, List.set_cons_zero, List.set_cons_succ, List.getElem_toArray, List.getElem_cons_zero, List.getElem_cons_succ]
  clear hb1
  refine wpAnyH_take (i := 9) (v := ?_) rfl (by kernel_rfl) (by kernel_rfl) (by kernel_rfl) (fun _ _ _ h => h) (Or.inl ⟨by rfl, ?_⟩) (by assumption) ?_
  rotate_left
  · (intro wx hSw; (try dsimp only at hSw); go_simp <;> with_reducible rfl)
  try simp only [Act.put, List.setIfInBounds_toArray, List.set_cons_zero, List.set_cons_succ, List.getElem_toArray, List.getElem_cons_zero, List.getElem_cons_succ]
  refine wpAnyH_done (by kernel_rfl) ?_ _
  go_wp2
  go_ret
  exact ⟨_, rfl, Hq.out, HB1.out⟩
theorem gEqual_nn (w : World) : Calls Try.prog 36 #[.pointer none, .pointer none] w fun r w' => r = .returned (.bool true) ∧ Below w.heap.size w w' := by
  go_enter Try.func36, Try.ntmps36
  go_wp2
  go_ret
  exact ⟨rfl, Below.refl _ _⟩
theorem gEqual_gn (w : World) (p : Nat) : Calls Try.prog 36 #[.pointer (some ⟨p, 0, none⟩), .pointer none] w fun r w' => r = .returned (.bool false) ∧ Below w.heap.size w w' := by
  go_enter Try.func36, Try.ntmps36
  go_wp2
  go_ret
  exact ⟨rfl, Below.refl _ _⟩
theorem gEqual_ng (w : World) (p : Nat) : Calls Try.prog 36 #[.pointer none, .pointer (some ⟨p, 0, none⟩)] w fun r w' => r = .returned (.bool false) ∧ Below w.heap.size w w' := by
  go_enter Try.func36, Try.ntmps36
  go_wp2
  go_ret
  exact ⟨rfl, Below.refl _ _⟩
/-- The first k rows of the new table. -/
structure ClAt (w wr : World) (b n k : Nat) (A : Nat → List Nat) (L : List Value) : Prop where
  low : Below w.heap.size w wr
  row : RowIs wr b 30 L
  len : L.length = n
  own : ∀ i, i < k → ∃ v, L[i]? = some v ∧ OwnK kNat (b + 1) wr v (A i)
  up : w.heap.size ≤ b
theorem ClAt.put {w wr w2 : World} {b n k : Nat} {A : Nat → List Nat} {L : List Value} {v : Value} (h : ClAt w wr b n k A L) (hb : Below wr.heap.size wr w2) (ho : OwnK kNat wr.heap.size w2 v (A k)) (hk : k < n) : ClAt w (w2.setCell ⟨b, k, none⟩ v) b n (k + 1) A (L.set k v) := by
  have hbl : b + 1 ≤ wr.heap.size := RowIs.lt h.row
  refine ⟨(h.low.trans (hb.mono h.low.size)).setCell (p := ⟨b, k, none⟩) h.up _, RowIs.set (h.row.later hb) k v, by rw [List.length_set]; exact h.len, fun i hi => ?_, h.up⟩
  rcases (by omega : i < k ∨ i = k) with q | q
  · obtain ⟨u, hu, ho2⟩ := h.own i q
    exact ⟨u, by rw [List.getElem?_set, if_neg (by omega)]; exact hu, OwnK.set (ho2.later hb) (Nat.lt_succ_self _)⟩
  · subst q
    exact ⟨v, by rw [List.getElem?_set, if_pos rfl, if_pos (by rw [h.len]; exact hk)], OwnK.set (ho.mono hbl) (Nat.lt_succ_self _)⟩
set_option linter.unusedSimpArgs false in
set_option maxHeartbeats 1600000 in
theorem cloneAll_any {w : World} {ga n : Nat} {A : Nat → List Nat} (ha : RowsAt w ga n A) (hn : n ≤ 4096) (hl : ∀ i, (A i).length ≤ 4096) :
    Calls Try.prog 58 #[.slice (some ⟨ga, 0, none⟩) n n] w fun r w' => ∃ b, r = .returned (.slice (some ⟨b, 0, none⟩) n n) ∧ RowsAt w' b n A ∧ Below w.heap.size w w' := by
  have Ha := Lib.hid ha
  have Hl := Lib.hid hl
  have Hn := Lib.hid hn
  have hmk := run_make_row' (P := Try.prog) 53 30 (.slice none 0 0) 24 Try.underlying53 (by kernel_rfl) rfl .i64 .i64 n (by omega) (by omega)
  clear ha hl
  go_enter Try.func58, Try.ntmps58
  go_upto_region 2 with fail
  obtain ⟨x1, hx1⟩ : ∃ x1, w.alloc (.cells (madeCells #[.slice none 0 0] n) 30) = x1 := ⟨_, rfl⟩
  have H0 : Hid (ClAt w x1 w.heap.size n 0 A (List.replicate n (.slice none 0 0))) := by
    rw [← hx1]
    exact ⟨(Below.refl _ _).alloc (Nat.le_refl _) _, made_row _ _ _ _, by rw [List.length_replicate], fun i hi => absurd hi (by omega), Nat.le_refl _⟩
  rw [hx1]
  clear hx1 hmk
  obtain ⟨b, hb⟩ : ∃ b, w.heap.size = b := ⟨_, rfl⟩
  rw [hb] at H0 ⊢
  clear hb
  go_wp2
  go_loopg [11] n (fun gk iv wr => ∃ (k : Nat) (L : List Value), Hid (k + gk = n) ∧ iv = .int .i64 k ∧ Hid (ClAt w wr b n k A L))
  case atStart => exact ⟨0, _, Nat.zero_add _, rfl, H0⟩
  case round =>
    clear H0
    obtain ⟨k, L, Hk, rfl, HC⟩ := hrel
    by_cases hlt : k < n
    · obtain ⟨va, hva, hra⟩ := Ha.out k hlt
      obtain ⟨aa, ca, rfl, -⟩ := hra.form
      have c1 := cellL hva HC.out.low
      have HI := Lib.hid (cloneI_any (hra.later HC.out.low) (by have := Hl.out k; omega))
      have hki : (k : Int) < (n : Int) := by omega
      have hks : k ≤ 4096 := by omega
      have Hlt := Lib.hid hlt
      clear hva hra hlt
      go_wp2_with fail
      refine HI.out.mono ?_
      rintro r w2 ⟨v2, rfl, ho2, hb2⟩
      have HC2 := Lib.hid (HC.out.put hb2 ho2 Hlt.out)
      obtain ⟨a2, c2, e2, -⟩ := ho2.row.form
      obtain ⟨m2, hm2⟩ : ∃ m, (A k).length = m := ⟨_, rfl⟩
      rw [hm2] at e2
      subst e2
      obtain ⟨u, hu⟩ : ∃ u, L[k]? = some u := ⟨_, List.getElem?_eq_getElem (by have := HC.out.len; have := Hlt.out; omega)⟩
      have d1 := (HC.out.row.later hb2).cell hu
      have d2 := RowIs.free (HC.out.row.later hb2) k
      clear hm2 hb2 ho2 hu HI HC c1
      go_wp2
      go_roundg (n - (k + 1))
      case measure => have := Hlt.out; have := Hk.out; omega
      case rel => exact ⟨k + 1, _, by have := Hlt.out; have := Hk.out; show _ = _; omega, by go_num, HC2⟩
    · have hki : ¬ (k : Int) < (n : Int) := by omega
      have HR : Hid (RowsAt wr b n A) := fun i hi => by
        obtain ⟨v, hv, ho⟩ := HC.out.own i (by have := Hk.out; omega)
        exact ⟨v, HC.out.row.cell hv, ho.row⟩
      go_wp2
      go_ret
      exact ⟨_, rfl, HR.out, HC.out.low⟩
set_option linter.unusedSimpArgs false in
theorem gReverse_any {w : World} {p n : Nat} {A B : Nat → List Nat} (h : GOk w p n A B) :
    Calls Try.prog 34 #[.pointer (some ⟨p, 0, none⟩)] w fun r w' => ∃ q, r = .returned (.pointer (some ⟨q, 0, none⟩)) ∧ GOk w' q n B A ∧ Below w.heap.size w w' := by
  obtain ⟨hn, ga, gb, c0, c1, hra, hrb⟩ := h.at_
  have HH : Hid ((∀ i, ∀ j ∈ A i, j < n) ∧ (∀ i, ∀ j ∈ B i, j < n) ∧ (∀ i, (A i).length ≤ 4096) ∧ (∀ i, (B i).length ≤ 4096) ∧ n ≤ 4096) := ⟨h.a, h.b, h.la, h.lb, hn⟩
  have HC1 : Hid (∀ W, Below w.heap.size w W → Calls Try.prog 58 #[.slice (some ⟨gb, 0, none⟩) n n] W fun r w' => ∃ b, r = .returned (.slice (some ⟨b, 0, none⟩) n n) ∧ RowsAt w' b n B ∧ Below W.heap.size W w') :=
    fun W hW => cloneAll_any (hrb.later hW) hn h.lb
  have HC2 : Hid (∀ W, Below w.heap.size w W → Calls Try.prog 58 #[.slice (some ⟨ga, 0, none⟩) n n] W fun r w' => ∃ b, r = .returned (.slice (some ⟨b, 0, none⟩) n n) ∧ RowsAt w' b n A ∧ Below W.heap.size W w') :=
    fun W hW => cloneAll_any (hra.later hW) hn h.la
  clear h hra hrb
  go_enter Try.func34, Try.ntmps34
  go_upto_region 3 with fail
  refine wp_region_held_drew (S := (fun W => W.cell? ⟨p, 0, none⟩ = some (.slice (some ⟨ga, 0, none⟩) n n) ∧ W.cell? ⟨p, 1, none⟩ = some (.slice (some ⟨gb, 0, none⟩) n n))) (by kernel_rfl) (⟨c0, c1⟩) (fun hH0 => ?_)
  refine wpAnyH_take (i := 0) (v := ?_) rfl (by kernel_rfl) (by kernel_rfl) (by kernel_rfl) (fun _ _ _ h => h) (Or.inl ⟨by rfl, ?_⟩) (by assumption) ?_
  rotate_left
  · (intro wx hSw; (try dsimp only at hSw); go_simp <;> with_reducible rfl)
  try simp only [Act.put, List.setIfInBounds_toArray, List.set_cons_zero, List.set_cons_succ, List.getElem_toArray, List.getElem_cons_zero, List.getElem_cons_succ]
  refine wpAnyH_take (i := 1) (v := ?_) rfl (by kernel_rfl) (by kernel_rfl) (by kernel_rfl) (fun _ _ _ h => h) (Or.inl ⟨by rfl, ?_⟩) (by assumption) ?_
  rotate_left
  · (intro wx hSw; (try dsimp only at hSw); go_simp <;> with_reducible rfl)
  try simp only [Act.put, List.setIfInBounds_toArray, List.set_cons_zero, List.set_cons_succ, List.getElem_toArray, List.getElem_cons_zero, List.getElem_cons_succ]
  refine wpAnyH_take (i := 2) (v := ?_) rfl (by kernel_rfl) (by kernel_rfl) (by kernel_rfl) (fun _ _ _ h => h) (Or.inl ⟨by rfl, ?_⟩) (by assumption) ?_
  rotate_left
  · (intro wx hSw; (try dsimp only at hSw); go_simp <;> with_reducible rfl)
  try simp only [Act.put, List.setIfInBounds_toArray, List.set_cons_zero, List.set_cons_succ, List.getElem_toArray, List.getElem_cons_zero, List.getElem_cons_succ]
  refine wpAnyH_take (i := 3) (v := ?_) rfl (by kernel_rfl) (by kernel_rfl) (by kernel_rfl) (fun _ _ _ h => h) (Or.inl ⟨by rfl, ?_⟩) (by assumption) ?_
  rotate_left
  · (intro wx hSw; (try dsimp only at hSw); go_simp <;> with_reducible rfl)
  try simp only [Act.put, List.setIfInBounds_toArray, List.set_cons_zero, List.set_cons_succ, List.getElem_toArray, List.getElem_cons_zero, List.getElem_cons_succ]
  refine wpAnyH_take (i := 5) (v := ?_) rfl (by kernel_rfl) (by kernel_rfl) (by kernel_rfl) (fun _ _ _ h => h) (Or.inl ⟨by rfl, ?_⟩) (by assumption) ?_
  rotate_left
  · (intro wx hSw; (try dsimp only at hSw); go_simp <;> with_reducible rfl)
  try simp only [Act.put, List.setIfInBounds_toArray, List.set_cons_zero, List.set_cons_succ, List.getElem_toArray, List.getElem_cons_zero, List.getElem_cons_succ]
  refine wpAnyH_take (i := 6) (v := ?_) rfl (by kernel_rfl) (by kernel_rfl) (by kernel_rfl) (fun _ _ _ h => h) (Or.inl ⟨by rfl, ?_⟩) (by assumption) ?_
  rotate_left
  · (intro wx hSw; (try dsimp only at hSw); go_simp <;> with_reducible rfl)
  try simp only [Act.put, List.setIfInBounds_toArray, List.set_cons_zero, List.set_cons_succ, List.getElem_toArray, List.getElem_cons_zero, List.getElem_cons_succ]
  refine wpAnyH_take (i := 7) (v := ?_) rfl (by kernel_rfl) (by kernel_rfl) (by kernel_rfl) (fun _ _ _ h => h) (Or.inl ⟨by rfl, ?_⟩) (by assumption) ?_
  rotate_left
  · (intro wx hSw; (try dsimp only at hSw); go_simp <;> with_reducible rfl)
  try simp only [Act.put, List.setIfInBounds_toArray, List.set_cons_zero, List.set_cons_succ, List.getElem_toArray, List.getElem_cons_zero, List.getElem_cons_succ]
  refine wpAnyH_take (i := 8) (v := ?_) rfl (by kernel_rfl) (by kernel_rfl) (by kernel_rfl) (fun _ _ _ h => h) (Or.inl ⟨by rfl, ?_⟩) (by assumption) ?_
  rotate_left
  · (intro wx hSw; (try dsimp only at hSw); go_simp <;> with_reducible rfl)
  try simp only [Act.put, List.setIfInBounds_toArray, List.set_cons_zero, List.set_cons_succ, List.getElem_toArray, List.getElem_cons_zero, List.getElem_cons_succ]
  refine wpAnyH_ready (rs := [4]) (by kernel_rfl) (by simp) ?_
  refine AllReadyH.cons rfl (fun K hK => ?_) AllReadyH.nil
  go_simp
  go_at_call 58
  with_reducible refine (HC1.out _ (Below.refl _ _).drew).mono ?_
  rintro r y1 ⟨b1, rfl, hr1, hb1⟩
  have HB1 : Hid (Below w.heap.size w y1) := (Below.refl w.heap.size w).drew.trans hb1
  have HR1 := Lib.hid hr1
  clear hr1 HC1
  go_wp2_with fail
  refine hK.out _ _ (⟨cellL hH0.1 hb1, cellL hH0.2 hb1⟩) (fun hH1 => ?_)
  clear hK K hH0
  try simp only [Act.put, List.setIfInBounds_toArray, List.set_cons_zero, List.set_cons_succ, List.getElem_toArray, List.getElem_cons_zero, List.getElem_cons_succ]
  clear hb1
  refine wpAnyH_ready (rs := [9]) (by kernel_rfl) (by simp) ?_
  refine AllReadyH.cons rfl (fun K hK => ?_) AllReadyH.nil
  go_simp
  go_at_call 58
  with_reducible refine (HC2.out y1 HB1.out).mono ?_
  rintro r y2 ⟨b2, rfl, hr2, hb2⟩
  have HB2 : Hid (Below w.heap.size w y2) := HB1.out.trans (hb2.mono HB1.out.size)
  have HR2 := Lib.hid hr2
  have HR1 := Lib.hid (HR1.out.later hb2)
  clear hr2 HC2
  go_wp2_with fail
  refine hK.out _ _ (⟨cellL hH1.1 hb2, cellL hH1.2 hb2⟩) (fun hH2 => ?_)
  clear hK K hH1
  try simp only [Act.put, List.setIfInBounds_toArray, List.set_cons_zero, List.set_cons_succ, List.getElem_toArray, List.getElem_cons_zero, List.getElem_cons_succ]
  clear hb2
  refine wpAnyH_take (i := 10) (v := ?_) rfl (by kernel_rfl) (by kernel_rfl) (by kernel_rfl) (fun _ _ _ h => h) (Or.inl ⟨by rfl, ?_⟩) (by assumption) ?_
  rotate_left
  · (intro wx hSw; (try dsimp only at hSw); go_simp <;> with_reducible rfl)
  try simp only [Act.put, List.setIfInBounds_toArray, List.set_cons_zero, List.set_cons_succ, List.getElem_toArray, List.getElem_cons_zero, List.getElem_cons_succ]
  refine wpAnyH_ready (rs := [11]) (by kernel_rfl) (by simp) ?_
  refine AllReadyH.cons rfl (fun K hK => ?_) AllReadyH.nil
  have hb : Below y2.heap.size y2 (y2.alloc (.cells #[.slice (some ⟨b1, 0, none⟩) n n, .slice (some ⟨b2, 0, none⟩) n n] 76)) := (Below.refl _ _).alloc (Nat.le_refl _) _
  have HQ : Hid (RowIs (y2.alloc (.cells #[.slice (some ⟨b1, 0, none⟩) n n, .slice (some ⟨b2, 0, none⟩) n n] 76)) y2.heap.size 76 [.slice (some ⟨b1, 0, none⟩) n n, .slice (some ⟨b2, 0, none⟩) n n]) := new_row y2 76 [.slice (some ⟨b1, 0, none⟩) n n, .slice (some ⟨b2, 0, none⟩) n n]
  have HR1 := Lib.hid (HR1.out.later hb)
  have HR2 := Lib.hid (HR2.out.later hb)
  have HB3 := Lib.hid (HB2.out.trans (hb.mono HB2.out.size))
  go_simp
  refine hK.out _ _ (⟨cellL hH2.1 hb, cellL hH2.2 hb⟩) (fun hH3 => ?_)
  clear hK K hH2
  try simp only [Act.put, List.setIfInBounds_toArray, List.set_cons_zero, List.set_cons_succ, List.getElem_toArray, List.getElem_cons_zero, List.getElem_cons_succ]
  clear hb
  refine wpAnyH_take (i := 12) (v := ?_) rfl (by kernel_rfl) (by kernel_rfl) (by kernel_rfl) (fun _ _ _ h => h) (Or.inl ⟨by rfl, ?_⟩) (by assumption) ?_
  rotate_left
  · (intro wx hSw; (try dsimp only at hSw); go_simp <;> with_reducible rfl)
  try simp only [Act.put, List.setIfInBounds_toArray, List.set_cons_zero, List.set_cons_succ, List.getElem_toArray, List.getElem_cons_zero, List.getElem_cons_succ]
  refine wpAnyH_done (by kernel_rfl) ?_ _
  go_wp2
  go_ret
  exact ⟨_, rfl, ⟨⟨HH.out.2.2.2.2, b1, b2, HQ.out.cell rfl, HQ.out.cell rfl, HR1.out, HR2.out⟩, HH.out.2.1, HH.out.1, HH.out.2.2.2.1, HH.out.2.2.1⟩, HB3.out⟩
end Go.Proofs.Yteiddebjbiadbaa
