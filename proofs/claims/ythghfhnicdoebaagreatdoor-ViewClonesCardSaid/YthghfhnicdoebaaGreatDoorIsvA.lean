/- Reference 05: Without. Reference 05: Apply. Two sorted lists that answer alike are one. Law 05: Is. (printed by wip/gen_is05.py) -/
import Derived.Test.YthghfhnicdoebaaGreatDoorEacA
import Derived.Test.YthghfhnicdoebaaGreatDoorErrA
import Derived.Test.YthghfhnicdoebaaGreatDoorIsA
namespace Go.Proofs.YthghfhnicdoebaaGreatDoor
open Go.RowKit

theorem getL_none_ne {l : List (NameT × ByteArray)} {n : NameT} (h : getL cmpN l n = none) : ∀ e ∈ l, cmpN n e.1 ≠ 0 := by
  induction l with
  | nil => intro e he; cases he
  | cons x l ih =>
    rw [getL] at h
    split at h
    · cases h
    · rename_i hx
      intro e he
      rcases List.mem_cons.1 he with rfl | he
      · exact hx
      · exact ih h e he
theorem rdel_none {l : List (NameT × ByteArray)} {n : NameT} (h : getL cmpN l n = none) : delL cmpN l n = l :=
  List.filter_eq_self.2 fun e he => decide_eq_true (getL_none_ne h e he)
theorem rdel_some {l : List (NameT × ByteArray)} {n : NameT} {x : ByteArray} {k : Nat} (hs : SortL cmpN l) (h : l[k]? = some (n, x)) : delL cmpN l n = l.take k ++ l.drop (k + 1) := by
  obtain ⟨hk, he⟩ := List.getElem?_eq_some_iff.1 h
  have hl : l = l.take k ++ (n, x) :: l.drop (k + 1) := by
    conv => lhs; rw [← List.take_append_drop k l, List.drop_eq_getElem_cons hk, he]
  have hs2 := hs
  rw [hl] at hs2
  obtain ⟨_, _, hlo, hhi⟩ := sort_mid (m := (n, x)) hs2
  conv => lhs; rw [hl]
  unfold delL
  rw [List.filter_append, List.filter_cons, if_neg (by simp [cmpN_ok.refl])]
  rw [List.filter_eq_self.2 fun e he => decide_eq_true ?_, List.filter_eq_self.2 fun e he => decide_eq_true ?_]
  · show cmpN n e.1 ≠ 0
    have h3 : cmpN n e.1 < 0 := hhi e he
    omega
  · intro h0
    have h1 := hlo e he
    have h2 := cmpN_ok.eq _ _ h0
    rw [h2, cmpN_ok.refl] at h1
    omega

/-- What Without leaves. -/
def RDelP (l : List (NameT × ByteArray)) (n : NameT) (w : World) (r : Ending) (w' : World) : Prop := ∃ v : Value, r = .returned (.tuple #[v, .int .i64 0]) ∧ RowK kE w' v (delL cmpN l n) ∧ Below w.heap.size w w'

set_option maxRecDepth 100000 in
set_option maxHeartbeats 3200000 in
theorem wo_none (w : World) (v : Value) (l : List (NameT × ByteArray)) (hl : RowK kE w v l) (hfe : ∀ e ∈ l, FitN e.1) (hlen : l.length ≤ 10000) (b1 : Int) (b2 : ByteArray) (b3 b4 : Int) (b5 : ByteArray) (hf : FitN ⟨b1, b2, b3, b4, b5⟩) (hq : checkE ⟨b1, b2, b3, b4, b5⟩ = 0) (hat : isAt l ⟨b1, b2, b3, b4, b5⟩ = false) (hget : getL cmpN l ⟨b1, b2, b3, b4, b5⟩ = none) :
    Calls Tryz.prog 48 #[v, .agg #[.int .i64 b1, .string b2, .int .i64 b3, .int .i64 b4, .string b5]] w (RDelP l ⟨b1, b2, b3, b4, b5⟩ w) := by
  have HDel := Lib.hid (rdel_none hget)
  have HQ := Lib.hid hq
  have HF := Lib.hid hf
  have HL := Lib.hid hl
  obtain ⟨a, c, rfl, -, -⟩ := hl.form
  generalize hll : l.length = len at *
  have HFi : Hid (∀ W, Below w.heap.size w W → Calls Tryz.prog 71 #[.slice a len c, .agg #[.int .i64 b1, .string b2, .int .i64 b3, .int .i64 b4, .string b5]] W fun r w' => (∃ k : Int, r = .returned (.tuple #[.int .i64 k, .bool false])) ∧ Below W.heap.size W w') := fun W hW => by
    have h := rFind_any W _ l (hl.later hW) ⟨b1, b2, b3, b4, b5⟩ hf hfe (by omega)
    rw [hat] at h
    exact h.mono fun r w' ⟨h1, h2⟩ => ⟨⟨_, h1⟩, h2⟩
  clear hl hfe hlen hf hq hat hget hll
  have HB0 : Hid (∀ o, Below w.heap.size w (w.alloc o)) := fun o => (Below.refl _ _).alloc (Nat.le_refl _) _
  have HX0 : Hid (∀ o, (w.alloc o).heap[w.heap.size]? = some o) := fun o => heap_alloc_new w o
  go_enter Tryz.func48, Tryz.ntmps48
  go_wp2_with fail
  have HB1 := Lib.hid (HB0.out (.cells #[.int .i64 b1, .string b2, .int .i64 b3, .int .i64 b4, .string b5] 38))
  have HX1 := Lib.hid (HX0.out (.cells #[.int .i64 b1, .string b2, .int .i64 b3, .int .i64 b4, .string b5] 38))
  clear HB0 HX0
  generalize w.alloc (.cells #[.int .i64 b1, .string b2, .int .i64 b3, .int .i64 b4, .string b5] 38) = w1 at *
  refine (rChk_is ⟨b1, b2, b3, b4, b5⟩ 0 HQ.out HF.out _).mono ?_
  rintro r w2 ⟨rfl, hb2⟩
  have HB2 : Hid (Below w.heap.size w w2) := HB1.out.trans (hb2.mono HB1.out.size)
  have HX2 := Lib.hid ((hb2.block _ (lt_of_heap HX1.out)).trans HX1.out)
  clear hb2 HB1 HX1
  have y0 : w2.cell? ⟨w.heap.size, 0, none⟩ = some (.int .i64 b1) := cell_of_heap HX2.out 0
  have y1 : w2.cell? ⟨w.heap.size, 1, none⟩ = some (.string b2) := cell_of_heap HX2.out 1
  have y2 : w2.cell? ⟨w.heap.size, 2, none⟩ = some (.int .i64 b3) := cell_of_heap HX2.out 2
  have y3 : w2.cell? ⟨w.heap.size, 3, none⟩ = some (.int .i64 b4) := cell_of_heap HX2.out 3
  have y4 : w2.cell? ⟨w.heap.size, 4, none⟩ = some (.string b5) := cell_of_heap HX2.out 4
  go_wp2_with fail
  refine (HFi.out _ HB2.out).mono ?_
  rintro r w3 ⟨⟨k, rfl⟩, hb3⟩
  have HB3 : Hid (Below w.heap.size w w3) := HB2.out.trans (hb3.mono HB2.out.size)
  clear hb3 y0 y1 y2 y3 y4
  go_wp2_with fail
  refine bodyPost_ret (v := .tuple #[.slice a len c, .int .i64 0]) (by simp [results, Tryz.results48, go_sem]) rfl ?_
  exact ⟨_, rfl, by rw [HDel.out]; exact HL.out.later HB3.out, HB3.out⟩

set_option maxRecDepth 100000 in
set_option maxHeartbeats 3200000 in
theorem wo_some (w : World) (g off len c : Nat) (l : List (NameT × ByteArray)) (hl : RowK kE w (.slice (some ⟨g, off, none⟩) len c) l) (hfe : ∀ e ∈ l, FitN e.1) (hlen : l.length ≤ 10000) (b1 : Int) (b2 : ByteArray) (b3 b4 : Int) (b5 : ByteArray) (hf : FitN ⟨b1, b2, b3, b4, b5⟩) (hq : checkE ⟨b1, b2, b3, b4, b5⟩ = 0) (hat : isAt l ⟨b1, b2, b3, b4, b5⟩ = true) (k : Nat) (hk : lowK l ⟨b1, b2, b3, b4, b5⟩ = k) (hklt : k < l.length)
    (hdel : delL cmpN l ⟨b1, b2, b3, b4, b5⟩ = l.take k ++ l.drop (k + 1)) :
    Calls Tryz.prog 48 #[.slice (some ⟨g, off, none⟩) len c, .agg #[.int .i64 b1, .string b2, .int .i64 b3, .int .i64 b4, .string b5]] w (RDelP l ⟨b1, b2, b3, b4, b5⟩ w) := by
  have HDel := Lib.hid hdel
  have HQ := Lib.hid hq
  have HF := Lib.hid hf
  have HL := Lib.hid hl
  have hlc : len ≤ c := by
    obtain ⟨a', c', e1, e2, -⟩ := hl.form
    cases e1
    exact e2
  have hll := hl.len
  rw [hll] at hklt
  have HFi : Hid (∀ W, Below w.heap.size w W → Calls Tryz.prog 71 #[.slice (some ⟨g, off, none⟩) len c, .agg #[.int .i64 b1, .string b2, .int .i64 b3, .int .i64 b4, .string b5]] W fun r w' => r = .returned (.tuple #[.int .i64 k, .bool true]) ∧ Below W.heap.size W w') := fun W hW => by
    have h := rFind_any W _ l (hl.later hW) ⟨b1, b2, b3, b4, b5⟩ hf hfe (by omega)
    rw [hat, hk] at h
    exact h
  have HTk : Hid (RowK kE w (.slice (some ⟨g, off, none⟩) k c) (l.take k)) := hl.take (by omega)
  have HTd : Hid (¬ k + 1 = c → RowK kE w (.slice (some ⟨g, off + (k + 1) * 6, none⟩) (len - (k + 1)) (c - (k + 1))) (l.drop (k + 1))) := fun h => hl.drop (by omega)
  have HTe : Hid (k + 1 = c → RowK kE w (.slice (some ⟨g, off, none⟩) 0 0) (l.drop (k + 1))) := fun h => by rw [List.drop_eq_nil_of_le (by omega)]; exact RowK.empty
  have HLen1 : Hid (([] : List (NameT × ByteArray)).length + (l.take k).length ≤ 1000000) := by show _ ≤ _; rw [List.length_take]; simp; omega
  have HLen2 : Hid ((l.take k).length + (l.drop (k + 1)).length ≤ 1000000) := by show _ ≤ _; rw [List.length_take, List.length_drop]; omega
  obtain ⟨j, hj⟩ : ∃ j, k + 1 = j := ⟨_, rfl⟩
  have hwr : IntKind.i64.wrap ((k : Int) + 1) = (j : Int) := by rw [IntKind.wrap_i64]; omega
  have hkc1 : j ≤ c := by omega
  have hkc0 : k ≤ c := by omega
  have hkl1 : j ≤ len := by omega
  have hc0 : ¬ c = 0 := by omega
  rw [hj] at HTd HTe HDel HLen2
  clear hl hfe hlen hf hq hat hdel hll hk
  have HB0 : Hid (∀ o, Below w.heap.size w (w.alloc o)) := fun o => (Below.refl _ _).alloc (Nat.le_refl _) _
  have HX0 : Hid (∀ o, (w.alloc o).heap[w.heap.size]? = some o) := fun o => heap_alloc_new w o
  go_enter Tryz.func48, Tryz.ntmps48
  go_wp2_with fail
  have HB1 := Lib.hid (HB0.out (.cells #[.int .i64 b1, .string b2, .int .i64 b3, .int .i64 b4, .string b5] 38))
  have HX1 := Lib.hid (HX0.out (.cells #[.int .i64 b1, .string b2, .int .i64 b3, .int .i64 b4, .string b5] 38))
  clear HB0 HX0
  generalize w.alloc (.cells #[.int .i64 b1, .string b2, .int .i64 b3, .int .i64 b4, .string b5] 38) = w1 at *
  refine (rChk_is ⟨b1, b2, b3, b4, b5⟩ 0 HQ.out HF.out _).mono ?_
  rintro r w2 ⟨rfl, hb2⟩
  have HB2 : Hid (Below w.heap.size w w2) := HB1.out.trans (hb2.mono HB1.out.size)
  have HX2 := Lib.hid ((hb2.block _ (lt_of_heap HX1.out)).trans HX1.out)
  clear hb2 HB1 HX1
  have y0 : w2.cell? ⟨w.heap.size, 0, none⟩ = some (.int .i64 b1) := cell_of_heap HX2.out 0
  have y1 : w2.cell? ⟨w.heap.size, 1, none⟩ = some (.string b2) := cell_of_heap HX2.out 1
  have y2 : w2.cell? ⟨w.heap.size, 2, none⟩ = some (.int .i64 b3) := cell_of_heap HX2.out 2
  have y3 : w2.cell? ⟨w.heap.size, 3, none⟩ = some (.int .i64 b4) := cell_of_heap HX2.out 3
  have y4 : w2.cell? ⟨w.heap.size, 4, none⟩ = some (.string b5) := cell_of_heap HX2.out 4
  go_wp2_with fail
  refine (HFi.out _ HB2.out).mono ?_
  rintro r U ⟨rfl, hb3⟩
  have HBU : Hid (Below w.heap.size w U) := HB2.out.trans (hb3.mono HB2.out.size)
  clear hb3 y0 y1 y2 y3 y4
  have N0 : Hid (∀ o, (U.alloc o).drew.heap[U.heap.size]? = some o) := fun o => heap_alloc_new U o
  have HBU1 : Hid (∀ o, Below w.heap.size w (U.alloc o).drew) := fun o => (HBU.out.alloc HBU.out.size _).drew
  have hub : w.heap.size ≤ U.heap.size := HBU.out.size
  by_cases hkc : c = j
  · subst hkc
    obtain rfl : len = c := by omega
    have HTx := Lib.hid (HTe.out rfl)
    clear hj
    go_upto_region 6 with fail
    go_region_law (first
      | (refine step_append_K (K := kE) (by rfl) _ _ (by rfl) w.heap.size (.slice (some ⟨U.heap.size, 0, none⟩) 0 0) [] (by rfl) (OwnK.empty (N0.out _) hub) (.slice (some ⟨g, off, none⟩) k len) (l.take k) (by rfl) (HTk.out.later (HBU1.out _)) HLen1.out (HBU1.out _).size ?_; intro vq wq hrowq hgq hatq; have Rq : Hid (OwnK kE w.heap.size wq vq (l.take k)) := hrowq; have Bq : Hid (Below w.heap.size w wq) := below_grow (HBU1.out _) hgq (Nat.le_refl _) (fun k hk => by have hk : U.heap.size = k := Option.some.inj hk; have := HBU.out.size; omega); clear hrowq hgq hatq)
      | (refine step_append_K (K := kE) (by rfl) _ _ (by rfl) w.heap.size vq (l.take k) (by rfl) Rq.out (.slice (some ⟨g, off, none⟩) 0 0) (l.drop len) (by rfl) (HTx.out.later Bq.out) HLen2.out Bq.out.size ?_; intro vr wr hrowr hgr hatr; have Rr : Hid (OwnK kE w.heap.size wr vr (l.take k ++ l.drop len)) := hrowr; have Br : Hid (Below w.heap.size w wr) := OwnK.below Rq.out hgr Bq.out (Nat.le_refl _); clear hrowr hgr hatr)
      | fail)
    all_goals
      go_wp2
      refine bodyPost_ret (v := .tuple #[vr, .int .i64 0]) (by simp [results, Tryz.results48, go_sem]) rfl ?_
      exact ⟨_, rfl, by rw [HDel.out]; exact Rr.out.row, Br.out⟩
  · have HTx := Lib.hid (HTd.out (fun h => hkc h.symm))
    clear hj
    go_upto_region 6 with fail
    go_region_law (first
      | (refine step_append_K (K := kE) (by rfl) _ _ (by rfl) w.heap.size (.slice (some ⟨U.heap.size, 0, none⟩) 0 0) [] (by rfl) (OwnK.empty (N0.out _) hub) (.slice (some ⟨g, off, none⟩) k c) (l.take k) (by rfl) (HTk.out.later (HBU1.out _)) HLen1.out (HBU1.out _).size ?_; intro vq wq hrowq hgq hatq; have Rq : Hid (OwnK kE w.heap.size wq vq (l.take k)) := hrowq; have Bq : Hid (Below w.heap.size w wq) := below_grow (HBU1.out _) hgq (Nat.le_refl _) (fun k hk => by have hk : U.heap.size = k := Option.some.inj hk; have := HBU.out.size; omega); clear hrowq hgq hatq)
      | (refine step_append_K (K := kE) (by rfl) _ _ (by rfl) w.heap.size vq (l.take k) (by rfl) Rq.out (.slice (some ⟨g, off + j * 6, none⟩) (len - j) (c - j)) (l.drop j) (by rfl) (HTx.out.later Bq.out) HLen2.out Bq.out.size ?_; intro vr wr hrowr hgr hatr; have Rr : Hid (OwnK kE w.heap.size wr vr (l.take k ++ l.drop j)) := hrowr; have Br : Hid (Below w.heap.size w wr) := OwnK.below Rq.out hgr Bq.out (Nat.le_refl _); clear hrowr hgr hatr)
      | fail)
    all_goals
      go_wp2
      refine bodyPost_ret (v := .tuple #[vr, .int .i64 0]) (by simp [results, Tryz.results48, go_sem]) rfl ?_
      exact ⟨_, rfl, by rw [HDel.out]; exact Rr.out.row, Br.out⟩

theorem rWithout_any (w : World) (v : Value) (l : List (NameT × ByteArray)) (hl : RowK kE w v l) (n : NameT) (hf : FitN n) (hfe : ∀ e ∈ l, FitN e.1) (hlen : l.length ≤ 10000) (hs : SortL cmpN l) (hq : checkE n = 0) :
    Calls Tryz.prog 48 #[v, nameV n] w (RDelP l n w) := by
  rcases low_ways (n := n) hs with ⟨h1, y, h2, hlt, h3, -⟩ | ⟨h1, h3, -⟩
  · rcases id hl with ⟨rfl, h0⟩ | ⟨g, off, c, rfl, -, -⟩
    · rw [h0] at h2; simp at h2
    · exact wo_some w g off l.length c l hl hfe hlen n.kind n.owner n.number n.index n.text hf hq h1 _ rfl hlt (rdel_some hs h2)
  · exact wo_none w v l hl hfe hlen n.kind n.owner n.number n.index n.text hf hq h1 h3
end Go.Proofs.YthghfhnicdoebaaGreatDoor

namespace Go.Proofs.YthghfhnicdoebaaGreatDoor
open Go.RowKit

def WOk (c : ChangeT) : Prop := FitN c.name ∧ checkE c.name = 0 ∧ c.value.size ≤ 65536
def appC (l : List (NameT × ByteArray)) (c : ChangeT) : List (NameT × ByteArray) := if c.absent = true then delL cmpN l c.name else putL cmpN l c.name c.value
def appL (l : List (NameT × ByteArray)) (cs : List ChangeT) : List (NameT × ByteArray) := cs.foldl appC l
theorem appL_take {l : List (NameT × ByteArray)} {cs : List ChangeT} {k : Nat} {c : ChangeT} (h : cs[k]? = some c) : appL l (cs.take (k + 1)) = appC (appL l (cs.take k)) c := by
  unfold appL
  rw [List.take_add_one, h, List.foldl_append]
  rfl
structure LE (l : List (NameT × ByteArray)) (M : Nat) : Prop where
  s : SortL cmpN l
  n : l.length ≤ M
  f : ∀ e ∈ l, FitN e.1
  v : ∀ e ∈ l, e.2.size ≤ 65536
theorem LE.app {l : List (NameT × ByteArray)} {M : Nat} (h : LE l M) {c : ChangeT} (hc : WOk c) : LE (appC l c) (M + 1) := by
  unfold appC
  split
  · refine ⟨sort_del h.s _, Nat.le_trans (List.length_filter_le _ _) (Nat.le_succ_of_le h.n), fun e he => h.f e (List.mem_filter.1 he).1, fun e he => h.v e (List.mem_filter.1 he).1⟩
  · refine ⟨sort_put cmpN_ok h.s _ _, Nat.le_trans (put_length _ _) (Nat.succ_le_succ h.n), fun e he => ?_, fun e he => ?_⟩
    · rcases putL_mem he with rfl | he
      · exact hc.1
      · exact h.f e he
    · rcases putL_mem he with rfl | he
      · exact hc.2.2
      · exact h.v e he
theorem LE.apps {l : List (NameT × ByteArray)} {M : Nat} (h : LE l M) {cs : List ChangeT} (hc : ∀ c ∈ cs, WOk c) (k : Nat) : LE (appL l (cs.take k)) (M + k) := by
  induction k with
  | zero => exact h
  | succ k ih =>
    cases hk : cs[k]? with
    | none =>
      rw [List.take_add_one, hk]
      simp only [Option.toList_none, List.append_nil]
      exact ⟨ih.s, Nat.le_trans ih.n (by omega), ih.f, ih.v⟩
    | some c =>
      rw [appL_take hk]
      exact ih.app (hc c (List.mem_of_getElem? hk))
theorem get_app {l : List (NameT × ByteArray)} (hs : SortL cmpN l) (c : ChangeT) : getL cmpN (appC l c) = applyC (getL cmpN l) c := by
  funext n
  unfold appC applyC
  cases c.absent with
  | true =>
    rw [if_pos rfl, if_pos rfl, get_del cmpN_ok]
    unfold delF
    simp only [cmpN_ok.zero]
  | false =>
    rw [if_neg (by simp), if_neg (by simp), get_put cmpN_ok hs]
    unfold setF
    simp only [cmpN_ok.zero]
theorem get_apps {l : List (NameT × ByteArray)} {M : Nat} (h : LE l M) (cs : List ChangeT) (hc : ∀ c ∈ cs, WOk c) : getL cmpN (appL l cs) = applyF (getL cmpN l) cs := by
  induction cs generalizing l M with
  | nil => rfl
  | cons c cs ih =>
    have h1 := ih (h.app (hc c List.mem_cons_self)) fun x hx => hc x (List.mem_cons_of_mem _ hx)
    rw [get_app h.s] at h1
    exact h1
theorem sort_ext {l m : List (NameT × ByteArray)} (hl : SortL cmpN l) (hm : SortL cmpN m) (h : ∀ n, getL cmpN l n = getL cmpN m n) : l = m := by
  induction l generalizing m with
  | nil =>
    cases m with
    | nil => rfl
    | cons y m =>
      have h1 := h y.1
      rw [getL, getL, if_pos (cmpN_ok.refl _)] at h1
      cases h1
  | cons x l ih =>
    cases m with
    | nil =>
      have h1 := h x.1
      rw [getL, getL, if_pos (cmpN_ok.refl _)] at h1
      cases h1
    | cons y m =>
      have hx := List.pairwise_cons.1 hl
      have hy := List.pairwise_cons.1 hm
      have e1 : x.1 = y.1 := by
        have h1 := h x.1
        have h2 := h y.1
        rw [getL, if_pos (cmpN_ok.refl _), getL] at h1
        conv at h2 => rhs; rw [getL, if_pos (cmpN_ok.refl _)]
        rw [getL] at h2
        by_cases h3 : cmpN x.1 y.1 = 0
        · exact cmpN_ok.eq _ _ h3
        · rw [if_neg h3] at h1
          have h4 : ¬ cmpN y.1 x.1 = 0 := fun e => h3 (cmpN_ok.zero.2 (cmpN_ok.eq _ _ e).symm)
          rw [if_neg h4] at h2
          rcases Int.lt_or_gt_of_ne h3 with h5 | h5
          · rw [getL_lo (c := cmpN) (l := m) (n := x.1) (fun e he => cmpN_ok.trans _ _ _ h5 (hy.1 e he))] at h1
            cases h1
          · have h6 : cmpN y.1 x.1 < 0 := cmpN_ok.lt.1 h5
            rw [getL_lo (c := cmpN) (l := l) (n := y.1) (fun e he => cmpN_ok.trans _ _ _ h6 (hx.1 e he))] at h2
            cases h2
      have e2 : x.2 = y.2 := by
        have h1 := h x.1
        rw [getL, if_pos (cmpN_ok.refl _), getL, e1, if_pos (cmpN_ok.refl _)] at h1
        exact Option.some.inj h1
      obtain ⟨xn, xv⟩ := x
      obtain ⟨yn, yv⟩ := y
      cases e1
      cases e2
      rw [ih hx.2 hy.2 fun n => ?_]
      have h1 := h n
      rw [getL, getL] at h1
      by_cases h3 : cmpN n xn = 0
      · have e := cmpN_ok.eq _ _ h3
        subst e
        rw [getL_lo (c := cmpN) (fun e he => hx.1 e he), getL_lo (c := cmpN) (fun e he => hy.1 e he)]
      · rw [if_neg h3, if_neg h3] at h1
        exact h1

/-- What Apply leaves. -/
def RAppP (l : List (NameT × ByteArray)) (cs : List ChangeT) (w : World) (r : Ending) (w' : World) : Prop := ∃ v : Value, r = .returned (.tuple #[v, .int .i64 0]) ∧ RowK kE w' v (appL l cs) ∧ Below w.heap.size w w'
set_option maxRecDepth 100000 in
set_option maxHeartbeats 3200000 in
theorem rApply_any (w : World) (v x : Value) (l : List (NameT × ByteArray)) (cs : List ChangeT) (hl : RowK kE w v l) (hx : RowK kC w x cs) (M : Nat) (hle : LE l M) (hM : M + cs.length ≤ 10000) (hc : ∀ c ∈ cs, WOk c) :
    Calls Tryz.prog 18 #[v, x] w (RAppP l cs w) := by
  obtain ⟨a, c, rfl, -, -⟩ := hx.form
  have HX := Lib.hid hx
  have HL := Lib.hid hl
  have HLE := Lib.hid (hle.apps hc)
  have HC := Lib.hid hc
  clear hl hx hc hle
  generalize hnn : cs.length = n at *
  have Hn := Lib.hid hnn
  clear hnn
  have HM := Lib.hid hM
  have hn0 : n ≤ 10000 := by omega
  clear hM
  go_enter Tryz.func18, Tryz.ntmps18
  go_wp2_with fail
  go_loopg [0, 6] n (fun gk ov iv wr => ∃ k : Nat, k + gk = n ∧ iv = .int .i64 k ∧ Hid (RowK kE wr ov (appL l (cs.take k))) ∧ Hid (Below w.heap.size w wr))
  case atStart => exact ⟨0, by omega, rfl, HL.out, Below.refl _ _⟩
  case round =>
    obtain ⟨k, hg, rfl, HR, HBr⟩ := hrel
    have Hg := Lib.hid hg
    have hk : k ≤ n := by omega
    clear hg
    by_cases hlt : k < n
    · have hkl : k < cs.length := by rw [Hn.out]; exact hlt
      have he : cs[k]? = some cs[k] := List.getElem?_eq_getElem hkl
      have HW := Lib.hid (HC.out _ (List.getElem_mem hkl))
      have HN : Hid (appL l (cs.take (k + 1)) = appC (appL l (cs.take k)) cs[k]) := appL_take he
      generalize cs[k] = e at *
      obtain ⟨g, off, rfl, hcs⟩ := (HX.out.later HBr.out).at_ he
      obtain ⟨⟨b1, b2, b3, b4, b5⟩, b6, b7⟩ := e
      have c0 : wr.cell? ⟨g, off + k * 7, none⟩ = some (.int .i64 b1) := hcs 0 _ rfl
      have c1 : wr.cell? ⟨g, off + k * 7 + 1, none⟩ = some (.string b2) := hcs 1 _ rfl
      have c2 : wr.cell? ⟨g, off + k * 7 + 2, none⟩ = some (.int .i64 b3) := hcs 2 _ rfl
      have c3 : wr.cell? ⟨g, off + k * 7 + 3, none⟩ = some (.int .i64 b4) := hcs 3 _ rfl
      have c4 : wr.cell? ⟨g, off + k * 7 + 4, none⟩ = some (.string b5) := hcs 4 _ rfl
      have c5 : wr.cell? ⟨g, off + k * 7 + 5, none⟩ = some (.string b6) := hcs 5 _ rfl
      have c6 : wr.cell? ⟨g, off + k * 7 + 6, none⟩ = some (.bool b7) := hcs 6 _ rfl
      clear hcs he
      have HLk := Lib.hid (HLE.out k)
      have hlk : (appL l (cs.take k)).length ≤ 10000 := by have := HLk.out.n; have := HM.out; omega
      have HLl := Lib.hid hlk
      clear hlk
      have HWi : Hid (∀ W, Below wr.heap.size wr W → Calls Tryz.prog 37 #[u0, .agg #[.int .i64 b1, .string b2, .int .i64 b3, .int .i64 b4, .string b5], .string b6] W fun r w' => ∃ v, r = .returned (.tuple #[v, .int .i64 0]) ∧ RowK kE w' v (putL cmpN (appL l (cs.take k)) ⟨b1, b2, b3, b4, b5⟩ b6) ∧ Below W.heap.size W w') := fun W hW =>
        (rWith_any W u0 _ (HR.out.later hW) ⟨b1, b2, b3, b4, b5⟩ b6 HW.out.1 HLk.out.f HLl.out HLk.out.s (Nat.le_trans HW.out.2.2 (by decide))).mono fun r w' ⟨v, e, h1, h2, h3, h4⟩ => by
          have h0 : e = 0 := by rw [h2]; unfold withE; rw [if_neg (by rw [HW.out.2.1]; decide), if_neg (Nat.not_lt.2 HW.out.2.2)]
          subst h0
          exact ⟨v, h1, h3 rfl, h4⟩
      have HWo : Hid (∀ W, Below wr.heap.size wr W → Calls Tryz.prog 48 #[u0, .agg #[.int .i64 b1, .string b2, .int .i64 b3, .int .i64 b4, .string b5]] W (RDelP (appL l (cs.take k)) ⟨b1, b2, b3, b4, b5⟩ W)) := fun W hW =>
        rWithout_any W u0 _ (HR.out.later hW) ⟨b1, b2, b3, b4, b5⟩ HW.out.1 HLk.out.f HLl.out HLk.out.s HW.out.2.1
      have Bw : Hid (∀ o, Below wr.heap.size wr (wr.alloc o)) := fun o => (Below.refl _ _).alloc (Nat.le_refl _) _
      have hne := World.new_ne wr _ c0
      cases b7
      · have HA : Hid (appL l (cs.take (k + 1)) = putL cmpN (appL l (cs.take k)) ⟨b1, b2, b3, b4, b5⟩ b6) := by show _ = _; rw [HN.out]; rfl
        go_wp2_with (go_at_call 37; refine (HWi.out _ (by first | exact Bw.out _ | exact below_fill (Below.refl _ _) (Nat.le_refl _) _ _ _)).mono ?_; rintro r w2 ⟨v2, rfl, hr2, hb2⟩; have HR2 := Lib.hid hr2; have HB2 : Hid (Below w.heap.size w w2) := HBr.out.trans ((Below.trans (Bw.out _) (hb2.mono (by simp))).mono HBr.out.size); clear hr2 hb2)
        go_roundg (n - (k + 1))
        case measure => have := Hg.out; omega
        case rel => exact ⟨k + 1, by omega, by go_num, by rw [HA.out]; exact HR2.out, HB2.out⟩
      · have HA : Hid (appL l (cs.take (k + 1)) = delL cmpN (appL l (cs.take k)) ⟨b1, b2, b3, b4, b5⟩) := by show _ = _; rw [HN.out]; rfl
        go_wp2_with (go_at_call 48; refine (HWo.out _ (by first | exact Bw.out _ | exact below_fill (Below.refl _ _) (Nat.le_refl _) _ _ _)).mono ?_; rintro r w2 ⟨v2, rfl, hr2, hb2⟩; have HR2 := Lib.hid hr2; have HB2 : Hid (Below w.heap.size w w2) := HBr.out.trans ((Below.trans (Bw.out _) (hb2.mono (by simp))).mono HBr.out.size); clear hr2 hb2)
        go_roundg (n - (k + 1))
        case measure => have := Hg.out; omega
        case rel => exact ⟨k + 1, by omega, by go_num, by rw [HA.out]; exact HR2.out, HB2.out⟩
    · have hkn : k = n := by omega
      have HF : Hid (RowK kE wr u0 (appL l cs)) := by
        have := HR.out
        rw [List.take_of_length_le (by rw [Hn.out]; omega)] at this
        exact this
      clear hkn
      go_wp2_with fail
      refine bodyPost_ret (v := .tuple #[u0, .int .i64 0]) (by simp [results, Tryz.results18, go_sem]) rfl ?_
      exact ⟨_, rfl, HF.out, HBr.out⟩
end Go.Proofs.YthghfhnicdoebaaGreatDoor

namespace Go.Proofs.YthghfhnicdoebaaGreatDoor
open Go.RowKit
attribute [local go_sem ↓] Go.wp_at_zero Go.wp_at_succ
attribute [local go_sem ↓] run_neq_N

theorem get_at {l : List (NameT × ByteArray)} (hs : SortL cmpN l) {k : Nat} {e : NameT × ByteArray} (h : l[k]? = some e) : getL cmpN l e.1 = some e.2 := by
  obtain ⟨hk, he⟩ := List.getElem?_eq_some_iff.1 h
  have hl : l = l.take k ++ (e.1, e.2) :: l.drop (k + 1) := by
    conv => lhs; rw [← List.take_append_drop k l, List.drop_eq_getElem_cons hk, he]
  rw [hl] at hs ⊢
  rw [getL_mid cmpN_ok hs, if_pos (cmpN_ok.refl _)]
set_option maxRecDepth 100000 in
set_option maxHeartbeats 6400000 in
theorem is05_any (B sp : Nat) (T : Tree) (w : World) (v : Value) (hs : StateIn B w sp T) (hB : B ≤ w.heap.size) (hl : RowK kE w v T.ents) :
    Calls Tryz.prog 20 #[.pointer (some ⟨sp, 0, none⟩), v] w fun r w' => r = .returned (.bool true) ∧ Below w.heap.size w w' := by
  obtain ⟨a, c, rfl, -, -⟩ := hl.form
  have hsz : T.sz = T.ents.length := by rw [← nds_len, ← nds_ents, List.length_map]
  have hlen : T.ents.length ≤ 60000 := by rw [← hsz]; exact hs.sz
  have HNm : Hid (Calls Tryz.prog 51 #[.pointer (some ⟨sp, 0, none⟩)] w fun r w' => ∃ v, r = .returned v ∧ RowK kO w' v (T.ents.map Prod.fst) ∧ Below w.heap.size w w') := (names_any B sp T w hs hB).mono fun r w' ⟨v, h1, h2, h3⟩ => ⟨v, h1, h2.row, h3⟩
  have HLe : Hid (∀ W, Below w.heap.size w W → Calls Tryz.prog 52 #[.pointer (some ⟨sp, 0, none⟩)] W fun e w' => e = .returned (.int .i64 T.ents.length) ∧ W = w') := fun W hW => by
    rw [← hsz]; exact stateLen_any B sp T W (hs.later (hW.mono hB))
  have HBy : Hid (∀ W, Below w.heap.size w W → Calls Tryz.prog 53 #[.pointer (some ⟨sp, 0, none⟩)] W fun e w' => e = .returned (.int .i64 (sumB T.ents)) ∧ W = w') := fun W hW => stateBytes_any B sp T W (hs.later (hW.mono hB))
  have HRb : Hid (∀ W, Below w.heap.size w W → Calls Tryz.prog 54 #[.slice a T.ents.length c] W fun e w' => e = .returned (.int .i64 (sumB T.ents)) ∧ Below W.heap.size W w') := fun W hW => rBytes_any W _ _ (hl.later hW) hs.vals (by omega)
  have HGt : Hid (∀ W n, Below w.heap.size w W → FitN n → Calls Tryz.prog 47 #[.pointer (some ⟨sp, 0, none⟩), nameV n] W (GetPost W (getL cmpN T.ents n))) := fun W n hW hn => stateGet_any B sp T n W (hs.later (hW.mono hB)) hn
  have HFit := Lib.hid hs.good.fit
  have HSo := Lib.hid hs.good.sort
  have HL := Lib.hid hl
  clear hs hB hl hsz
  generalize hll : T.ents = l at *
  clear hll
  generalize hnn : l.length = n at *
  have Hn := Lib.hid hnn
  generalize hbb : sumB l = bs at *
  clear hnn hbb
  go_enter Tryz.func20, Tryz.ntmps20
  go_wp2_with fail
  refine HNm.out.mono ?_
  rintro r w1 ⟨v1, rfl, hr1, hb1⟩
  have HB1 := Lib.hid hb1
  obtain ⟨a1, k1, e1, -, -⟩ := hr1.form
  rw [List.length_map, Hn.out] at e1
  subst e1
  have HR1 := Lib.hid hr1
  clear hb1 hr1
  go_wp2_with (first
    | (go_at_call 52; refine (HLe.out _ HB1.out).mono ?_; rintro r w2 ⟨rfl, rfl⟩)
    | (go_at_call 53; refine (HBy.out _ HB1.out).mono ?_; rintro r w2 ⟨rfl, rfl⟩)
    | (go_at_call 54; refine (HRb.out _ HB1.out).mono ?_; rintro r w3 ⟨rfl, hb3⟩; have HB3 : Hid (Below w.heap.size w w3) := HB1.out.trans (hb3.mono HB1.out.size); have HR3 := Lib.hid (HR1.out.later hb3); clear hb3))
  go_loopg [6] n (fun gk iv wr => ∃ k : Nat, k + gk = n ∧ iv = .int .i64 k ∧ Hid (Below w3.heap.size w3 wr))
  case atStart => exact ⟨0, by omega, rfl, Below.refl _ _⟩
  case round =>
    obtain ⟨k, hg, rfl, HBr0⟩ := hrel
    have Hg := Lib.hid hg
    have hk : k ≤ n := by omega
    clear hg
    have HBr : Hid (Below w.heap.size w wr) := HB3.out.trans (HBr0.out.mono HB3.out.size)
    by_cases hlt : k < n
    · have hkl : k < l.length := by rw [Hn.out]; exact hlt
      have he : l[k]? = some l[k] := List.getElem?_eq_getElem hkl
      have HFx := Lib.hid (HFit.out _ (List.getElem_mem hkl))
      have HGa := Lib.hid (get_at HSo.out he)
      generalize l[k] = e at *
      have hem : (l.map Prod.fst)[k]? = some e.1 := by rw [List.getElem?_map, he]; rfl
      obtain ⟨g1, o1, rfl, hc1⟩ := (HR3.out.later HBr0.out).at_ hem
      obtain ⟨g2, o2, rfl, hc2⟩ := (HL.out.later HBr.out).at_ he
      obtain ⟨⟨b1, b2, b3, b4, b5⟩, b6⟩ := e
      have c0 : wr.cell? ⟨g1, o1 + k * 5, none⟩ = some (.int .i64 b1) := hc1 0 _ rfl
      have c1 : wr.cell? ⟨g1, o1 + k * 5 + 1, none⟩ = some (.string b2) := hc1 1 _ rfl
      have c2 : wr.cell? ⟨g1, o1 + k * 5 + 2, none⟩ = some (.int .i64 b3) := hc1 2 _ rfl
      have c3 : wr.cell? ⟨g1, o1 + k * 5 + 3, none⟩ = some (.int .i64 b4) := hc1 3 _ rfl
      have c4 : wr.cell? ⟨g1, o1 + k * 5 + 4, none⟩ = some (.string b5) := hc1 4 _ rfl
      have d0 : wr.cell? ⟨g2, o2 + k * 6, none⟩ = some (.int .i64 b1) := hc2 0 _ rfl
      have d1 : wr.cell? ⟨g2, o2 + k * 6 + 1, none⟩ = some (.string b2) := hc2 1 _ rfl
      have d2 : wr.cell? ⟨g2, o2 + k * 6 + 2, none⟩ = some (.int .i64 b3) := hc2 2 _ rfl
      have d3 : wr.cell? ⟨g2, o2 + k * 6 + 3, none⟩ = some (.int .i64 b4) := hc2 3 _ rfl
      have d4 : wr.cell? ⟨g2, o2 + k * 6 + 4, none⟩ = some (.string b5) := hc2 4 _ rfl
      have d5 : wr.cell? ⟨g2, o2 + k * 6 + 5, none⟩ = some (.string b6) := hc2 5 _ rfl
      clear hc1 hc2 he hem
      have HG2 : Hid (∀ W, Below wr.heap.size wr W → Calls Tryz.prog 47 #[.pointer (some ⟨sp, 0, none⟩), .agg #[.int .i64 b1, .string b2, .int .i64 b3, .int .i64 b4, .string b5]] W fun r w' => r = .returned (.tuple #[.string b6, .bool true]) ∧ Below W.heap.size W w') := fun W hW => by
        have h := HGt.out W ⟨b1, b2, b3, b4, b5⟩ (HBr.out.trans (hW.mono HBr.out.size)) HFx.out
        rw [HGa.out] at h
        exact h
      have hq : neqNB ⟨b1, b2, b3, b4, b5⟩ ⟨b1, b2, b3, b4, b5⟩ = false := neqNB_self _
      go_upto_region 8 with (go_at_call 47; refine (HG2.out _ (Below.refl _ _)).mono ?_; rintro r w4 ⟨rfl, hb4⟩; have HB4 := Lib.hid hb4; clear hb4)
      obtain ⟨e0, e1, e2, e3, e4, f0, f1, f2, f3, f4, f5⟩ : w4.cell? ⟨g1, o1 + k * 5, none⟩ = some (.int .i64 b1) ∧ w4.cell? ⟨g1, o1 + k * 5 + 1, none⟩ = some (.string b2) ∧ w4.cell? ⟨g1, o1 + k * 5 + 2, none⟩ = some (.int .i64 b3) ∧ w4.cell? ⟨g1, o1 + k * 5 + 3, none⟩ = some (.int .i64 b4) ∧ w4.cell? ⟨g1, o1 + k * 5 + 4, none⟩ = some (.string b5) ∧ w4.cell? ⟨g2, o2 + k * 6, none⟩ = some (.int .i64 b1) ∧ w4.cell? ⟨g2, o2 + k * 6 + 1, none⟩ = some (.string b2) ∧ w4.cell? ⟨g2, o2 + k * 6 + 2, none⟩ = some (.int .i64 b3) ∧ w4.cell? ⟨g2, o2 + k * 6 + 3, none⟩ = some (.int .i64 b4) ∧ w4.cell? ⟨g2, o2 + k * 6 + 4, none⟩ = some (.string b5) ∧ w4.cell? ⟨g2, o2 + k * 6 + 5, none⟩ = some (.string b6) := ⟨((bcell HB4.out).1 _ _ (World.block_lt_of_cell? wr _ c0)).trans c0, ((bcell HB4.out).1 _ _ (World.block_lt_of_cell? wr _ c1)).trans c1, ((bcell HB4.out).1 _ _ (World.block_lt_of_cell? wr _ c2)).trans c2, ((bcell HB4.out).1 _ _ (World.block_lt_of_cell? wr _ c3)).trans c3, ((bcell HB4.out).1 _ _ (World.block_lt_of_cell? wr _ c4)).trans c4, ((bcell HB4.out).1 _ _ (World.block_lt_of_cell? wr _ d0)).trans d0, ((bcell HB4.out).1 _ _ (World.block_lt_of_cell? wr _ d1)).trans d1, ((bcell HB4.out).1 _ _ (World.block_lt_of_cell? wr _ d2)).trans d2, ((bcell HB4.out).1 _ _ (World.block_lt_of_cell? wr _ d3)).trans d3, ((bcell HB4.out).1 _ _ (World.block_lt_of_cell? wr _ d4)).trans d4, ((bcell HB4.out).1 _ _ (World.block_lt_of_cell? wr _ d5)).trans d5⟩
      clear c0 c1 c2 c3 c4 d0 d1 d2 d3 d4 d5
      go_region_held3 (fun W => W.cell? ⟨g1, o1 + k * 5, none⟩ = some (.int .i64 b1) ∧ W.cell? ⟨g1, o1 + k * 5 + 1, none⟩ = some (.string b2) ∧ W.cell? ⟨g1, o1 + k * 5 + 2, none⟩ = some (.int .i64 b3) ∧ W.cell? ⟨g1, o1 + k * 5 + 3, none⟩ = some (.int .i64 b4) ∧ W.cell? ⟨g1, o1 + k * 5 + 4, none⟩ = some (.string b5) ∧ W.cell? ⟨g2, o2 + k * 6, none⟩ = some (.int .i64 b1) ∧ W.cell? ⟨g2, o2 + k * 6 + 1, none⟩ = some (.string b2) ∧ W.cell? ⟨g2, o2 + k * 6 + 2, none⟩ = some (.int .i64 b3) ∧ W.cell? ⟨g2, o2 + k * 6 + 3, none⟩ = some (.int .i64 b4) ∧ W.cell? ⟨g2, o2 + k * 6 + 4, none⟩ = some (.string b5) ∧ W.cell? ⟨g2, o2 + k * 6 + 5, none⟩ = some (.string b6)) (first | with_reducible exact S1.out | with_reducible exact ⟨e0, e1, e2, e3, e4, f0, f1, f2, f3, f4, f5⟩ | go_keep)
        (first
          | (go_at_call 55; refine (of04_any b1 b2 b3 b4 b5 _).mono ?_; rintro r w9 ⟨rfl, hb⟩; have hb9 : Below w4.heap.size w4 w9 := ((Below.refl _ _).drew).trans hb; have S1 : Hid (w9.cell? ⟨g1, o1 + k * 5, none⟩ = some (.int .i64 b1) ∧ w9.cell? ⟨g1, o1 + k * 5 + 1, none⟩ = some (.string b2) ∧ w9.cell? ⟨g1, o1 + k * 5 + 2, none⟩ = some (.int .i64 b3) ∧ w9.cell? ⟨g1, o1 + k * 5 + 3, none⟩ = some (.int .i64 b4) ∧ w9.cell? ⟨g1, o1 + k * 5 + 4, none⟩ = some (.string b5) ∧ w9.cell? ⟨g2, o2 + k * 6, none⟩ = some (.int .i64 b1) ∧ w9.cell? ⟨g2, o2 + k * 6 + 1, none⟩ = some (.string b2) ∧ w9.cell? ⟨g2, o2 + k * 6 + 2, none⟩ = some (.int .i64 b3) ∧ w9.cell? ⟨g2, o2 + k * 6 + 3, none⟩ = some (.int .i64 b4) ∧ w9.cell? ⟨g2, o2 + k * 6 + 4, none⟩ = some (.string b5) ∧ w9.cell? ⟨g2, o2 + k * 6 + 5, none⟩ = some (.string b6)) := ⟨((bcell hb9).1 _ _ (World.block_lt_of_cell? w4 _ e0)).trans e0, ((bcell hb9).1 _ _ (World.block_lt_of_cell? w4 _ e1)).trans e1, ((bcell hb9).1 _ _ (World.block_lt_of_cell? w4 _ e2)).trans e2, ((bcell hb9).1 _ _ (World.block_lt_of_cell? w4 _ e3)).trans e3, ((bcell hb9).1 _ _ (World.block_lt_of_cell? w4 _ e4)).trans e4, ((bcell hb9).1 _ _ (World.block_lt_of_cell? w4 _ f0)).trans f0, ((bcell hb9).1 _ _ (World.block_lt_of_cell? w4 _ f1)).trans f1, ((bcell hb9).1 _ _ (World.block_lt_of_cell? w4 _ f2)).trans f2, ((bcell hb9).1 _ _ (World.block_lt_of_cell? w4 _ f3)).trans f3, ((bcell hb9).1 _ _ (World.block_lt_of_cell? w4 _ f4)).trans f4, ((bcell hb9).1 _ _ (World.block_lt_of_cell? w4 _ f5)).trans f5⟩; have HB9 : Hid (Below wr.heap.size wr w9) := HB4.out.trans (hb9.mono HB4.out.size); clear hb hb9)
          | fail)
      clear e0 e1 e2 e3 e4 f0 f1 f2 f3 f4 f5
      go_wp2
      go_roundg (n - (k + 1))
      case measure => have := Hg.out; omega
      case rel => exact ⟨k + 1, by have := Hg.out; omega, by go_num, HBr0.out.trans (HB9.out.mono HBr0.out.size)⟩
    · go_wp2
      go_ret
      exact ⟨rfl, HBr.out⟩
end Go.Proofs.YthghfhnicdoebaaGreatDoor
