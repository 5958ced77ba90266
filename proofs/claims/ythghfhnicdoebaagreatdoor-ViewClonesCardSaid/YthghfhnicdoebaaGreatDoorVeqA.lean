/- maps.Equal of two maps of reads. Law 24, plain: two lists of reads are alike when the reference lists the same. View.Equal. -/
import Derived.Test.YthghfhnicdoebaaGreatDoorCloB
import Derived.Deep.LoopGhost
import Derived.WideLaws
import Derived.Deep.RegionHeld3
import Derived.Deep.RegionLaw
namespace Go.Proofs.YthghfhnicdoebaaGreatDoor
open Go.RowKit Go.ChangeMaps
attribute [local go_sem ↓] run_neq_change

structure MqI (w : World) (m : Nat) (es : Array MapEntry) (clock : Nat) (good : MapEntry → Prop) (gk : Nat) (wr : World) : Prop where
  ex : ∃ (seen : Array Nat) (c0 : Nat) (ps : List MapEntry), wr.heap[w.heap.size]? = some (.mapIter (some m) clock seen c0) ∧ clock ≤ c0 ∧ seen.toList = ps.map (·.born) ∧ (∀ e ∈ ps, e ∈ es.toList) ∧ (ps.map (·.born)).Nodup ∧ (leftOf es seen).size ≤ gk ∧ ∀ e ∈ ps, good e
  below : Below w.heap.size w wr
  lt : w.heap.size < wr.heap.size
theorem mqi_start {w : World} {m : Nat} {es : Array MapEntry} {clock : Nat} {good : MapEntry → Prop} : MqI w m es clock good es.size (w.alloc (.mapIter (some m) clock #[] clock)) :=
  ⟨⟨#[], clock, [], World.alloc_heap_new w _, Nat.le_refl _, rfl, (fun e he => by simp at he), by simp, Array.size_filter_le, (fun e he => by simp at he)⟩, (Below.refl _ _).alloc (Nat.le_refl _) _, by simp⟩
theorem mqi_next {w wr w1 w2 w3 : World} {m : Nat} {es : Array MapEntry} {clock gk : Nat} {good : MapEntry → Prop} {e : MapEntry} {seen : Array Nat} {ps : List MapEntry}
    (hb0 : Below w.heap.size w wr) (hlt : w.heap.size < wr.heap.size) (hseen : seen.toList = ps.map (·.born)) (hps : ∀ e ∈ ps, e ∈ es.toList) (hnd : (ps.map (·.born)).Nodup) (hgk : (leftOf es seen).size ≤ gk) (hgood : ∀ e ∈ ps, good e)
    (he : e ∈ (leftOf es seen).toList) (hw1 : w1 = wr ∨ w1 = wr.drew) (hw2 : w2 = setBlock w1 w.heap.size (.mapIter (some m) clock (seen.push e.born) clock)) (hge : good e) (hb3 : Below w2.heap.size w2 w3) : MqI w m es clock good (gk - 1) w3 ∧ gk - 1 < gk := by
  obtain ⟨hin, hns⟩ := left_in he
  have hsz := left_step he
  have hb2 : Below w.heap.size wr w2 := by rw [hw2]; exact setBlock_below hw1 (Nat.le_refl _)
  have hs2 : w2.heap.size = wr.heap.size := by rw [hw2]; rcases hw1 with rfl | rfl <;> simp [setBlock]
  have hit2 : w2.heap[w.heap.size]? = some (.mapIter (some m) clock (seen.push e.born) clock) := by
    rw [hw2]
    rcases hw1 with rfl | rfl <;> simp [setBlock, hlt]
  refine ⟨⟨⟨seen.push e.born, clock, ps ++ [e], (hb3.block _ (by omega)).trans hit2, Nat.le_refl _, by simp [hseen], fun x hx => ?_, ?_, by omega, fun x hx => ?_⟩, hb0.trans (hb2.trans (hb3.mono (by omega))), ?_⟩, by omega⟩
  · exact (List.mem_append.1 hx).elim (hps x) (fun h => by simp at h; rw [h]; exact hin)
  · rw [List.map_append]
    refine List.nodup_append.2 ⟨hnd, by simp, fun a ha b hb => ?_⟩
    simp at hb
    subst hb
    rw [hseen] at hns
    exact fun e => hns (e ▸ ha)
  · exact (List.mem_append.1 hx).elim (hgood x) (fun h => by simp at h; rw [h]; exact hge)
  · have := hb3.size
    omega
/-- Two maps of reads are alike. -/
def likeR (l1 l2 : List (NameT × ChangeT)) : Bool := decide (l1.length = l2.length ∧ ∀ p ∈ l1, aGet l2 p.1 = some p.2)
theorem mq_ent {es : Array MapEntry} {l : List (NameT × ChangeT)} (hl : es.toList.map (fun e => (e.key, e.val)) = l.map (fun p => (nameV p.1, changeV p.2))) {e : MapEntry} (he : e ∈ es.toList) : ∃ n c, (n, c) ∈ l ∧ e.key = nameV n ∧ e.val = changeV c := by
  have h : (e.key, e.val) ∈ l.map (fun p => (nameV p.1, changeV p.2)) := by rw [← hl]; exact List.mem_map.2 ⟨e, he, rfl⟩
  obtain ⟨p, hp, h1⟩ := List.mem_map.1 h
  exact ⟨p.1, p.2, hp, (Prod.mk.inj h1).1.symm, (Prod.mk.inj h1).2.symm⟩
theorem mq_back {es : Array MapEntry} {l : List (NameT × ChangeT)} (hl : es.toList.map (fun e => (e.key, e.val)) = l.map (fun p => (nameV p.1, changeV p.2))) {p : NameT × ChangeT} (hp : p ∈ l) : ∃ e ∈ es.toList, e.key = nameV p.1 ∧ e.val = changeV p.2 := by
  have h : (nameV p.1, changeV p.2) ∈ es.toList.map (fun e => (e.key, e.val)) := by rw [hl]; exact List.mem_map.2 ⟨p, hp, rfl⟩
  obtain ⟨e, he, h1⟩ := List.mem_map.1 h
  exact ⟨e, he, (Prod.mk.inj h1).1, (Prod.mk.inj h1).2⟩
theorem changeV_inj {a b : ChangeT} (h : changeV a = changeV b) : a = b := by
  obtain ⟨⟨a1, a2, a3, a4, a5⟩, a6, a7⟩ := a
  obtain ⟨⟨b1, b2, b3, b4, b5⟩, b6, b7⟩ := b
  simp only [changeV, Value.agg.injEq, Array.mk.injEq, List.cons.injEq, Value.int.injEq, Value.string.injEq, Value.bool.injEq, true_and, and_true] at h
  obtain ⟨rfl, rfl, rfl, rfl, rfl, rfl, rfl⟩ := h
  rfl
theorem run_len_reads (w : World) (m : Nat) (es : Array MapEntry) (clock : Nat) (hb : w.heap[m]? = some (.map es clock)) : (Builtin.len_ #[80] 3 #[.map (some m)]).run Tryz.prog w = .ok (.int .i64 es.size) w :=
  run_len_map (P := Tryz.prog) (w := w) 80 3 m es clock (by kernel_rfl) hb
def goodE (l2 : List (NameT × ChangeT)) (e : MapEntry) : Prop := ∀ n c, e.key = nameV n → e.val = changeV c → aGet l2 n = some c
set_option maxRecDepth 100000 in
set_option maxHeartbeats 6400000 in
theorem mapsEqual_any (w : World) (m1 m2 : Nat) (l1 l2 : List (NameT × ChangeT)) (h1 : MapIs changeV w m1 l1) (h2 : MapIs changeV w m2 l2) :
    Calls Tryz.prog 60 #[.map (some m1), .map (some m2)] w fun r w' => r = .returned (.bool (likeR l1 l2)) ∧ Below w.heap.size w w' := by
  have H2 := Lib.hid h2
  obtain ⟨es, clock, hm, hl, hst⟩ := h1
  obtain ⟨es2, clock2, hm2, hl2, hst2⟩ := h2
  have hs1 : es.size = l1.length := by have := congrArg List.length hl; simpa using this
  have hs2 : es2.size = l2.length := by have := congrArg List.length hl2; simpa using this
  have hmlt : m1 < w.heap.size := lt_of_heap hm
  have Hl := Lib.hid hl; clear hl
  have Hst := Lib.hid hst; clear hst
  have Hm := Lib.hid hm
  have hst0 := Lib.hid (mqi_start (w := w) (m := m1) (es := es) (clock := clock) (good := goodE l2))
  clear hl2 hst2
  have k1 := run_len_reads w m1 es clock hm
  have k2 := run_len_reads w m2 es2 clock2 hm2
  by_cases hn : es.size = es2.size
  case neg =>
    have HF : Hid (likeR l1 l2 = false) := decide_eq_false (fun h => hn (by rw [hs1, hs2]; exact h.1))
    go_enter Tryz.func60, Tryz.ntmps60
    go_wp2_with fail
    refine bodyPost_ret (v := .bool false) (by simp [results, Tryz.results60, go_sem]) rfl ?_
    exact ⟨by rw [HF.out], Below.refl _ _⟩
  have HLe : Hid (l1.length = l2.length) := by show _ = _; rw [← hs1, ← hs2]; exact hn
  go_enter Tryz.func60, Tryz.ntmps60
  go_wp2_with (first
    | (at_range; refine wpList_range_map _ rfl _ 80 rfl 62 64 Tryz.underlying80 m1 es clock rfl Hm.out ?_)
    | go_in)
  have hbq : ((l1.length : Int) != (l2.length : Int)) = false := by rw [HLe.out]; simp
  simp only [Act.put, List.setIfInBounds_toArray, List.set_cons_succ, List.set_cons_zero, hbq]
  clear hbq
  go_loopg [4] es.size (fun gk rv wr => rv = .bool false ∧ Hid (MqI w m1 es clock (goodE l2) gk wr))
  case atStart => exact ⟨rfl, hst0.out⟩
  case round =>
    clear hst0 k1 k2
    obtain ⟨rfl, HI⟩ := hrel
    obtain ⟨seen, c0, ps, hit, hsc, hseen, hps, hnd, hgk, hgd⟩ := HI.out.ex
    have hb0 := HI.out.below
    have hm1 : wr.heap[m1]? = some (.map es clock) := (hb0.block m1 (lt_of_heap Hm.out)).trans Hm.out
    have Hit := Lib.hid hit; clear hit
    have Hm1 := Lib.hid hm1; clear hm1 hm hm2
    have Hps := Lib.hid hps; clear hps
    have Hnd := Lib.hid hnd; clear hnd
    have Hseen := Lib.hid hseen; clear hseen
    have Hb0 := Lib.hid hb0; clear hb0
    have Hgk := Lib.hid hgk; clear hgk
    have Hgd := Lib.hid hgd; clear hgd
    have Hne : Hid (m1 ≠ w.heap.size) := fun e => by have := lt_of_heap Hm.out; omega
    go_wp2_with (first
      | (at_next; refine wpList_next_map _ rfl _ rfl w.heap.size m1 clock c0 seen es clock rfl Hit.out Hm1.out Hne.out Hst.out.2 hsc Hst.out.1 ?_ ?_)
      | go_in)
    · intro H0
      have hperm := left_done Hst.out (by rw [H0.out]; rfl) Hseen.out Hps.out Hnd.out
      have HF : Hid (likeR l1 l2 = true) := decide_eq_true ⟨HLe.out, fun p hp => by
        obtain ⟨e, he, h3, h4⟩ := mq_back Hl.out hp
        exact Hgd.out e (hperm.mem_iff.2 he) p.1 p.2 h3 h4⟩
      clear hperm
      go_wp2
      refine bodyPost_ret (v := .bool true) (by simp [results, Tryz.results60, go_sem]) rfl ?_
      exact ⟨by rw [HF.out], Hb0.out⟩
    · intro e w2 HN
      obtain ⟨hmem, hw12, hen⟩ := HN.out
      obtain ⟨w1, hw1, hw2⟩ : ∃ w1, (w1 = wr ∨ w1 = wr.drew) ∧ w2 = setBlock w1 w.heap.size (.mapIter (some m1) clock (seen.push e.born) clock) := hw12.elim (fun h => ⟨_, .inl rfl, h⟩) (fun h => ⟨_, .inr rfl, h⟩)
      clear hw12
      replace hmem : e ∈ (leftOf es seen).toList := by simpa using hmem
      obtain ⟨n, c, hnc, hek, hev⟩ := mq_ent Hl.out (left_in hmem).1
      have hb2 : Below w.heap.size wr w2 := by rw [hw2]; exact setBlock_below hw1 (Nat.le_refl _)
      have HGe : Hid (aGet l2 n = some c → goodE l2 e) := fun h n' c' h1 h2 => by
        rw [hek] at h1
        rw [hev] at h2
        rw [← nameV_inj h1, ← changeV_inj h2]
        exact h
      have HBad : Hid (¬ aGet l2 n = some c → likeR l1 l2 = false) := fun h => decide_eq_false (fun h2 => h (h2.2 _ hnc))
      have HNx : Hid (∀ w3, goodE l2 e → Below w2.heap.size w2 w3 → MqI w m1 es clock (goodE l2) (gk - 1) w3 ∧ gk - 1 < gk) := fun w3 hg hb => mqi_next Hb0.out HI.out.lt Hseen.out Hps.out Hnd.out Hgk.out Hgd.out hmem hw1 hw2 hg hb
      have HB2 : Hid (Below w.heap.size w w2) := Hb0.out.trans hb2
      have hlk : ∀ o1 o2, (Instr.lookup 80 (.map (some m2)) (nameV n) true).run Tryz.prog ((w2.alloc o1).alloc o2) = .ok (.tuple #[((aGet l2 n).map changeV).getD (.agg #[.int .i64 0, .string ⟨#[]⟩, .int .i64 0, .int .i64 0, .string ⟨#[]⟩, .string ⟨#[]⟩, .bool false]), .bool (aGet l2 n).isSome]) ((w2.alloc o1).alloc o2) := fun o1 o2 =>
        run_lookup_name changeV ((w2.alloc o1).alloc o2) 80 64 Tryz.underlying80 (.agg #[.int .i64 0, .string ⟨#[]⟩, .int .i64 0, .int .i64 0, .string ⟨#[]⟩, .string ⟨#[]⟩, .bool false]) (by kernel_rfl) m2 l2 (H2.out.laterB (HB2.out.trans (((Below.refl _ _).alloc HB2.out.size _).alloc (by have := HB2.out.size; simp; omega) _))) n
      rw [hek, hev] at hen ⊢
      clear hmem hw1 hw2 HN hb2 hek hev hnc
      obtain ⟨n1, n2, n3, n4, n5⟩ := n
      obtain ⟨⟨c1, c2, c3, c4, c5⟩, c6, c7⟩ := c
      unfold nameV changeV at hen ⊢
      unfold nameV at hlk
      dsimp only at hen hlk ⊢
      obtain ⟨og, hog⟩ : ∃ og, aGet l2 ⟨n1, n2, n3, n4, n5⟩ = og := ⟨_, rfl⟩
      rw [hog] at hlk HGe HBad
      clear hog
      rcases og with _ | ⟨⟨d1, d2, d3, d4, d5⟩, d6, d7⟩
      · have HF := Lib.hid (HBad.out (fun h => nomatch h))
        dsimp only [Option.map_none, Option.getD_none, Option.isSome_none] at hlk
        go_wp2
        refine bodyPost_ret (v := .bool false) (by simp [results, Tryz.results60, go_sem]) rfl ?_
        exact ⟨by rw [HF.out], HB2.out.trans ((((Below.refl _ _).alloc (Nat.le_refl _) _).alloc (by simp) _ |>.alloc (by simp; omega) _).mono HB2.out.size)⟩
      · dsimp only [Option.map_some, Option.getD_some, Option.isSome_some, changeV] at hlk
        by_cases he : (⟨⟨c1, c2, c3, c4, c5⟩, c6, c7⟩ : ChangeT) = ⟨⟨d1, d2, d3, d4, d5⟩, d6, d7⟩
        · have hq : neqCB ⟨⟨c1, c2, c3, c4, c5⟩, c6, c7⟩ ⟨⟨d1, d2, d3, d4, d5⟩, d6, d7⟩ = false := by unfold neqCB; simp [he]
          have HG := Lib.hid (HGe.out (by rw [he]))
          clear he
          go_wp2
          go_roundg (gk - 1)
          case measure => exact (HNx.out w2 HG.out (Below.refl _ _)).2
          case rel => exact ⟨rfl, (HNx.out _ HG.out (((Below.refl _ _).alloc (Nat.le_refl _) _).alloc (by simp) _ |>.alloc (by simp; omega) _)).1⟩
        · have hq : neqCB ⟨⟨c1, c2, c3, c4, c5⟩, c6, c7⟩ ⟨⟨d1, d2, d3, d4, d5⟩, d6, d7⟩ = true := by unfold neqCB; simp [he]
          have HF := Lib.hid (HBad.out (fun h => he (Option.some.inj h).symm))
          clear he
          go_wp2
          refine bodyPost_ret (v := .bool false) (by simp [results, Tryz.results60, go_sem]) rfl ?_
          exact ⟨by rw [HF.out], HB2.out.trans ((((Below.refl _ _).alloc (Nat.le_refl _) _).alloc (by simp) _ |>.alloc (by simp; omega) _).mono HB2.out.size)⟩
end Go.Proofs.YthghfhnicdoebaaGreatDoor

namespace Go.Proofs.YthghfhnicdoebaaGreatDoor
open Go.RowKit

def prE (xs : List NameT) : List (NameT × ByteArray) := xs.map fun n => (n, ⟨#[]⟩)
theorem prE_get (xs : List NameT) (n : NameT) : getL cmpN (prE xs) n = if n ∈ xs then some ⟨#[]⟩ else none := by
  induction xs with
  | nil => rfl
  | cons x xs ih =>
    by_cases h : n = x
    · subst h
      rw [if_pos List.mem_cons_self]
      exact getH (n, ⟨#[]⟩) _
    · rw [show prE (x :: xs) = (x, ⟨#[]⟩) :: prE xs from rfl, getC h, ih]
      simp [h]
theorem prE_sort {xs : List NameT} (h : xs.Pairwise fun a b => cmpN a b < 0) : SortL cmpN (prE xs) := List.pairwise_map.2 h
theorem sorted_ext {xs ys : List NameT} (hx : xs.Pairwise fun a b => cmpN a b < 0) (hy : ys.Pairwise fun a b => cmpN a b < 0) (h : ∀ n, n ∈ xs ↔ n ∈ ys) : xs = ys := by
  have h1 : prE xs = prE ys := sort_ext (prE_sort hx) (prE_sort hy) fun n => by
    rw [prE_get, prE_get]
    by_cases hn : n ∈ xs
    · rw [if_pos hn, if_pos ((h n).1 hn)]
    · rw [if_neg hn, if_neg fun e => hn ((h n).2 e)]
  have hid : ∀ zs : List NameT, (prE zs).map Prod.fst = zs := fun zs => by
    unfold prE
    rw [List.map_map]
    exact List.map_id zs
  rw [← hid xs, ← hid ys, h1]
theorem rd_keys (l : List (NameT × ByteArray)) (a : List NameT) (n : NameT) : n ∈ (rd l a).map Prod.fst ↔ n ∈ a := by
  constructor
  · intro h
    obtain ⟨p, hp, rfl⟩ := List.mem_map.1 h
    exact (rd_mem hp).1
  · intro h
    have h1 := (rd_get l a).2 n
    rw [if_pos h] at h1
    exact List.mem_map.2 ⟨_, mem_aGet h1, rfl⟩
theorem likeR_reads (l : List (NameT × ByteArray)) (a b : List NameT) : likeR (rd l a) (rd l b) = decide ((sortR a).map (rdc l) = (sortR b).map (rdc l)) := by
  unfold likeR
  refine decide_eq_decide.2 ⟨fun ⟨hl, h⟩ => ?_, fun h => ?_⟩
  · have hab : ∀ n, n ∈ a → n ∈ b := fun n hn => by
      obtain ⟨p, hp, rfl⟩ := List.mem_map.1 ((rd_keys l a n).2 hn)
      have h1 := h p hp
      rw [(rd_get l b).2] at h1
      by_cases hb : p.1 ∈ b
      · exact hb
      · rw [if_neg hb] at h1; cases h1
    have hba : ∀ n, n ∈ b → n ∈ a := fun n hn => by
      refine Classical.byContradiction fun hna => ?_
      have hnd : (n :: (rd l a).map Prod.fst).Nodup := List.nodup_cons.2 ⟨fun e => hna ((rd_keys l a n).1 e), (rd_get l a).1⟩
      have h1 := sub_len (m := (rd l b).map Prod.fst) hnd fun m hm => by
        rcases List.mem_cons.1 hm with rfl | hm
        · exact (rd_keys l b _).2 hn
        · exact (rd_keys l b _).2 (hab _ ((rd_keys l a _).1 hm))
      simp at h1
      omega
    rw [sorted_ext (sortR_sorted a) (sortR_sorted b) fun n => by rw [mem_sortR, mem_sortR]; exact ⟨hab n, hba n⟩]
  · have h1 : sortR a = sortR b := by
      have hid : ∀ zs : List NameT, (zs.map (rdc l)).map (·.name) = zs := fun zs => by
        rw [List.map_map]
        exact List.map_id zs
      rw [← hid (sortR a), ← hid (sortR b), h]
    have hm : ∀ n, n ∈ a ↔ n ∈ b := fun n => by rw [← mem_sortR a, ← mem_sortR b, h1]
    refine ⟨?_, fun p hp => ?_⟩
    · have h2 := sub_len (m := (rd l b).map Prod.fst) (rd_get l a).1 fun n hn => (rd_keys l b n).2 ((hm n).1 ((rd_keys l a n).1 hn))
      have h3 := sub_len (m := (rd l a).map Prod.fst) (rd_get l b).1 fun n hn => (rd_keys l a n).2 ((hm n).2 ((rd_keys l b n).1 hn))
      simp at h2 h3
      omega
    · obtain ⟨h2, h3⟩ := rd_mem hp
      rw [(rd_get l b).2, if_pos ((hm _).1 h2), h3]
end Go.Proofs.YthghfhnicdoebaaGreatDoor

namespace Go.Proofs.YthghfhnicdoebaaGreatDoor
open Go.RowKit
attribute [local go_sem ↓] Go.wp_at_zero Go.wp_at_succ

set_option linter.unusedSimpArgs false in
set_option maxRecDepth 100000 in
set_option maxHeartbeats 6400000 in
theorem vEqual_any (h1 h2 : VH) (V1 V2 : AV) (w : World) (B : Nat) (l : List (NameT × ByteArray)) (T U : Tree) (hv1 : ViewAt w h1 V1) (hv2 : ViewAt w h2 V2) (t1 : StL B w h1.sp l T) (t2 : StL B w h2.sp l U) (hB : B ≤ w.heap.size) :
    Calls Tryz.prog 23 #[.pointer (some ⟨h1.b, 0, none⟩), .pointer (some ⟨h2.b, 0, none⟩)] w fun r w' => r = .returned (.bool (likeR V1.reads V2.reads && decide (V1.calls = V2.calls))) ∧ Below w.heap.size w w' := by
  have r1 : RowK kD w h1.cv V1.calls := OwnK.row (K := kD) (base := 0) hv1.calls
  have r2 : RowK kD w h2.cv V2.calls := OwnK.row (K := kD) (base := 0) hv2.calls
  have HE : Hid (∀ W, Below w.heap.size w W → Calls Tryz.prog 59 #[.pointer (some ⟨h1.sp, 0, none⟩), .pointer (some ⟨h2.sp, 0, none⟩)] W fun r w' => r = .returned (.bool true) ∧ Below W.heap.size W w') := fun W hW => stateEqual_like (T := T) (U := U) ⟨t1.i.later (hW.mono hB), t1.e⟩ ⟨t2.i.later (hW.mono hB), t2.e⟩ (Nat.le_trans hB hW.size)
  have HM : Hid (∀ W, Below w.heap.size w W → Calls Tryz.prog 60 #[.map (some h1.rm), .map (some h2.rm)] W fun r w' => r = .returned (.bool (likeR V1.reads V2.reads)) ∧ Below W.heap.size W w') := fun W hW => mapsEqual_any W h1.rm h2.rm _ _ (hv1.reads.laterB hW) (hv2.reads.laterB hW)
  have HQ : Hid (∀ W, Below w.heap.size w W → Calls Tryz.prog 61 #[h1.cv, h2.cv] W fun r w' => r = .returned (.bool (decide (V1.calls = V2.calls))) ∧ Below W.heap.size W w') := fun W hW => slEq_any W _ _ _ _ (OwnC.row (base := 0) (OwnK.later (K := kD) hv1.calls hW)) (OwnC.row (base := 0) (OwnK.later (K := kD) hv2.calls hW)) hv1.len
  obtain ⟨qa, ca, e1, -, -⟩ := r1.form
  obtain ⟨qb, cb, e2, -, -⟩ := r2.form
  have HS : Hid (∀ W, Below w.heap.size w W → W.cell? ⟨h1.b, 0, none⟩ = some (.pointer (some ⟨h1.sp, 0, none⟩)) ∧ W.cell? ⟨h1.b, 1, none⟩ = some (.map (some h1.rm)) ∧ W.cell? ⟨h1.b, 2, none⟩ = some h1.cv ∧ W.cell? ⟨h2.b, 0, none⟩ = some (.pointer (some ⟨h2.sp, 0, none⟩)) ∧ W.cell? ⟨h2.b, 1, none⟩ = some (.map (some h2.rm)) ∧ W.cell? ⟨h2.b, 2, none⟩ = some h2.cv) := fun W hW => by
    have g1 := (hW.block _ (lt_of_heap hv1.heap)).trans hv1.heap
    have g2 := (hW.block _ (lt_of_heap hv2.heap)).trans hv2.heap
    exact ⟨cell_of_heap g1 0, cell_of_heap g1 1, cell_of_heap g1 2, cell_of_heap g2 0, cell_of_heap g2 1, cell_of_heap g2 2⟩
  rw [e1, e2] at HS HQ
  clear hv1 hv2 t1 t2 hB r1 r2 e1 e2
  obtain ⟨b1, rm, lm, cv, sp, bs⟩ := h1
  obtain ⟨b2, rn, ln, cw, sq, bt⟩ := h2
  dsimp only at HE HM HQ HS ⊢
  generalize V1.calls.length = na at *
  generalize V2.calls.length = nb at *
  generalize decide (V1.calls = V2.calls) = eqc at *
  generalize likeR V1.reads V2.reads = eqr at *
  have HD0 : Hid (Below w.heap.size w w.drew) := (Below.refl _ _).drew
  go_enter Tryz.func23, Tryz.ntmps23
  cases eqr
  · go_upto_region 3 with fail
    refine wp_region_held_drew (S := (fun W => W.cell? ⟨b1, 0, none⟩ = some (.pointer (some ⟨sp, 0, none⟩)) ∧ W.cell? ⟨b1, 1, none⟩ = some (.map (some rm)) ∧ W.cell? ⟨b1, 2, none⟩ = some (.slice qa na ca) ∧ W.cell? ⟨b2, 0, none⟩ = some (.pointer (some ⟨sq, 0, none⟩)) ∧ W.cell? ⟨b2, 1, none⟩ = some (.map (some rn)) ∧ W.cell? ⟨b2, 2, none⟩ = some (.slice qb nb cb))) (by kernel_rfl) (HS.out _ HD0.out) (fun hHeld0 => ?_)
    refine wpAnyH_take (i := 0) (v := ?_) rfl (by kernel_rfl) (by kernel_rfl) (by kernel_rfl) (fun _ _ _ h => h) (Or.inl ⟨by rfl, ?_⟩) (by assumption) ?_
    rotate_left
    · (intro wx hSw; (try dsimp only at hSw); go_simp <;> with_reducible rfl)
    try simp only [Act.put, List.setIfInBounds_toArray, List.set_cons_zero, List.set_cons_succ, List.getElem_toArray, List.getElem_cons_zero, List.getElem_cons_succ]
    refine wpAnyH_take (i := 1) (v := ?_) rfl (by kernel_rfl) (by kernel_rfl) (by kernel_rfl) (fun _ _ _ h => h) (Or.inl ⟨by rfl, ?_⟩) (by assumption) ?_
    rotate_left
    · (intro wx hSw; (try dsimp only at hSw); go_simp <;> with_reducible rfl)
    try simp only [Act.put, List.setIfInBounds_toArray, List.set_cons_zero, List.set_cons_succ, List.getElem_toArray, List.getElem_cons_zero, List.getElem_cons_succ]
    refine wpAnyH_take (i := 2) (v := ?_) rfl (by kernel_rfl) (by kernel_rfl) (by kernel_rfl) (fun _ _ _ h => h) (Or.inl ⟨by rfl, ?_⟩) (by assumption) ?_
    rotate_left
    · (intro wx hSw; (try dsimp only at hSw); go_simp <;> with_reducible rfl)
    try simp only [Act.put, List.setIfInBounds_toArray, List.set_cons_zero, List.set_cons_succ, List.getElem_toArray, List.getElem_cons_zero, List.getElem_cons_succ]
    refine wpAnyH_take (i := 3) (v := ?_) rfl (by kernel_rfl) (by kernel_rfl) (by kernel_rfl) (fun _ _ _ h => h) (Or.inl ⟨by rfl, ?_⟩) (by assumption) ?_
    rotate_left
    · (intro wx hSw; (try dsimp only at hSw); go_simp <;> with_reducible rfl)
    try simp only [Act.put, List.setIfInBounds_toArray, List.set_cons_zero, List.set_cons_succ, List.getElem_toArray, List.getElem_cons_zero, List.getElem_cons_succ]
    refine wpAnyH_take (i := 4) (v := ?_) rfl (by kernel_rfl) (by kernel_rfl) (by kernel_rfl) (fun _ _ _ h => h) (Or.inl ⟨by rfl, ?_⟩) (by assumption) ?_
    rotate_left
    · (intro wx hSw; (try dsimp only at hSw); go_simp <;> with_reducible rfl)
    try simp only [Act.put, List.setIfInBounds_toArray, List.set_cons_zero, List.set_cons_succ, List.getElem_toArray, List.getElem_cons_zero, List.getElem_cons_succ]
    refine wpAnyH_take (i := 5) (v := ?_) rfl (by kernel_rfl) (by kernel_rfl) (by kernel_rfl) (fun _ _ _ h => h) (Or.inl ⟨by rfl, ?_⟩) (by assumption) ?_
    rotate_left
    · (intro wx hSw; (try dsimp only at hSw); go_simp <;> with_reducible rfl)
    try simp only [Act.put, List.setIfInBounds_toArray, List.set_cons_zero, List.set_cons_succ, List.getElem_toArray, List.getElem_cons_zero, List.getElem_cons_succ]
    refine wpAnyH_take (i := 6) (v := ?_) rfl (by kernel_rfl) (by kernel_rfl) (by kernel_rfl) (fun _ _ _ h => h) (Or.inl ⟨by rfl, ?_⟩) (by assumption) ?_
    rotate_left
    · (intro wx hSw; (try dsimp only at hSw); go_simp <;> with_reducible rfl)
    try simp only [Act.put, List.setIfInBounds_toArray, List.set_cons_zero, List.set_cons_succ, List.getElem_toArray, List.getElem_cons_zero, List.getElem_cons_succ]
    refine wpAnyH_take (i := 7) (v := ?_) rfl (by kernel_rfl) (by kernel_rfl) (by kernel_rfl) (fun _ _ _ h => h) (Or.inl ⟨by rfl, ?_⟩) (by assumption) ?_
    rotate_left
    · (intro wx hSw; (try dsimp only at hSw); go_simp <;> with_reducible rfl)
    try simp only [Act.put, List.setIfInBounds_toArray, List.set_cons_zero, List.set_cons_succ, List.getElem_toArray, List.getElem_cons_zero, List.getElem_cons_succ]
    refine wpAnyH_ready (rs := [8]) (by kernel_rfl) (by simp) ?_
    refine AllReadyH.cons rfl (fun K hK => ?_) AllReadyH.nil
    go_simp
    go_at_call 59
    (with_reducible refine (HE.out _ HD0.out).mono ?_)
    rintro r w1 ⟨rfl, hb⟩
    have B1 : Hid (Below w.heap.size w w1) := HD0.out.trans (hb.mono HD0.out.size)
    clear hb
    go_wp2_with fail
    refine hK.out _ _ (HS.out _ B1.out) (fun hHeld1 => ?_)
    clear hK K hHeld0
    try simp only [Act.put, List.setIfInBounds_toArray, List.set_cons_zero, List.set_cons_succ, List.getElem_toArray, List.getElem_cons_zero, List.getElem_cons_succ]
    refine wpAnyH_take (i := 9) (v := ?_) rfl (by kernel_rfl) (by kernel_rfl) (by kernel_rfl) (fun _ _ _ h => h) (Or.inl ⟨by rfl, ?_⟩) (by assumption) ?_
    rotate_left
    · (intro wx hSw; (try dsimp only at hSw); go_simp <;> with_reducible rfl)
    try simp only [Act.put, List.setIfInBounds_toArray, List.set_cons_zero, List.set_cons_succ, List.getElem_toArray, List.getElem_cons_zero, List.getElem_cons_succ]
    refine wpAnyH_take (i := 10) (v := ?_) rfl (by kernel_rfl) (by kernel_rfl) (by kernel_rfl) (fun _ _ _ h => h) (Or.inl ⟨by rfl, ?_⟩) (by assumption) ?_
    rotate_left
    · (intro wx hSw; (try dsimp only at hSw); go_simp <;> with_reducible rfl)
    try simp only [Act.put, List.setIfInBounds_toArray, List.set_cons_zero, List.set_cons_succ, List.getElem_toArray, List.getElem_cons_zero, List.getElem_cons_succ]
    refine wpAnyH_take (i := 11) (v := ?_) rfl (by kernel_rfl) (by kernel_rfl) (by kernel_rfl) (fun _ _ _ h => h) (Or.inl ⟨by rfl, ?_⟩) (by assumption) ?_
    rotate_left
    · (intro wx hSw; (try dsimp only at hSw); go_simp <;> with_reducible rfl)
    try simp only [Act.put, List.setIfInBounds_toArray, List.set_cons_zero, List.set_cons_succ, List.getElem_toArray, List.getElem_cons_zero, List.getElem_cons_succ]
    refine wpAnyH_take (i := 12) (v := ?_) rfl (by kernel_rfl) (by kernel_rfl) (by kernel_rfl) (fun _ _ _ h => h) (Or.inl ⟨by rfl, ?_⟩) (by assumption) ?_
    rotate_left
    · (intro wx hSw; (try dsimp only at hSw); go_simp <;> with_reducible rfl)
    try simp only [Act.put, List.setIfInBounds_toArray, List.set_cons_zero, List.set_cons_succ, List.getElem_toArray, List.getElem_cons_zero, List.getElem_cons_succ]
    refine wpAnyH_take (i := 13) (v := ?_) rfl (by kernel_rfl) (by kernel_rfl) (by kernel_rfl) (fun _ _ _ h => h) (Or.inl ⟨by rfl, ?_⟩) (by assumption) ?_
    rotate_left
    · (intro wx hSw; (try dsimp only at hSw); go_simp <;> with_reducible rfl)
    try simp only [Act.put, List.setIfInBounds_toArray, List.set_cons_zero, List.set_cons_succ, List.getElem_toArray, List.getElem_cons_zero, List.getElem_cons_succ]
    refine wpAnyH_take (i := 14) (v := ?_) rfl (by kernel_rfl) (by kernel_rfl) (by kernel_rfl) (fun _ _ _ h => h) (Or.inl ⟨by rfl, ?_⟩) (by assumption) ?_
    rotate_left
    · (intro wx hSw; (try dsimp only at hSw); go_simp <;> with_reducible rfl)
    try simp only [Act.put, List.setIfInBounds_toArray, List.set_cons_zero, List.set_cons_succ, List.getElem_toArray, List.getElem_cons_zero, List.getElem_cons_succ]
    refine wpAnyH_take (i := 15) (v := ?_) rfl (by kernel_rfl) (by kernel_rfl) (by kernel_rfl) (fun _ _ _ h => h) (Or.inl ⟨by rfl, ?_⟩) (by assumption) ?_
    rotate_left
    · (intro wx hSw; (try dsimp only at hSw); go_simp <;> with_reducible rfl)
    try simp only [Act.put, List.setIfInBounds_toArray, List.set_cons_zero, List.set_cons_succ, List.getElem_toArray, List.getElem_cons_zero, List.getElem_cons_succ]
    refine wpAnyH_take (i := 16) (v := ?_) rfl (by kernel_rfl) (by kernel_rfl) (by kernel_rfl) (fun _ _ _ h => h) (Or.inl ⟨by rfl, ?_⟩) (by assumption) ?_
    rotate_left
    · (intro wx hSw; (try dsimp only at hSw); go_simp <;> with_reducible rfl)
    try simp only [Act.put, List.setIfInBounds_toArray, List.set_cons_zero, List.set_cons_succ, List.getElem_toArray, List.getElem_cons_zero, List.getElem_cons_succ]
    refine wpAnyH_take (i := 17) (v := ?_) rfl (by kernel_rfl) (by kernel_rfl) (by kernel_rfl) (fun _ _ _ h => h) (Or.inl ⟨by rfl, ?_⟩) (by assumption) ?_
    rotate_left
    · (intro wx hSw; (try dsimp only at hSw); go_simp <;> with_reducible rfl)
    try simp only [Act.put, List.setIfInBounds_toArray, List.set_cons_zero, List.set_cons_succ, List.getElem_toArray, List.getElem_cons_zero, List.getElem_cons_succ]
    refine wpAnyH_ready (rs := [18]) (by kernel_rfl) (by simp) ?_
    refine AllReadyH.cons rfl (fun K hK => ?_) AllReadyH.nil
    go_simp
    go_at_call 60
    (with_reducible refine (HM.out _ B1.out).mono ?_)
    rintro r w2 ⟨rfl, hb⟩
    have B2 : Hid (Below w.heap.size w w2) := B1.out.trans (hb.mono B1.out.size)
    clear hb
    go_wp2_with fail
    refine hK.out _ _ (HS.out _ B2.out) (fun hHeld2 => ?_)
    clear hK K hHeld1
    try simp only [Act.put, List.setIfInBounds_toArray, List.set_cons_zero, List.set_cons_succ, List.getElem_toArray, List.getElem_cons_zero, List.getElem_cons_succ]
    refine wpAnyH_take (i := 19) (v := ?_) rfl (by kernel_rfl) (by kernel_rfl) (by kernel_rfl) (fun _ _ _ h => h) (Or.inl ⟨by rfl, ?_⟩) (by assumption) ?_
    rotate_left
    · (intro wx hSw; (try dsimp only at hSw); go_simp <;> with_reducible rfl)
    try simp only [Act.put, List.setIfInBounds_toArray, List.set_cons_zero, List.set_cons_succ, List.getElem_toArray, List.getElem_cons_zero, List.getElem_cons_succ]
    refine wpAnyH_take (i := 20) (v := ?_) rfl (by kernel_rfl) (by kernel_rfl) (by kernel_rfl) (fun _ _ _ h => h) (Or.inl ⟨by rfl, ?_⟩) (by assumption) ?_
    rotate_left
    · (intro wx hSw; (try dsimp only at hSw); go_simp <;> with_reducible rfl)
    try simp only [Act.put, List.setIfInBounds_toArray, List.set_cons_zero, List.set_cons_succ, List.getElem_toArray, List.getElem_cons_zero, List.getElem_cons_succ]
    refine wpAnyH_take (i := 21) (v := undef) rfl (by kernel_rfl) (by kernel_rfl) (by kernel_rfl) (fun _ _ _ h => h) (Or.inr ⟨by simp [Region.wanted, yielded], rfl⟩) (by assumption) ?_
    try simp only [Act.put, List.setIfInBounds_toArray, List.set_cons_zero, List.set_cons_succ, List.getElem_toArray, List.getElem_cons_zero, List.getElem_cons_succ]
    refine wpAnyH_take (i := 22) (v := undef) rfl (by kernel_rfl) (by kernel_rfl) (by kernel_rfl) (fun _ _ _ h => h) (Or.inr ⟨by simp [Region.wanted, yielded], rfl⟩) (by assumption) ?_
    try simp only [Act.put, List.setIfInBounds_toArray, List.set_cons_zero, List.set_cons_succ, List.getElem_toArray, List.getElem_cons_zero, List.getElem_cons_succ]
    refine wpAnyH_take (i := 23) (v := undef) rfl (by kernel_rfl) (by kernel_rfl) (by kernel_rfl) (fun _ _ _ h => h) (Or.inr ⟨by simp [Region.wanted, yielded], rfl⟩) (by assumption) ?_
    try simp only [Act.put, List.setIfInBounds_toArray, List.set_cons_zero, List.set_cons_succ, List.getElem_toArray, List.getElem_cons_zero, List.getElem_cons_succ]
    refine wpAnyH_take (i := 24) (v := undef) rfl (by kernel_rfl) (by kernel_rfl) (by kernel_rfl) (fun _ _ _ h => h) (Or.inr ⟨by simp [Region.wanted, yielded], rfl⟩) (by assumption) ?_
    try simp only [Act.put, List.setIfInBounds_toArray, List.set_cons_zero, List.set_cons_succ, List.getElem_toArray, List.getElem_cons_zero, List.getElem_cons_succ]
    refine wpAnyH_take (i := 25) (v := undef) rfl (by kernel_rfl) (by kernel_rfl) (by kernel_rfl) (fun _ _ _ h => h) (Or.inr ⟨by simp [Region.wanted, yielded], rfl⟩) (by assumption) ?_
    try simp only [Act.put, List.setIfInBounds_toArray, List.set_cons_zero, List.set_cons_succ, List.getElem_toArray, List.getElem_cons_zero, List.getElem_cons_succ]
    refine wpAnyH_take (i := 26) (v := undef) rfl (by kernel_rfl) (by kernel_rfl) (by kernel_rfl) (fun _ _ _ h => h) (Or.inr ⟨by simp [Region.wanted, yielded], rfl⟩) (by assumption) ?_
    try simp only [Act.put, List.setIfInBounds_toArray, List.set_cons_zero, List.set_cons_succ, List.getElem_toArray, List.getElem_cons_zero, List.getElem_cons_succ]
    refine wpAnyH_take (i := 27) (v := undef) rfl (by kernel_rfl) (by kernel_rfl) (by kernel_rfl) (fun _ _ _ h => h) (Or.inr ⟨by simp [Region.wanted, yielded], rfl⟩) (by assumption) ?_
    try simp only [Act.put, List.setIfInBounds_toArray, List.set_cons_zero, List.set_cons_succ, List.getElem_toArray, List.getElem_cons_zero, List.getElem_cons_succ]
    refine wpAnyH_take (i := 28) (v := undef) rfl (by kernel_rfl) (by kernel_rfl) (by kernel_rfl) (fun _ _ _ h => h) (Or.inr ⟨by simp [Region.wanted, yielded], rfl⟩) (by assumption) ?_
    try simp only [Act.put, List.setIfInBounds_toArray, List.set_cons_zero, List.set_cons_succ, List.getElem_toArray, List.getElem_cons_zero, List.getElem_cons_succ]
    refine wpAnyH_take (i := 29) (v := undef) rfl (by kernel_rfl) (by kernel_rfl) (by kernel_rfl) (fun _ _ _ h => h) (Or.inr ⟨by simp [Region.wanted, yielded], rfl⟩) (by assumption) ?_
    try simp only [Act.put, List.setIfInBounds_toArray, List.set_cons_zero, List.set_cons_succ, List.getElem_toArray, List.getElem_cons_zero, List.getElem_cons_succ]
    refine wpAnyH_take (i := 30) (v := ?_) rfl (by kernel_rfl) (by kernel_rfl) (by kernel_rfl) (fun _ _ _ h => h) (Or.inl ⟨by rfl, ?_⟩) (by assumption) ?_
    rotate_left
    · (intro wx hSw; (try dsimp only at hSw); go_simp <;> with_reducible rfl)
    try simp only [Act.put, List.setIfInBounds_toArray, List.set_cons_zero, List.set_cons_succ, List.getElem_toArray, List.getElem_cons_zero, List.getElem_cons_succ]
    refine wpAnyH_take (i := 31) (v := ?_) rfl (by kernel_rfl) (by kernel_rfl) (by kernel_rfl) (fun _ _ _ h => h) (Or.inl ⟨by rfl, ?_⟩) (by assumption) ?_
    rotate_left
    · (intro wx hSw; (try dsimp only at hSw); go_simp <;> with_reducible rfl)
    try simp only [Act.put, List.setIfInBounds_toArray, List.set_cons_zero, List.set_cons_succ, List.getElem_toArray, List.getElem_cons_zero, List.getElem_cons_succ]
    refine wpAnyH_done (by kernel_rfl) ?_ _
    go_wp2
    refine bodyPost_ret (v := .bool false) (by simp [results, Tryz.results23, go_sem]) rfl ?_
    exact ⟨rfl, B2.out⟩
  · go_upto_region 3 with fail
    go_region_held3 (fun W => W.cell? ⟨b1, 0, none⟩ = some (.pointer (some ⟨sp, 0, none⟩)) ∧ W.cell? ⟨b1, 1, none⟩ = some (.map (some rm)) ∧ W.cell? ⟨b1, 2, none⟩ = some (.slice qa na ca) ∧ W.cell? ⟨b2, 0, none⟩ = some (.pointer (some ⟨sq, 0, none⟩)) ∧ W.cell? ⟨b2, 1, none⟩ = some (.map (some rn)) ∧ W.cell? ⟨b2, 2, none⟩ = some (.slice qb nb cb)) (first | with_reducible exact HS.out _ HD0.out | with_reducible exact HS.out _ B1.out | with_reducible exact HS.out _ B2.out | with_reducible exact HS.out _ B3.out | go_keep)
      (first
        | (go_at_call 59; (with_reducible refine (HE.out _ HD0.out).mono ?_); rintro r w1 ⟨rfl, hb⟩; have B1 : Hid (Below w.heap.size w w1) := HD0.out.trans (hb.mono HD0.out.size); clear hb)
        | (go_at_call 60; (with_reducible refine (HM.out _ B1.out).mono ?_); rintro r w2 ⟨rfl, hb⟩; have B2 : Hid (Below w.heap.size w w2) := B1.out.trans (hb.mono B1.out.size); clear hb)
        | (go_at_call 61; (with_reducible refine (HQ.out _ B2.out).mono ?_); rintro r w3 ⟨rfl, hb⟩; have B3 : Hid (Below w.heap.size w w3) := B2.out.trans (hb.mono B2.out.size); clear hb)
        | fail)
    all_goals
      go_wp2
      refine bodyPost_ret (v := .bool eqc) (by simp [results, Tryz.results23, go_sem]) rfl ?_
      exact ⟨by simp, B3.out⟩
end Go.Proofs.YthghfhnicdoebaaGreatDoor
