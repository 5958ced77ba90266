/- Law 24, plain: what Reads and Writes of a view list is what the reference lists. Law 24: same; law 4: Of. (printed by wip/gen_is.py) Law 24: Is. (printed by wip/gen_is.py) -/
import Derived.Test.YthghfhnicdoebaaGreatDoorRfN
import Derived.Test.YthghfhnicdoebaaGreatDoorAftB
import Derived.Test.YthghfhnicdoebaaGreatDoorPvA
import Derived.Test.YthghfhnicdoebaaGreatDoorRdsE
import Derived.Test.YthghfhnicdoebaaGreatDoorQmW
import Derived.BigQuiet
import Derived.Deep.LoopGhost
import Derived.Deep.RegionHeld3
namespace Go.Proofs.YthghfhnicdoebaaGreatDoor
open Go.RowKit

/-- Sorted lists of the same changes, one for each name, are equal. -/
theorem sorted_eqV {a b l : List ChangeT} (ha : a.Perm l) (hb : b.Perm l) (sa : SortedC a) (sb : SortedC b) (hl : (l.map (·.name)).Nodup) : a = b := by
  have hinj : ∀ x ∈ l, ∀ y ∈ l, x.name = y.name → x = y := by
    clear ha hb sa sb
    induction l with
    | nil => intro x hx; cases hx
    | cons c l ih =>
      simp only [List.map_cons, List.nodup_cons] at hl
      intro x hx y hy h
      rcases List.mem_cons.1 hx with hx1 | hx
      · rcases List.mem_cons.1 hy with hy1 | hy
        · rw [hx1, hy1]
        · exact absurd (List.mem_map.2 ⟨y, hy, by rw [← h, hx1]⟩) hl.1
      · rcases List.mem_cons.1 hy with hy1 | hy
        · exact absurd (List.mem_map.2 ⟨x, hx, by rw [h, hy1]⟩) hl.1
        · exact ih hl.2 x hx y hy h
  refine List.Perm.eq_of_pairwise (le := fun x y : ChangeT => cmpN x.name y.name ≤ 0) (fun x y hx hy h1 h2 => ?_) sa sb (ha.trans hb.symm)
  have h3 := cmpN_ok.anti x.name y.name
  exact hinj x (ha.mem_iff.1 hx) y (hb.mem_iff.1 hy) (cmpN_ok.eq _ _ (by omega))
theorem putL_mem_new (l : List (NameT × ByteArray)) (n : NameT) (v : ByteArray) : (n, v) ∈ putL cmpN l n v := by
  induction l with
  | nil => exact List.mem_cons_self
  | cons e l ih =>
    unfold putL
    split
    · exact List.mem_cons_self
    split
    · exact List.mem_cons_self
    · exact List.mem_cons_of_mem _ ih
theorem putL_keep {l : List (NameT × ByteArray)} {n : NameT} {v : ByteArray} {e : NameT × ByteArray} (h : e ∈ l) : ∃ e' ∈ putL cmpN l n v, e'.1 = e.1 := by
  induction l with
  | nil => cases h
  | cons d l ih =>
    unfold putL
    split
    · exact ⟨e, List.mem_cons_of_mem _ h, rfl⟩
    split
    · rename_i h0
      rcases List.mem_cons.1 h with rfl | h
      · exact ⟨(n, v), List.mem_cons_self, cmpN_ok.eq _ _ h0⟩
      · exact ⟨e, List.mem_cons_of_mem _ h, rfl⟩
    · rcases List.mem_cons.1 h with rfl | h
      · exact ⟨_, List.mem_cons_self, rfl⟩
      · obtain ⟨e', h1, h2⟩ := ih h
        exact ⟨e', List.mem_cons_of_mem _ h1, h2⟩
theorem mem_sortR (rs : List NameT) : ∀ n, n ∈ sortR rs ↔ n ∈ rs := by
  intro n
  refine ⟨sortR_mem, ?_⟩
  induction rs using rev_ind with
  | h0 => exact fun h => h
  | h l x ih =>
    intro h
    unfold sortR at *
    rw [sortE_snoc]
    rcases List.mem_append.1 h with h | h
    · obtain ⟨e, he, rfl⟩ := List.mem_map.1 (ih h)
      obtain ⟨e', h1, h2⟩ := putL_keep (n := x) (v := ⟨#[]⟩) he
      exact List.mem_map.2 ⟨e', h1, h2⟩
    · rw [List.mem_singleton.1 h]
      exact List.mem_map.2 ⟨_, putL_mem_new _ _ _, rfl⟩
theorem sortR_sorted (rs : List NameT) : (sortR rs).Pairwise fun a b => cmpN a b < 0 := List.pairwise_map.2 (sortE_ok rs).1
theorem sortR_nodup (rs : List NameT) : (sortR rs).Nodup := (sortR_sorted rs).imp fun h => cmpN_ok.ne h
/-- A list of changes over the sorted names. -/
theorem sorted_map (rs : List NameT) (f : NameT → ChangeT) (hf : ∀ n ∈ rs, (f n).name = n) : SortedC ((sortR rs).map f) ∧ (((sortR rs).map f).map (·.name)).Nodup := by
  have hf' : ∀ n ∈ sortR rs, (f n).name = n := fun n h => hf n (sortR_mem h)
  refine ⟨List.pairwise_map.2 ((sortR_sorted rs).imp_of_mem fun {a b} ha hb h => ?_), ?_⟩
  · rw [hf' a ha, hf' b hb]; exact Int.le_of_lt h
  · have : ((sortR rs).map f).map (·.name) = sortR rs := by
      rw [List.map_map]
      refine (List.map_congr_left fun n hn => ?_).trans (List.map_id _)
      exact hf' n hn
    rw [this]
    exact sortR_nodup rs
theorem rd_snoc (l : List (NameT × ByteArray)) (rs : List NameT) (n : NameT) : rd l (rs ++ [n]) = aSet (rd l rs) n (rdc l n) := by
  unfold rd
  rw [List.foldl_append]
  rfl
theorem rd_get (l : List (NameT × ByteArray)) (rs : List NameT) : ((rd l rs).map Prod.fst).Nodup ∧ ∀ n, aGet (rd l rs) n = if n ∈ rs then some (rdc l n) else none := by
  induction rs using rev_ind with
  | h0 => exact ⟨List.nodup_nil, fun n => rfl⟩
  | h rs x ih =>
    rw [rd_snoc]
    refine ⟨aSet_nodup _ _ _ ih.1, fun n => ?_⟩
    rw [aGet_aSet, ih.2 n]
    by_cases h : n = x
    · rw [if_pos h, if_pos (by rw [h]; simp), h]
    · rw [if_neg h]
      by_cases h2 : n ∈ rs
      · rw [if_pos h2, if_pos (List.mem_append_left _ h2)]
      · rw [if_neg h2, if_neg (fun h3 => by rcases List.mem_append.1 h3 with h3 | h3; exact h2 h3; exact h (List.mem_singleton.1 h3))]
theorem rd_mem {l : List (NameT × ByteArray)} {rs : List NameT} {p : NameT × ChangeT} (h : p ∈ rd l rs) : p.1 ∈ rs ∧ p.2 = rdc l p.1 := by
  have h1 := aGet_mem (rd_get l rs).1 p h
  rw [(rd_get l rs).2 p.1] at h1
  split at h1
  · rename_i hm
    exact ⟨hm, (Option.some.inj h1).symm⟩
  · cases h1
theorem rd_names (l : List (NameT × ByteArray)) (rs : List NameT) : ((rd l rs).map Prod.snd).map (·.name) = (rd l rs).map Prod.fst := by
  rw [List.map_map]
  refine List.map_congr_left fun p hp => ?_
  show p.2.name = p.1
  rw [(rd_mem hp).2]
  rfl
theorem aSet_len {α : Type} (l : List (NameT × α)) (n : NameT) (x : α) : (aSet l n x).length ≤ l.length + 1 := by
  induction l with
  | nil => exact Nat.le_refl _
  | cons e l ih =>
    unfold aSet
    split
    · exact Nat.le_succ _
    · exact Nat.succ_le_succ ih
theorem rd_length (l : List (NameT × ByteArray)) (rs : List NameT) : (rd l rs).length ≤ rs.length := by
  induction rs using rev_ind with
  | h0 => exact Nat.le_refl _
  | h rs x ih =>
    rw [rd_snoc, List.length_append]
    exact Nat.le_trans (aSet_len _ _ _) (Nat.succ_le_succ ih)
/-- The reads of a view that plays beside the reference. -/
theorem reads_same {l : List (NameT × ByteArray)} {rs : List NameT} {cs : List ChangeT} (hp : cs.Perm ((rd l rs).map Prod.snd)) (hs : SortedC cs) : cs = (sortR rs).map (rdc l) := by
  obtain ⟨h1, h2⟩ := sorted_map rs (rdc l) (fun _ _ => rfl)
  have hnd : (((rd l rs).map Prod.snd).map (·.name)).Nodup := by rw [rd_names]; exact (rd_get l rs).1
  refine sorted_eqV hp ?_ hs h1 hnd
  refine (List.perm_ext_iff_of_nodup (nodup_of_map h2) (nodup_of_map hnd)).2 fun c => ⟨fun h => ?_, fun h => ?_⟩
  · obtain ⟨n, hn, rfl⟩ := List.mem_map.1 h
    have : aGet (rd l rs) n = some (rdc l n) := by rw [(rd_get l rs).2 n, if_pos (sortR_mem hn)]
    exact List.mem_map.2 ⟨_, mem_aGet this, rfl⟩
  · obtain ⟨p, hp, rfl⟩ := List.mem_map.1 h
    obtain ⟨h3, h4⟩ := rd_mem hp
    exact List.mem_map.2 ⟨p.1, (mem_sortR rs p.1).2 h3, h4.symm⟩
theorem last_some {cs : List ChangeT} {n : NameT} (h : n ∈ cs.map (·.name)) : ∃ c, lastCall cs n = some c := by
  induction cs with
  | nil => cases h
  | cons d cs ih =>
    simp only [lastCall]
    split
    · exact ⟨_, rfl⟩
    · rename_i hd
      rcases List.mem_cons.1 h with h | h
      · rw [if_pos h.symm]; exact ⟨_, rfl⟩
      · obtain ⟨c, hc⟩ := ih h
        rw [hd] at hc
        cases hc
/-- The writes of a view that plays beside the reference. -/
theorem writes_same {cs ws : List ChangeT} (hp : ws.Perm (writesU cs)) (hs : SortedC ws) : ws = wrR cs := by
  have hn : ∀ n ∈ cs.map (·.name), ((lastCall cs n).getD zeroC).name = n := fun n h => by
    obtain ⟨c, hc⟩ := last_some h
    rw [hc]
    exact lastCall_name hc
  obtain ⟨h1, h2⟩ := sorted_map _ (fun n => (lastCall cs n).getD zeroC) hn
  have hnd : ((writesU cs).map (·.name)).Nodup := by rw [writes_names]; exact lastOf_nodup cs
  refine sorted_eqV hp ?_ hs h1 hnd
  refine (List.perm_ext_iff_of_nodup (nodup_of_map h2) (nodup_of_map hnd)).2 fun c => ⟨fun h => ?_, fun h => ?_⟩
  · obtain ⟨n, hm, rfl⟩ := List.mem_map.1 h
    obtain ⟨c, hc⟩ := last_some (sortR_mem hm)
    rw [hc]
    refine writes_mem.2 ?_
    rw [Option.getD_some, lastCall_name hc]
    exact hc
  · have h3 := writes_mem.1 h
    refine List.mem_map.2 ⟨c.name, (mem_sortR _ _).2 ?_, by rw [h3]; rfl⟩
    exact List.mem_map.2 ⟨c, last_mem h3, rfl⟩
end Go.Proofs.YthghfhnicdoebaaGreatDoor

namespace Go.Proofs.YthghfhnicdoebaaGreatDoor
open Go.RowKit
attribute [local go_sem ↓] Go.wp_at_zero Go.wp_at_succ

set_option maxRecDepth 100000 in
set_option maxHeartbeats 1000000 in
theorem of04_any (k : Int) (o : ByteArray) (nu ix : Int) (t : ByteArray) (w : World) :
    Calls Tryz.prog 55 #[.agg #[.int .i64 k, .string o, .int .i64 nu, .int .i64 ix, .string t]] w fun r w' => r = .returned (.agg #[.int .i64 k, .string o, .int .i64 nu, .int .i64 ix, .string t]) ∧ Below w.heap.size w w' := by
  go_enter Tryz.func55, Tryz.ntmps55
  go_wp2
  refine bodyPost_ret (v := .agg #[.int .i64 k, .string o, .int .i64 nu, .int .i64 ix, .string t]) (by simp [results, Tryz.results55, go_sem]) rfl ⟨rfl, ?_⟩
  exact ((Below.refl _ _).alloc (Nat.le_refl _) _).alloc (by simp) _
theorem run_neq_N (w : World) (a1 : Int) (a2 : ByteArray) (a3 a4 : Int) (a5 : ByteArray) (b1 : Int) (b2 : ByteArray) (b3 b4 : Int) (b5 : ByteArray) : (binOp .neq 38 (.agg #[.int .i64 a1, .string a2, .int .i64 a3, .int .i64 a4, .string a5]) (.agg #[.int .i64 b1, .string b2, .int .i64 b3, .int .i64 b4, .string b5])).run Tryz.prog w = .ok (.bool (neqNB ⟨a1, a2, a3, a4, a5⟩ ⟨b1, b2, b3, b4, b5⟩)) w := by
  have h := run_equal_N w a1 a2 a3 a4 a5 b1 b2 b3 b4 b5
  simp only [binOp]
  simp [h, neqNB, eqNB]
end Go.Proofs.YthghfhnicdoebaaGreatDoor

namespace Go.Proofs.YthghfhnicdoebaaGreatDoor
open Go.RowKit
attribute [local go_sem ↓] Go.wp_at_zero Go.wp_at_succ
attribute [local go_sem ↓] run_neq_N

set_option maxRecDepth 100000 in
set_option maxHeartbeats 3200000 in
theorem same24_any (w : World) (v1 v2 : Value) (cs : List ChangeT) (h1 : RowC w v1 cs) (h2 : RowK kC w v2 cs) (hlen : cs.length ≤ 10000) :
    Calls Tryz.prog 38 #[v1, v2] w fun r w' => r = .returned (.bool true) ∧ Below w.heap.size w w' := by
  have H1 := Lib.hid h1
  have H2 := Lib.hid h2
  obtain ⟨p1, k1, rfl, -⟩ := h1
  obtain ⟨p2, k2, rfl, -, -⟩ := h2.form
  clear h2
  generalize hnn : cs.length = n at *
  have Hn := Lib.hid hnn
  clear hnn
  go_enter Tryz.func38, Tryz.ntmps38
  go_wp2_with fail
  go_loopg [5] n (fun gk iv wr => ∃ k : Nat, k + gk = n ∧ iv = .int .i64 k ∧ Hid (Below w.heap.size w wr))
  case atStart => exact ⟨0, by omega, rfl, Below.refl _ _⟩
  case round =>
    obtain ⟨k, hk, rfl, HB⟩ := hrel
    have Hk := Lib.hid hk
    have hkn : k ≤ n := by omega
    clear hk
    by_cases hlt : k < n
    · have hkl : k < cs.length := by rw [Hn.out]; exact hlt
      have hx : cs[k]? = some cs[k] := List.getElem?_eq_getElem hkl
      generalize cs[k] = x at *
      obtain ⟨q, cap, e1, hr1⟩ := H1.out.later HB.out
      obtain ⟨g1, ea, hc1⟩ := hr1 k x hx
      obtain ⟨g2, o2, eb, hc2⟩ := (H2.out.later HB.out).at_ hx
      obtain ⟨e2, -, -⟩ := Value.slice.inj e1
      subst e2
      clear e1
      subst ea
      subst eb
      obtain ⟨⟨c1, c2, c3, c4, c5⟩, c6, c7⟩ := x
      have a0 : wr.cell? ⟨g1, k * 7, none⟩ = some (.int .i64 c1) := hc1 0 _ rfl
      have a1 : wr.cell? ⟨g1, k * 7 + 1, none⟩ = some (.string c2) := hc1 1 _ rfl
      have a2 : wr.cell? ⟨g1, k * 7 + 2, none⟩ = some (.int .i64 c3) := hc1 2 _ rfl
      have a3 : wr.cell? ⟨g1, k * 7 + 3, none⟩ = some (.int .i64 c4) := hc1 3 _ rfl
      have a4 : wr.cell? ⟨g1, k * 7 + 4, none⟩ = some (.string c5) := hc1 4 _ rfl
      have a5 : wr.cell? ⟨g1, k * 7 + 5, none⟩ = some (.string c6) := hc1 5 _ rfl
      have a6 : wr.cell? ⟨g1, k * 7 + 6, none⟩ = some (.bool c7) := hc1 6 _ rfl
      have b0 : wr.cell? ⟨g2, o2 + k * 7, none⟩ = some (.int .i64 c1) := hc2 0 _ rfl
      have b1 : wr.cell? ⟨g2, o2 + k * 7 + 1, none⟩ = some (.string c2) := hc2 1 _ rfl
      have b2 : wr.cell? ⟨g2, o2 + k * 7 + 2, none⟩ = some (.int .i64 c3) := hc2 2 _ rfl
      have b3 : wr.cell? ⟨g2, o2 + k * 7 + 3, none⟩ = some (.int .i64 c4) := hc2 3 _ rfl
      have b4 : wr.cell? ⟨g2, o2 + k * 7 + 4, none⟩ = some (.string c5) := hc2 4 _ rfl
      have b5 : wr.cell? ⟨g2, o2 + k * 7 + 5, none⟩ = some (.string c6) := hc2 5 _ rfl
      have b6 : wr.cell? ⟨g2, o2 + k * 7 + 6, none⟩ = some (.bool c7) := hc2 6 _ rfl
      have hq : neqNB ⟨c1, c2, c3, c4, c5⟩ ⟨c1, c2, c3, c4, c5⟩ = false := neqNB_self _
      clear hx hc1 hc2 hr1
      go_upto_region 6 with fail
      go_region_held3 (fun W => W.cell? ⟨g1, k * 7, none⟩ = some (.int .i64 c1) ∧ W.cell? ⟨g1, k * 7 + 1, none⟩ = some (.string c2) ∧ W.cell? ⟨g1, k * 7 + 2, none⟩ = some (.int .i64 c3) ∧ W.cell? ⟨g1, k * 7 + 3, none⟩ = some (.int .i64 c4) ∧ W.cell? ⟨g1, k * 7 + 4, none⟩ = some (.string c5) ∧ W.cell? ⟨g1, k * 7 + 5, none⟩ = some (.string c6) ∧ W.cell? ⟨g1, k * 7 + 6, none⟩ = some (.bool c7) ∧ W.cell? ⟨g2, o2 + k * 7, none⟩ = some (.int .i64 c1) ∧ W.cell? ⟨g2, o2 + k * 7 + 1, none⟩ = some (.string c2) ∧ W.cell? ⟨g2, o2 + k * 7 + 2, none⟩ = some (.int .i64 c3) ∧ W.cell? ⟨g2, o2 + k * 7 + 3, none⟩ = some (.int .i64 c4) ∧ W.cell? ⟨g2, o2 + k * 7 + 4, none⟩ = some (.string c5) ∧ W.cell? ⟨g2, o2 + k * 7 + 5, none⟩ = some (.string c6) ∧ W.cell? ⟨g2, o2 + k * 7 + 6, none⟩ = some (.bool c7)) (first | with_reducible exact S1.out | with_reducible exact ⟨a0, a1, a2, a3, a4, a5, a6, b0, b1, b2, b3, b4, b5, b6⟩ | go_keep)
        (first
          | (go_at_call 55; refine (of04_any c1 c2 c3 c4 c5 _).mono ?_; rintro r w9 ⟨rfl, hb⟩; have hb9 : Below wr.heap.size wr w9 := ((Below.refl _ _).drew).trans hb; have S1 : Hid (w9.cell? ⟨g1, k * 7, none⟩ = some (.int .i64 c1) ∧ w9.cell? ⟨g1, k * 7 + 1, none⟩ = some (.string c2) ∧ w9.cell? ⟨g1, k * 7 + 2, none⟩ = some (.int .i64 c3) ∧ w9.cell? ⟨g1, k * 7 + 3, none⟩ = some (.int .i64 c4) ∧ w9.cell? ⟨g1, k * 7 + 4, none⟩ = some (.string c5) ∧ w9.cell? ⟨g1, k * 7 + 5, none⟩ = some (.string c6) ∧ w9.cell? ⟨g1, k * 7 + 6, none⟩ = some (.bool c7) ∧ w9.cell? ⟨g2, o2 + k * 7, none⟩ = some (.int .i64 c1) ∧ w9.cell? ⟨g2, o2 + k * 7 + 1, none⟩ = some (.string c2) ∧ w9.cell? ⟨g2, o2 + k * 7 + 2, none⟩ = some (.int .i64 c3) ∧ w9.cell? ⟨g2, o2 + k * 7 + 3, none⟩ = some (.int .i64 c4) ∧ w9.cell? ⟨g2, o2 + k * 7 + 4, none⟩ = some (.string c5) ∧ w9.cell? ⟨g2, o2 + k * 7 + 5, none⟩ = some (.string c6) ∧ w9.cell? ⟨g2, o2 + k * 7 + 6, none⟩ = some (.bool c7)) := ⟨((bcell hb9).1 _ _ (World.block_lt_of_cell? wr _ a0)).trans a0, ((bcell hb9).1 _ _ (World.block_lt_of_cell? wr _ a1)).trans a1, ((bcell hb9).1 _ _ (World.block_lt_of_cell? wr _ a2)).trans a2, ((bcell hb9).1 _ _ (World.block_lt_of_cell? wr _ a3)).trans a3, ((bcell hb9).1 _ _ (World.block_lt_of_cell? wr _ a4)).trans a4, ((bcell hb9).1 _ _ (World.block_lt_of_cell? wr _ a5)).trans a5, ((bcell hb9).1 _ _ (World.block_lt_of_cell? wr _ a6)).trans a6, ((bcell hb9).1 _ _ (World.block_lt_of_cell? wr _ b0)).trans b0, ((bcell hb9).1 _ _ (World.block_lt_of_cell? wr _ b1)).trans b1, ((bcell hb9).1 _ _ (World.block_lt_of_cell? wr _ b2)).trans b2, ((bcell hb9).1 _ _ (World.block_lt_of_cell? wr _ b3)).trans b3, ((bcell hb9).1 _ _ (World.block_lt_of_cell? wr _ b4)).trans b4, ((bcell hb9).1 _ _ (World.block_lt_of_cell? wr _ b5)).trans b5, ((bcell hb9).1 _ _ (World.block_lt_of_cell? wr _ b6)).trans b6⟩; have HB9 : Hid (Below w.heap.size w w9) := HB.out.trans (hb9.mono HB.out.size); clear hb hb9)
          | fail)
      clear a0 a1 a2 a3 a4 a5 a6 b0 b1 b2 b3 b4 b5 b6
      go_wp2
      go_roundg (n - (k + 1))
      case measure => have := Hk.out; omega
      case rel => exact ⟨k + 1, by have := Hk.out; omega, by go_num, HB9.out⟩
    · go_wp2
      go_ret
      exact ⟨rfl, HB.out⟩
end Go.Proofs.YthghfhnicdoebaaGreatDoor

namespace Go.Proofs.YthghfhnicdoebaaGreatDoor
open Go.RowKit
attribute [local go_sem ↓] Go.wp_at_zero Go.wp_at_succ

theorem qm_reads24 {w0 w : World} {b M k : Nat} {V : AV} {l : List (NameT × ByteArray)} {G : Nat → Prop} {q : List NameT × List ChangeT} (s : QM w0 w b M V G) (hv : V.reads = rd l q.1) (hi : PInv q.1 q.2 k) (hk : k ≤ 60) : Calls Tryz.prog 15 #[.pointer (some ⟨b, 0, none⟩)] w fun r w' => ∃ v, r = .returned v ∧ RowC w' v ((sortR q.1).map (rdc l)) ∧ Below w.heap.size w w' := by
  have hn : V.reads.length ≤ 1000000 := by rw [hv]; exact Nat.le_trans (rd_length l q.1) (by have := hi.rl; omega)
  refine (qmReads s hn).mono ?_
  rintro r w' ⟨v, cs, rfl, hr, hp, hs, hb, -⟩
  rw [hv] at hp
  rw [reads_same hp hs] at hr
  exact ⟨v, rfl, hr, hb⟩
theorem qm_writes24 {w0 w : World} {b M : Nat} {V : AV} {G : Nat → Prop} {cs : List ChangeT} (s : QM w0 w b M V G) (hv : V.calls = cs) : Calls Tryz.prog 22 #[.pointer (some ⟨b, 0, none⟩)] w fun r w' => ∃ v, r = .returned v ∧ RowC w' v (wrR cs) ∧ Below w.heap.size w w' := by
  refine (qmWrites s).mono ?_
  rintro r w' ⟨v, ds, rfl, hr, hp, hs, hb, -⟩
  rw [hv] at hp
  rw [writes_same hp hs] at hr
  exact ⟨v, rfl, hr, hb⟩
theorem wrR_len (cs : List ChangeT) : (wrR cs).length ≤ cs.length := by
  unfold wrR
  rw [List.length_map]
  exact Nat.le_trans (sortR_len _) (by rw [List.length_map]; exact Nat.le_refl _)

set_option maxRecDepth 100000 in
set_option maxHeartbeats 6400000 in
theorem is24_gen {w0 w : World} {b M k : Nat} {V : AV} {l : List (NameT × ByteArray)} {G : Nat → Prop} {q : List NameT × List ChangeT} {ab ar ac : Option Addr} {nb nr nc kb kr kc : Nat} (s : QM w0 w b M V G) (hv1 : V.reads = rd l q.1) (hv2 : V.calls = q.2) (hb : RowK kE w (.slice ab nb kb) l) (hr : RowK kN w (.slice ar nr kr) q.1) (hc : RowK kC w (.slice ac nc kc) q.2) (hl : LOk l 12) (hi : PInv q.1 q.2 k) (hk : k ≤ 60) :
    Calls Tryz.prog 10 #[.pointer (some ⟨b, 0, none⟩), .agg #[.slice ab nb kb, .slice ar nr kr, .slice ac nc kc]] w fun r w' => r = .returned (.bool true) ∧ Below w.heap.size w w' := by
  have HB0 : Hid (∀ o, Below w.heap.size w (w.alloc o)) := fun o => (Below.refl _ _).alloc (Nat.le_refl _) _
  have HX0 : Hid (∀ o, (w.alloc o).heap[w.heap.size]? = some o) := fun o => heap_alloc_new w o
  have HRd : Hid (∀ W, Below w.heap.size w W → Calls Tryz.prog 15 #[.pointer (some ⟨b, 0, none⟩)] W fun r w' => ∃ v, r = .returned v ∧ RowC w' v ((sortR q.1).map (rdc l)) ∧ Below W.heap.size W w') := fun W hW => qm_reads24 (s.later hW) hv1 hi hk
  have HWr : Hid (∀ W, Below w.heap.size w W → Calls Tryz.prog 22 #[.pointer (some ⟨b, 0, none⟩)] W fun r w' => ∃ v, r = .returned v ∧ RowC w' v (wrR q.2) ∧ Below W.heap.size W w') := fun W hW => qm_writes24 (s.later hW) hv2
  have HRR : Hid (∀ W, Below w.heap.size w W → Calls Tryz.prog 25 #[.agg #[.slice ab nb kb, .slice ar nr kr, .slice ac nc kc]] W fun r w' => ∃ v, r = .returned v ∧ RowK kC w' v ((sortR q.1).map (rdc l)) ∧ Below W.heap.size W w') := fun W hW => rReads_any W ab ar ac nb nr nc kb kr kc l q.1 (hb.later hW) (hr.later hW) (fun n hn => (hi.rf n hn).1) hl.fit hl.s (by have := hl.n; omega) (by have := hi.rl; omega)
  have HRW : Hid (∀ W, Below w.heap.size w W → Calls Tryz.prog 19 #[.agg #[.slice ab nb kb, .slice ar nr kr, .slice ac nc kc]] W fun r w' => ∃ v, r = .returned v ∧ RowK kC w' v (wrR q.2) ∧ Below W.heap.size W w') := fun W hW => rWrites_any W ab ar ac nb nr nc kb kr kc q.2 (hc.later hW) (fun c hc => (hi.cf c hc).2.1) (by have := hi.cl; omega)
  have HSm1 : Hid (∀ W v1 v2, RowC W v1 ((sortR q.1).map (rdc l)) → RowK kC W v2 ((sortR q.1).map (rdc l)) → Calls Tryz.prog 38 #[v1, v2] W fun r w' => r = .returned (.bool true) ∧ Below W.heap.size W w') := fun W v1 v2 h1 h2 => same24_any W v1 v2 _ h1 h2 (by rw [List.length_map]; exact Nat.le_trans (sortR_len _) (by have := hi.rl; omega))
  have HSm2 : Hid (∀ W v1 v2, RowC W v1 (wrR q.2) → RowK kC W v2 (wrR q.2) → Calls Tryz.prog 38 #[v1, v2] W fun r w' => r = .returned (.bool true) ∧ Below W.heap.size W w') := fun W v1 v2 h1 h2 => same24_any W v1 v2 _ h1 h2 (Nat.le_trans (wrR_len _) (by have := hi.cl; omega))
  clear s hv1 hv2 hb hr hc hl hi hk
  generalize (sortR q.1).map (rdc l) = cR at *
  generalize wrR q.2 = cW at *
  go_enter Tryz.func10, Tryz.ntmps10
  go_upto_region 1 with fail
  have HBo := Lib.hid (HB0.out (.cells #[.slice ab nb kb, .slice ar nr kr, .slice ac nc kc] 33))
  have HXo := Lib.hid (HX0.out (.cells #[.slice ab nb kb, .slice ar nr kr, .slice ac nc kc] 33))
  clear HB0 HX0
  generalize w.alloc (.cells #[.slice ab nb kb, .slice ar nr kr, .slice ac nc kc] 33) = w1 at *
  have HRd1 : Hid (∀ W, Below w1.heap.size w1 W → _) := fun W hW => HRd.out W (HBo.out.trans (hW.mono HBo.out.size))
  have HWr1 : Hid (∀ W, Below w1.heap.size w1 W → _) := fun W hW => HWr.out W (HBo.out.trans (hW.mono HBo.out.size))
  have HRR1 : Hid (∀ W, Below w1.heap.size w1 W → _) := fun W hW => HRR.out W (HBo.out.trans (hW.mono HBo.out.size))
  have HRW1 : Hid (∀ W, Below w1.heap.size w1 W → _) := fun W hW => HRW.out W (HBo.out.trans (hW.mono HBo.out.size))
  have HSb : Hid (∀ W, Below w1.heap.size w1 W → W.cell? ⟨w.heap.size, 0, none⟩ = some (.slice ab nb kb) ∧ W.cell? ⟨w.heap.size, 1, none⟩ = some (.slice ar nr kr) ∧ W.cell? ⟨w.heap.size, 2, none⟩ = some (.slice ac nc kc)) := fun W hW => by
    have h := (hW.block _ (lt_of_heap HXo.out)).trans HXo.out
    exact ⟨cell_of_heap h 0, cell_of_heap h 1, cell_of_heap h 2⟩
  have HD0 : Hid (Below w1.heap.size w1 w1.drew) := (Below.refl _ _).drew
  clear HRd HWr HRR HRW HXo
  go_region_held3 (fun W => W.cell? ⟨w.heap.size, 0, none⟩ = some (.slice ab nb kb) ∧ W.cell? ⟨w.heap.size, 1, none⟩ = some (.slice ar nr kr) ∧ W.cell? ⟨w.heap.size, 2, none⟩ = some (.slice ac nc kc)) (first | with_reducible exact HSb.out _ HD0.out | with_reducible exact HSb.out _ Ba1.out | with_reducible exact HSb.out _ Bx1.out | with_reducible exact HSb.out _ Bb1.out | with_reducible exact HSb.out _ Bc1.out | with_reducible exact HSb.out _ Ba2.out | with_reducible exact HSb.out _ Bx2.out | with_reducible exact HSb.out _ Bb2.out | with_reducible exact HSb.out _ Bc2.out | go_keep)
        (first
          | (go_at_call 15; (with_reducible refine (HRd1.out _ HD0.out).mono ?_); rintro r wa1 ⟨va1, rfl, ra, hb⟩; have Ba1 : Hid (Below w1.heap.size w1 wa1) := HD0.out.trans (hb.mono HD0.out.size); have Ra1 := Lib.hid ra; clear ra hb)
          | (go_at_call 25; (with_reducible refine (HRR1.out _ Ba1.out).mono ?_); rintro r wb1 ⟨vb1, rfl, rb, hb⟩; have Bb1 : Hid (Below w1.heap.size w1 wb1) := Ba1.out.trans (hb.mono Ba1.out.size); have Rb1 := Lib.hid rb; have Rc1 := Lib.hid (Ra1.out.later hb); clear rb hb)
          | (go_at_call 25; (with_reducible refine (HRR1.out _ HD0.out).mono ?_); rintro r wx1 ⟨vb1, rfl, rb, hb⟩; have Bx1 : Hid (Below w1.heap.size w1 wx1) := HD0.out.trans (hb.mono HD0.out.size); have Rx1 := Lib.hid rb; clear rb hb)
          | (go_at_call 15; (with_reducible refine (HRd1.out _ Bx1.out).mono ?_); rintro r wb1 ⟨va1, rfl, ra, hb⟩; have Bb1 : Hid (Below w1.heap.size w1 wb1) := Bx1.out.trans (hb.mono Bx1.out.size); have Rc1 := Lib.hid ra; have Rb1 := Lib.hid (Rx1.out.later hb); clear ra hb)
          | (go_at_call 38; (with_reducible refine (HSm1.out _ _ _ Rc1.out Rb1.out).mono ?_); rintro r wc1 ⟨rfl, hb⟩; have Bc1 : Hid (Below w1.heap.size w1 wc1) := Bb1.out.trans (hb.mono Bb1.out.size); clear hb)
          | (go_at_call 22; (with_reducible refine (HWr1.out _ Bc1.out).mono ?_); rintro r wa2 ⟨va2, rfl, ra, hb⟩; have Ba2 : Hid (Below w1.heap.size w1 wa2) := Bc1.out.trans (hb.mono Bc1.out.size); have Ra2 := Lib.hid ra; clear ra hb)
          | (go_at_call 19; (with_reducible refine (HRW1.out _ Ba2.out).mono ?_); rintro r wb2 ⟨vb2, rfl, rb, hb⟩; have Bb2 : Hid (Below w1.heap.size w1 wb2) := Ba2.out.trans (hb.mono Ba2.out.size); have Rb2 := Lib.hid rb; have Rc2 := Lib.hid (Ra2.out.later hb); clear rb hb)
          | (go_at_call 19; (with_reducible refine (HRW1.out _ Bc1.out).mono ?_); rintro r wx2 ⟨vb2, rfl, rb, hb⟩; have Bx2 : Hid (Below w1.heap.size w1 wx2) := Bc1.out.trans (hb.mono Bc1.out.size); have Rx2 := Lib.hid rb; clear rb hb)
          | (go_at_call 22; (with_reducible refine (HWr1.out _ Bx2.out).mono ?_); rintro r wb2 ⟨va2, rfl, ra, hb⟩; have Bb2 : Hid (Below w1.heap.size w1 wb2) := Bx2.out.trans (hb.mono Bx2.out.size); have Rc2 := Lib.hid ra; have Rb2 := Lib.hid (Rx2.out.later hb); clear ra hb)
          | (go_at_call 38; (with_reducible refine (HSm2.out _ _ _ Rc2.out Rb2.out).mono ?_); rintro r wc2 ⟨rfl, hb⟩; have Bc2 : Hid (Below w1.heap.size w1 wc2) := Bb2.out.trans (hb.mono Bb2.out.size); clear hb)
          | fail)
  all_goals
    have HF : Hid (Below w.heap.size w wc2) := HBo.out.trans (Bc2.out.mono HBo.out.size)
    go_wp2
    go_ret
    exact ⟨rfl, HF.out⟩
theorem is24_any {w0 w : World} {b k : Nat} {l : List (NameT × ByteArray)} {G : Nat → Prop} {q : List NameT × List ChangeT} {ab ar ac : Option Addr} {nb nr nc kb kr kc : Nat} (h : PVI w0 w b l G q (.slice ab nb kb) (.slice ar nr kr) (.slice ac nc kc)) (hl : LOk l 12) (hi : PInv q.1 q.2 k) (hk : k ≤ 60) :
    Calls Tryz.prog 10 #[.pointer (some ⟨b, 0, none⟩), .agg #[.slice ab nb kb, .slice ar nr kr, .slice ac nc kc]] w fun r w' => r = .returned (.bool true) ∧ Below w.heap.size w w' := is24_gen h.s rfl rfl h.hb h.hr h.hc hl hi hk
end Go.Proofs.YthghfhnicdoebaaGreatDoor
