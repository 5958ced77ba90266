/- Law 24, plain: what Reads and Writes of a view list is what the reference lists. -/
import Derived.Test.YthghfhnicdoebaaGreatDoorRfN
import Derived.Test.YthghfhnicdoebaaGreatDoorAftB
namespace Go.Proofs.YthghfhnicdoebaaGreatDoor
open Go.RowKit

/-- Sorted lists of the same changes, one for each name, are equal. -/
theorem sorted_eqV {a b l : List ChangeT} (ha : a.Perm l) (hb : b.Perm l) (sa : SortedC a) (sb : SortedC b) (hl : (l.map (·.name)).Nodup) : a = b := by
  have hinj : ∀ x ∈ l, ∀ y ∈ l, x.name = y.name → x = y := by
    clear ha hb sa sb
    induction l with
    | nil => intro x hx; cases hx
    | cons c l ih =>
      simp only [List.map_cons, List.nodup_cons] at hl
      intro x hx y hy h
      rcases List.mem_cons.1 hx with hx1 | hx
      · rcases List.mem_cons.1 hy with hy1 | hy
        · rw [hx1, hy1]
        · exact absurd (List.mem_map.2 ⟨y, hy, by rw [← h, hx1]⟩) hl.1
      · rcases List.mem_cons.1 hy with hy1 | hy
        · exact absurd (List.mem_map.2 ⟨x, hx, by rw [h, hy1]⟩) hl.1
        · exact ih hl.2 x hx y hy h
  refine List.Perm.eq_of_pairwise (le := fun x y : ChangeT => cmpN x.name y.name ≤ 0) (fun x y hx hy h1 h2 => ?_) sa sb (ha.trans hb.symm)
  have h3 := cmpN_ok.anti x.name y.name
  exact hinj x (ha.mem_iff.1 hx) y (hb.mem_iff.1 hy) (cmpN_ok.eq _ _ (by omega))
theorem putL_mem_new (l : List (NameT × ByteArray)) (n : NameT) (v : ByteArray) : (n, v) ∈ putL cmpN l n v := by
  induction l with
  | nil => exact List.mem_cons_self
  | cons e l ih =>
    unfold putL
    split
    · exact List.mem_cons_self
    split
    · exact List.mem_cons_self
    · exact List.mem_cons_of_mem _ ih
theorem putL_keep {l : List (NameT × ByteArray)} {n : NameT} {v : ByteArray} {e : NameT × ByteArray} (h : e ∈ l) : ∃ e' ∈ putL cmpN l n v, e'.1 = e.1 := by
  induction l with
  | nil => cases h
  | cons d l ih =>
    unfold putL
    split
    · exact ⟨e, List.mem_cons_of_mem _ h, rfl⟩
    split
    · rename_i h0
      rcases List.mem_cons.1 h with rfl | h
      · exact ⟨(n, v), List.mem_cons_self, cmpN_ok.eq _ _ h0⟩
      · exact ⟨e, List.mem_cons_of_mem _ h, rfl⟩
    · rcases List.mem_cons.1 h with rfl | h
      · exact ⟨_, List.mem_cons_self, rfl⟩
      · obtain ⟨e', h1, h2⟩ := ih h
        exact ⟨e', List.mem_cons_of_mem _ h1, h2⟩
theorem mem_sortR (rs : List NameT) : ∀ n, n ∈ sortR rs ↔ n ∈ rs := by
  intro n
  refine ⟨sortR_mem, ?_⟩
  induction rs using rev_ind with
  | h0 => exact fun h => h
  | h l x ih =>
    intro h
    unfold sortR at *
    rw [sortE_snoc]
    rcases List.mem_append.1 h with h | h
    · obtain ⟨e, he, rfl⟩ := List.mem_map.1 (ih h)
      obtain ⟨e', h1, h2⟩ := putL_keep (n := x) (v := ⟨#[]⟩) he
      exact List.mem_map.2 ⟨e', h1, h2⟩
    · rw [List.mem_singleton.1 h]
      exact List.mem_map.2 ⟨_, putL_mem_new _ _ _, rfl⟩
theorem sortR_sorted (rs : List NameT) : (sortR rs).Pairwise fun a b => cmpN a b < 0 := List.pairwise_map.2 (sortE_ok rs).1
theorem sortR_nodup (rs : List NameT) : (sortR rs).Nodup := (sortR_sorted rs).imp fun h => cmpN_ok.ne h
/-- A list of changes over the sorted names. -/
theorem sorted_map (rs : List NameT) (f : NameT → ChangeT) (hf : ∀ n ∈ rs, (f n).name = n) : SortedC ((sortR rs).map f) ∧ (((sortR rs).map f).map (·.name)).Nodup := by
  have hf' : ∀ n ∈ sortR rs, (f n).name = n := fun n h => hf n (sortR_mem h)
  refine ⟨List.pairwise_map.2 ((sortR_sorted rs).imp_of_mem fun {a b} ha hb h => ?_), ?_⟩
  · rw [hf' a ha, hf' b hb]; exact Int.le_of_lt h
  · have : ((sortR rs).map f).map (·.name) = sortR rs := by
      rw [List.map_map]
      refine (List.map_congr_left fun n hn => ?_).trans (List.map_id _)
      exact hf' n hn
    rw [this]
    exact sortR_nodup rs
theorem rd_snoc (l : List (NameT × ByteArray)) (rs : List NameT) (n : NameT) : rd l (rs ++ [n]) = aSet (rd l rs) n (rdc l n) := by
  unfold rd
  rw [List.foldl_append]
  rfl
theorem rd_get (l : List (NameT × ByteArray)) (rs : List NameT) : ((rd l rs).map Prod.fst).Nodup ∧ ∀ n, aGet (rd l rs) n = if n ∈ rs then some (rdc l n) else none := by
  induction rs using rev_ind with
  | h0 => exact ⟨List.nodup_nil, fun n => rfl⟩
  | h rs x ih =>
    rw [rd_snoc]
    refine ⟨aSet_nodup _ _ _ ih.1, fun n => ?_⟩
    rw [aGet_aSet, ih.2 n]
    by_cases h : n = x
    · rw [if_pos h, if_pos (by rw [h]; simp), h]
    · rw [if_neg h]
      by_cases h2 : n ∈ rs
      · rw [if_pos h2, if_pos (List.mem_append_left _ h2)]
      · rw [if_neg h2, if_neg (fun h3 => by rcases List.mem_append.1 h3 with h3 | h3; exact h2 h3; exact h (List.mem_singleton.1 h3))]
theorem rd_mem {l : List (NameT × ByteArray)} {rs : List NameT} {p : NameT × ChangeT} (h : p ∈ rd l rs) : p.1 ∈ rs ∧ p.2 = rdc l p.1 := by
  have h1 := aGet_mem (rd_get l rs).1 p h
  rw [(rd_get l rs).2 p.1] at h1
  split at h1
  · rename_i hm
    exact ⟨hm, (Option.some.inj h1).symm⟩
  · cases h1
theorem rd_names (l : List (NameT × ByteArray)) (rs : List NameT) : ((rd l rs).map Prod.snd).map (·.name) = (rd l rs).map Prod.fst := by
  rw [List.map_map]
  refine List.map_congr_left fun p hp => ?_
  show p.2.name = p.1
  rw [(rd_mem hp).2]
  rfl
theorem aSet_len {α : Type} (l : List (NameT × α)) (n : NameT) (x : α) : (aSet l n x).length ≤ l.length + 1 := by
  induction l with
  | nil => exact Nat.le_refl _
  | cons e l ih =>
    unfold aSet
    split
    · exact Nat.le_succ _
    · exact Nat.succ_le_succ ih
theorem rd_length (l : List (NameT × ByteArray)) (rs : List NameT) : (rd l rs).length ≤ rs.length := by
  induction rs using rev_ind with
  | h0 => exact Nat.le_refl _
  | h rs x ih =>
    rw [rd_snoc, List.length_append]
    exact Nat.le_trans (aSet_len _ _ _) (Nat.succ_le_succ ih)
/-- The reads of a view that plays beside the reference. -/
theorem reads_same {l : List (NameT × ByteArray)} {rs : List NameT} {cs : List ChangeT} (hp : cs.Perm ((rd l rs).map Prod.snd)) (hs : SortedC cs) : cs = (sortR rs).map (rdc l) := by
  obtain ⟨h1, h2⟩ := sorted_map rs (rdc l) (fun _ _ => rfl)
  have hnd : (((rd l rs).map Prod.snd).map (·.name)).Nodup := by rw [rd_names]; exact (rd_get l rs).1
  refine sorted_eqV hp ?_ hs h1 hnd
  refine (List.perm_ext_iff_of_nodup (nodup_of_map h2) (nodup_of_map hnd)).2 fun c => ⟨fun h => ?_, fun h => ?_⟩
  · obtain ⟨n, hn, rfl⟩ := List.mem_map.1 h
    have : aGet (rd l rs) n = some (rdc l n) := by rw [(rd_get l rs).2 n, if_pos (sortR_mem hn)]
    exact List.mem_map.2 ⟨_, mem_aGet this, rfl⟩
  · obtain ⟨p, hp, rfl⟩ := List.mem_map.1 h
    obtain ⟨h3, h4⟩ := rd_mem hp
    exact List.mem_map.2 ⟨p.1, (mem_sortR rs p.1).2 h3, h4.symm⟩
theorem last_some {cs : List ChangeT} {n : NameT} (h : n ∈ cs.map (·.name)) : ∃ c, lastCall cs n = some c := by
  induction cs with
  | nil => cases h
  | cons d cs ih =>
    simp only [lastCall]
    split
    · exact ⟨_, rfl⟩
    · rename_i hd
      rcases List.mem_cons.1 h with h | h
      · rw [if_pos h.symm]; exact ⟨_, rfl⟩
      · obtain ⟨c, hc⟩ := ih h
        rw [hd] at hc
        cases hc
/-- The writes of a view that plays beside the reference. -/
theorem writes_same {cs ws : List ChangeT} (hp : ws.Perm (writesU cs)) (hs : SortedC ws) : ws = wrR cs := by
  have hn : ∀ n ∈ cs.map (·.name), ((lastCall cs n).getD zeroC).name = n := fun n h => by
    obtain ⟨c, hc⟩ := last_some h
    rw [hc]
    exact lastCall_name hc
  obtain ⟨h1, h2⟩ := sorted_map _ (fun n => (lastCall cs n).getD zeroC) hn
  have hnd : ((writesU cs).map (·.name)).Nodup := by rw [writes_names]; exact lastOf_nodup cs
  refine sorted_eqV hp ?_ hs h1 hnd
  refine (List.perm_ext_iff_of_nodup (nodup_of_map h2) (nodup_of_map hnd)).2 fun c => ⟨fun h => ?_, fun h => ?_⟩
  · obtain ⟨n, hm, rfl⟩ := List.mem_map.1 h
    obtain ⟨c, hc⟩ := last_some (sortR_mem hm)
    rw [hc]
    refine writes_mem.2 ?_
    rw [Option.getD_some, lastCall_name hc]
    exact hc
  · have h3 := writes_mem.1 h
    refine List.mem_map.2 ⟨c.name, (mem_sortR _ _).2 ?_, by rw [h3]; rfl⟩
    exact List.mem_map.2 ⟨c, last_mem h3, rfl⟩
end Go.Proofs.YthghfhnicdoebaaGreatDoor
