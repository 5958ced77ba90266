/- view: After. view: After, the walk. -/
import Derived.Test.YtfchfjipkggnkaaGreatDoorWriB
import Derived.Deep.RegionHeld3
import Derived.Deep.QuietTactic
import Derived.BigQuiet
import Derived.BigRegion
namespace Go.Proofs.YtfchfjipkggnkaaGreatDoor
open Go.RowKit

theorem aGet_mem {α : Type} {l : List (NameT × α)} (hn : (l.map Prod.fst).Nodup) : ∀ p ∈ l, aGet l p.1 = some p.2 := by
  induction l with
  | nil => intro p hp; simp at hp
  | cons e l ih =>
    intro p hp
    simp only [List.map_cons, List.nodup_cons] at hn
    simp only [aGet]
    rcases List.mem_cons.1 hp with rfl | hp
    · rw [if_pos rfl]
    · rw [if_neg (fun h => hn.1 (by rw [← h]; exact List.mem_map.2 ⟨p, hp, rfl⟩)), ih hn.2 p hp]
theorem mem_aGet {α : Type} {l : List (NameT × α)} {n : NameT} {x : α} (h : aGet l n = some x) : (n, x) ∈ l := by
  induction l with
  | nil => simp [aGet] at h
  | cons e l ih =>
    simp only [aGet] at h
    split at h
    · rename_i hc
      cases h
      rw [hc]
      exact List.mem_cons_self
    · exact List.mem_cons_of_mem _ (ih h)
theorem lastOf_nodup (cs : List ChangeT) : ((lastOf cs).map Prod.fst).Nodup := by
  have h : ∀ (ds : List ChangeT) (l : List (NameT × Nat)) (i : Nat), (l.map Prod.fst).Nodup → ((lastFrom l i ds).map Prod.fst).Nodup := by
    intro ds
    induction ds with
    | nil => intro l i hl; exact hl
    | cons d ds ih => intro l i hl; exact ih _ _ (aSet_nodup _ _ _ hl)
  exact h cs [] 0 List.nodup_nil
theorem lastCall_name {cs : List ChangeT} {n : NameT} {c : ChangeT} (h : lastCall cs n = some c) : c.name = n := by
  induction cs with
  | nil => simp [lastCall] at h
  | cons d cs ih =>
    simp only [lastCall] at h
    split at h
    · rename_i hd
      rw [hd] at ih
      exact ih h
    · split at h
      · rename_i hn
        cases h
        exact hn
      · cases h
theorem last_entry {cs : List ChangeT} {p : NameT × Nat} (hp : p ∈ lastOf cs) : ∃ c, cs.getD p.2 noChg = c ∧ lastCall cs p.1 = some c ∧ c.name = p.1 := by
  obtain ⟨h1, h2, h3⟩ := (last_is cs p.1).1 p.2 (aGet_mem (lastOf_nodup cs) p hp)
  obtain ⟨c, hc⟩ := Option.isSome_iff_exists.1 h3
  refine ⟨c, ?_, hc, lastCall_name hc⟩
  rw [List.getD_eq_getElem?_getD, h2, hc]
  rfl
theorem writes_names (cs : List ChangeT) : (writesU cs).map (·.name) = (lastOf cs).map Prod.fst := by
  unfold writesU
  rw [List.map_map]
  refine List.map_congr_left fun p hp => ?_
  obtain ⟨c, h1, _, h3⟩ := last_entry hp
  simp only [Function.comp]
  rw [h1, h3]
theorem writes_mem {cs : List ChangeT} {c : ChangeT} : c ∈ writesU cs ↔ lastCall cs c.name = some c := by
  unfold writesU
  constructor
  · intro h
    obtain ⟨p, hp, rfl⟩ := List.mem_map.1 h
    obtain ⟨c, h1, h2, h3⟩ := last_entry hp
    rw [h1, h3]
    exact h2
  · intro h
    cases hg : aGet (lastOf cs) c.name with
    | none => rw [(last_is cs c.name).2 hg] at h; cases h
    | some i =>
      refine List.mem_map.2 ⟨(c.name, i), mem_aGet hg, ?_⟩
      obtain ⟨d, h1, h2, _⟩ := last_entry (mem_aGet hg)
      dsimp only at h1 h2 ⊢
      rw [h1]
      exact Option.some.inj (h2.symm.trans h)
theorem applyF_out {cs : List ChangeT} {n : NameT} (hn : ∀ c ∈ cs, c.name ≠ n) (f : NameT → Option ByteArray) : applyF f cs n = f n := by
  induction cs generalizing f with
  | nil => rfl
  | cons d cs ih =>
    have h1 := ih (fun c hc => hn c (List.mem_cons_of_mem _ hc)) (applyC f d)
    refine h1.trans ?_
    have h2 : ¬ n = d.name := fun e => hn d List.mem_cons_self e.symm
    unfold applyC
    split
    · simp only [delF, if_neg h2]
    · simp only [setF, if_neg h2]
theorem applyF_in {cs : List ChangeT} (hd : (cs.map (·.name)).Nodup) {c : ChangeT} (hc : c ∈ cs) (f : NameT → Option ByteArray) : applyF f cs c.name = if c.absent = true then none else some c.value := by
  induction cs generalizing f with
  | nil => simp at hc
  | cons d cs ih =>
    simp only [List.map_cons, List.nodup_cons] at hd
    rcases List.mem_cons.1 hc with rfl | hc
    · have h1 := applyF_out (cs := cs) (n := c.name) (fun e he h => hd.1 (by rw [← h]; exact List.mem_map.2 ⟨e, he, rfl⟩)) (applyC f c)
      refine h1.trans ?_
      unfold applyC
      split
      · simp [delF]
      · simp [setF]
    · exact ih hd.2 hc (applyC f d)
/-- The state that a view shows. -/
def stOf (V : AV) (n : NameT) : Option ByteArray := if (avGet V n).2 = true then some (avGet V n).1 else none
theorem after_st {V : AV} {cs : List ChangeT} (hp : cs.Perm (writesU V.calls)) : applyF V.base cs = stOf V := by
  have hd : (cs.map (·.name)).Nodup := by
    rw [(hp.map _).nodup_iff, writes_names]
    exact lastOf_nodup _
  funext n
  unfold stOf avGet
  cases hl : lastCall V.calls n with
  | some c =>
    obtain rfl := lastCall_name hl
    rw [applyF_in hd (hp.mem_iff.2 (writes_mem.2 hl))]
    cases hca : c.absent <;> simp [hca]
  | none =>
    rw [applyF_out (fun c hc e => by
      have := writes_mem.1 (hp.mem_iff.1 hc)
      rw [e, hl] at this
      cases this)]
    cases V.base n <;> simp

end Go.Proofs.YtfchfjipkggnkaaGreatDoor

namespace Go.Proofs.YtfchfjipkggnkaaGreatDoor
open Go.RowKit
attribute [local go_sem ↓] Go.wp_at_zero Go.wp_at_succ

theorem BaseN.more {N N' B : Nat} {w : World} {sp : Nat} {f : NameT → Option ByteArray} (h : BaseN N B w sp f) (hN : N ≤ N') : BaseN N' B w sp f := by
  obtain ⟨t, h1, h2, h3⟩ := h
  exact ⟨t, h1, Nat.le_trans h2 hN, h3⟩
def AftPost (N : Nat) (w : World) (V : AV) (r : Ending) (w' : World) : Prop :=
  ∃ sp', r = .returned (.tuple #[.pointer (some ⟨sp', 0, none⟩), .int .i64 0]) ∧ Below w.heap.size w w' ∧ BaseN (N + V.calls.length) w'.heap.size w' sp' (stOf V)
theorem after_apply {w w1 : World} {h : VH} {V : AV} {N : Nat} {v : Value} {cs : List ChangeT} (hv : ViewAt w h V) (hb : BaseN N h.bs w h.sp V.base) (hN : N + V.calls.length < 60000) (hb1 : Below w.heap.size w w1) (hr : RowC w1 v cs) (hp : cs.Perm (writesU V.calls)) :
    Calls Tryz.prog 20 #[.pointer (some ⟨h.sp, 0, none⟩), v] w1 (AftPost N w V) := by
  have hlen : cs.length ≤ V.calls.length := by
    rw [hp.length_eq]
    unfold writesU
    rw [List.length_map]
    exact last_length V.calls
  refine (baseApply (hv.usages.below hb1 hv.usages.pos) (hb.later ⟨hb1.os, hb1.tape, hb1.output, hb1.size, fun k hk => hb1.block k (Nat.lt_of_lt_of_le hk hv.top)⟩) (Nat.le_trans hv.top hb1.size) (by omega) hr (fun c hc => ?_)).mono ?_
  · have h1 := writes_mem.1 (hp.mem_iff.1 hc)
    have h2 : c ∈ V.calls := by
      have hm := hp.mem_iff.1 hc
      unfold writesU at hm
      obtain ⟨p, hp', hpe⟩ := List.mem_map.1 hm
      have hlt := last_lt V.calls p hp'
      rw [← hpe, List.getD_eq_getElem?_getD, List.getElem?_eq_getElem hlt]
      exact List.getElem_mem hlt
    exact hv.ok c h2
  · rintro r w' ⟨sp', rfl, hb2, hbn⟩
    rw [after_st hp] at hbn
    exact ⟨sp', rfl, hb1.trans (hb2.mono hb1.size), hbn.more (by omega)⟩

set_option maxRecDepth 100000 in
set_option maxHeartbeats 3200000 in
theorem after_any (N : Nat) (h : VH) (V : AV) (w : World) (hv : ViewAt w h V) (hb : BaseN N h.bs w h.sp V.base) (hN : N + V.calls.length < 60000) :
    Calls Tryz.prog 22 #[.pointer (some ⟨h.b, 0, none⟩)] w (AftPost N w V) := by
  have Hv : Hid (ViewAt w.drew h V) := hv.later (Below.refl _ _).drew
  have Hap : Hid (∀ {w1 : World} {v : Value} {cs : List ChangeT}, Below w.heap.size w w1 → RowC w1 v cs → cs.Perm (writesU V.calls) → Calls Tryz.prog 20 #[.pointer (some ⟨h.sp, 0, none⟩), v] w1 (AftPost N w V)) := fun h1 h2 h3 => after_apply hv hb hN h1 h2 h3
  have c0 : w.cell? ⟨h.b, 0, none⟩ = some (.pointer (some ⟨h.sp, 0, none⟩)) := cell_of_heap hv.heap 0
  have hlt : h.b < w.heap.size := lt_of_heap hv.heap
  clear hv hb hN
  obtain ⟨b, rm, lm, cv, sp, bs⟩ := h
  dsimp only at c0 hlt Hap ⊢
  go_enter Tryz.func22, Tryz.ntmps22
  go_wp2_with fail
  go_region_held3 (fun w' => w'.cell? ⟨b, 0, none⟩ = some (.pointer (some ⟨sp, 0, none⟩))) (first | go_keep | (rw [(bcell hb1).1 _ _ hlt]; go_keep) | (rw [(bcell hb2).1 _ _ hlt]; go_keep))
    (first
      | (go_at_call 18; refine (writes_any _ V w.drew Hv.out).mono ?_; rintro e w1 ⟨v, cs, rfl, hr, hp, hs, hb1⟩)
      | (go_at_call 20; refine (Hap.out (show Below w.heap.size w w1 from ⟨hb1.os, hb1.tape, hb1.output, hb1.size, hb1.block⟩) hr hp).mono ?_; rintro e w2 ⟨sp', rfl, hb2, hbn⟩)
      | fail)
  all_goals go_wp2_with fail
  all_goals go_ret2
  all_goals exact ⟨sp', rfl, hb2, hbn⟩
end Go.Proofs.YtfchfjipkggnkaaGreatDoor
