/- Changes sorted by their names. view: Writes. -/
import Derived.Test.YtfchfjipkggnkaaGreatDoorWriA
import Derived.Test.YtfchfjipkggnkaaGreatDoorShlS
import Derived.Test.YtfchfjipkggnkaaGreatDoorDrawn
import Derived.Shelf.SlSortCmp.NoneTotal
namespace Go.Proofs.YtfchfjipkggnkaaGreatDoor
open Go.RowKit
attribute [local go_sem ↓] Go.wp_at_zero Go.wp_at_succ
/-- In the order of names. -/
def SortedC (cs : List ChangeT) : Prop := cs.Pairwise fun a b => cmpN a.name b.name ≤ 0
def SortPost (base : Nat) (W : World) (v : Value) (cs : List ChangeT) (e : Ending) (w' : World) : Prop := e = .returned (.tuple #[]) ∧ ∃ cs', cs'.Perm cs ∧ SortedC cs' ∧ RowC w' v cs' ∧ Below base W w'

set_option maxRecDepth 100000 in
set_option maxHeartbeats 1000000 in
theorem byName_any (a b : ChangeT) (ha : FitN a.name) (hb : FitN b.name) (w : World) : Calls Tryz.prog 40 #[.agg (changeCells a).toArray, .agg (changeCells b).toArray] w fun e w' => e = .returned (.int .i64 (cmpN a.name b.name)) ∧ Below w.heap.size w w' := by
  have HB : Hid (∀ o1 o2, Below w.heap.size w ((w.alloc o1).alloc o2)) := fun o1 o2 => ((Below.refl _ _).alloc (Nat.le_refl _) _).alloc (by simp) _
  obtain ⟨⟨a1, a2, a3, a4, a5⟩, av, ab⟩ := a
  obtain ⟨⟨b1, b2, b3, b4, b5⟩, bv, bb⟩ := b
  dsimp only at ha hb ⊢
  unfold changeCells
  have hcon := oCompare_any ⟨a1, a2, a3, a4, a5⟩ ⟨b1, b2, b3, b4, b5⟩ ha hb
  unfold nameV at hcon
  dsimp only at hcon ⊢
  generalize cmpN ⟨a1, a2, a3, a4, a5⟩ ⟨b1, b2, b3, b4, b5⟩ = r at hcon ⊢
  go_enter Tryz.func40, Tryz.ntmps40
  go_wp2_with fail
  refine (hcon _).mono ?_
  rintro e w1 ⟨rfl, hb1⟩
  have HB1 : Hid (Below w.heap.size w w1) := (HB.out _ _).trans (hb1.mono (by simp; omega))
  clear hb1
  go_wp2
  go_ret
  exact ⟨rfl, HB1.out⟩

/-- A change whose name is of a fit size. -/
abbrev ChF := {c : ChangeT // FitN c.name}
instance : Inhabited ChF := ⟨⟨noChg, by unfold FitN noChg; exact ⟨by decide, by decide⟩⟩⟩
def encF (x : ChF) : List Value := changeCells x.1
def cfF (x y : ChF) : Int := cmpN x.1.name y.1.name
theorem ltF (x y : ChF) : ltOf cfF x y = decide (cmpN x.1.name y.1.name < 0) := rfl
theorem swoF : Go.Sort.SWO (ltOf cfF) where
  irrefl x := by rw [ltF, cmpN_ok.refl]; rfl
  trans x y z h1 h2 := by
    rw [ltF, decide_eq_true_eq] at *
    exact cmpN_ok.trans _ _ _ h1 h2
  ntrans x y z h1 h2 := by
    rw [ltF, decide_eq_false_iff_not] at *
    have a1 := cmpN_ok.anti x.1.name y.1.name
    have a2 := cmpN_ok.anti y.1.name z.1.name
    by_cases e1 : cmpN y.1.name z.1.name = 0
    · rw [← cmpN_ok.eq _ _ e1]; exact h1
    by_cases e2 : cmpN x.1.name y.1.name = 0
    · rw [cmpN_ok.eq _ _ e2]; exact h2
    have a3 := cmpN_ok.anti x.1.name z.1.name
    have := cmpN_ok.trans z.1.name y.1.name x.1.name (by omega) (by omega)
    omega

theorem lays_byName (g : Nat) (size : Nat) (w : World) : CmpLays Tryz.prog 40 #[] encF 7 cfF g 0 size w :=
  fun _ _ _ _ x y => calls_grown (byName_any x.1 y.1 x.2 y.2 _)

theorem flatF (d : Array ChF) (i j : Nat) (x : ChF) (hx : d[i]? = some x) (hj : j < 7) (w : World) (g : Nat) (h : Go.Sort.HoldsK encF 7 w g 0 d) (u : Value) (hu : (changeCells x.1)[j]? = some u) : w.cell? ⟨g, i * 7 + j, none⟩ = some u := by
  obtain ⟨hi, rfl⟩ := Array.getElem?_eq_some_iff.1 hx
  have ht : i * 7 + j < d.size * 7 := by omega
  have h1 := (h (i * 7 + j) (by rw [Go.Sort.size_flatK]; exact ht)).1
  rw [Nat.zero_add, Go.Sort.get_flatK _ _ _ _ ht, show (i * 7 + j) / 7 = i by omega, show (i * 7 + j) % 7 = j by omega] at h1
  rw [h1, getElem!_pos d i hi]
  congr 1
  unfold encF
  have hjl : j < (changeCells d[i].1).length := hj
  rw [getElem!_pos _ j hjl]
  exact Option.some.inj ((List.getElem?_eq_getElem hjl).symm.trans hu)
theorem sortWorld_below {base : Nat} {w : World} {g n : Nat} {d : Array ChF} {os : Array Obj} (hg : base ≤ g) (hb : base ≤ w.heap.size) : Below base w (sortWorldK encF 7 w g 0 n d os) := by
  refine ⟨rfl, rfl, rfl, ?_, fun k hk => ?_⟩
  · simp [sortWorldK, Go.Sort.grow, Go.Sort.putRowK, Go.Sort.putRow, Go.Sort.mapBlock, Go.Sort.ahead]
  · simp only [sortWorldK, Go.Sort.grow, Go.Sort.putRowK, Go.Sort.putRow, Go.Sort.mapBlock, Go.Sort.ahead]
    rw [Array.getElem?_append_left (by simp; omega), Array.getElem?_modify, if_neg (by omega)]

set_option maxRecDepth 100000 in
theorem changeSort_any (base : Nat) (v : Value) (cs : List ChangeT) (W : World) (hrow : W.ownsRow base 61 7 v cs.length (cs.flatMap changeCells)) (hf : ∀ c ∈ cs, FitN c.name) (hlen : cs.length ≤ 1000000) :
    Calls Tryz.prog 41 #[v, .func (.func 40) #[] #[]] W (SortPost base W v cs) := by
  obtain ⟨hl, ⟨rfl, hn⟩ | ⟨g, cap, cur, rfl, hg, hblk, hcap, hmax, hsz, htake⟩⟩ := hrow
  · obtain rfl : cs = [] := List.eq_nil_of_length_eq_zero hn
    refine (AnyF.slices_SortFunc_none sortCh none 0 (.func (.func 40) #[] #[]) W).mono ?_
    rintro e w' ⟨rfl, rfl⟩
    exact ⟨rfl, [], .nil, .nil, ⟨none, 0, rfl, fun i c hi => by simp at hi⟩, Below.refl _ _⟩
  · have eg : ∀ args w, (callFunc 40 args).run Tryz.prog w = .ok (.enter 40 args) w := enters_of Tryz.func40 (by kernel_rfl) rfl
    obtain ⟨d, hd⟩ : ∃ d : Array ChF, d.toList.map (·.1) = cs := ⟨(cs.attach.map fun c => ⟨c.1, hf c.1 c.2⟩).toArray, by simp⟩
    have hds : d.size = cs.length := by rw [← hd]; simp
    have hlt : g < W.heap.size := lt_of_heap hblk
    have hH : Go.Sort.HoldsK encF 7 W g 0 d := by
      intro t ht
      rw [Go.Sort.size_flatK] at ht
      rw [Nat.zero_add]
      refine ⟨?_, frozen_of_heap hblk t⟩
      have hi : t / 7 < d.size := by omega
      rw [Go.Sort.get_flatK _ _ _ _ ht, getElem!_pos d _ hi]
      have hc : cs[t / 7]? = some d[t / 7].1 := by rw [← hd]; simp [hi]
      have hjl : t % 7 < (changeCells d[t / 7].1).length := Nat.mod_lt _ (by decide)
      have hfl := flat_get cs (t / 7) (t % 7) _ hc (Nat.mod_lt _ (by decide)) (List.getElem?_eq_getElem hjl)
      rw [show t / 7 * 7 + t % 7 = t by omega, ← htake, List.getElem?_take_of_lt (by rw [← hds]; exact ht)] at hfl
      rw [cell_of_heap hblk t, ← Array.getElem?_toList, hfl]
      unfold encF
      rw [getElem!_pos (changeCells d[t / 7].1) _ hjl]
      rfl
    have hcon := AnyQ.slices_SortFunc sortCh 7 Tryz.isAgg61 Tryz.sizeOf61 encF (fun _ => rfl) (fun x v hv => by
      simp [encF, changeCells] at hv
      rcases hv with rfl | rfl | rfl | rfl | rfl | rfl | rfl <;> rfl) cfF swoF 40 #[] g 0 cap d W eg (lays_byName g d.size W) hH hlt (by omega)
    rw [hds] at hcon
    refine hcon.mono ?_
    rintro e w' ⟨rfl, d', n, os, hp, hs, rfl⟩
    have hsz' : d'.size = d.size := hp.1
    refine ⟨rfl, d'.toList.map (·.1), ?_, ?_, ⟨some ⟨g, 0, none⟩, cap, by simp [hsz', hds], fun i c hi => ⟨g, rfl, fun j u hj => ?_⟩⟩, sortWorld_below hg (by omega)⟩
    · have h := hp.2.2
      have e1 : d'.extract 0 cs.length = d' := by rw [← hds, ← hsz']; simp
      have e2 : d.extract 0 cs.length = d := by rw [← hds]; simp
      rw [e1, e2] at h
      rw [← hd]
      exact h.map _
    · unfold SortedC
      rw [List.pairwise_map, List.pairwise_iff_getElem]
      intro i j hi hj hij
      have h := hs i j (Nat.zero_le _) hij (by simpa [hsz', hds] using hj)
      rw [getElem!_pos d' j (by simpa using hj), getElem!_pos d' i (by simpa using hi), ltF, decide_eq_false_iff_not] at h
      have := cmpN_ok.anti d'[i].1.name d'[j].1.name
      simp only [Array.getElem_toList]
      omega
    · have hx : ∃ x : ChF, d'[i]? = some x ∧ x.1 = c := by
        rw [List.getElem?_map, Array.getElem?_toList, Option.map_eq_some_iff] at hi
        exact hi
      obtain ⟨x, hx, rfl⟩ := hx
      have hjl : j < 7 := (List.getElem?_eq_some_iff.1 hj).1
      exact flatF d' i j x hx hjl _ g (holdsK_sortWorldK encF 7 W g 0 n d d' os hlt hH hsz') u hj

end Go.Proofs.YtfchfjipkggnkaaGreatDoor

namespace Go.Proofs.YtfchfjipkggnkaaGreatDoor
open Go.RowKit Go.ChangeMaps

/-- What Writes hands back. -/
def WritesPost (w : World) (V : AV) (r : Ending) (w' : World) : Prop :=
  ∃ v cs, r = .returned v ∧ RowC w' v cs ∧ cs.Perm (writesU V.calls) ∧ SortedC cs ∧ Below w.heap.size w w'

theorem wri_start {w : World} {h : VH} {V : AV} {es : Array MapEntry} {clock : Nat} : WrI w h V es clock es.size (.slice none 0 0) (w.alloc (.mapIter (some h.lm) clock #[] clock)) :=
  ⟨⟨#[], clock, [], World.alloc_heap_new w _, Nat.le_refl _, rfl, (fun e he => by simp at he), by simp, Array.size_filter_le, Nat.zero_le _, World.ownsRow_nil _ _ _ _⟩, (Below.refl _ _).alloc (Nat.le_refl _) _, by simp⟩

def chgV (cs : List ChangeT) (v : Value) : ChangeT := match v with
  | .int _ i => cs.getD i.toNat noChg
  | _ => noChg
theorem chgOf_eq (cs : List ChangeT) : chgOf cs = fun e => chgV cs e.val := rfl
theorem ent_ok {cs : List ChangeT} {es : Array MapEntry} (hl : es.toList.map (fun e => (e.key, e.val)) = (lastOf cs).map (fun p => (nameV p.1, idxV p.2))) {e : MapEntry} (he : e ∈ es.toList) : ∃ i c, e.val = .int .i64 (i : Nat) ∧ i < cs.length ∧ cs[i]? = some c ∧ chgOf cs e = c := by
  have : (e.key, e.val) ∈ (lastOf cs).map (fun p => (nameV p.1, idxV p.2)) := by rw [← hl]; exact List.mem_map.2 ⟨e, he, rfl⟩
  obtain ⟨p, hp, h1⟩ := List.mem_map.1 this
  have hi := last_lt cs p hp
  have hv : e.val = .int .i64 (p.2 : Nat) := (Prod.mk.inj h1).2.symm
  refine ⟨p.2, cs[p.2], hv, hi, List.getElem?_eq_getElem hi, ?_⟩
  unfold chgOf
  rw [hv]
  simp [List.getD_eq_getElem?_getD, List.getElem?_eq_getElem hi]
theorem ents_map {cs : List ChangeT} {es : Array MapEntry} (hl : es.toList.map (fun e => (e.key, e.val)) = (lastOf cs).map (fun p => (nameV p.1, idxV p.2))) : es.toList.map (chgOf cs) = writesU cs := by
  have := congrArg (List.map fun q : Value × Value => chgV cs q.2) hl
  rw [List.map_map, List.map_map] at this
  rw [chgOf_eq]
  refine this.trans ?_
  unfold writesU
  refine List.map_congr_left fun p _ => ?_
  simp [chgV, idxV]
theorem last_length (cs : List ChangeT) : (lastOf cs).length ≤ cs.length := by
  have ha : ∀ (l : List (NameT × Nat)) (n : NameT) (x : Nat), (aSet l n x).length ≤ l.length + 1 := by
    intro l n x
    induction l with
    | nil => simp [aSet]
    | cons e l ih => simp only [aSet]; split <;> simp; exact ih
  have h : ∀ (ds : List ChangeT) (l : List (NameT × Nat)) (i : Nat), (lastFrom l i ds).length ≤ l.length + ds.length := by
    intro ds
    induction ds with
    | nil => intro l i; simp [lastFrom]
    | cons d ds ih => intro l i; have h1 := ih (aSet l d.name i) (i + 1); have h2 := ha l d.name i; simp only [lastFrom, List.length_cons]; omega
  have := h cs [] 0
  simpa [lastOf] using this
theorem es_size {cs : List ChangeT} {es : Array MapEntry} (hl : es.toList.map (fun e => (e.key, e.val)) = (lastOf cs).map (fun p => (nameV p.1, idxV p.2))) : es.size ≤ cs.length := by
  have := congrArg List.length hl
  simp at this
  rw [this]
  exact last_length cs
theorem sub_len {α : Type} {l m : List α} (hn : l.Nodup) (hs : ∀ x ∈ l, x ∈ m) : l.length ≤ m.length := by
  classical
  induction l generalizing m with
  | nil => simp
  | cons a l ih =>
    have ha := hs a (by simp)
    have hc := List.nodup_cons.1 hn
    have h1 := ih (m := m.erase a) hc.2 (fun x hx => (List.mem_erase_of_ne (fun e => hc.1 (by rw [← e]; exact hx))).2 (hs x (by simp [hx])))
    have h2 := List.length_erase_of_mem ha
    have h3 := List.length_pos_of_mem ha
    simp only [List.length_cons]
    omega
theorem wri_next {w wr w1 w2 w3 : World} {h : VH} {V : AV} {es : Array MapEntry} {clock gk : Nat} {v v' : Value} {e : MapEntry} {tmp : Obj} {seen : Array Nat} {ps : List MapEntry} {ys : List Value}
    (hb0 : Below w.heap.size w wr) (hlt : w.heap.size < wr.heap.size) (hit : ∃ c0, wr.heap[w.heap.size]? = some (.mapIter (some h.lm) clock seen c0)) (hseen : seen.toList = ps.map (·.born)) (hps : ∀ e ∈ ps, e ∈ es.toList) (hnd : (ps.map (·.born)).Nodup) (hgk : (leftOf es seen).size ≤ gk)
    (he : e ∈ (leftOf es seen).toList) (hw1 : w1 = wr ∨ w1 = wr.drew) (hw2 : w2 = setBlock w1 w.heap.size (.mapIter (some h.lm) clock (seen.push e.born) clock))
    (hrow : wr.ownsRow (w.heap.size + 1) 61 7 v ps.length ((ps.map (chgOf V.calls)).flatMap changeCells)) (hown : w3.ownsRow (w.heap.size + 1) 61 7 v' (ps.length + 1) ys) (hys : ys = (ps.map (chgOf V.calls)).flatMap changeCells ++ changeCells (chgOf V.calls e))
    (hgrow : (w2.alloc tmp).grownBy w3 v.ownBlock) : WrI w h V es clock (gk - 1) v' w3 ∧ gk - 1 < gk := by
  obtain ⟨hin, hns⟩ := left_in he
  have hsz := left_step he
  have hb2 : Below w.heap.size wr w2 := by rw [hw2]; exact setBlock_below hw1 (Nat.le_refl _)
  have hs2 : w2.heap.size = wr.heap.size := by rw [hw2]; rcases hw1 with rfl | rfl <;> simp [setBlock]
  have hit2 : w2.heap[w.heap.size]? = some (.mapIter (some h.lm) clock (seen.push e.born) clock) := by
    rw [hw2]
    rcases hw1 with rfl | rfl <;> simp [setBlock, hlt]
  have hown0 : ∀ g, v.ownBlock = some g → w.heap.size + 1 ≤ g := by
    intro g hg
    rcases hrow.2 with ⟨h1, _⟩ | ⟨g', cap, cur, h1, h2, _⟩
    · rw [h1] at hg; cases hg
    · rw [h1] at hg; simp [Value.ownBlock] at hg; subst hg; exact h2
  have hk3 : ∀ k, k ≤ w.heap.size → w3.heap[k]? = w2.heap[k]? := fun k hk => (hgrow.block k (by simp; omega) (fun e => by have := hown0 k e.symm; omega)).trans (Below.heap_alloc _ _ _ (by omega))
  have hperm : (ps ++ [e]).length ≤ es.size := by
    have hnd2 : ((ps ++ [e]).map (·.born)).Nodup := by
      rw [List.map_append]
      refine List.nodup_append.2 ⟨hnd, by simp, fun a ha b hb => ?_⟩
      simp at hb
      subst hb
      rw [hseen] at hns
      exact fun e => hns (e ▸ ha)
    have hsub : ∀ x ∈ ps ++ [e], x ∈ es.toList := fun x hx => (List.mem_append.1 hx).elim (hps x) (fun h => by simp at h; rw [h]; exact hin)
    have := sub_len (nodup_of_map hnd2) hsub
    simpa using this
  refine ⟨⟨⟨seen.push e.born, clock, ps ++ [e], (hk3 _ (Nat.le_refl _)).trans hit2, Nat.le_refl _, by simp [hseen], fun x hx => ?_, ?_, by omega, hperm, ?_⟩, ?_, ?_⟩, by omega⟩
  · exact (List.mem_append.1 hx).elim (hps x) (fun h => by simp at h; rw [h]; exact hin)
  · rw [List.map_append]
    refine List.nodup_append.2 ⟨hnd, by simp, fun a ha b hb => ?_⟩
    simp at hb
    subst hb
    rw [hseen] at hns
    exact fun e => hns (e ▸ ha)
  · rw [hys] at hown
    simpa using hown
  · refine hb0.trans (hb2.trans ⟨hgrow.os, hgrow.tape, hgrow.output, Nat.le_trans (by simp) hgrow.size, fun k hk => hk3 k (by omega)⟩)
  · have := hgrow.size
    simp at this
    omega

theorem row_keptB {w w' : World} {B : Nat} {e : TypeId} {size : Nat} {v : Value} {n : Nat} {xs : List Value} (h : w.ownsRow B e size v n xs) (hk : ∀ g, B ≤ g → g < w.heap.size → w'.heap[g]? = w.heap[g]?) : w'.ownsRow B e size v n xs := by
  obtain ⟨h1, h2⟩ := h
  refine ⟨h1, ?_⟩
  rcases h2 with h2 | ⟨g, cap, cur, hv, hb, hh, r⟩
  · exact .inl h2
  · exact .inr ⟨g, cap, cur, hv, hb, (hk g hb (lt_of_heap hh)).trans hh, r⟩
theorem setBlock_other {wr w1 w2 : World} {r : Nat} {o : Obj} (hw1 : w1 = wr ∨ w1 = wr.drew) (hw2 : w2 = setBlock w1 r o) (k : Nat) (hk : k ≠ r) : w2.heap[k]? = wr.heap[k]? := by
  rw [hw2]
  simp only [setBlock]
  rw [Array.getElem?_setIfInBounds_ne (Ne.symm hk)]
  rcases hw1 with rfl | rfl <;> rfl
/-- What is loaded for one entry. -/
theorem wri_cells {b rm lm sp bs : Nat} {cv : Value} {V : AV} {w w2 : World} (hv : ViewAt w ⟨b, rm, lm, cv, sp, bs⟩ V) (hb2 : Below w.heap.size w w2) {i : Nat} {c : ChangeT} (hc : V.calls[i]? = some c) :
    ∃ g cap, cv = .slice (some ⟨g, 0, none⟩) V.calls.length cap ∧ w2.cell? ⟨b, 2, none⟩ = some (.slice (some ⟨g, 0, none⟩) V.calls.length cap) ∧ (i : Int) < (V.calls.length : Int) ∧
      w2.cell? ⟨g, i * 7, none⟩ = some (.int .i64 c.name.kind) ∧ w2.cell? ⟨g, i * 7 + 1, none⟩ = some (.string c.name.owner) ∧ w2.cell? ⟨g, i * 7 + 2, none⟩ = some (.int .i64 c.name.number) ∧ w2.cell? ⟨g, i * 7 + 3, none⟩ = some (.int .i64 c.name.index) ∧ w2.cell? ⟨g, i * 7 + 4, none⟩ = some (.string c.name.text) ∧ w2.cell? ⟨g, i * 7 + 5, none⟩ = some (.string c.value) ∧ w2.cell? ⟨g, i * 7 + 6, none⟩ = some (.bool c.absent) := by
  have hv2 := hv.later hb2
  have hi := (List.getElem?_eq_some_iff.1 hc).1
  have hrow := hv2.calls
  dsimp only at hrow
  obtain ⟨g, cap, rfl⟩ : ∃ g cap, cv = .slice (some ⟨g, 0, none⟩) V.calls.length cap := by
    rcases hrow.2 with ⟨_, h0⟩ | ⟨g, cap, cur, h1, _⟩
    · omega
    · exact ⟨g, cap, h1⟩
  have hcell := fun j u h => World.ownsRow.cells hrow (g := g) rfl j u h
  have hat : ∀ j, j < 7 → ∀ u, (changeCells c)[j]? = some u → w2.cell? ⟨g, i * 7 + j, none⟩ = some u := fun j hj u hu => by
    have h1 := hcell (i * 7 + j) u (flat_get V.calls i j c hc hj hu)
    have h2 : (⟨g, 0, none⟩ : Addr).add (i * 7 + j) = ⟨g, i * 7 + j, none⟩ := by unfold Addr.add; split <;> simp_all
    rwa [h2] at h1
  exact ⟨g, cap, rfl, cell_of_heap hv2.heap 2, by omega, hat 0 (by decide) _ rfl, hat 1 (by decide) _ rfl, hat 2 (by decide) _ rfl, hat 3 (by decide) _ rfl, hat 4 (by decide) _ rfl, hat 5 (by decide) _ rfl, hat 6 (by decide) _ rfl⟩

set_option maxRecDepth 100000 in
set_option maxHeartbeats 6400000 in
theorem writes_any (h : VH) (V : AV) (w : World) (hv : ViewAt w h V) :
    Calls Tryz.prog 18 #[.pointer (some ⟨h.b, 0, none⟩)] w (WritesPost w V) := by
  obtain ⟨b, rm, lm, cv, sp, bs⟩ := h
  dsimp only
  have c3 : w.cell? ⟨b, 3, none⟩ = some (.map (some lm)) := cell_of_heap hv.heap 3
  have hlt : b < w.heap.size := lt_of_heap hv.heap
  obtain ⟨es, clock, hm, hl, hst⟩ := hv.last
  dsimp only at hm
  have hst0 := Lib.hid (wri_start (w := w) (h := ⟨b, rm, lm, cv, sp, bs⟩) (V := V) (es := es) (clock := clock))
  have Hm := Lib.hid hm; clear hm
  have Hl := Lib.hid hl; clear hl
  have Hst := Lib.hid hst; clear hst
  have Hv := Lib.hid hv; clear hv
  obtain ⟨i0, hi, hz0, hz1, hz2⟩ := info_parts Tryz.infoChange
  go_enter Tryz.func18, Tryz.ntmps18
  go_wp2_with (first
    | (at_range; refine wpList_range_map _ rfl _ 76 rfl 56 3 Tryz.underlying76 lm es clock rfl Hm.out ?_)
    | go_in)
  go_loopg [3] es.size (fun gk v wr => WrI w ⟨b, rm, lm, cv, sp, bs⟩ V es clock gk v wr)
  case atStart => exact hst0.out
  case round =>
    clear hst0
    have HI := Lib.hid hrel; clear hrel
    obtain ⟨seen, c0, ps, hit, hsc, hseen, hps, hnd, hgk, hpl, hrow⟩ := HI.out.ex
    have hb0 := HI.out.below
    have hm1 : wr.heap[lm]? = some (.map es clock) := (hb0.block lm (lt_of_heap Hm.out)).trans Hm.out
    have Hit := Lib.hid hit; clear hit
    have Hm1 := Lib.hid hm1; clear hm1
    have Hrow := Lib.hid hrow; clear hrow
    have Hps := Lib.hid hps; clear hps
    have Hnd := Lib.hid hnd; clear hnd
    have Hseen := Lib.hid hseen; clear hseen
    have Hb0 := Lib.hid hb0; clear hb0
    have Hgk := Lib.hid hgk; clear hgk
    have Hpl := Lib.hid hpl; clear hpl
    have Hne : Hid (lm ≠ w.heap.size) := fun e => by have := lt_of_heap Hm.out; omega
    go_wp2_with (first
      | (at_next; refine wpList_next_map _ rfl _ rfl w.heap.size lm clock c0 seen es clock rfl Hit.out Hm1.out Hne.out Hst.out.2 hsc Hst.out.1 ?_ ?_)
      | go_in)
    · intro H0
      have hperm := left_done Hst.out (by rw [H0.out]; rfl) Hseen.out Hps.out Hnd.out
      have hpm : (ps.map (chgOf V.calls)).Perm (writesU V.calls) := by
        rw [← ents_map Hl.out]
        exact hperm.map _
      have hfit : ∀ c ∈ ps.map (chgOf V.calls), FitN c.name := by
        intro c hc
        obtain ⟨e, he, rfl⟩ := List.mem_map.1 hc
        obtain ⟨i, c, _, hi, hci, he2⟩ := ent_ok Hl.out (Hps.out e he)
        rw [he2]
        exact (Hv.out.ok c (List.mem_of_getElem? hci)).1.1
      have hlen : (ps.map (chgOf V.calls)).length ≤ 1000000 := by
        have h1 := es_size Hl.out
        have h2 := Hv.out.len
        have h3 := Hpl.out
        simp; omega
      have hcon := Lib.hid (changeSort_any (w.heap.size + 1) u3 (ps.map (chgOf V.calls)) wr (by simpa using Hrow.out) hfit hlen)
      have Hpm := Lib.hid hpm
      clear hperm hpm hfit hlen
      go_wp2_with fail
      refine hcon.out.mono ?_
      rintro e w4 ⟨rfl, cs, hp4, hs4, hr4, hb4⟩
      have HE : Hid (WritesPost w V (.returned u3) w4) := ⟨u3, cs, rfl, hr4, hp4.trans Hpm.out, hs4, Hb0.out.trans ⟨hb4.os, hb4.tape, hb4.output, hb4.size, fun k hk => hb4.block k (by omega)⟩⟩
      clear hcon hp4 hs4 hr4 hb4
      go_wp2
      go_ret
      exact HE.out
    · intro e w2 HN
      obtain ⟨hmem, hw12, hen⟩ := HN.out
      obtain ⟨w1, hw1, hw2⟩ : ∃ w1, (w1 = wr ∨ w1 = wr.drew) ∧ w2 = setBlock w1 w.heap.size (.mapIter (some lm) clock (seen.push e.born) clock) := hw12.elim (fun h => ⟨_, .inl rfl, h⟩) (fun h => ⟨_, .inr rfl, h⟩)
      clear hw12
      replace hmem : e ∈ (leftOf es seen).toList := by simpa using hmem
      obtain ⟨i, c, hval, hi2, hci, hch⟩ := ent_ok Hl.out (left_in hmem).1
      have hb2 : Below w.heap.size wr w2 := by rw [hw2]; exact setBlock_below hw1 (Nat.le_refl _)
      obtain ⟨g, cap, rfl, q2, hi1, e0, e1, e2, e3, e4, e5, e6⟩ := wri_cells Hv.out (Hb0.out.trans hb2) hci
      have Hrow2 : Hid (w2.ownsRow (w.heap.size + 1) 61 7 u3 ps.length ((ps.map (chgOf V.calls)).flatMap changeCells)) := row_keptB Hrow.out (fun k hk _ => setBlock_other hw1 hw2 k (by omega))
      have hs2 : w2.heap.size = wr.heap.size := by rw [hw2]; rcases hw1 with rfl | rfl <;> simp [setBlock]
      have Hs2 : Hid (w.heap.size + 1 ≤ w2.heap.size) := by have := HI.out.lt; show _ ≤ _; omega
      have Hlen : Hid (ps.length ≤ 1000000) := by
        have h1 := es_size Hl.out
        have h2 := Hv.out.len
        have h3 := Hpl.out
        show _ ≤ _
        omega
      rw [hval] at hen ⊢
      have hi0 : (0 : Int) ≤ (i : Int) := Int.natCast_nonneg _
      have Hmem := Lib.hid hmem; clear hmem
      have Hw1 := Lib.hid hw1; clear hw1
      have Hw2 := Lib.hid hw2; clear hw2
      have Hch := Lib.hid hch; clear hch
      clear hval hi2 hci HN hb2 hs2
      generalize e.key = ke at hen ⊢
      have HBX : Hid (∀ T, (w2.alloc (.cells #[.int .i64 c.name.kind, .string c.name.owner, .int .i64 c.name.number, .int .i64 c.name.index, .string c.name.text, .string c.value, .bool c.absent] T)).heap[w2.heap.size]? = some (.cells #[.int .i64 c.name.kind, .string c.name.owner, .int .i64 c.name.number, .int .i64 c.name.index, .string c.name.text, .string c.value, .bool c.absent] T (0, 0))) := fun T => World.alloc_heap_new w2 _
      go_wp2_with (first
        | (at_builtin; go_loud (refine wpList_append_own _ rfl _ _ 58 rfl (w.heap.size + 1) 61 i0 changeZ 7 80 Tryz.underlying58 hi hz0 hz1 hz2 rfl (by decide) u3 ps.length ((ps.map (chgOf V.calls)).flatMap changeCells) rfl (Hrow2.out.alloc _) ⟨w2.heap.size, 0, none⟩ 1 1 (changeCells c) rfl rfl (World.news_of_block (HBX.out _)) (by simp [changeCells, Value.oneCell']) (by have := Hlen.out; unfold maxLen; omega) (by have := Hlen.out; omega) (by have := Hs2.out; simp; omega) ?_; intro v' w3 hown' hgrow hnil; have HW := Lib.hid (wri_next (h := ⟨b, rm, lm, .slice (some ⟨g, 0, none⟩) V.calls.length cap, sp, bs⟩) (V := V) (es := es) (clock := clock) (gk := gk) Hb0.out HI.out.lt ⟨_, Hit.out⟩ Hseen.out Hps.out Hnd.out Hgk.out Hmem.out Hw1.out Hw2.out Hrow.out hown' (by rw [Hch.out]) hgrow); clear hown' hgrow hnil))
        | go_in)
      go_roundg (gk - 1)
      · exact HW.out.1
      · exact HW.out.2
end Go.Proofs.YtfchfjipkggnkaaGreatDoor
