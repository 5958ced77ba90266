/- view: Reads hands back a row of its own. -/
import Derived.Test.YtpieaakdddgdeaaGreatDoorRdsD
import Derived.Test.YtpieaakdddgdeaaGreatDoorQmC
namespace Go.Proofs.YtpieaakdddgdeaaGreatDoor
open Go.RowKit Go.ChangeMaps

def OwnC (base : Nat) (w : World) (v : Value) (cs : List ChangeT) : Prop := w.ownsRow base 55 7 v cs.length (cs.flatMap changeCells)
theorem OwnC.row {base : Nat} {w : World} {v : Value} {cs : List ChangeT} (h : OwnC base w v cs) : RowC w v cs := by
  obtain ⟨hl, ⟨rfl, hn⟩ | ⟨g, cap, cur, rfl, hg, hblk, hcap, hmax, hsz, htake⟩⟩ := h
  · obtain rfl : cs = [] := List.eq_nil_of_length_eq_zero hn
    exact ⟨none, 0, rfl, fun i c hi => by simp at hi⟩
  · refine ⟨some ⟨g, 0, none⟩, cap, rfl, fun i c hi => ⟨g, rfl, fun j u hj => ?_⟩⟩
    have hjl : j < 7 := (List.getElem?_eq_some_iff.1 hj).1
    have hi' := (List.getElem?_eq_some_iff.1 hi).1
    have hfl := flat_get cs i j c hi hjl hj
    rw [← htake, List.getElem?_take_of_lt (by omega)] at hfl
    rw [cell_of_heap hblk, ← Array.getElem?_toList]
    exact hfl
theorem flat_len (cs : List ChangeT) : (cs.flatMap changeCells).length = cs.length * 7 := by
  induction cs with
  | nil => rfl
  | cons c cs ih =>
    rw [List.flatMap_cons, List.length_append, ih, List.length_cons]
    show 7 + _ = _
    omega
def SortOwn (base : Nat) (W : World) (v : Value) (cs : List ChangeT) (r : Ending) (w' : World) : Prop :=
  r = .returned (.tuple #[]) ∧ ∃ cs', cs'.Perm cs ∧ SortedC cs' ∧ OwnC base w' v cs' ∧ Below base W w'
set_option maxRecDepth 100000 in
theorem changeSort_own (base : Nat) (v : Value) (cs : List ChangeT) (W : World) (hrow : OwnC base W v cs) (hf : ∀ c ∈ cs, FitN c.name) (hlen : cs.length ≤ 1000000) :
    Calls Tryz.prog 68 #[v, .func (.func 69) #[] #[]] W (SortOwn base W v cs) := by
  obtain ⟨hl, ⟨rfl, hn⟩ | ⟨g, cap, cur, rfl, hg, hblk, hcap, hmax, hsz, htake⟩⟩ := hrow
  · obtain rfl : cs = [] := List.eq_nil_of_length_eq_zero hn
    refine (AnyF.slices_SortFunc_none sortCh none 0 (.func (.func 69) #[] #[]) W).mono ?_
    rintro e w' ⟨rfl, rfl⟩
    exact ⟨rfl, [], .nil, .nil, World.ownsRow_nil _ _ _ _, Below.refl _ _⟩
  · have eg : ∀ args w, (callFunc 69 args).run Tryz.prog w = .ok (.enter 69 args) w := enters_of Tryz.func69 (by kernel_rfl) rfl
    obtain ⟨d, hd⟩ : ∃ d : Array ChF, d.toList.map (·.1) = cs := ⟨(cs.attach.map fun c => ⟨c.1, hf c.1 c.2⟩).toArray, by simp⟩
    have hds : d.size = cs.length := by rw [← hd]; simp
    have hlt : g < W.heap.size := lt_of_heap hblk
    have hH : Go.Sort.HoldsK encF 7 W g 0 d := by
      intro t ht
      rw [Go.Sort.size_flatK] at ht
      rw [Nat.zero_add]
      refine ⟨?_, frozen_of_heap hblk t⟩
      have hi : t / 7 < d.size := by omega
      rw [Go.Sort.get_flatK _ _ _ _ ht, getElem!_pos d _ hi]
      have hc : cs[t / 7]? = some d[t / 7].1 := by rw [← hd]; simp [hi]
      have hjl : t % 7 < (changeCells d[t / 7].1).length := Nat.mod_lt _ (by decide)
      have hfl := flat_get cs (t / 7) (t % 7) _ hc (Nat.mod_lt _ (by decide)) (List.getElem?_eq_getElem hjl)
      rw [show t / 7 * 7 + t % 7 = t by omega, ← htake, List.getElem?_take_of_lt (by rw [← hds]; exact ht)] at hfl
      rw [cell_of_heap hblk t, ← Array.getElem?_toList, hfl]
      unfold encF
      rw [getElem!_pos (changeCells d[t / 7].1) _ hjl]
      rfl
    have hcon := AnyQ.slices_SortFunc sortCh 7 Tryz.isAgg55 Tryz.sizeOf55 encF (fun _ => rfl) (fun x v hv => by
      simp [encF, changeCells] at hv
      rcases hv with rfl | rfl | rfl | rfl | rfl | rfl | rfl <;> rfl) cfF swoF 69 #[] g 0 cap d W eg (lays_byName g d.size W) hH hlt (by omega)
    rw [hds] at hcon
    refine hcon.mono ?_
    rintro e w' ⟨rfl, d', n, os, hp, hs, rfl⟩
    have hsz' : d'.size = d.size := hp.1
    have hlen' : (d'.toList.map (·.1)).length = cs.length := by simp [hsz', hds]
    have hblk' : (sortWorldK encF 7 W g 0 n d' os).heap[g]? = some (.cells (Go.Sort.putCells id 0 (Go.Sort.flatK encF 7 d') cur) 55 (0, 0)) := by
      simp only [sortWorldK, Go.Sort.grow, Go.Sort.putRowK, Go.Sort.putRow, Go.Sort.mapBlock, Go.Sort.ahead]
      rw [Array.getElem?_append_left (by simp; omega), Array.getElem?_modify, if_pos rfl, hblk]
      rfl
    refine ⟨rfl, d'.toList.map (·.1), ?_, ?_, ⟨flat_len _, .inr ⟨g, cap, _, by rw [hlen'], hg, hblk', by rw [hlen']; exact hcap, hmax, by simp [Go.Sort.putCells, hsz], ?_⟩⟩, sortWorld_below hg (by omega)⟩
    · have h := hp.2.2
      have e1 : d'.extract 0 cs.length = d' := by rw [← hds, ← hsz']; simp
      have e2 : d.extract 0 cs.length = d := by rw [← hds]; simp
      rw [e1, e2] at h
      rw [← hd]
      exact h.map _
    · unfold SortedC
      rw [List.pairwise_map, List.pairwise_iff_getElem]
      intro i j hi hj hij
      have h := hs i j (Nat.zero_le _) hij (by simpa [hsz', hds] using hj)
      rw [getElem!_pos d' j (by simpa using hj), getElem!_pos d' i (by simpa using hi), ltF, decide_eq_false_iff_not] at h
      have := cmpN_ok.anti d'[i].1.name d'[j].1.name
      simp only [Array.getElem_toList]
      omega
    · rw [hlen']
      apply List.ext_getElem?
      intro t
      by_cases ht : t < cs.length * 7
      · rw [List.getElem?_take_of_lt ht]
        have hi : t / 7 < d'.size := by omega
        have hx : d'[t / 7]? = some d'[t / 7] := Array.getElem?_eq_getElem hi
        have hc : (d'.toList.map (·.1))[t / 7]? = some d'[t / 7].1 := by simp [hi]
        have hjl : t % 7 < (changeCells d'[t / 7].1).length := Nat.mod_lt _ (by decide)
        have hfl := flat_get _ (t / 7) (t % 7) _ hc (Nat.mod_lt _ (by decide)) (List.getElem?_eq_getElem hjl)
        have hcell := flatF d' (t / 7) (t % 7) _ hx (Nat.mod_lt _ (by decide)) _ g (holdsK_sortWorldK encF 7 W g 0 n d d' os hlt hH hsz') _ (List.getElem?_eq_getElem hjl)
        rw [show t / 7 * 7 + t % 7 = t by omega] at hfl hcell
        rw [cell_of_heap hblk' t, ← Array.getElem?_toList] at hcell
        rw [hcell, hfl]
      · rw [List.getElem?_eq_none (by rw [List.length_take]; omega), List.getElem?_eq_none (by rw [flat_len, hlen']; omega)]

/-- What Reads hands back. -/
def ReadsOwn (w : World) (V : AV) (r : Ending) (w' : World) : Prop :=
  ∃ v cs, r = .returned v ∧ OwnC w.heap.size w' v cs ∧ cs.Perm (V.reads.map Prod.snd) ∧ SortedC cs ∧ Below w.heap.size w w'
set_option maxRecDepth 100000 in
set_option maxHeartbeats 1000000 in
theorem rdSorted_own (bm Bm : Nat) (l0 : List (NameT × ChangeT)) (w : World) (hm : MapIs changeV w bm l0) (hc : w.cell? ⟨Bm, 0, none⟩ = some (.map (some bm))) (hn : l0.length ≤ 1000000) (hk : ReadsOk l0) :
    Calls Tryz.prog 70 #[.func (.func 134) #[] #[.pointer (some ⟨Bm, 0, none⟩)], .func (.func 69) #[] #[]] w (ReadsOwn w ⟨fun _ => none, l0, []⟩) := by
  obtain ⟨N, hN, hseq⟩ := rd_gives bm Bm l0 w hm hc hn
  have hcol := callsIn_wide.1 (rdCollect_in Fence.wide 3 trivial trivial rfl (Nat.le_refl _) 134 #[.pointer (some ⟨Bm, 0, none⟩)] trivial (enters_of Tryz.func134 (by kernel_rfl) rfl) _ N hN w hseq)
  have Hcol := Lib.hid hcol; clear hcol hseq
  have Hk := Lib.hid hk; clear hk
  clear hm hc
  go_enter Tryz.func70, Tryz.ntmps70
  go_wp2_with fail
  refine Hcol.out.mono ?_
  rintro e w1 ⟨v, cs, rfl, hS, hrow, hb⟩
  have hlen : cs.length = l0.length := by rw [hS.length_eq, List.length_map]
  have hfit : ∀ c ∈ cs, FitN c.name := fun c hc => by
    obtain ⟨p, hp, rfl⟩ := List.mem_map.1 (hS.mem_iff.1 hc)
    obtain ⟨h1, h2⟩ := Hk.out.2 p hp
    rw [h1]
    exact h2
  have Hso := Lib.hid (changeSort_own w.heap.size v cs w1 hrow hfit (by omega))
  have HS := Lib.hid hS
  have Hb := Lib.hid hb
  clear hS hrow hb hfit hlen Hcol
  go_wp2_with fail
  refine Hso.out.mono ?_
  rintro e w2 ⟨rfl, cs', hp, hs, hr, hb2⟩
  have HF : Hid (ReadsOwn w ⟨fun _ => none, l0, []⟩ (.returned v) w2) := ⟨v, cs', rfl, hr, hp.trans HS.out, hs, Hb.out.trans hb2⟩
  clear hp hs hr hb2 Hso
  go_wp2
  go_ret
  exact HF.out
set_option maxRecDepth 100000 in
set_option maxHeartbeats 1000000 in
theorem reads_own (h : VH) (V : AV) (w : World) (hv : ViewAt w h V) (hn : V.reads.length ≤ 1000000) :
    Calls Tryz.prog 23 #[.pointer (some ⟨h.b, 0, none⟩)] w (ReadsOwn w V) := by
  have c1 : w.cell? ⟨h.b, 1, none⟩ = some (.map (some h.rm)) := cell_of_heap hv.heap 1
  have Hm := Lib.hid hv.reads
  have Hk := Lib.hid hv.rdk
  clear hv
  obtain ⟨b, rm, lm, cv, sp, bs⟩ := h
  dsimp only at c1 ⊢
  go_enter Tryz.func23, Tryz.ntmps23
  go_wp2_with fail
  refine (rdMake_any (some rm) w).mono ?_
  rintro e w1 ⟨rfl, rfl⟩
  have Hso := Lib.hid (rdSorted_own rm w.heap.size V.reads (w.alloc (.cells #[.map (some rm)] 97)) (Hm.out.kept (Below.heap_alloc _ _ _ Hm.out.lt)) (cell_of_heap (heap_alloc_new w _) 0) hn Hk.out)
  have Hb1 : Hid (Below w.heap.size w (w.alloc (.cells #[.map (some rm)] 97))) := (Below.refl _ _).alloc (Nat.le_refl _) _
  go_wp2_with fail
  refine Hso.out.mono ?_
  rintro e w2 ⟨v, cs, rfl, hr, hp, hs, hb2⟩
  have hr' : OwnC w.heap.size w2 v cs := by
    obtain ⟨hl, h | ⟨g, cap, cur, h1, hg, h2⟩⟩ := hr
    · exact ⟨hl, .inl h⟩
    · exact ⟨hl, .inr ⟨g, cap, cur, h1, Nat.le_trans (by simp) hg, h2⟩⟩
  have HF : Hid (ReadsOwn w V (.returned v) w2) := ⟨v, cs, rfl, hr', hp, hs, Hb1.out.trans (hb2.mono (by simp))⟩
  clear hr hr' hp hs hb2 Hso
  go_wp2
  go_ret
  exact HF.out
theorem qmReadsO {w0 w : World} {b M : Nat} {V : AV} {G : Nat → Prop} (s : QM w0 w b M V G) (hn : V.reads.length ≤ 1000000) : Calls Tryz.prog 23 #[.pointer (some ⟨b, 0, none⟩)] w fun r w' => ∃ v cs, r = .returned v ∧ OwnC w.heap.size w' v cs ∧ cs.Perm (V.reads.map Prod.snd) ∧ SortedC cs ∧ Below w.heap.size w w' ∧ QM w0 w' b M V G := by
  have s' := s
  obtain ⟨⟨h, hv, hb, rfl, h2, h4⟩, h5⟩ := s
  refine (reads_own h V w hv hn).mono ?_
  rintro r w' ⟨v, cs, h1, h2, h3, h4, h6⟩
  exact ⟨v, cs, h1, h2, h3, h4, h6, s'.later h6⟩
attribute [local go_sem ↓] Go.wp_at_zero Go.wp_at_succ
/-- A slice as append likes it. -/
def NilOr (v : Value) : Prop := v = .slice none 0 0 ∨ ∃ g n cap, v = .slice (some ⟨g, 0, none⟩) n cap
theorem row_nilOr {w : World} {base : Nat} {e : TypeId} {size : Nat} {v : Value} {n : Nat} {xs : List Value} (h : w.ownsRow base e size v n xs) : NilOr v := by
  rcases h.2 with ⟨hv, _⟩ | ⟨g, cap, cur, hv, _⟩
  · exact .inl hv
  · exact .inr ⟨g, n, cap, hv⟩
def WritesOwn (w : World) (V : AV) (r : Ending) (w' : World) : Prop :=
  ∃ v cs, r = .returned v ∧ RowC w' v cs ∧ cs.Perm (writesU V.calls) ∧ SortedC cs ∧ Below w.heap.size w w' ∧ NilOr v
set_option maxRecDepth 100000 in
set_option maxHeartbeats 6400000 in
theorem writes_own (h : VH) (V : AV) (w : World) (hv : ViewAt w h V) :
    Calls Tryz.prog 22 #[.pointer (some ⟨h.b, 0, none⟩)] w (WritesOwn w V) := by
  obtain ⟨b, rm, lm, cv, sp, bs⟩ := h
  dsimp only
  have c3 : w.cell? ⟨b, 3, none⟩ = some (.map (some lm)) := cell_of_heap hv.heap 3
  have hlt : b < w.heap.size := lt_of_heap hv.heap
  obtain ⟨es, clock, hm, hl, hst⟩ := hv.last
  dsimp only at hm
  have hst0 := Lib.hid (wri_start (w := w) (h := ⟨b, rm, lm, cv, sp, bs⟩) (V := V) (es := es) (clock := clock))
  have Hm := Lib.hid hm; clear hm
  have Hl := Lib.hid hl; clear hl
  have Hst := Lib.hid hst; clear hst
  have Hv := Lib.hid hv; clear hv
  obtain ⟨i0, hi, hz0, hz1, hz2⟩ := info_parts Tryz.infoChange
  go_enter Tryz.func22, Tryz.ntmps22
  go_wp2_with (first
    | (at_range; refine wpList_range_map _ rfl _ 98 rfl 45 3 Tryz.underlying98 lm es clock rfl Hm.out ?_)
    | go_in)
  go_loopg [3] es.size (fun gk v wr => WrI w ⟨b, rm, lm, cv, sp, bs⟩ V es clock gk v wr)
  case atStart => exact hst0.out
  case round =>
    clear hst0
    have HI := Lib.hid hrel; clear hrel
    obtain ⟨seen, c0, ps, hit, hsc, hseen, hps, hnd, hgk, hpl, hrow⟩ := HI.out.ex
    have hb0 := HI.out.below
    have hm1 : wr.heap[lm]? = some (.map es clock) := (hb0.block lm (lt_of_heap Hm.out)).trans Hm.out
    have Hit := Lib.hid hit; clear hit
    have Hm1 := Lib.hid hm1; clear hm1
    have Hrow := Lib.hid hrow; clear hrow
    have Hps := Lib.hid hps; clear hps
    have Hnd := Lib.hid hnd; clear hnd
    have Hseen := Lib.hid hseen; clear hseen
    have Hb0 := Lib.hid hb0; clear hb0
    have Hgk := Lib.hid hgk; clear hgk
    have Hpl := Lib.hid hpl; clear hpl
    have Hne : Hid (lm ≠ w.heap.size) := fun e => by have := lt_of_heap Hm.out; omega
    go_wp2_with (first
      | (at_next; refine wpList_next_map _ rfl _ rfl w.heap.size lm clock c0 seen es clock rfl Hit.out Hm1.out Hne.out Hst.out.2 hsc Hst.out.1 ?_ ?_)
      | go_in)
    · intro H0
      have hperm := left_done Hst.out (by rw [H0.out]; rfl) Hseen.out Hps.out Hnd.out
      have hpm : (ps.map (chgOf V.calls)).Perm (writesU V.calls) := by
        rw [← ents_map Hl.out]
        exact hperm.map _
      have hfit : ∀ c ∈ ps.map (chgOf V.calls), FitN c.name := by
        intro c hc
        obtain ⟨e, he, rfl⟩ := List.mem_map.1 hc
        obtain ⟨i, c, _, hi, hci, he2⟩ := ent_ok Hl.out (Hps.out e he)
        rw [he2]
        exact (Hv.out.ok c (List.mem_of_getElem? hci)).1.1
      have hlen : (ps.map (chgOf V.calls)).length ≤ 1000000 := by
        have h1 := es_size Hl.out
        have h2 := Hv.out.len
        have h3 := Hpl.out
        simp; omega
      have hcon := Lib.hid (changeSort_any (w.heap.size + 1) u3 (ps.map (chgOf V.calls)) wr (by simpa using Hrow.out) hfit hlen)
      have Hpm := Lib.hid hpm
      clear hperm hpm hfit hlen
      go_wp2_with fail
      refine hcon.out.mono ?_
      rintro e w4 ⟨rfl, cs, hp4, hs4, hr4, hb4⟩
      have HE : Hid (WritesOwn w V (.returned u3) w4) := ⟨u3, cs, rfl, hr4, hp4.trans Hpm.out, hs4, Hb0.out.trans ⟨hb4.os, hb4.tape, hb4.output, hb4.size, fun k hk => hb4.block k (by omega)⟩, row_nilOr Hrow.out⟩
      clear hcon hp4 hs4 hr4 hb4
      go_wp2
      go_ret
      exact HE.out
    · intro e w2 HN
      obtain ⟨hmem, hw12, hen⟩ := HN.out
      obtain ⟨w1, hw1, hw2⟩ : ∃ w1, (w1 = wr ∨ w1 = wr.drew) ∧ w2 = setBlock w1 w.heap.size (.mapIter (some lm) clock (seen.push e.born) clock) := hw12.elim (fun h => ⟨_, .inl rfl, h⟩) (fun h => ⟨_, .inr rfl, h⟩)
      clear hw12
      replace hmem : e ∈ (leftOf es seen).toList := by simpa using hmem
      obtain ⟨i, c, hval, hi2, hci, hch⟩ := ent_ok Hl.out (left_in hmem).1
      have hb2 : Below w.heap.size wr w2 := by rw [hw2]; exact setBlock_below hw1 (Nat.le_refl _)
      obtain ⟨g, cap, rfl, q2, hi1, e0, e1, e2, e3, e4, e5, e6⟩ := wri_cells Hv.out (Hb0.out.trans hb2) hci
      have Hrow2 : Hid (w2.ownsRow (w.heap.size + 1) 55 7 u3 ps.length ((ps.map (chgOf V.calls)).flatMap changeCells)) := row_keptB Hrow.out (fun k hk _ => setBlock_other hw1 hw2 k (by omega))
      have hs2 : w2.heap.size = wr.heap.size := by rw [hw2]; rcases hw1 with rfl | rfl <;> simp [setBlock]
      have Hs2 : Hid (w.heap.size + 1 ≤ w2.heap.size) := by have := HI.out.lt; show _ ≤ _; omega
      have Hlen : Hid (ps.length ≤ 1000000) := by
        have h1 := es_size Hl.out
        have h2 := Hv.out.len
        have h3 := Hpl.out
        show _ ≤ _
        omega
      rw [hval] at hen ⊢
      have hi0 : (0 : Int) ≤ (i : Int) := Int.natCast_nonneg _
      have Hmem := Lib.hid hmem; clear hmem
      have Hw1 := Lib.hid hw1; clear hw1
      have Hw2 := Lib.hid hw2; clear hw2
      have Hch := Lib.hid hch; clear hch
      clear hval hi2 hci HN hb2 hs2
      generalize e.key = ke at hen ⊢
      have HBX : Hid (∀ T, (w2.alloc (.cells #[.int .i64 c.name.kind, .string c.name.owner, .int .i64 c.name.number, .int .i64 c.name.index, .string c.name.text, .string c.value, .bool c.absent] T)).heap[w2.heap.size]? = some (.cells #[.int .i64 c.name.kind, .string c.name.owner, .int .i64 c.name.number, .int .i64 c.name.index, .string c.name.text, .string c.value, .bool c.absent] T (0, 0))) := fun T => World.alloc_heap_new w2 _
      go_wp2_with (first
        | (at_builtin; go_loud (refine wpList_append_own _ rfl _ _ 51 rfl (w.heap.size + 1) 55 i0 changeZ 7 80 Tryz.underlying51 hi hz0 hz1 hz2 rfl (by decide) u3 ps.length ((ps.map (chgOf V.calls)).flatMap changeCells) rfl (Hrow2.out.alloc _) ⟨w2.heap.size, 0, none⟩ 1 1 (changeCells c) rfl rfl (World.news_of_block (HBX.out _)) (by simp [changeCells, Value.oneCell']) (by have := Hlen.out; unfold maxLen; omega) (by have := Hlen.out; omega) (by have := Hs2.out; simp; omega) ?_; intro v' w3 hown' hgrow hnil; have HW := Lib.hid (wri_next (h := ⟨b, rm, lm, .slice (some ⟨g, 0, none⟩) V.calls.length cap, sp, bs⟩) (V := V) (es := es) (clock := clock) (gk := gk) Hb0.out HI.out.lt ⟨_, Hit.out⟩ Hseen.out Hps.out Hnd.out Hgk.out Hmem.out Hw1.out Hw2.out Hrow.out hown' (by rw [Hch.out]) hgrow); clear hown' hgrow hnil))
        | go_in)
      go_roundg (gk - 1)
      · exact HW.out.1
      · exact HW.out.2
theorem qmWritesO {w0 w : World} {b M : Nat} {V : AV} {G : Nat → Prop} (s : QM w0 w b M V G) : Calls Tryz.prog 22 #[.pointer (some ⟨b, 0, none⟩)] w fun r w' => ∃ v cs, r = .returned v ∧ RowC w' v cs ∧ cs.Perm (writesU V.calls) ∧ SortedC cs ∧ Below w.heap.size w w' ∧ QM w0 w' b M V G ∧ NilOr v := by
  have s' := s
  obtain ⟨⟨h, hv, hn, rfl, h2, h4⟩, h5⟩ := s
  refine (writes_own h V w hv).mono ?_
  rintro r w' ⟨v, cs, h1, h2, h3, h4, h6, h7⟩
  exact ⟨v, cs, h1, h2, h3, h4, h6, s'.later h6, h7⟩
end Go.Proofs.YtpieaakdddgdeaaGreatDoor
