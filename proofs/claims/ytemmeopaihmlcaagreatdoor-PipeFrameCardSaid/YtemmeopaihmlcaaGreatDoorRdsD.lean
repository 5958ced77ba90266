/- view: Reads: what it hands back. -/
import Derived.Test.YtemmeopaihmlcaaGreatDoorRdsC
import Derived.Test.YtemmeopaihmlcaaGreatDoorQmB
namespace Go.Proofs.YtemmeopaihmlcaaGreatDoor
open Go.RowKit Go.ChangeMaps

/-- What Reads hands back. -/
def ReadsPost (w : World) (V : AV) (r : Ending) (w' : World) : Prop :=
  ∃ v cs, r = .returned v ∧ RowC w' v cs ∧ cs.Perm (V.reads.map Prod.snd) ∧ SortedC cs ∧ Below w.heap.size w w'
theorem rd_gives (bm Bm : Nat) (l0 : List (NameT × ChangeT)) (w : World) (hm : MapIs changeV w bm l0) (hc : w.cell? ⟨Bm, 0, none⟩ = some (.map (some bm))) (hn : l0.length ≤ 1000000) :
    ∃ N, N ≤ 1000001 ∧ SeqGives Fence.wide 1 Tryz.prog 150 #[.pointer (some ⟨Bm, 0, none⟩)] changeV (fun cs => cs.Perm (l0.map Prod.snd)) N w := by
  obtain ⟨es, clock, hb, hl, hst⟩ := hm
  have hsz : es.size = l0.length := by
    have := congrArg List.length hl
    simpa using this
  refine ⟨es.size, by omega, fun l J W hW hJ hY h0 => ?_⟩
  have hlt := World.block_lt_of_cell? w _ hc
  exact rdValues_in Fence.wide 1 trivial rfl (Nat.le_refl _) l Bm bm es clock l0 J hY W hJ ((hW.cell (p := ⟨Bm, 0, none⟩) hlt).trans hc) ((hW.block bm (lt_of_heap hb)).trans hb) hl hst h0
set_option maxRecDepth 100000 in
set_option maxHeartbeats 1000000 in
theorem rdSorted_any (bm Bm : Nat) (l0 : List (NameT × ChangeT)) (w : World) (hm : MapIs changeV w bm l0) (hc : w.cell? ⟨Bm, 0, none⟩ = some (.map (some bm))) (hn : l0.length ≤ 1000000) (hk : ReadsOk l0) :
    Calls Tryz.prog 76 #[.func (.func 150) #[] #[.pointer (some ⟨Bm, 0, none⟩)], .func (.func 70) #[] #[]] w (ReadsPost w ⟨fun _ => none, l0, []⟩) := by
  obtain ⟨N, hN, hseq⟩ := rd_gives bm Bm l0 w hm hc hn
  have hcol := callsIn_wide.1 (rdCollect_in Fence.wide 3 trivial trivial rfl (Nat.le_refl _) 150 #[.pointer (some ⟨Bm, 0, none⟩)] trivial (enters_of Tryz.func150 (by kernel_rfl) rfl) _ N hN w hseq)
  have Hcol := Lib.hid hcol; clear hcol hseq
  have Hk := Lib.hid hk; clear hk
  clear hm hc
  go_enter Tryz.func76, Tryz.ntmps76
  go_wp2_with fail
  refine Hcol.out.mono ?_
  rintro e w1 ⟨v, cs, rfl, hS, hrow, hb⟩
  have hlen : cs.length = l0.length := by rw [hS.length_eq, List.length_map]
  have hfit : ∀ c ∈ cs, FitN c.name := fun c hc => by
    obtain ⟨p, hp, rfl⟩ := List.mem_map.1 (hS.mem_iff.1 hc)
    obtain ⟨h1, h2⟩ := Hk.out.2 p hp
    rw [h1]
    exact h2
  have Hso := Lib.hid (changeSort_any w.heap.size v cs w1 hrow hfit (by omega))
  have HS := Lib.hid hS
  have Hb := Lib.hid hb
  clear hS hrow hb hfit hlen Hcol
  go_wp2_with fail
  refine Hso.out.mono ?_
  rintro e w2 ⟨rfl, cs', hp, hs, hr, hb2⟩
  have HF : Hid (ReadsPost w ⟨fun _ => none, l0, []⟩ (.returned v) w2) := ⟨v, cs', rfl, hr, hp.trans HS.out, hs, Hb.out.trans hb2⟩
  clear hp hs hr hb2 Hso
  go_wp2
  go_ret
  exact HF.out
set_option maxRecDepth 100000 in
set_option maxHeartbeats 1000000 in
theorem rdMake_any (m : Option Nat) (w : World) : Calls Tryz.prog 77 #[.map m] w fun e w' => e = .returned (.func (.func 150) #[] #[.pointer (some ⟨w.heap.size, 0, none⟩)]) ∧ w' = w.alloc (.cells #[.map m] 128) := by
  have hmf : ∀ (fn : Fn) (first cap : Array Value) (w : World), (Instr.makeFunc fn first cap).run Tryz.prog w = .ok (.func fn first cap) w := fun _ _ _ _ => rfl
  go_enter Tryz.func77, Tryz.ntmps77
  go_wp2
  go_ret
  exact ⟨rfl, rfl⟩
set_option maxRecDepth 100000 in
set_option maxHeartbeats 1000000 in
theorem reads_any (h : VH) (V : AV) (w : World) (hv : ViewAt w h V) (hn : V.reads.length ≤ 1000000) :
    Calls Tryz.prog 24 #[.pointer (some ⟨h.b, 0, none⟩)] w (ReadsPost w V) := by
  have c1 : w.cell? ⟨h.b, 1, none⟩ = some (.map (some h.rm)) := cell_of_heap hv.heap 1
  have Hm := Lib.hid hv.reads
  have Hk := Lib.hid hv.rdk
  clear hv
  obtain ⟨b, rm, lm, cv, sp, bs⟩ := h
  dsimp only at c1 ⊢
  go_enter Tryz.func24, Tryz.ntmps24
  go_wp2_with fail
  refine (rdMake_any (some rm) w).mono ?_
  rintro e w1 ⟨rfl, rfl⟩
  have Hso := Lib.hid (rdSorted_any rm w.heap.size V.reads (w.alloc (.cells #[.map (some rm)] 128)) (Hm.out.kept (Below.heap_alloc _ _ _ Hm.out.lt)) (cell_of_heap (heap_alloc_new w _) 0) hn Hk.out)
  have Hb1 : Hid (Below w.heap.size w (w.alloc (.cells #[.map (some rm)] 128))) := (Below.refl _ _).alloc (Nat.le_refl _) _
  go_wp2_with fail
  refine Hso.out.mono ?_
  rintro e w2 ⟨v, cs, rfl, hr, hp, hs, hb2⟩
  have HF : Hid (ReadsPost w V (.returned v) w2) := ⟨v, cs, rfl, hr, hp, hs, Hb1.out.trans (hb2.mono (by simp))⟩
  clear hr hp hs hb2 Hso
  go_wp2
  go_ret
  exact HF.out
theorem qmReads {w0 w : World} {b M : Nat} {V : AV} {G : Nat → Prop} (s : QM w0 w b M V G) (hn : V.reads.length ≤ 1000000) : Calls Tryz.prog 24 #[.pointer (some ⟨b, 0, none⟩)] w fun r w' => ∃ v cs, r = .returned v ∧ RowC w' v cs ∧ cs.Perm (V.reads.map Prod.snd) ∧ SortedC cs ∧ Below w.heap.size w w' ∧ QM w0 w' b M V G := by
  have s' := s
  obtain ⟨⟨h, hv, hb, rfl, h2, h4⟩, h5⟩ := s
  refine (reads_any h V w hv hn).mono ?_
  rintro r w' ⟨v, cs, h1, h2, h3, h4, h6⟩
  exact ⟨v, cs, h1, h2, h3, h4, h6, s'.later h6⟩
end Go.Proofs.YtemmeopaihmlcaaGreatDoor
