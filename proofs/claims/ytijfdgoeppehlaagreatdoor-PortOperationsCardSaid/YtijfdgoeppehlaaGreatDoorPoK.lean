/- Law 37: expect, arm by arm, on 5. (printed by wip/gen_po.py) Law 37: expect, arm by arm, on 6. (printed by wip/gen_po.py) Law 37: expect, arm by arm, on 7. (printed by wip/gen_po.py) -/
import Derived.Test.YtijfdgoeppehlaaGreatDoorPoC
import Derived.BigQuiet
import Derived.Deep.RegionHeld3
import Derived.RegionTactic
import Derived.Deep.CutBlock
import Derived.Deep.RegionLaw
namespace Go.Proofs.YtijfdgoeppehlaaGreatDoor
open Go.RowKit
attribute [local go_sem ↓] Go.wp_at_zero Go.wp_at_succ

/-- The end of expect where the ports change. -/
theorem EX.fin2 {w V : World} {a : Option Addr} {n c : Nat} {opc : Array Value} {es : List EntT} (h : EX w V a n c opc) (hl : EntR w a n es) {base : Nat} {a' : Option Addr} {c' : Nat} {e1 : EntT} {nu : Int} (hrow : ERow base V (.slice a' (sansE es nu ++ [e1]).length c') (sansE es nu ++ [e1])) (hb : w.heap.size + 1 + 1 + 1 < base)
    (hq : (PSl w e1.a e1.n e1.p.queue ∧ ∃ e ∈ es, e.a = e1.a) ∨ (PSl V e1.a e1.n e1.p.queue ∧ (∀ g off, e1.a = some ⟨g, off, none⟩ → w.heap.size + 1 + 1 + 1 < g ∧ g < V.heap.size))) (hnil : NilC e1.a e1.n e1.c) (x0 x1 x2 x3 y : Value) :
    Below w.heap.size w (((((V.setCell ⟨w.heap.size + 1 + 1, 0, none⟩ x0).setCell ⟨w.heap.size + 1 + 1, 1, none⟩ x1).setCell ⟨w.heap.size + 1 + 1, 2, none⟩ x2).setCell ⟨w.heap.size + 1 + 1, 3, none⟩ x3).setCell ⟨w.heap.size + 1 + 1 + 1, 0, none⟩ y) ∧
    EntR (((((V.setCell ⟨w.heap.size + 1 + 1, 0, none⟩ x0).setCell ⟨w.heap.size + 1 + 1, 1, none⟩ x1).setCell ⟨w.heap.size + 1 + 1, 2, none⟩ x2).setCell ⟨w.heap.size + 1 + 1, 3, none⟩ x3).setCell ⟨w.heap.size + 1 + 1 + 1, 0, none⟩ y) a' (sansE es nu ++ [e1]).length (sansE es nu ++ [e1]) ∧ ∀ k, blkE a' (sansE es nu ++ [e1]) k → blkE a es k ∨ (w.heap.size ≤ k ∧ k < (((((V.setCell ⟨w.heap.size + 1 + 1, 0, none⟩ x0).setCell ⟨w.heap.size + 1 + 1, 1, none⟩ x1).setCell ⟨w.heap.size + 1 + 1, 2, none⟩ x2).setCell ⟨w.heap.size + 1 + 1, 3, none⟩ x3).setCell ⟨w.heap.size + 1 + 1 + 1, 0, none⟩ y).heap.size) := by
  have hbel := h.end1 x0 x1 x2 x3 y
  refine ⟨hbel, ?_, fun k hk => ?_⟩
  case refine_2 =>
    rcases hk with ⟨off, e⟩ | ⟨e, he, off, hea⟩
    · right
      have hlt := World.ownsRow.lt hrow k (by rw [e]; rfl)
      simp only [World.size_setCell]
      omega
    · rcases List.mem_append.1 he with he | he
      · exact .inl (.inr ⟨e, (List.mem_filter.1 he).1, off, hea⟩)
      · obtain rfl := List.mem_singleton.1 he
        rcases hq with ⟨-, d, hd, hda⟩ | ⟨-, h2⟩
        · exact .inl (.inr ⟨d, hd, off, hda.trans hea⟩)
        · right
          have := h2 k off hea
          simp only [World.size_setCell]
          omega
  have g1 := grown_set4 V (w.heap.size + 1 + 1) x0 x1 x2 x3
  have r1 := hrow.set1 g1 (by omega)
  have r2 := r1.set1 (grown_setCell _ (w.heap.size + 1 + 1 + 1) 0 y) (by omega)
  have hold := hl.later hbel
  obtain ⟨a2, c2, hv, hr⟩ := r2.rd (fun e he => by
    rcases List.mem_append.1 he with he | he
    · exact hold.2.2 e (List.mem_filter.1 he).1
    · obtain rfl := List.mem_singleton.1 he
      refine ⟨?_, hnil⟩
      rcases hq with ⟨h1, -⟩ | ⟨h1, h2⟩
      · exact h1.later hbel
      · refine (h1.grown g1 (fun g off ha e => ?_)).grown (grown_setCell _ (w.heap.size + 1 + 1 + 1) 0 y) (fun g off ha e => ?_)
        · have := h2 g off ha
          have := Option.some.inj e
          omega
        · have := h2 g off ha
          have := Option.some.inj e
          omega)
  cases hv
  exact hr
/-- Behind the inner switch of expect: the port as it is to be, its queue somewhere. -/
def RX (w W : World) (es : List EntT) (a : Option Addr) (n c : Nat) (opc : Array Value) (Pb Tb : Nat) (ow : ByteArray) (pe : Int) (p : PortT) (res : PRes) : Prop :=
  ∃ aq nq cq, EX w W a n c opc ∧ W.heap[Pb]? = some (.cells #[.string ow, .int .i64 pe, .int .i64 p.lost, .slice aq nq cq] 80 (0, 0)) ∧ W.heap[Tb]? = some (.cells (presCells res) 42 (0, 0)) ∧
    ((PSl w aq nq p.queue ∧ ∃ e ∈ es, e.a = aq) ∨ (PSl W aq nq p.queue ∧ ∀ g off, aq = some ⟨g, off, none⟩ → w.heap.size + 1 + 1 + 1 < g ∧ g < W.heap.size)) ∧ NilC aq nq cq
theorem RX.full {w U : World} {es : List EntT} {a : Option Addr} {n c : Nat} {opc : Array Value} {Pb Tb : Nat} {ow : ByteArray} {pe lo : Int} {qa : Option Addr} {qn qc : Nat} {ls : List PackT} (h : EX w U a n c opc) (hP : U.heap[Pb]? = some (.cells #[.string ow, .int .i64 pe, .int .i64 lo, .slice qa qn qc] 80 (0, 0)))
    (hT : U.heap[Tb]? = some (.cells #[.string ⟨#[]⟩, .string ⟨#[]⟩, .string ⟨#[]⟩, .int .i64 0] 42 (0, 0))) (hlt : Pb < Tb) (hPb : w.heap.size + 1 + 1 + 1 < Pb) (hps : PSl w qa qn ls) (hqe : ∃ e ∈ es, e.a = qa) (hnil : NilC qa qn qc) :
    RX w ((U.setCell ⟨Tb, 3, none⟩ (.int .i64 9)).setCell ⟨Pb, 2, none⟩ (.int .i64 (lo + 1))) es a n c opc Pb Tb ow pe ⟨ow, pe, lo + 1, ls⟩ ⟨zeroPk, ⟨#[]⟩, 9⟩ :=
  ⟨qa, qn, qc, (h.grown (grown_setCell _ _ _ _) (fun k hk => by cases hk; omega)).grown (grown_setCell _ _ _ _) (fun k hk => by cases hk; omega),
    heap_setCell_same ((Below.heap_setCell _ _ _ _ (by show Pb ≠ Tb; omega)).trans hP) 2 _, (Below.heap_setCell _ _ _ _ (by show Tb ≠ Pb; omega)).trans (heap_setCell_same hT 3 _), .inl ⟨hps, hqe⟩, hnil⟩
theorem RX.row {w W : World} {es : List EntT} {a : Option Addr} {n c : Nat} {opc : Array Value} {Pb Tb : Nat} {ow : ByteArray} {pe lo : Int} {v0 vq : Value} {q : List PackT} {res : PRes} (h : EX w W a n c opc) (hP : W.heap[Pb]? = some (.cells #[.string ow, .int .i64 pe, .int .i64 lo, v0] 80 (0, 0)))
    (hT : W.heap[Tb]? = some (.cells (presCells res) 42 (0, 0))) (hlt : Pb < Tb) (hPb : w.heap.size + 1 + 1 + 1 < Pb) (hrow : PRow W vq q) (hl : ∀ k, vq.ownBlock = some k → Pb < k) :
    RX w (W.setCell ⟨Pb, 3, none⟩ vq) es a n c opc Pb Tb ow pe ⟨ow, pe, lo, q⟩ res := by
  obtain ⟨aq, cq, rfl, hn, hp⟩ := hrow.form
  have hlt2 : ∀ g off, aq = some ⟨g, off, none⟩ → Pb < g ∧ g < W.heap.size := fun g off e => ⟨hl g (by rw [e]; rfl), (World.ownsRow.lt hrow g (by rw [e]; rfl)).2⟩
  refine ⟨aq, _, cq, h.grown (grown_setCell _ _ _ _) (fun k hk => by cases hk; omega), heap_setCell_same hP 3 _, (Below.heap_setCell _ _ _ _ (by show Tb ≠ Pb; omega)).trans hT, .inr ⟨hp.grown (grown_setCell W Pb 3 _) (fun g off e e2 => ?_), fun g off e => ?_⟩, hn⟩
  · have := hlt2 g off e
    have := Option.some.inj e2
    omega
  · have := hlt2 g off e
    simp only [World.size_setCell]
    omega
theorem q_end {w U wb wd : World} {es : List EntT} {aq : Option Addr} {nq B : Nat} {q : List PackT} {row : Option Nat} (h : (PSl w aq nq q ∧ ∃ e ∈ es, e.a = aq) ∨ (PSl U aq nq q ∧ ∀ g off, aq = some ⟨g, off, none⟩ → B < g ∧ g < U.heap.size)) (hb : Below U.heap.size U wb) (hg : wb.grownBy wd row) (hr : ∀ k, row = some k → U.heap.size ≤ k) :
    (PSl w aq nq q ∧ ∃ e ∈ es, e.a = aq) ∨ (PSl wd aq nq q ∧ ∀ g off, aq = some ⟨g, off, none⟩ → B < g ∧ g < wd.heap.size) := by
  rcases h with h | ⟨h1, h2⟩
  · exact .inl h
  refine .inr ⟨⟨h1.1, fun h0 => ?_⟩, fun g off e => by have := h2 g off e; have := hb.size; have := hg.size; omega⟩
  obtain ⟨g, off, ha, hc⟩ := (h1.later hb).2 h0
  obtain ⟨g', off', ha', hc'⟩ := h1.2 h0
  rw [ha] at ha'
  cases ha'
  have hlt : g < U.heap.size := World.block_lt_of_cell? U ⟨g, _, none⟩ (hc' 0 h0).1
  refine ⟨g, off, ha, fun j hj => ?_⟩
  have hlb : g < wb.heap.size := World.block_lt_of_cell? wb ⟨g, _, none⟩ (hc j hj).1
  have hbl := hg.block g hlb (fun e => by have := hr g e.symm; omega)
  exact ⟨(World.cell?_of_block (a := ⟨g, _, none⟩) hbl).trans (hc j hj).1, (World.cell?_of_block (a := ⟨g, _, none⟩) hbl).trans (hc j hj).2⟩
/-- What lies ready while the queue is made anew. -/
structure QB (w W : World) (a : Option Addr) (n c : Nat) (opc : Array Value) (Pb Tb Ab : Nat) (pc tc : Array Value) (oA : Obj) : Prop where
  ex : EX w W a n c opc
  hp : W.heap[Pb]? = some (.cells pc 80 (0, 0))
  ht : W.heap[Tb]? = some (.cells tc 42 (0, 0))
  ha : W.heap[Ab]? = some oA
  ord : w.heap.size + 1 + 1 + 1 < Pb ∧ Pb < Tb ∧ Ab < Tb
theorem lt_of_get {w : World} {k : Nat} {o : Obj} (h : w.heap[k]? = some o) : k < w.heap.size := (Array.getElem?_eq_some_iff.1 h).1
section
variable {w W W' : World} {a : Option Addr} {n c : Nat} {opc : Array Value} {Pb Tb Ab : Nat} {pc tc : Array Value} {oA : Obj}
theorem QB.later (h : QB w W a n c opc Pb Tb Ab pc tc oA) (hb : Below W.heap.size W W') : QB w W' a n c opc Pb Tb Ab pc tc oA :=
  ⟨h.ex.later hb, (hb.block _ (lt_of_get h.hp)).trans h.hp, (hb.block _ (lt_of_get h.ht)).trans h.ht, (hb.block _ (lt_of_get h.ha)).trans h.ha, h.ord⟩
theorem QB.alloc (h : QB w W a n c opc Pb Tb Ab pc tc oA) (o : Obj) : QB w (W.alloc o) a n c opc Pb Tb Ab pc tc oA := h.later ((Below.refl _ _).alloc (Nat.le_refl _) _)
theorem QB.drew (h : QB w W a n c opc Pb Tb Ab pc tc oA) : QB w W.drew a n c opc Pb Tb Ab pc tc oA := h.later (Below.refl _ _).drew
theorem QB.grown (h : QB w W a n c opc Pb Tb Ab pc tc oA) {row : Option Nat} (hg : W.grownBy W' row) (hr : ∀ k, row = some k → Tb < k) : QB w W' a n c opc Pb Tb Ab pc tc oA := by
  obtain ⟨o1, o2, o3⟩ := h.ord
  have hne : ∀ k, k ≤ Tb → some k ≠ row := fun k hk e => by have := hr k e.symm; omega
  exact ⟨h.ex.grown hg (fun k hk => by have := hr k hk; omega), (hg.block _ (lt_of_get h.hp) (hne _ (by omega))).trans h.hp, (hg.block _ (lt_of_get h.ht) (hne _ (by omega))).trans h.ht, (hg.block _ (lt_of_get h.ha) (hne _ (by omega))).trans h.ha, h.ord⟩
end
theorem own_ge {v : Value} {B X Y : Nat} (h : v.ownBlock = some X ∨ v.ownBlock = some Y) (hx : B ≤ X) (hy : B ≤ Y) : ∀ k, v.ownBlock = some k → B ≤ k := fun k hk => by
  rcases h with h | h
  · rw [hk] at h; have := Option.some.inj h; omega
  · rw [hk] at h; have := Option.some.inj h; omega
theorem own_ge2 {v : Value} {B g N n c : Nat} (h : v.ownBlock = some g ∨ g = N) (hx : ∀ k, v.ownBlock = some k → B ≤ k) (hy : B ≤ N) : ∀ k, (Value.slice (some ⟨g, 0, none⟩) n c).ownBlock = some k → B ≤ k := fun k hk => by
  have hk : g = k := Option.some.inj hk
  rcases h with h | h
  · have := hx g h; omega
  · omega
theorem head0 {w : World} {qg qo n : Nat} {ls : List PackT} {xs xb : ByteArray} (h : PSl w (some ⟨qg, qo, none⟩) n ls) (h0 : 0 < n) (hx : ls.getD 0 zeroPk = ⟨xs, xb⟩) : w.cell? ⟨qg, qo, none⟩ = some (.string xs) ∧ w.cell? ⟨qg, qo + 1, none⟩ = some (.string xb) ∧ PSl w (some ⟨qg, qo + 2, none⟩) (n - 1) (ls.drop 1) := by
  obtain ⟨g, off, e, hc⟩ := h.2 h0
  cases e
  have h1 := hc 0 h0
  rw [hx, Nat.zero_mul, Nat.add_zero] at h1
  exact ⟨h1.1, h1.2, PSl.tail h.1 hc⟩
set_option linter.unusedSimpArgs false in
set_option maxRecDepth 100000 in
set_option maxHeartbeats 3200000 in
theorem ex_full (a : Option Addr) (n c : Nat) (es : List EntT) (kd wh us : Nat) (nu ep : Int) (sr by_ : ByteArray) (w : World) (hl : EntR w a n es) (hn : n ≤ 1000) (hsr : sr.size ≤ 9223372036854775807) (hby : by_.size ≤ 9223372036854775807) (xn : Int) (ow : ByteArray) (pe lo : Int) (ls : List PackT) (qa : Option Addr) (qn qc : Nat) (hfe : findE es nu ep = some ⟨xn, ⟨ow, pe, lo, ls⟩, qa, qn, qc⟩) (hr1 : 1 ≤ nu) (hr2 : nu ≤ 9999) (he : numB ep = true) (hk : kd % 5 = 2) (hq : packE ⟨cut sr 60, cut by_ 600⟩ = 0) (h16 : qn = 16) (hlo1 : 0 ≤ lo) (hlo2 : lo < 1073741824) (hps : PSl w qa qn ls) (hnil : NilC qa qn qc) :
    Calls Tryz.prog 21 #[.agg #[.slice a n c], .agg #[.int .u8 kd, .int .u8 wh, .int .u8 us, .int .i64 nu, .int .i64 ep, .string sr, .string by_]] w (EPost w a es nu (some ⟨ow, pe, lo + 1, ls⟩, ⟨zeroPk, ⟨#[]⟩, 9⟩, 2)) := by
  have hk' : (kd : Int) % 5 = 2 := by omega
  have He := Lib.hid he; clear hk he
  have Hq := Lib.hid hq; clear hq
  have H16 := Lib.hid h16; clear h16
  have Hps := Lib.hid hps; clear hps
  have Hnil := Lib.hid hnil; clear hnil
  have Hqe : Hid (∃ e ∈ es, e.a = qa) := ⟨_, List.mem_of_find?_eq_some hfe, rfl⟩
  have hcs : (cut sr 60).size ≤ 9223372036854775807 := by have := (cut_size sr 60).2; omega
  have hcb : (cut by_ 600).size ≤ 9223372036854775807 := by have := (cut_size by_ 600).2; omega
  have hgv : getV (findE es nu ep) = .tuple #[.agg #[.string ow, .int .i64 pe, .int .i64 lo, .slice qa qn qc], .bool true] := by rw [hfe]; rfl
  have Hgv := Lib.hid hgv; clear hgv
  have Hl := Lib.hid hl; clear hl
  have D0 := Lib.hid (EX.start w a n c #[.int .u8 kd, .int .u8 wh, .int .u8 us, .int .i64 nu, .int .i64 ep, .string sr, .string by_])
  go_enter Tryz.func21, Tryz.ntmps21
  go_wp2_with fail
  generalize (((w.alloc (.cells #[.slice a n c] 30)).alloc (.cells #[.int .u8 kd, .int .u8 wh, .int .u8 us, .int .i64 nu, .int .i64 ep, .string sr, .string by_] 35)).alloc (.cells #[.string ⟨#[]⟩, .string ⟨#[]⟩, .string ⟨#[]⟩, .int .i64 0] 42)).alloc (.cells #[.slice none 0 0] 30) = W at *
  refine (get_any37 a n c es nu ep W (Hl.out.later D0.out.below) (by omega)).mono ?_
  rintro r w1 ⟨rfl, hb1⟩
  rw [Hgv.out]
  have D1 := Lib.hid (D0.out.later hb1)
  clear hb1 D0 Hgv
  have D1a : Hid (∀ o, EX w (w1.alloc o) a n c #[.int .u8 kd, .int .u8 wh, .int .u8 us, .int .i64 nu, .int .i64 ep, .string sr, .string by_]) := fun o => D1.out.later ((Below.refl _ _).alloc (Nat.le_refl _) _)
  have HP1 : Hid (∀ o, (w1.alloc o).heap[w1.heap.size]? = some o) := fun o => heap_alloc_new w1 o
  have hPb : w.heap.size + 1 + 1 + 1 < w1.heap.size := lt_of_heap D1.out.mo
  have o5 : w1.cell? ⟨w.heap.size + 1, 5, none⟩ = some (.string sr) := cell_of_heap D1.out.op 5
  have o6 : w1.cell? ⟨w.heap.size + 1, 6, none⟩ = some (.string by_) := cell_of_heap D1.out.op 6
  have hne5 := World.new_ne w1 ⟨w.heap.size + 1, 5, none⟩ o5
  have hlt5 := lt_of_heap D1.out.op
  go_wp2_with fail
  refine (small_any sr by_ _ hsr hby).mono ?_
  rintro r w3 ⟨rfl, hb3⟩
  have D3 := Lib.hid ((D1a.out _).later hb3)
  have HP3 := Lib.hid ((hb3.block _ (lt_of_heap (HP1.out _))).trans (HP1.out (.cells #[.string ow, .int .i64 pe, .int .i64 lo, .slice qa qn qc] 80)))
  clear hb3 D1a HP1 o5 o6 hne5 hlt5 D1
  have D4 : Hid (∀ o, EX w (w3.alloc o) a n c #[.int .u8 kd, .int .u8 wh, .int .u8 us, .int .i64 nu, .int .i64 ep, .string sr, .string by_]) := fun o => D3.out.later ((Below.refl _ _).alloc (Nat.le_refl _) _)
  have HP4 : Hid (∀ o, (w3.alloc o).heap[w1.heap.size]? = some (.cells #[.string ow, .int .i64 pe, .int .i64 lo, .slice qa qn qc] 80 (0, 0))) := fun o => (Below.heap_alloc w3 o _ (lt_of_heap HP3.out)).trans HP3.out
  have HA4 : Hid (∀ o, (w3.alloc o).heap[w3.heap.size]? = some o) := fun o => heap_alloc_new w3 o
  have hAb : w1.heap.size < w3.heap.size := lt_of_heap HP3.out
  clear D3 HP3
  go_upto_region 4 with fail
  have E := Lib.hid (D4.out (.cells #[.string (cut sr 60), .string (cut by_ 600)] 33))
  have HP := Lib.hid (HP4.out (.cells #[.string (cut sr 60), .string (cut by_ 600)] 33))
  have HA := Lib.hid (HA4.out (.cells #[.string (cut sr 60), .string (cut by_ 600)] 33))
  clear D4 HP4 HA4
  generalize w3.alloc (.cells #[.string (cut sr 60), .string (cut by_ 600)] 33) = V at *
  clear hfe
  have b0 := cell_of_heap E.out.bx 0
  have o1 := cell_of_heap E.out.op 1
  have o2 := cell_of_heap E.out.op 2
  have o3 := cell_of_heap E.out.op 3
  have o4 := cell_of_heap E.out.op 4
  have a0 := cell_of_heap HA.out 0
  have a1 := cell_of_heap HA.out 1
  go_wp2_with fail
  refine (lNumber_is ep _ He.out _).mono ?_
  rintro r w6 ⟨rfl, rfl⟩
  go_wp2_with fail
  refine (lPack_is _ _ 0 Hq.out _ hcs hcb).mono ?_
  rintro r w7 ⟨rfl, hb7⟩
  have E7 := Lib.hid (E.out.later hb7)
  have HA7 := Lib.hid ((hb7.block _ (lt_of_heap HA.out)).trans HA.out)
  have HP7 := Lib.hid ((hb7.block _ (lt_of_heap HP.out)).trans HP.out)
  clear hb7 b0 o1 o2 o3 o4 a0 a1
  go_upto_region 16 with fail
  refine wp_region_held_drew (S := fun _ => True) (by kernel_rfl) trivial (fun hHeld => ?_)
  refine wpAnyH_take (i := 0) (v := ?_) rfl (by kernel_rfl) (by kernel_rfl) (by kernel_rfl) (fun _ _ _ h => h) (Or.inl ⟨by rfl, ?_⟩) (by assumption) ?_
  rotate_left
  · (intro wx hSw; (try dsimp only at hSw); go_simp <;> with_reducible rfl)
  try simp only [Act.put, List.setIfInBounds_toArray, List.set_cons_zero, List.set_cons_succ, List.getElem_toArray, List.getElem_cons_zero, List.getElem_cons_succ]
  refine wpAnyH_take (i := 1) (v := ?_) rfl (by kernel_rfl) (by kernel_rfl) (by kernel_rfl) (fun _ _ _ h => h) (Or.inl ⟨by rfl, ?_⟩) (by assumption) ?_
  rotate_left
  · (intro wx hSw; (try dsimp only at hSw); go_simp <;> with_reducible rfl)
  try simp only [Act.put, List.setIfInBounds_toArray, List.set_cons_zero, List.set_cons_succ, List.getElem_toArray, List.getElem_cons_zero, List.getElem_cons_succ]
  refine wpAnyH_take (i := 2) (v := ?_) rfl (by kernel_rfl) (by kernel_rfl) (by kernel_rfl) (fun _ _ _ h => h) (Or.inl ⟨by rfl, ?_⟩) (by assumption) ?_
  rotate_left
  · (intro wx hSw; (try dsimp only at hSw); go_simp <;> with_reducible rfl)
  try simp only [Act.put, List.setIfInBounds_toArray, List.set_cons_zero, List.set_cons_succ, List.getElem_toArray, List.getElem_cons_zero, List.getElem_cons_succ]
  refine wpAnyH_take (i := 3) (v := ?_) rfl (by kernel_rfl) (by kernel_rfl) (by kernel_rfl) (fun _ _ _ h => h) (Or.inl ⟨by rfl, ?_⟩) (by assumption) ?_
  rotate_left
  · (intro wx hSw; (try dsimp only at hSw); go_simp <;> with_reducible rfl)
  try simp only [Act.put, List.setIfInBounds_toArray, List.set_cons_zero, List.set_cons_succ, List.getElem_toArray, List.getElem_cons_zero, List.getElem_cons_succ]
  refine wpAnyH_take (i := 4) (v := ?_) rfl (by kernel_rfl) (by kernel_rfl) (by kernel_rfl) (fun _ _ _ h => h) (Or.inl ⟨by rfl, ?_⟩) (by assumption) ?_
  rotate_left
  · (intro wx hSw; (try dsimp only at hSw); go_simp <;> with_reducible rfl)
  try simp only [Act.put, List.setIfInBounds_toArray, List.set_cons_zero, List.set_cons_succ, List.getElem_toArray, List.getElem_cons_zero, List.getElem_cons_succ]
  refine wpAnyH_take (i := 5) (v := ?_) rfl (by kernel_rfl) (by kernel_rfl) (by kernel_rfl) (fun _ _ _ h => h) (Or.inl ⟨by rfl, ?_⟩) (by assumption) ?_
  rotate_left
  · (intro wx hSw; (try dsimp only at hSw); go_simp <;> with_reducible rfl)
  try simp only [Act.put, List.setIfInBounds_toArray, List.set_cons_zero, List.set_cons_succ, List.getElem_toArray, List.getElem_cons_zero, List.getElem_cons_succ]
  refine wpAnyH_take (i := 6) (v := ?_) rfl (by kernel_rfl) (by kernel_rfl) (by kernel_rfl) (fun _ _ _ h => h) (Or.inl ⟨by rfl, ?_⟩) (by assumption) ?_
  rotate_left
  · (intro wx hSw; (try dsimp only at hSw); go_simp <;> with_reducible rfl)
  try simp only [Act.put, List.setIfInBounds_toArray, List.set_cons_zero, List.set_cons_succ, List.getElem_toArray, List.getElem_cons_zero, List.getElem_cons_succ]
  refine wpAnyH_take (i := 7) (v := undef) rfl (by kernel_rfl) (by kernel_rfl) (by kernel_rfl) (fun _ _ _ h => h) (Or.inr ⟨by simp [Region.wanted, yielded], rfl⟩) (by assumption) ?_
  try simp only [Act.put, List.setIfInBounds_toArray, List.set_cons_zero, List.set_cons_succ, List.getElem_toArray, List.getElem_cons_zero, List.getElem_cons_succ]
  refine wpAnyH_take (i := 8) (v := undef) rfl (by kernel_rfl) (by kernel_rfl) (by kernel_rfl) (fun _ _ _ h => h) (Or.inr ⟨by simp [Region.wanted, yielded], rfl⟩) (by assumption) ?_
  try simp only [Act.put, List.setIfInBounds_toArray, List.set_cons_zero, List.set_cons_succ, List.getElem_toArray, List.getElem_cons_zero, List.getElem_cons_succ]
  refine wpAnyH_take (i := 9) (v := undef) rfl (by kernel_rfl) (by kernel_rfl) (by kernel_rfl) (fun _ _ _ h => h) (Or.inr ⟨by simp [Region.wanted, yielded], rfl⟩) (by assumption) ?_
  try simp only [Act.put, List.setIfInBounds_toArray, List.set_cons_zero, List.set_cons_succ, List.getElem_toArray, List.getElem_cons_zero, List.getElem_cons_succ]
  refine wpAnyH_take (i := 10) (v := undef) rfl (by kernel_rfl) (by kernel_rfl) (by kernel_rfl) (fun _ _ _ h => h) (Or.inr ⟨by simp [Region.wanted, yielded], rfl⟩) (by assumption) ?_
  try simp only [Act.put, List.setIfInBounds_toArray, List.set_cons_zero, List.set_cons_succ, List.getElem_toArray, List.getElem_cons_zero, List.getElem_cons_succ]
  refine wpAnyH_take (i := 11) (v := undef) rfl (by kernel_rfl) (by kernel_rfl) (by kernel_rfl) (fun _ _ _ h => h) (Or.inr ⟨by simp [Region.wanted, yielded], rfl⟩) (by assumption) ?_
  try simp only [Act.put, List.setIfInBounds_toArray, List.set_cons_zero, List.set_cons_succ, List.getElem_toArray, List.getElem_cons_zero, List.getElem_cons_succ]
  refine wpAnyH_take (i := 12) (v := undef) rfl (by kernel_rfl) (by kernel_rfl) (by kernel_rfl) (fun _ _ _ h => h) (Or.inr ⟨by simp [Region.wanted, yielded], rfl⟩) (by assumption) ?_
  try simp only [Act.put, List.setIfInBounds_toArray, List.set_cons_zero, List.set_cons_succ, List.getElem_toArray, List.getElem_cons_zero, List.getElem_cons_succ]
  refine wpAnyH_take (i := 13) (v := ?_) rfl (by kernel_rfl) (by kernel_rfl) (by kernel_rfl) (fun _ _ _ h => h) (Or.inl ⟨by rfl, ?_⟩) (by assumption) ?_
  rotate_left
  · (intro wx hSw; (try dsimp only at hSw); go_simp <;> with_reducible rfl)
  try simp only [Act.put, List.setIfInBounds_toArray, List.set_cons_zero, List.set_cons_succ, List.getElem_toArray, List.getElem_cons_zero, List.getElem_cons_succ]
  refine wpAnyH_take (i := 14) (v := ?_) rfl (by kernel_rfl) (by kernel_rfl) (by kernel_rfl) (fun _ _ _ h => h) (Or.inl ⟨by rfl, ?_⟩) (by assumption) ?_
  rotate_left
  · (intro wx hSw; (try dsimp only at hSw); go_simp <;> with_reducible rfl)
  try simp only [Act.put, List.setIfInBounds_toArray, List.set_cons_zero, List.set_cons_succ, List.getElem_toArray, List.getElem_cons_zero, List.getElem_cons_succ]
  refine wpAnyH_done (by kernel_rfl) ?_ _
  have Hal : Hid (∀ o, EX w (w7.alloc o).drew a n c #[.int .u8 kd, .int .u8 wh, .int .u8 us, .int .i64 nu, .int .i64 ep, .string sr, .string by_]) := fun o => (E7.out.later ((Below.refl _ _).alloc (Nat.le_refl _) _)).drew
  have HPa : Hid (∀ o, (w7.alloc o).drew.heap[w1.heap.size]? = some (.cells #[.string ow, .int .i64 pe, .int .i64 lo, .slice qa qn qc] 80 (0, 0))) := fun o => (Below.heap_alloc w7 o _ (lt_of_heap HP7.out)).trans HP7.out
  have HTa : Hid (∀ o, (w7.alloc o).drew.heap[w7.heap.size]? = some o) := fun o => heap_alloc_new w7 o
  have HAa : Hid (∀ o, (w7.alloc o).drew.heap[w3.heap.size]? = some (.cells #[.string (cut sr 60), .string (cut by_ 600)] 33 (0, 0))) := fun o => (Below.heap_alloc w7 o _ (lt_of_heap HA7.out)).trans HA7.out
  have hPT : w1.heap.size < w7.heap.size := lt_of_heap HP7.out
  have hAT : w3.heap.size < w7.heap.size := lt_of_heap HA7.out
  go_upto_block 1 with fail
  have E1 := Lib.hid (Hal.out (.cells #[.string ⟨#[]⟩, .string ⟨#[]⟩, .string ⟨#[]⟩, .int .i64 0] 42))
  have HP1 := Lib.hid (HPa.out (.cells #[.string ⟨#[]⟩, .string ⟨#[]⟩, .string ⟨#[]⟩, .int .i64 0] 42))
  have HT1 := Lib.hid (HTa.out (.cells #[.string ⟨#[]⟩, .string ⟨#[]⟩, .string ⟨#[]⟩, .int .i64 0] 42))
  have HA1 := Lib.hid (HAa.out (.cells #[.string ⟨#[]⟩, .string ⟨#[]⟩, .string ⟨#[]⟩, .int .i64 0] 42))
  clear Hal HPa HTa HAa E HP HA E7 HA7 HP7
  generalize (w7.alloc (.cells #[.string ⟨#[]⟩, .string ⟨#[]⟩, .string ⟨#[]⟩, .int .i64 0] 42)).drew = U1 at *
  go_cut [157] (fun _ wx => Hid (RX w wx es a n c #[.int .u8 kd, .int .u8 wh, .int .u8 us, .int .i64 nu, .int .i64 ep, .string sr, .string by_] w1.heap.size w7.heap.size ow pe ⟨ow, pe, lo + 1, ls⟩ ⟨zeroPk, ⟨#[]⟩, 9⟩))
  case first =>
    have p2 : U1.cell? ⟨w1.heap.size, 2, none⟩ = some (.int .i64 lo) := cell_of_heap HP1.out 2
    have p3 : U1.cell? ⟨w1.heap.size, 3, none⟩ = some (.slice qa qn qc) := cell_of_heap HP1.out 3
    have f2 : U1.frozen? ⟨w1.heap.size, 2, none⟩ = false := frozen_of_heap HP1.out 2
    have t3 : U1.cell? ⟨w7.heap.size, 3, none⟩ = some (.int .i64 0) := cell_of_heap HT1.out 3
    have k3 : U1.frozen? ⟨w7.heap.size, 3, none⟩ = false := frozen_of_heap HT1.out 3
    have h16 : ((qn : Int) == 16) = true := by rw [H16.out]; rfl
    have hneT : w1.heap.size ≠ w7.heap.size := by omega
    go_wp2
    go_meet
    exact RX.full E1.out HP1.out HT1.out (by omega) hPb Hps.out Hqe.out Hnil.out
  case rest =>
    obtain ⟨aq, nq, cq, hE, hP, hT, hq, hnil⟩ := hcut
    have E := Lib.hid hE
    have HP := Lib.hid hP
    have HT := Lib.hid hT
    have Hq := Lib.hid hq
    have Hnil2 := Lib.hid hnil
    clear hE hP hT hq hnil
    have hUb : w.heap.size + 1 + 1 + 1 < wc.heap.size := lt_of_heap E.out.mo
    have zb0 : wc.cell? ⟨w.heap.size, 0, none⟩ = some (.slice a n c) := cell_of_heap E.out.bx 0
    have zo3 : wc.cell? ⟨w.heap.size + 1, 3, none⟩ = some (.int .i64 nu) := cell_of_heap E.out.op 3
    have zt0 : wc.cell? ⟨w7.heap.size, 0, none⟩ = some (.string ⟨#[]⟩) := cell_of_heap HT.out 0
    have zt1 : wc.cell? ⟨w7.heap.size, 1, none⟩ = some (.string ⟨#[]⟩) := cell_of_heap HT.out 1
    have zt2 : wc.cell? ⟨w7.heap.size, 2, none⟩ = some (.string ⟨#[]⟩) := cell_of_heap HT.out 2
    have zt3 : wc.cell? ⟨w7.heap.size, 3, none⟩ = some (.int .i64 9) := cell_of_heap HT.out 3
    have zp0 : wc.cell? ⟨w1.heap.size, 0, none⟩ = some (.string ow) := cell_of_heap HP.out 0
    have zp1 : wc.cell? ⟨w1.heap.size, 1, none⟩ = some (.int .i64 pe) := cell_of_heap HP.out 1
    have zp2 : wc.cell? ⟨w1.heap.size, 2, none⟩ = some (.int .i64 (lo + 1)) := cell_of_heap HP.out 2
    have zp3 : wc.cell? ⟨w1.heap.size, 3, none⟩ = some (.slice aq nq cq) := cell_of_heap HP.out 3
    have Hlen : Hid ((sansE es nu).length ≤ 1000000) := sansE_len Hl.out.1 hn nu
    have EA : Hid (∀ o, EX w (wc.alloc o).drew a n c #[.int .u8 kd, .int .u8 wh, .int .u8 us, .int .i64 nu, .int .i64 ep, .string sr, .string by_]) := fun o => (E.out.later ((Below.refl _ _).alloc (Nat.le_refl _) _)).drew
    have hTb := lt_of_heap HT.out
    have hPb2 := lt_of_heap HP.out
    go_wp2_with fail
    go_region_held3 (fun W => W.cell? ⟨w.heap.size, 0, none⟩ = some (.slice a n c) ∧ W.cell? ⟨w.heap.size + 1, 3, none⟩ = some (.int .i64 nu) ∧ W.cell? ⟨w7.heap.size, 0, none⟩ = some (.string ⟨#[]⟩) ∧ W.cell? ⟨w7.heap.size, 1, none⟩ = some (.string ⟨#[]⟩) ∧ W.cell? ⟨w7.heap.size, 2, none⟩ = some (.string ⟨#[]⟩) ∧ W.cell? ⟨w7.heap.size, 3, none⟩ = some (.int .i64 9) ∧ W.cell? ⟨w1.heap.size, 0, none⟩ = some (.string ow) ∧ W.cell? ⟨w1.heap.size, 1, none⟩ = some (.int .i64 pe) ∧ W.cell? ⟨w1.heap.size, 2, none⟩ = some (.int .i64 (lo + 1)) ∧ W.cell? ⟨w1.heap.size, 3, none⟩ = some (.slice aq nq cq)) (first | with_reducible exact S1.out | with_reducible exact S3.out | with_reducible exact ⟨zb0, zo3, zt0, zt1, zt2, zt3, zp0, zp1, zp2, zp3⟩ | with_reducible exact ⟨cell_al S1.out.1 _, cell_al S1.out.2.1 _, cell_al S1.out.2.2.1 _, cell_al S1.out.2.2.2.1 _, cell_al S1.out.2.2.2.2.1 _, cell_al S1.out.2.2.2.2.2.1 _, cell_al S1.out.2.2.2.2.2.2.1 _, cell_al S1.out.2.2.2.2.2.2.2.1 _, cell_al S1.out.2.2.2.2.2.2.2.2.1 _, cell_al S1.out.2.2.2.2.2.2.2.2.2 _⟩ | with_reducible exact ⟨cell_set4 S3.out.1 (by omega) _ _ _ _, cell_set4 S3.out.2.1 (by omega) _ _ _ _, cell_set4 S3.out.2.2.1 (by omega) _ _ _ _, cell_set4 S3.out.2.2.2.1 (by omega) _ _ _ _, cell_set4 S3.out.2.2.2.2.1 (by omega) _ _ _ _, cell_set4 S3.out.2.2.2.2.2.1 (by omega) _ _ _ _, cell_set4 S3.out.2.2.2.2.2.2.1 (by omega) _ _ _ _, cell_set4 S3.out.2.2.2.2.2.2.2.1 (by omega) _ _ _ _, cell_set4 S3.out.2.2.2.2.2.2.2.2.1 (by omega) _ _ _ _, cell_set4 S3.out.2.2.2.2.2.2.2.2.2 (by omega) _ _ _ _⟩ | with_reducible exact ⟨cell_set1 (cell_set4 S3.out.1 (by omega) _ _ _ _) (by omega) _, cell_set1 (cell_set4 S3.out.2.1 (by omega) _ _ _ _) (by omega) _, cell_set1 (cell_set4 S3.out.2.2.1 (by omega) _ _ _ _) (by omega) _, cell_set1 (cell_set4 S3.out.2.2.2.1 (by omega) _ _ _ _) (by omega) _, cell_set1 (cell_set4 S3.out.2.2.2.2.1 (by omega) _ _ _ _) (by omega) _, cell_set1 (cell_set4 S3.out.2.2.2.2.2.1 (by omega) _ _ _ _) (by omega) _, cell_set1 (cell_set4 S3.out.2.2.2.2.2.2.1 (by omega) _ _ _ _) (by omega) _, cell_set1 (cell_set4 S3.out.2.2.2.2.2.2.2.1 (by omega) _ _ _ _) (by omega) _, cell_set1 (cell_set4 S3.out.2.2.2.2.2.2.2.2.1 (by omega) _ _ _ _) (by omega) _, cell_set1 (cell_set4 S3.out.2.2.2.2.2.2.2.2.2 (by omega) _ _ _ _) (by omega) _⟩ | with_reducible exact ⟨cell_al zb0 _, cell_al zo3 _, cell_al zt0 _, cell_al zt1 _, cell_al zt2 _, cell_al zt3 _, cell_al zp0 _, cell_al zp1 _, cell_al zp2 _, cell_al zp3 _⟩ | go_keep)
      (first
        | (go_at_call 43; refine (without_any37 a n c es nu _ (Hl.out.later (EA.out _).below) (by omega)).mono ?_; rintro r wb ⟨vb, rfl, hrowb, hbb⟩; have Eb := Lib.hid ((EA.out _).later hbb); have HBw : Hid (Below wc.heap.size wc wb) := (((Below.refl _ _).alloc (Nat.le_refl _) _).drew).trans (hbb.mono (by simp)); have HTb := Lib.hid ((HBw.out.block _ (lt_of_heap HT.out)).trans HT.out); have HPb := Lib.hid ((HBw.out.block _ (lt_of_heap HP.out)).trans HP.out); have Hob : Hid (ERow wc.heap.size wb vb (sansE es nu)) := hrowb.down (by simp); have S1 : Hid (wb.cell? ⟨w.heap.size, 0, none⟩ = some (.slice a n c) ∧ wb.cell? ⟨w.heap.size + 1, 3, none⟩ = some (.int .i64 nu) ∧ wb.cell? ⟨w7.heap.size, 0, none⟩ = some (.string ⟨#[]⟩) ∧ wb.cell? ⟨w7.heap.size, 1, none⟩ = some (.string ⟨#[]⟩) ∧ wb.cell? ⟨w7.heap.size, 2, none⟩ = some (.string ⟨#[]⟩) ∧ wb.cell? ⟨w7.heap.size, 3, none⟩ = some (.int .i64 9) ∧ wb.cell? ⟨w1.heap.size, 0, none⟩ = some (.string ow) ∧ wb.cell? ⟨w1.heap.size, 1, none⟩ = some (.int .i64 pe) ∧ wb.cell? ⟨w1.heap.size, 2, none⟩ = some (.int .i64 (lo + 1)) ∧ wb.cell? ⟨w1.heap.size, 3, none⟩ = some (.slice aq nq cq)) := ⟨cell_of_heap Eb.out.bx 0, cell_of_heap Eb.out.op 3, cell_of_heap HTb.out 0, cell_of_heap HTb.out 1, cell_of_heap HTb.out 2, cell_of_heap HTb.out 3, cell_of_heap HPb.out 0, cell_of_heap HPb.out 1, cell_of_heap HPb.out 2, cell_of_heap HPb.out 3⟩; have Bb : Hid (wc.heap.size ≤ wb.heap.size) := HBw.out.size; have HEb := Lib.hid ((hbb.block wc.heap.size (by simp)).trans (heap_alloc_new wc (.cells #[.int .i64 nu, .string ow, .int .i64 pe, .int .i64 (lo + 1), .slice aq nq cq] 82))); clear hrowb hbb)
        | (go_at_call 43; refine (without_any37 a n c es nu _ (Hl.out.later E.out.drew.below) (by omega)).mono ?_; rintro r wb ⟨vb, rfl, hrowb, hbb⟩; have Eb := Lib.hid (E.out.drew.later hbb); have HBw : Hid (Below wc.heap.size wc wb) := (Below.refl _ _).drew.trans hbb; have HTb := Lib.hid ((HBw.out.block _ (lt_of_heap HT.out)).trans HT.out); have HPb := Lib.hid ((HBw.out.block _ (lt_of_heap HP.out)).trans HP.out); have Hob : Hid (ERow wc.heap.size wb vb (sansE es nu)) := hrowb.down (by simp); have S1 : Hid (wb.cell? ⟨w.heap.size, 0, none⟩ = some (.slice a n c) ∧ wb.cell? ⟨w.heap.size + 1, 3, none⟩ = some (.int .i64 nu) ∧ wb.cell? ⟨w7.heap.size, 0, none⟩ = some (.string ⟨#[]⟩) ∧ wb.cell? ⟨w7.heap.size, 1, none⟩ = some (.string ⟨#[]⟩) ∧ wb.cell? ⟨w7.heap.size, 2, none⟩ = some (.string ⟨#[]⟩) ∧ wb.cell? ⟨w7.heap.size, 3, none⟩ = some (.int .i64 9) ∧ wb.cell? ⟨w1.heap.size, 0, none⟩ = some (.string ow) ∧ wb.cell? ⟨w1.heap.size, 1, none⟩ = some (.int .i64 pe) ∧ wb.cell? ⟨w1.heap.size, 2, none⟩ = some (.int .i64 (lo + 1)) ∧ wb.cell? ⟨w1.heap.size, 3, none⟩ = some (.slice aq nq cq)) := ⟨cell_of_heap Eb.out.bx 0, cell_of_heap Eb.out.op 3, cell_of_heap HTb.out 0, cell_of_heap HTb.out 1, cell_of_heap HTb.out 2, cell_of_heap HTb.out 3, cell_of_heap HPb.out 0, cell_of_heap HPb.out 1, cell_of_heap HPb.out 2, cell_of_heap HPb.out 3⟩; have Bb : Hid (wc.heap.size ≤ wb.heap.size) := HBw.out.size; clear hrowb hbb)
        | (refine step_append_ent (by rfl) _ _ (by rfl) wc.heap.size vb (sansE es nu) (by rfl) (World.ownsRow.alloc Hob.out _) ⟨nu, ⟨ow, pe, lo + 1, ls⟩, aq, nq, cq⟩ wb.heap.size (by rfl) (heap_alloc_new wb _) Hlen.out (by have := Bb.out; simp; omega) ?_; intro g n8 cap wd hrowd hnd hgd hatd; have Hod := Lib.hid hrowd; have Hnd : Hid (n8 = (sansE es nu ++ [(⟨nu, ⟨ow, pe, lo + 1, ls⟩, aq, nq, cq⟩ : EntT)]).length) := (by show _ = _; rw [List.length_append]; exact hnd); have Ed := Lib.hid ((Eb.out.later ((Below.refl _ _).alloc (Nat.le_refl _) _)).grown hgd (fun k hk => by have := (World.ownsRow.lt Hob.out k hk).1; have := hUb; omega)); have HTd := Lib.hid ((hgd.block _ (by have := lt_of_heap HTb.out; simp; omega) (fun e => by have := (World.ownsRow.lt Hob.out _ e.symm).1; have := hTb; have := hPb2; omega)).trans ((Below.heap_alloc wb _ _ (lt_of_heap HTb.out)).trans HTb.out)); have HPd := Lib.hid ((hgd.block _ (by have := lt_of_heap HPb.out; simp; omega) (fun e => by have := (World.ownsRow.lt Hob.out _ e.symm).1; have := hTb; have := hPb2; omega)).trans ((Below.heap_alloc wb _ _ (lt_of_heap HPb.out)).trans HPb.out)); have S3 : Hid (wd.cell? ⟨w.heap.size, 0, none⟩ = some (.slice a n c) ∧ wd.cell? ⟨w.heap.size + 1, 3, none⟩ = some (.int .i64 nu) ∧ wd.cell? ⟨w7.heap.size, 0, none⟩ = some (.string ⟨#[]⟩) ∧ wd.cell? ⟨w7.heap.size, 1, none⟩ = some (.string ⟨#[]⟩) ∧ wd.cell? ⟨w7.heap.size, 2, none⟩ = some (.string ⟨#[]⟩) ∧ wd.cell? ⟨w7.heap.size, 3, none⟩ = some (.int .i64 9) ∧ wd.cell? ⟨w1.heap.size, 0, none⟩ = some (.string ow) ∧ wd.cell? ⟨w1.heap.size, 1, none⟩ = some (.int .i64 pe) ∧ wd.cell? ⟨w1.heap.size, 2, none⟩ = some (.int .i64 (lo + 1)) ∧ wd.cell? ⟨w1.heap.size, 3, none⟩ = some (.slice aq nq cq)) := ⟨cell_of_heap Ed.out.bx 0, cell_of_heap Ed.out.op 3, cell_of_heap HTd.out 0, cell_of_heap HTd.out 1, cell_of_heap HTd.out 2, cell_of_heap HTd.out 3, cell_of_heap HPd.out 0, cell_of_heap HPd.out 1, cell_of_heap HPd.out 2, cell_of_heap HPd.out 3⟩; have Hgd : Hid (wb.grownBy wd vb.ownBlock) := grown_trans (World.grownBy_alloc wb _ _) hgd; clear hrowd hnd hgd hatd; have r0 := cell_of_heap Ed.out.res 0; have g0 := frozen_of_heap Ed.out.res 0; have r1 := cell_of_heap Ed.out.res 1; have g1 := frozen_of_heap Ed.out.res 1; have r2 := cell_of_heap Ed.out.res 2; have g2 := frozen_of_heap Ed.out.res 2; have r3 := cell_of_heap Ed.out.res 3; have g3 := frozen_of_heap Ed.out.res 3; have m0 := cell_of_heap Ed.out.mo 0; have h0 := frozen_of_heap Ed.out.mo 0)
        | (refine step_append_ent (by rfl) _ _ (by rfl) wc.heap.size vb (sansE es nu) (by rfl) Hob.out ⟨nu, ⟨ow, pe, lo + 1, ls⟩, aq, nq, cq⟩ wc.heap.size (by rfl) HEb.out Hlen.out (by have := Bb.out; simp; omega) ?_; intro g n8 cap wd hrowd hnd hgd hatd; have Hod := Lib.hid hrowd; have Hnd : Hid (n8 = (sansE es nu ++ [(⟨nu, ⟨ow, pe, lo + 1, ls⟩, aq, nq, cq⟩ : EntT)]).length) := (by show _ = _; rw [List.length_append]; exact hnd); have Ed := Lib.hid (Eb.out.grown hgd (fun k hk => by have := (World.ownsRow.lt Hob.out k hk).1; have := hUb; omega)); have HTd := Lib.hid ((hgd.block _ (by have := lt_of_heap HTb.out; simp; omega) (fun e => by have := (World.ownsRow.lt Hob.out _ e.symm).1; have := hTb; have := hPb2; omega)).trans HTb.out); have HPd := Lib.hid ((hgd.block _ (by have := lt_of_heap HPb.out; simp; omega) (fun e => by have := (World.ownsRow.lt Hob.out _ e.symm).1; have := hTb; have := hPb2; omega)).trans HPb.out); have S3 : Hid (wd.cell? ⟨w.heap.size, 0, none⟩ = some (.slice a n c) ∧ wd.cell? ⟨w.heap.size + 1, 3, none⟩ = some (.int .i64 nu) ∧ wd.cell? ⟨w7.heap.size, 0, none⟩ = some (.string ⟨#[]⟩) ∧ wd.cell? ⟨w7.heap.size, 1, none⟩ = some (.string ⟨#[]⟩) ∧ wd.cell? ⟨w7.heap.size, 2, none⟩ = some (.string ⟨#[]⟩) ∧ wd.cell? ⟨w7.heap.size, 3, none⟩ = some (.int .i64 9) ∧ wd.cell? ⟨w1.heap.size, 0, none⟩ = some (.string ow) ∧ wd.cell? ⟨w1.heap.size, 1, none⟩ = some (.int .i64 pe) ∧ wd.cell? ⟨w1.heap.size, 2, none⟩ = some (.int .i64 (lo + 1)) ∧ wd.cell? ⟨w1.heap.size, 3, none⟩ = some (.slice aq nq cq)) := ⟨cell_of_heap Ed.out.bx 0, cell_of_heap Ed.out.op 3, cell_of_heap HTd.out 0, cell_of_heap HTd.out 1, cell_of_heap HTd.out 2, cell_of_heap HTd.out 3, cell_of_heap HPd.out 0, cell_of_heap HPd.out 1, cell_of_heap HPd.out 2, cell_of_heap HPd.out 3⟩; have Hgd : Hid (wb.grownBy wd vb.ownBlock) := hgd; clear hrowd hnd hgd hatd; have r0 := cell_of_heap Ed.out.res 0; have g0 := frozen_of_heap Ed.out.res 0; have r1 := cell_of_heap Ed.out.res 1; have g1 := frozen_of_heap Ed.out.res 1; have r2 := cell_of_heap Ed.out.res 2; have g2 := frozen_of_heap Ed.out.res 2; have r3 := cell_of_heap Ed.out.res 3; have g3 := frozen_of_heap Ed.out.res 3; have m0 := cell_of_heap Ed.out.mo 0; have h0 := frozen_of_heap Ed.out.mo 0)
        | fail)
    all_goals go_wp2
    all_goals (
    refine bodyPost_ret (v := .tuple #[.agg #[.string ⟨#[]⟩, .string ⟨#[]⟩, .string ⟨#[]⟩, .int .i64 9], .agg #[.slice (some ⟨g, 0, none⟩) n8 cap]]) (by simp [results, Tryz.results21, go_sem, r0, r1, r2, r3, m0]) rfl ?_
    have hn8 := Hnd.out
    subst hn8
    obtain ⟨hb, hr⟩ := Ed.out.fin2 Hl.out Hod.out (by simpa using hUb) (q_end Hq.out HBw.out Hgd.out (fun k hk => (World.ownsRow.lt Hob.out k hk).1)) Hnil2.out (.string ⟨#[]⟩) (.string ⟨#[]⟩) (.string ⟨#[]⟩) (.int .i64 9) _
    exact ⟨_, _, cap, _, rfl, hb, hr, step_key (e := ⟨nu, ⟨ow, pe, lo + 1, ls⟩, aq, nq, cq⟩) rfl⟩)

end Go.Proofs.YtijfdgoeppehlaaGreatDoor

namespace Go.Proofs.YtijfdgoeppehlaaGreatDoor
open Go.RowKit
attribute [local go_sem ↓] Go.wp_at_zero Go.wp_at_succ

set_option linter.unusedSimpArgs false in
set_option maxRecDepth 100000 in
set_option maxHeartbeats 3200000 in
theorem ex_push (a : Option Addr) (n c : Nat) (es : List EntT) (kd wh us : Nat) (nu ep : Int) (sr by_ : ByteArray) (w : World) (hl : EntR w a n es) (hn : n ≤ 1000) (hsr : sr.size ≤ 9223372036854775807) (hby : by_.size ≤ 9223372036854775807) (xn : Int) (ow : ByteArray) (pe lo : Int) (ls : List PackT) (qa : Option Addr) (qn qc : Nat) (hfe : findE es nu ep = some ⟨xn, ⟨ow, pe, lo, ls⟩, qa, qn, qc⟩) (hr1 : 1 ≤ nu) (hr2 : nu ≤ 9999) (he : numB ep = true) (hk : kd % 5 = 2) (hq : packE ⟨cut sr 60, cut by_ 600⟩ = 0) (h16 : qn < 16) (hps : PSl w qa qn ls) (hnil : NilC qa qn qc) :
    Calls Tryz.prog 21 #[.agg #[.slice a n c], .agg #[.int .u8 kd, .int .u8 wh, .int .u8 us, .int .i64 nu, .int .i64 ep, .string sr, .string by_]] w (EPost w a es nu (some ⟨ow, pe, lo, ls ++ [⟨cut sr 60, cut by_ 600⟩]⟩, ⟨zeroPk, ⟨#[]⟩, 0⟩, 2)) := by
  have hk' : (kd : Int) % 5 = 2 := by omega
  have He := Lib.hid he; clear hk he
  have Hq := Lib.hid hq; clear hq
  have H16 := Lib.hid h16; clear h16
  have Hps := Lib.hid hps; clear hps
  have Hnil := Lib.hid hnil; clear hnil
  have hcs : (cut sr 60).size ≤ 9223372036854775807 := by have := (cut_size sr 60).2; omega
  have hcb : (cut by_ 600).size ≤ 9223372036854775807 := by have := (cut_size by_ 600).2; omega
  have hgv : getV (findE es nu ep) = .tuple #[.agg #[.string ow, .int .i64 pe, .int .i64 lo, .slice qa qn qc], .bool true] := by rw [hfe]; rfl
  have Hgv := Lib.hid hgv; clear hgv
  have Hl := Lib.hid hl; clear hl
  have D0 := Lib.hid (EX.start w a n c #[.int .u8 kd, .int .u8 wh, .int .u8 us, .int .i64 nu, .int .i64 ep, .string sr, .string by_])
  go_enter Tryz.func21, Tryz.ntmps21
  go_wp2_with fail
  generalize (((w.alloc (.cells #[.slice a n c] 30)).alloc (.cells #[.int .u8 kd, .int .u8 wh, .int .u8 us, .int .i64 nu, .int .i64 ep, .string sr, .string by_] 35)).alloc (.cells #[.string ⟨#[]⟩, .string ⟨#[]⟩, .string ⟨#[]⟩, .int .i64 0] 42)).alloc (.cells #[.slice none 0 0] 30) = W at *
  refine (get_any37 a n c es nu ep W (Hl.out.later D0.out.below) (by omega)).mono ?_
  rintro r w1 ⟨rfl, hb1⟩
  rw [Hgv.out]
  have D1 := Lib.hid (D0.out.later hb1)
  clear hb1 D0 Hgv
  have D1a : Hid (∀ o, EX w (w1.alloc o) a n c #[.int .u8 kd, .int .u8 wh, .int .u8 us, .int .i64 nu, .int .i64 ep, .string sr, .string by_]) := fun o => D1.out.later ((Below.refl _ _).alloc (Nat.le_refl _) _)
  have HP1 : Hid (∀ o, (w1.alloc o).heap[w1.heap.size]? = some o) := fun o => heap_alloc_new w1 o
  have hPb : w.heap.size + 1 + 1 + 1 < w1.heap.size := lt_of_heap D1.out.mo
  have o5 : w1.cell? ⟨w.heap.size + 1, 5, none⟩ = some (.string sr) := cell_of_heap D1.out.op 5
  have o6 : w1.cell? ⟨w.heap.size + 1, 6, none⟩ = some (.string by_) := cell_of_heap D1.out.op 6
  have hne5 := World.new_ne w1 ⟨w.heap.size + 1, 5, none⟩ o5
  have hlt5 := lt_of_heap D1.out.op
  go_wp2_with fail
  refine (small_any sr by_ _ hsr hby).mono ?_
  rintro r w3 ⟨rfl, hb3⟩
  have D3 := Lib.hid ((D1a.out _).later hb3)
  have HP3 := Lib.hid ((hb3.block _ (lt_of_heap (HP1.out _))).trans (HP1.out (.cells #[.string ow, .int .i64 pe, .int .i64 lo, .slice qa qn qc] 80)))
  clear hb3 D1a HP1 o5 o6 hne5 hlt5 D1
  have D4 : Hid (∀ o, EX w (w3.alloc o) a n c #[.int .u8 kd, .int .u8 wh, .int .u8 us, .int .i64 nu, .int .i64 ep, .string sr, .string by_]) := fun o => D3.out.later ((Below.refl _ _).alloc (Nat.le_refl _) _)
  have HP4 : Hid (∀ o, (w3.alloc o).heap[w1.heap.size]? = some (.cells #[.string ow, .int .i64 pe, .int .i64 lo, .slice qa qn qc] 80 (0, 0))) := fun o => (Below.heap_alloc w3 o _ (lt_of_heap HP3.out)).trans HP3.out
  have HA4 : Hid (∀ o, (w3.alloc o).heap[w3.heap.size]? = some o) := fun o => heap_alloc_new w3 o
  have hAb : w1.heap.size < w3.heap.size := lt_of_heap HP3.out
  clear D3 HP3
  go_upto_region 4 with fail
  have E := Lib.hid (D4.out (.cells #[.string (cut sr 60), .string (cut by_ 600)] 33))
  have HP := Lib.hid (HP4.out (.cells #[.string (cut sr 60), .string (cut by_ 600)] 33))
  have HA := Lib.hid (HA4.out (.cells #[.string (cut sr 60), .string (cut by_ 600)] 33))
  clear D4 HP4 HA4
  generalize w3.alloc (.cells #[.string (cut sr 60), .string (cut by_ 600)] 33) = V at *
  clear hfe
  have b0 := cell_of_heap E.out.bx 0
  have o1 := cell_of_heap E.out.op 1
  have o2 := cell_of_heap E.out.op 2
  have o3 := cell_of_heap E.out.op 3
  have o4 := cell_of_heap E.out.op 4
  have a0 := cell_of_heap HA.out 0
  have a1 := cell_of_heap HA.out 1
  go_wp2_with fail
  refine (lNumber_is ep _ He.out _).mono ?_
  rintro r w6 ⟨rfl, rfl⟩
  go_wp2_with fail
  refine (lPack_is _ _ 0 Hq.out _ hcs hcb).mono ?_
  rintro r w7 ⟨rfl, hb7⟩
  have E7 := Lib.hid (E.out.later hb7)
  have HA7 := Lib.hid ((hb7.block _ (lt_of_heap HA.out)).trans HA.out)
  have HP7 := Lib.hid ((hb7.block _ (lt_of_heap HP.out)).trans HP.out)
  clear hb7 b0 o1 o2 o3 o4 a0 a1
  go_upto_region 16 with fail
  refine wp_region_held_drew (S := fun _ => True) (by kernel_rfl) trivial (fun hHeld => ?_)
  refine wpAnyH_take (i := 0) (v := ?_) rfl (by kernel_rfl) (by kernel_rfl) (by kernel_rfl) (fun _ _ _ h => h) (Or.inl ⟨by rfl, ?_⟩) (by assumption) ?_
  rotate_left
  · (intro wx hSw; (try dsimp only at hSw); go_simp <;> with_reducible rfl)
  try simp only [Act.put, List.setIfInBounds_toArray, List.set_cons_zero, List.set_cons_succ, List.getElem_toArray, List.getElem_cons_zero, List.getElem_cons_succ]
  refine wpAnyH_take (i := 1) (v := ?_) rfl (by kernel_rfl) (by kernel_rfl) (by kernel_rfl) (fun _ _ _ h => h) (Or.inl ⟨by rfl, ?_⟩) (by assumption) ?_
  rotate_left
  · (intro wx hSw; (try dsimp only at hSw); go_simp <;> with_reducible rfl)
  try simp only [Act.put, List.setIfInBounds_toArray, List.set_cons_zero, List.set_cons_succ, List.getElem_toArray, List.getElem_cons_zero, List.getElem_cons_succ]
  refine wpAnyH_take (i := 2) (v := ?_) rfl (by kernel_rfl) (by kernel_rfl) (by kernel_rfl) (fun _ _ _ h => h) (Or.inl ⟨by rfl, ?_⟩) (by assumption) ?_
  rotate_left
  · (intro wx hSw; (try dsimp only at hSw); go_simp <;> with_reducible rfl)
  try simp only [Act.put, List.setIfInBounds_toArray, List.set_cons_zero, List.set_cons_succ, List.getElem_toArray, List.getElem_cons_zero, List.getElem_cons_succ]
  refine wpAnyH_take (i := 3) (v := ?_) rfl (by kernel_rfl) (by kernel_rfl) (by kernel_rfl) (fun _ _ _ h => h) (Or.inl ⟨by rfl, ?_⟩) (by assumption) ?_
  rotate_left
  · (intro wx hSw; (try dsimp only at hSw); go_simp <;> with_reducible rfl)
  try simp only [Act.put, List.setIfInBounds_toArray, List.set_cons_zero, List.set_cons_succ, List.getElem_toArray, List.getElem_cons_zero, List.getElem_cons_succ]
  refine wpAnyH_take (i := 4) (v := ?_) rfl (by kernel_rfl) (by kernel_rfl) (by kernel_rfl) (fun _ _ _ h => h) (Or.inl ⟨by rfl, ?_⟩) (by assumption) ?_
  rotate_left
  · (intro wx hSw; (try dsimp only at hSw); go_simp <;> with_reducible rfl)
  try simp only [Act.put, List.setIfInBounds_toArray, List.set_cons_zero, List.set_cons_succ, List.getElem_toArray, List.getElem_cons_zero, List.getElem_cons_succ]
  refine wpAnyH_take (i := 5) (v := ?_) rfl (by kernel_rfl) (by kernel_rfl) (by kernel_rfl) (fun _ _ _ h => h) (Or.inl ⟨by rfl, ?_⟩) (by assumption) ?_
  rotate_left
  · (intro wx hSw; (try dsimp only at hSw); go_simp <;> with_reducible rfl)
  try simp only [Act.put, List.setIfInBounds_toArray, List.set_cons_zero, List.set_cons_succ, List.getElem_toArray, List.getElem_cons_zero, List.getElem_cons_succ]
  refine wpAnyH_take (i := 6) (v := ?_) rfl (by kernel_rfl) (by kernel_rfl) (by kernel_rfl) (fun _ _ _ h => h) (Or.inl ⟨by rfl, ?_⟩) (by assumption) ?_
  rotate_left
  · (intro wx hSw; (try dsimp only at hSw); go_simp <;> with_reducible rfl)
  try simp only [Act.put, List.setIfInBounds_toArray, List.set_cons_zero, List.set_cons_succ, List.getElem_toArray, List.getElem_cons_zero, List.getElem_cons_succ]
  refine wpAnyH_take (i := 7) (v := undef) rfl (by kernel_rfl) (by kernel_rfl) (by kernel_rfl) (fun _ _ _ h => h) (Or.inr ⟨by simp [Region.wanted, yielded], rfl⟩) (by assumption) ?_
  try simp only [Act.put, List.setIfInBounds_toArray, List.set_cons_zero, List.set_cons_succ, List.getElem_toArray, List.getElem_cons_zero, List.getElem_cons_succ]
  refine wpAnyH_take (i := 8) (v := undef) rfl (by kernel_rfl) (by kernel_rfl) (by kernel_rfl) (fun _ _ _ h => h) (Or.inr ⟨by simp [Region.wanted, yielded], rfl⟩) (by assumption) ?_
  try simp only [Act.put, List.setIfInBounds_toArray, List.set_cons_zero, List.set_cons_succ, List.getElem_toArray, List.getElem_cons_zero, List.getElem_cons_succ]
  refine wpAnyH_take (i := 9) (v := undef) rfl (by kernel_rfl) (by kernel_rfl) (by kernel_rfl) (fun _ _ _ h => h) (Or.inr ⟨by simp [Region.wanted, yielded], rfl⟩) (by assumption) ?_
  try simp only [Act.put, List.setIfInBounds_toArray, List.set_cons_zero, List.set_cons_succ, List.getElem_toArray, List.getElem_cons_zero, List.getElem_cons_succ]
  refine wpAnyH_take (i := 10) (v := undef) rfl (by kernel_rfl) (by kernel_rfl) (by kernel_rfl) (fun _ _ _ h => h) (Or.inr ⟨by simp [Region.wanted, yielded], rfl⟩) (by assumption) ?_
  try simp only [Act.put, List.setIfInBounds_toArray, List.set_cons_zero, List.set_cons_succ, List.getElem_toArray, List.getElem_cons_zero, List.getElem_cons_succ]
  refine wpAnyH_take (i := 11) (v := undef) rfl (by kernel_rfl) (by kernel_rfl) (by kernel_rfl) (fun _ _ _ h => h) (Or.inr ⟨by simp [Region.wanted, yielded], rfl⟩) (by assumption) ?_
  try simp only [Act.put, List.setIfInBounds_toArray, List.set_cons_zero, List.set_cons_succ, List.getElem_toArray, List.getElem_cons_zero, List.getElem_cons_succ]
  refine wpAnyH_take (i := 12) (v := undef) rfl (by kernel_rfl) (by kernel_rfl) (by kernel_rfl) (fun _ _ _ h => h) (Or.inr ⟨by simp [Region.wanted, yielded], rfl⟩) (by assumption) ?_
  try simp only [Act.put, List.setIfInBounds_toArray, List.set_cons_zero, List.set_cons_succ, List.getElem_toArray, List.getElem_cons_zero, List.getElem_cons_succ]
  refine wpAnyH_take (i := 13) (v := ?_) rfl (by kernel_rfl) (by kernel_rfl) (by kernel_rfl) (fun _ _ _ h => h) (Or.inl ⟨by rfl, ?_⟩) (by assumption) ?_
  rotate_left
  · (intro wx hSw; (try dsimp only at hSw); go_simp <;> with_reducible rfl)
  try simp only [Act.put, List.setIfInBounds_toArray, List.set_cons_zero, List.set_cons_succ, List.getElem_toArray, List.getElem_cons_zero, List.getElem_cons_succ]
  refine wpAnyH_take (i := 14) (v := ?_) rfl (by kernel_rfl) (by kernel_rfl) (by kernel_rfl) (fun _ _ _ h => h) (Or.inl ⟨by rfl, ?_⟩) (by assumption) ?_
  rotate_left
  · (intro wx hSw; (try dsimp only at hSw); go_simp <;> with_reducible rfl)
  try simp only [Act.put, List.setIfInBounds_toArray, List.set_cons_zero, List.set_cons_succ, List.getElem_toArray, List.getElem_cons_zero, List.getElem_cons_succ]
  refine wpAnyH_done (by kernel_rfl) ?_ _
  have Hal : Hid (∀ o, EX w (w7.alloc o).drew a n c #[.int .u8 kd, .int .u8 wh, .int .u8 us, .int .i64 nu, .int .i64 ep, .string sr, .string by_]) := fun o => (E7.out.later ((Below.refl _ _).alloc (Nat.le_refl _) _)).drew
  have HPa : Hid (∀ o, (w7.alloc o).drew.heap[w1.heap.size]? = some (.cells #[.string ow, .int .i64 pe, .int .i64 lo, .slice qa qn qc] 80 (0, 0))) := fun o => (Below.heap_alloc w7 o _ (lt_of_heap HP7.out)).trans HP7.out
  have HTa : Hid (∀ o, (w7.alloc o).drew.heap[w7.heap.size]? = some o) := fun o => heap_alloc_new w7 o
  have HAa : Hid (∀ o, (w7.alloc o).drew.heap[w3.heap.size]? = some (.cells #[.string (cut sr 60), .string (cut by_ 600)] 33 (0, 0))) := fun o => (Below.heap_alloc w7 o _ (lt_of_heap HA7.out)).trans HA7.out
  have hPT : w1.heap.size < w7.heap.size := lt_of_heap HP7.out
  have hAT : w3.heap.size < w7.heap.size := lt_of_heap HA7.out
  go_upto_block 1 with fail
  have E1 := Lib.hid (Hal.out (.cells #[.string ⟨#[]⟩, .string ⟨#[]⟩, .string ⟨#[]⟩, .int .i64 0] 42))
  have HP1 := Lib.hid (HPa.out (.cells #[.string ⟨#[]⟩, .string ⟨#[]⟩, .string ⟨#[]⟩, .int .i64 0] 42))
  have HT1 := Lib.hid (HTa.out (.cells #[.string ⟨#[]⟩, .string ⟨#[]⟩, .string ⟨#[]⟩, .int .i64 0] 42))
  have HA1 := Lib.hid (HAa.out (.cells #[.string ⟨#[]⟩, .string ⟨#[]⟩, .string ⟨#[]⟩, .int .i64 0] 42))
  clear Hal HPa HTa HAa E HP HA E7 HA7 HP7
  generalize (w7.alloc (.cells #[.string ⟨#[]⟩, .string ⟨#[]⟩, .string ⟨#[]⟩, .int .i64 0] 42)).drew = U1 at *
  go_cut [157] (fun _ wx => Hid (RX w wx es a n c #[.int .u8 kd, .int .u8 wh, .int .u8 us, .int .i64 nu, .int .i64 ep, .string sr, .string by_] w1.heap.size w7.heap.size ow pe ⟨ow, pe, lo, ls ++ [⟨cut sr 60, cut by_ 600⟩]⟩ ⟨zeroPk, ⟨#[]⟩, 0⟩))
  case first =>
    have p3 : U1.cell? ⟨w1.heap.size, 3, none⟩ = some (.slice qa qn qc) := cell_of_heap HP1.out 3
    have a0 : U1.cell? ⟨w3.heap.size, 0, none⟩ = some (.string (cut sr 60)) := cell_of_heap HA1.out 0
    have a1 : U1.cell? ⟨w3.heap.size, 1, none⟩ = some (.string (cut by_ 600)) := cell_of_heap HA1.out 1
    have h16 : ((qn : Int) == 16) = false := beq_eq_false_iff_ne.2 (by have := H16.out; omega)
    have Hlenq : Hid (([] : List PackT).length + qn ≤ 1000000) := by show _ ≤ _; have := H16.out; simp; omega
    have Hlenl : Hid (ls.length ≤ 1000000) := by show _ ≤ _; have := Hps.out.1; have := H16.out; omega
    have hTU : w7.heap.size < U1.heap.size := lt_of_get HT1.out
    have QB0 : Hid (QB w U1 a n c #[.int .u8 kd, .int .u8 wh, .int .u8 us, .int .i64 nu, .int .i64 ep, .string sr, .string by_] w1.heap.size w7.heap.size w3.heap.size #[.string ow, .int .i64 pe, .int .i64 lo, .slice qa qn qc] #[.string ⟨#[]⟩, .string ⟨#[]⟩, .string ⟨#[]⟩, .int .i64 0] (.cells #[.string (cut sr 60), .string (cut by_ 600)] 33 (0, 0))) := ⟨E1.out, HP1.out, HT1.out, HA1.out, hPb, hPT, hAT⟩
    have QB1 : Hid (∀ o, QB w (U1.alloc o).drew a n c #[.int .u8 kd, .int .u8 wh, .int .u8 us, .int .i64 nu, .int .i64 ep, .string sr, .string by_] w1.heap.size w7.heap.size w3.heap.size #[.string ow, .int .i64 pe, .int .i64 lo, .slice qa qn qc] #[.string ⟨#[]⟩, .string ⟨#[]⟩, .string ⟨#[]⟩, .int .i64 0] (.cells #[.string (cut sr 60), .string (cut by_ 600)] 33 (0, 0))) := fun o => (QB0.out.alloc o).drew
    have QB2 : Hid (∀ o1 o2, QB w ((U1.alloc o1).alloc o2).drew a n c #[.int .u8 kd, .int .u8 wh, .int .u8 us, .int .i64 nu, .int .i64 ep, .string sr, .string by_] w1.heap.size w7.heap.size w3.heap.size #[.string ow, .int .i64 pe, .int .i64 lo, .slice qa qn qc] #[.string ⟨#[]⟩, .string ⟨#[]⟩, .string ⟨#[]⟩, .int .i64 0] (.cells #[.string (cut sr 60), .string (cut by_ 600)] 33 (0, 0))) := fun o1 o2 => ((QB0.out.alloc o1).alloc o2).drew
    have HE0 : Hid (∀ o, (U1.alloc o).drew.heap[U1.heap.size]? = some o) := fun o => heap_alloc_new U1 o
    have HE1 : Hid (∀ o1 o2, ((U1.alloc o1).alloc o2).drew.heap[U1.heap.size]? = some o1) := fun o1 o2 => (Below.heap_alloc _ _ _ (by simp)).trans (heap_alloc_new U1 o1)
    have HE2 : Hid (∀ o1 o2, ((U1.alloc o1).alloc o2).drew.heap[U1.heap.size + 1]? = some o2) := fun o1 o2 => by
      have h := heap_alloc_new (U1.alloc o1) o2
      rwa [World.size_alloc] at h
    have hl3 : w1.heap.size < U1.heap.size := by omega
    have hl4 : w3.heap.size < U1.heap.size := by omega
    have hl5 : w1.heap.size < U1.heap.size + 1 := by omega
    have hl6 : w3.heap.size < U1.heap.size + 1 := by omega
    have hn3 : U1.heap.size ≠ w1.heap.size := by omega
    have hn4 : U1.heap.size ≠ w3.heap.size := by omega
    clear E1 HP1 HT1 HA1 QB0
    go_upto_region 25 with fail
    go_region_law (first
      | (refine step_append_packs (by rfl) _ _ (by rfl) (.slice (some ⟨U1.heap.size + 1, 0, none⟩) 0 0) [] (by rfl) (PRow.empty (HE2.out _ _)) qa qn qc ls (by rfl) (Hps.out.later (QB2.out _ _).ex.below) Hnil.out.1 Hlenq.out ?_; intro vq wq hrowq hgq hatq; have Qq := Lib.hid ((QB2.out _ _).grown hgq (fun k hk => by have hk : U1.heap.size + 1 = k := Option.some.inj hk; have := hTU; omega)); have Rq : Hid (PRow wq vq ls) := hrowq; have Lq : Hid (∀ k, vq.ownBlock = some k → U1.heap.size ≤ k) := own_ge (X := U1.heap.size + 1) hatq (by first | exact Nat.le_refl _ | exact Nat.le_succ _) (by simp <;> omega); have HPk : Hid (wq.heap[U1.heap.size]? = some (.cells #[.string (cut sr 60), .string (cut by_ 600)] 33 (0, 0))) := (hgq.block _ (by simp <;> omega) (fun e => by have e : U1.heap.size = U1.heap.size + 1 := Option.some.inj e; omega)).trans (HE1.out _ _); have Hsz : Hid (U1.heap.size ≤ wq.heap.size) := (by show _ ≤ _; have := hgq.size; simp at this; omega); have a0q := cell_of_heap Qq.out.ha 0; have a1q := cell_of_heap Qq.out.ha 1; clear hrowq hgq hatq)
      | (refine step_append_packs (by rfl) _ _ (by rfl) (.slice (some ⟨U1.heap.size, 0, none⟩) 0 0) [] (by rfl) (PRow.empty (HE1.out _ _)) qa qn qc ls (by rfl) (Hps.out.later (QB2.out _ _).ex.below) Hnil.out.1 Hlenq.out ?_; intro vq wq hrowq hgq hatq; have Qq := Lib.hid ((QB2.out _ _).grown hgq (fun k hk => by have hk : U1.heap.size = k := Option.some.inj hk; have := hTU; omega)); have Rq : Hid (PRow wq vq ls) := hrowq; have Lq : Hid (∀ k, vq.ownBlock = some k → U1.heap.size ≤ k) := own_ge (X := U1.heap.size) hatq (by first | exact Nat.le_refl _ | exact Nat.le_succ _) (by simp <;> omega); have HPk : Hid (wq.heap[U1.heap.size + 1]? = some (.cells #[.string (cut sr 60), .string (cut by_ 600)] 33 (0, 0))) := (hgq.block _ (by simp <;> omega) (fun e => by have e : U1.heap.size + 1 = U1.heap.size := Option.some.inj e; omega)).trans (HE2.out _ _); have Hsz : Hid (U1.heap.size ≤ wq.heap.size) := (by show _ ≤ _; have := hgq.size; simp at this; omega); have a0q := cell_of_heap Qq.out.ha 0; have a1q := cell_of_heap Qq.out.ha 1; clear hrowq hgq hatq)
      | (refine step_append_packs (by rfl) _ _ (by rfl) (.slice (some ⟨U1.heap.size, 0, none⟩) 0 0) [] (by rfl) (PRow.empty (HE0.out _)) qa qn qc ls (by rfl) (Hps.out.later (QB1.out _).ex.below) Hnil.out.1 Hlenq.out ?_; intro vq wq hrowq hgq hatq; have Qq := Lib.hid ((QB1.out _).grown hgq (fun k hk => by have hk : U1.heap.size = k := Option.some.inj hk; have := hTU; omega)); have Rq : Hid (PRow wq vq ls) := hrowq; have Lq : Hid (∀ k, vq.ownBlock = some k → U1.heap.size ≤ k) := own_ge (X := U1.heap.size) hatq (by first | exact Nat.le_refl _ | exact Nat.le_succ _) (by simp <;> omega); have Hsz : Hid (U1.heap.size ≤ wq.heap.size) := (by show _ ≤ _; have := hgq.size; simp at this; omega); have a0q := cell_of_heap Qq.out.ha 0; have a1q := cell_of_heap Qq.out.ha 1; clear hrowq hgq hatq)
      | (refine step_append_pack (by rfl) _ _ (by rfl) vq ls (by rfl) Rq.out ⟨cut sr 60, cut by_ 600⟩ _ (by rfl) HPk.out Hlenl.out ?_; intro gr nr cr wr hrowr hgr hatr; have Qr := Lib.hid (Qq.out.grown hgr (fun k hk => by have := Lq.out k hk; have := hTU; omega)); have Rr := Lib.hid hrowr; have Lr : Hid (∀ k, (Value.slice (some ⟨gr, 0, none⟩) nr cr).ownBlock = some k → w1.heap.size + 1 ≤ k) := own_ge2 hatr (fun k hk => by have := Lq.out k hk; have := hTU; have := hPT; omega) (by have := Hsz.out; have := hTU; have := hPT; simp <;> omega); have p3r := cell_of_heap Qr.out.hp 3; have f3r := frozen_of_heap Qr.out.hp 3; clear hrowr hgr hatr)
      | (refine step_append_pack (by rfl) _ _ (by rfl) vq ls (by rfl) (World.ownsRow.alloc Rq.out _) ⟨cut sr 60, cut by_ 600⟩ wq.heap.size (by rfl) (heap_alloc_new wq _) Hlenl.out ?_; intro gr nr cr wr hrowr hgr hatr; have Qr := Lib.hid ((Qq.out.alloc _).grown hgr (fun k hk => by have := Lq.out k hk; have := hTU; omega)); have Rr := Lib.hid hrowr; have Lr : Hid (∀ k, (Value.slice (some ⟨gr, 0, none⟩) nr cr).ownBlock = some k → w1.heap.size + 1 ≤ k) := own_ge2 hatr (fun k hk => by have := Lq.out k hk; have := hTU; have := hPT; omega) (by have := Hsz.out; have := hTU; have := hPT; simp <;> omega); have p3r := cell_of_heap Qr.out.hp 3; have f3r := frozen_of_heap Qr.out.hp 3; clear hrowr hgr hatr)
      | fail)
    all_goals
      go_wp2
      go_meet
      exact RX.row Qr.out.ex Qr.out.hp Qr.out.ht hPT hPb Rr.out Lr.out
  case rest =>
    obtain ⟨aq, nq, cq, hE, hP, hT, hq, hnil⟩ := hcut
    have E := Lib.hid hE
    have HP := Lib.hid hP
    have HT := Lib.hid hT
    have Hq := Lib.hid hq
    have Hnil2 := Lib.hid hnil
    clear hE hP hT hq hnil
    have hUb : w.heap.size + 1 + 1 + 1 < wc.heap.size := lt_of_heap E.out.mo
    have zb0 : wc.cell? ⟨w.heap.size, 0, none⟩ = some (.slice a n c) := cell_of_heap E.out.bx 0
    have zo3 : wc.cell? ⟨w.heap.size + 1, 3, none⟩ = some (.int .i64 nu) := cell_of_heap E.out.op 3
    have zt0 : wc.cell? ⟨w7.heap.size, 0, none⟩ = some (.string ⟨#[]⟩) := cell_of_heap HT.out 0
    have zt1 : wc.cell? ⟨w7.heap.size, 1, none⟩ = some (.string ⟨#[]⟩) := cell_of_heap HT.out 1
    have zt2 : wc.cell? ⟨w7.heap.size, 2, none⟩ = some (.string ⟨#[]⟩) := cell_of_heap HT.out 2
    have zt3 : wc.cell? ⟨w7.heap.size, 3, none⟩ = some (.int .i64 0) := cell_of_heap HT.out 3
    have zp0 : wc.cell? ⟨w1.heap.size, 0, none⟩ = some (.string ow) := cell_of_heap HP.out 0
    have zp1 : wc.cell? ⟨w1.heap.size, 1, none⟩ = some (.int .i64 pe) := cell_of_heap HP.out 1
    have zp2 : wc.cell? ⟨w1.heap.size, 2, none⟩ = some (.int .i64 lo) := cell_of_heap HP.out 2
    have zp3 : wc.cell? ⟨w1.heap.size, 3, none⟩ = some (.slice aq nq cq) := cell_of_heap HP.out 3
    have Hlen : Hid ((sansE es nu).length ≤ 1000000) := sansE_len Hl.out.1 hn nu
    have EA : Hid (∀ o, EX w (wc.alloc o).drew a n c #[.int .u8 kd, .int .u8 wh, .int .u8 us, .int .i64 nu, .int .i64 ep, .string sr, .string by_]) := fun o => (E.out.later ((Below.refl _ _).alloc (Nat.le_refl _) _)).drew
    have hTb := lt_of_heap HT.out
    have hPb2 := lt_of_heap HP.out
    go_wp2_with fail
    go_region_held3 (fun W => W.cell? ⟨w.heap.size, 0, none⟩ = some (.slice a n c) ∧ W.cell? ⟨w.heap.size + 1, 3, none⟩ = some (.int .i64 nu) ∧ W.cell? ⟨w7.heap.size, 0, none⟩ = some (.string ⟨#[]⟩) ∧ W.cell? ⟨w7.heap.size, 1, none⟩ = some (.string ⟨#[]⟩) ∧ W.cell? ⟨w7.heap.size, 2, none⟩ = some (.string ⟨#[]⟩) ∧ W.cell? ⟨w7.heap.size, 3, none⟩ = some (.int .i64 0) ∧ W.cell? ⟨w1.heap.size, 0, none⟩ = some (.string ow) ∧ W.cell? ⟨w1.heap.size, 1, none⟩ = some (.int .i64 pe) ∧ W.cell? ⟨w1.heap.size, 2, none⟩ = some (.int .i64 lo) ∧ W.cell? ⟨w1.heap.size, 3, none⟩ = some (.slice aq nq cq)) (first | with_reducible exact S1.out | with_reducible exact S3.out | with_reducible exact ⟨zb0, zo3, zt0, zt1, zt2, zt3, zp0, zp1, zp2, zp3⟩ | with_reducible exact ⟨cell_al S1.out.1 _, cell_al S1.out.2.1 _, cell_al S1.out.2.2.1 _, cell_al S1.out.2.2.2.1 _, cell_al S1.out.2.2.2.2.1 _, cell_al S1.out.2.2.2.2.2.1 _, cell_al S1.out.2.2.2.2.2.2.1 _, cell_al S1.out.2.2.2.2.2.2.2.1 _, cell_al S1.out.2.2.2.2.2.2.2.2.1 _, cell_al S1.out.2.2.2.2.2.2.2.2.2 _⟩ | with_reducible exact ⟨cell_set4 S3.out.1 (by omega) _ _ _ _, cell_set4 S3.out.2.1 (by omega) _ _ _ _, cell_set4 S3.out.2.2.1 (by omega) _ _ _ _, cell_set4 S3.out.2.2.2.1 (by omega) _ _ _ _, cell_set4 S3.out.2.2.2.2.1 (by omega) _ _ _ _, cell_set4 S3.out.2.2.2.2.2.1 (by omega) _ _ _ _, cell_set4 S3.out.2.2.2.2.2.2.1 (by omega) _ _ _ _, cell_set4 S3.out.2.2.2.2.2.2.2.1 (by omega) _ _ _ _, cell_set4 S3.out.2.2.2.2.2.2.2.2.1 (by omega) _ _ _ _, cell_set4 S3.out.2.2.2.2.2.2.2.2.2 (by omega) _ _ _ _⟩ | with_reducible exact ⟨cell_set1 (cell_set4 S3.out.1 (by omega) _ _ _ _) (by omega) _, cell_set1 (cell_set4 S3.out.2.1 (by omega) _ _ _ _) (by omega) _, cell_set1 (cell_set4 S3.out.2.2.1 (by omega) _ _ _ _) (by omega) _, cell_set1 (cell_set4 S3.out.2.2.2.1 (by omega) _ _ _ _) (by omega) _, cell_set1 (cell_set4 S3.out.2.2.2.2.1 (by omega) _ _ _ _) (by omega) _, cell_set1 (cell_set4 S3.out.2.2.2.2.2.1 (by omega) _ _ _ _) (by omega) _, cell_set1 (cell_set4 S3.out.2.2.2.2.2.2.1 (by omega) _ _ _ _) (by omega) _, cell_set1 (cell_set4 S3.out.2.2.2.2.2.2.2.1 (by omega) _ _ _ _) (by omega) _, cell_set1 (cell_set4 S3.out.2.2.2.2.2.2.2.2.1 (by omega) _ _ _ _) (by omega) _, cell_set1 (cell_set4 S3.out.2.2.2.2.2.2.2.2.2 (by omega) _ _ _ _) (by omega) _⟩ | with_reducible exact ⟨cell_al zb0 _, cell_al zo3 _, cell_al zt0 _, cell_al zt1 _, cell_al zt2 _, cell_al zt3 _, cell_al zp0 _, cell_al zp1 _, cell_al zp2 _, cell_al zp3 _⟩ | go_keep)
      (first
        | (go_at_call 43; refine (without_any37 a n c es nu _ (Hl.out.later (EA.out _).below) (by omega)).mono ?_; rintro r wb ⟨vb, rfl, hrowb, hbb⟩; have Eb := Lib.hid ((EA.out _).later hbb); have HBw : Hid (Below wc.heap.size wc wb) := (((Below.refl _ _).alloc (Nat.le_refl _) _).drew).trans (hbb.mono (by simp)); have HTb := Lib.hid ((HBw.out.block _ (lt_of_heap HT.out)).trans HT.out); have HPb := Lib.hid ((HBw.out.block _ (lt_of_heap HP.out)).trans HP.out); have Hob : Hid (ERow wc.heap.size wb vb (sansE es nu)) := hrowb.down (by simp); have S1 : Hid (wb.cell? ⟨w.heap.size, 0, none⟩ = some (.slice a n c) ∧ wb.cell? ⟨w.heap.size + 1, 3, none⟩ = some (.int .i64 nu) ∧ wb.cell? ⟨w7.heap.size, 0, none⟩ = some (.string ⟨#[]⟩) ∧ wb.cell? ⟨w7.heap.size, 1, none⟩ = some (.string ⟨#[]⟩) ∧ wb.cell? ⟨w7.heap.size, 2, none⟩ = some (.string ⟨#[]⟩) ∧ wb.cell? ⟨w7.heap.size, 3, none⟩ = some (.int .i64 0) ∧ wb.cell? ⟨w1.heap.size, 0, none⟩ = some (.string ow) ∧ wb.cell? ⟨w1.heap.size, 1, none⟩ = some (.int .i64 pe) ∧ wb.cell? ⟨w1.heap.size, 2, none⟩ = some (.int .i64 lo) ∧ wb.cell? ⟨w1.heap.size, 3, none⟩ = some (.slice aq nq cq)) := ⟨cell_of_heap Eb.out.bx 0, cell_of_heap Eb.out.op 3, cell_of_heap HTb.out 0, cell_of_heap HTb.out 1, cell_of_heap HTb.out 2, cell_of_heap HTb.out 3, cell_of_heap HPb.out 0, cell_of_heap HPb.out 1, cell_of_heap HPb.out 2, cell_of_heap HPb.out 3⟩; have Bb : Hid (wc.heap.size ≤ wb.heap.size) := HBw.out.size; have HEb := Lib.hid ((hbb.block wc.heap.size (by simp)).trans (heap_alloc_new wc (.cells #[.int .i64 nu, .string ow, .int .i64 pe, .int .i64 lo, .slice aq nq cq] 82))); clear hrowb hbb)
        | (go_at_call 43; refine (without_any37 a n c es nu _ (Hl.out.later E.out.drew.below) (by omega)).mono ?_; rintro r wb ⟨vb, rfl, hrowb, hbb⟩; have Eb := Lib.hid (E.out.drew.later hbb); have HBw : Hid (Below wc.heap.size wc wb) := (Below.refl _ _).drew.trans hbb; have HTb := Lib.hid ((HBw.out.block _ (lt_of_heap HT.out)).trans HT.out); have HPb := Lib.hid ((HBw.out.block _ (lt_of_heap HP.out)).trans HP.out); have Hob : Hid (ERow wc.heap.size wb vb (sansE es nu)) := hrowb.down (by simp); have S1 : Hid (wb.cell? ⟨w.heap.size, 0, none⟩ = some (.slice a n c) ∧ wb.cell? ⟨w.heap.size + 1, 3, none⟩ = some (.int .i64 nu) ∧ wb.cell? ⟨w7.heap.size, 0, none⟩ = some (.string ⟨#[]⟩) ∧ wb.cell? ⟨w7.heap.size, 1, none⟩ = some (.string ⟨#[]⟩) ∧ wb.cell? ⟨w7.heap.size, 2, none⟩ = some (.string ⟨#[]⟩) ∧ wb.cell? ⟨w7.heap.size, 3, none⟩ = some (.int .i64 0) ∧ wb.cell? ⟨w1.heap.size, 0, none⟩ = some (.string ow) ∧ wb.cell? ⟨w1.heap.size, 1, none⟩ = some (.int .i64 pe) ∧ wb.cell? ⟨w1.heap.size, 2, none⟩ = some (.int .i64 lo) ∧ wb.cell? ⟨w1.heap.size, 3, none⟩ = some (.slice aq nq cq)) := ⟨cell_of_heap Eb.out.bx 0, cell_of_heap Eb.out.op 3, cell_of_heap HTb.out 0, cell_of_heap HTb.out 1, cell_of_heap HTb.out 2, cell_of_heap HTb.out 3, cell_of_heap HPb.out 0, cell_of_heap HPb.out 1, cell_of_heap HPb.out 2, cell_of_heap HPb.out 3⟩; have Bb : Hid (wc.heap.size ≤ wb.heap.size) := HBw.out.size; clear hrowb hbb)
        | (refine step_append_ent (by rfl) _ _ (by rfl) wc.heap.size vb (sansE es nu) (by rfl) (World.ownsRow.alloc Hob.out _) ⟨nu, ⟨ow, pe, lo, ls ++ [⟨cut sr 60, cut by_ 600⟩]⟩, aq, nq, cq⟩ wb.heap.size (by rfl) (heap_alloc_new wb _) Hlen.out (by have := Bb.out; simp; omega) ?_; intro g n8 cap wd hrowd hnd hgd hatd; have Hod := Lib.hid hrowd; have Hnd : Hid (n8 = (sansE es nu ++ [(⟨nu, ⟨ow, pe, lo, ls ++ [⟨cut sr 60, cut by_ 600⟩]⟩, aq, nq, cq⟩ : EntT)]).length) := (by show _ = _; rw [List.length_append]; exact hnd); have Ed := Lib.hid ((Eb.out.later ((Below.refl _ _).alloc (Nat.le_refl _) _)).grown hgd (fun k hk => by have := (World.ownsRow.lt Hob.out k hk).1; have := hUb; omega)); have HTd := Lib.hid ((hgd.block _ (by have := lt_of_heap HTb.out; simp; omega) (fun e => by have := (World.ownsRow.lt Hob.out _ e.symm).1; have := hTb; have := hPb2; omega)).trans ((Below.heap_alloc wb _ _ (lt_of_heap HTb.out)).trans HTb.out)); have HPd := Lib.hid ((hgd.block _ (by have := lt_of_heap HPb.out; simp; omega) (fun e => by have := (World.ownsRow.lt Hob.out _ e.symm).1; have := hTb; have := hPb2; omega)).trans ((Below.heap_alloc wb _ _ (lt_of_heap HPb.out)).trans HPb.out)); have S3 : Hid (wd.cell? ⟨w.heap.size, 0, none⟩ = some (.slice a n c) ∧ wd.cell? ⟨w.heap.size + 1, 3, none⟩ = some (.int .i64 nu) ∧ wd.cell? ⟨w7.heap.size, 0, none⟩ = some (.string ⟨#[]⟩) ∧ wd.cell? ⟨w7.heap.size, 1, none⟩ = some (.string ⟨#[]⟩) ∧ wd.cell? ⟨w7.heap.size, 2, none⟩ = some (.string ⟨#[]⟩) ∧ wd.cell? ⟨w7.heap.size, 3, none⟩ = some (.int .i64 0) ∧ wd.cell? ⟨w1.heap.size, 0, none⟩ = some (.string ow) ∧ wd.cell? ⟨w1.heap.size, 1, none⟩ = some (.int .i64 pe) ∧ wd.cell? ⟨w1.heap.size, 2, none⟩ = some (.int .i64 lo) ∧ wd.cell? ⟨w1.heap.size, 3, none⟩ = some (.slice aq nq cq)) := ⟨cell_of_heap Ed.out.bx 0, cell_of_heap Ed.out.op 3, cell_of_heap HTd.out 0, cell_of_heap HTd.out 1, cell_of_heap HTd.out 2, cell_of_heap HTd.out 3, cell_of_heap HPd.out 0, cell_of_heap HPd.out 1, cell_of_heap HPd.out 2, cell_of_heap HPd.out 3⟩; have Hgd : Hid (wb.grownBy wd vb.ownBlock) := grown_trans (World.grownBy_alloc wb _ _) hgd; clear hrowd hnd hgd hatd; have r0 := cell_of_heap Ed.out.res 0; have g0 := frozen_of_heap Ed.out.res 0; have r1 := cell_of_heap Ed.out.res 1; have g1 := frozen_of_heap Ed.out.res 1; have r2 := cell_of_heap Ed.out.res 2; have g2 := frozen_of_heap Ed.out.res 2; have r3 := cell_of_heap Ed.out.res 3; have g3 := frozen_of_heap Ed.out.res 3; have m0 := cell_of_heap Ed.out.mo 0; have h0 := frozen_of_heap Ed.out.mo 0)
        | (refine step_append_ent (by rfl) _ _ (by rfl) wc.heap.size vb (sansE es nu) (by rfl) Hob.out ⟨nu, ⟨ow, pe, lo, ls ++ [⟨cut sr 60, cut by_ 600⟩]⟩, aq, nq, cq⟩ wc.heap.size (by rfl) HEb.out Hlen.out (by have := Bb.out; simp; omega) ?_; intro g n8 cap wd hrowd hnd hgd hatd; have Hod := Lib.hid hrowd; have Hnd : Hid (n8 = (sansE es nu ++ [(⟨nu, ⟨ow, pe, lo, ls ++ [⟨cut sr 60, cut by_ 600⟩]⟩, aq, nq, cq⟩ : EntT)]).length) := (by show _ = _; rw [List.length_append]; exact hnd); have Ed := Lib.hid (Eb.out.grown hgd (fun k hk => by have := (World.ownsRow.lt Hob.out k hk).1; have := hUb; omega)); have HTd := Lib.hid ((hgd.block _ (by have := lt_of_heap HTb.out; simp; omega) (fun e => by have := (World.ownsRow.lt Hob.out _ e.symm).1; have := hTb; have := hPb2; omega)).trans HTb.out); have HPd := Lib.hid ((hgd.block _ (by have := lt_of_heap HPb.out; simp; omega) (fun e => by have := (World.ownsRow.lt Hob.out _ e.symm).1; have := hTb; have := hPb2; omega)).trans HPb.out); have S3 : Hid (wd.cell? ⟨w.heap.size, 0, none⟩ = some (.slice a n c) ∧ wd.cell? ⟨w.heap.size + 1, 3, none⟩ = some (.int .i64 nu) ∧ wd.cell? ⟨w7.heap.size, 0, none⟩ = some (.string ⟨#[]⟩) ∧ wd.cell? ⟨w7.heap.size, 1, none⟩ = some (.string ⟨#[]⟩) ∧ wd.cell? ⟨w7.heap.size, 2, none⟩ = some (.string ⟨#[]⟩) ∧ wd.cell? ⟨w7.heap.size, 3, none⟩ = some (.int .i64 0) ∧ wd.cell? ⟨w1.heap.size, 0, none⟩ = some (.string ow) ∧ wd.cell? ⟨w1.heap.size, 1, none⟩ = some (.int .i64 pe) ∧ wd.cell? ⟨w1.heap.size, 2, none⟩ = some (.int .i64 lo) ∧ wd.cell? ⟨w1.heap.size, 3, none⟩ = some (.slice aq nq cq)) := ⟨cell_of_heap Ed.out.bx 0, cell_of_heap Ed.out.op 3, cell_of_heap HTd.out 0, cell_of_heap HTd.out 1, cell_of_heap HTd.out 2, cell_of_heap HTd.out 3, cell_of_heap HPd.out 0, cell_of_heap HPd.out 1, cell_of_heap HPd.out 2, cell_of_heap HPd.out 3⟩; have Hgd : Hid (wb.grownBy wd vb.ownBlock) := hgd; clear hrowd hnd hgd hatd; have r0 := cell_of_heap Ed.out.res 0; have g0 := frozen_of_heap Ed.out.res 0; have r1 := cell_of_heap Ed.out.res 1; have g1 := frozen_of_heap Ed.out.res 1; have r2 := cell_of_heap Ed.out.res 2; have g2 := frozen_of_heap Ed.out.res 2; have r3 := cell_of_heap Ed.out.res 3; have g3 := frozen_of_heap Ed.out.res 3; have m0 := cell_of_heap Ed.out.mo 0; have h0 := frozen_of_heap Ed.out.mo 0)
        | fail)
    all_goals go_wp2
    all_goals (
    refine bodyPost_ret (v := .tuple #[.agg #[.string ⟨#[]⟩, .string ⟨#[]⟩, .string ⟨#[]⟩, .int .i64 0], .agg #[.slice (some ⟨g, 0, none⟩) n8 cap]]) (by simp [results, Tryz.results21, go_sem, r0, r1, r2, r3, m0]) rfl ?_
    have hn8 := Hnd.out
    subst hn8
    obtain ⟨hb, hr⟩ := Ed.out.fin2 Hl.out Hod.out (by simpa using hUb) (q_end Hq.out HBw.out Hgd.out (fun k hk => (World.ownsRow.lt Hob.out k hk).1)) Hnil2.out (.string ⟨#[]⟩) (.string ⟨#[]⟩) (.string ⟨#[]⟩) (.int .i64 0) _
    exact ⟨_, _, cap, _, rfl, hb, hr, step_key (e := ⟨nu, ⟨ow, pe, lo, ls ++ [⟨cut sr 60, cut by_ 600⟩]⟩, aq, nq, cq⟩) rfl⟩)

end Go.Proofs.YtijfdgoeppehlaaGreatDoor

namespace Go.Proofs.YtijfdgoeppehlaaGreatDoor
open Go.RowKit
attribute [local go_sem ↓] Go.wp_at_zero Go.wp_at_succ

set_option maxRecDepth 100000 in
set_option maxHeartbeats 3200000 in
theorem ex_recv (a : Option Addr) (n c : Nat) (es : List EntT) (kd wh us : Nat) (nu ep : Int) (sr by_ : ByteArray) (w : World) (hl : EntR w a n es) (hn : n ≤ 1000) (hsr : sr.size ≤ 9223372036854775807) (hby : by_.size ≤ 9223372036854775807) (xn : Int) (ow : ByteArray) (pe lo : Int) (ls : List PackT) (qg qo qn qc : Nat) (hfe : findE es nu ep = some ⟨xn, ⟨ow, pe, lo, ls⟩, (some ⟨qg, qo, none⟩), qn, qc⟩) (hr1 : 1 ≤ nu) (hr2 : nu ≤ 9999) (he : numB ep = true) (hk : kd % 5 = 3) (hwh : wh ≤ 255) (hw : whoN wh = ow) (hq0 : 0 < qn) (hq16 : qn ≤ 16) (xs xb : ByteArray) (hx0 : ls.getD 0 zeroPk = ⟨xs, xb⟩) (hps : PSl w (some ⟨qg, qo, none⟩) qn ls) (hnil : NilC (some ⟨qg, qo, none⟩) qn qc) :
    Calls Tryz.prog 21 #[.agg #[.slice a n c], .agg #[.int .u8 kd, .int .u8 wh, .int .u8 us, .int .i64 nu, .int .i64 ep, .string sr, .string by_]] w (EPost w a es nu (some ⟨ow, pe, lo, ls.drop 1⟩, ⟨⟨xs, xb⟩, ⟨#[]⟩, 0⟩, 2)) := by
  have hk' : (kd : Int) % 5 = 3 := by omega
  have He := Lib.hid he; clear hk he
  have Hw := Lib.hid hw; clear hw
  have Hx0 := Lib.hid hx0; clear hx0
  have Hps := Lib.hid hps; clear hps
  have hqc : qn ≤ qc := hnil.2
  clear hnil
  have hgv : getV (findE es nu ep) = .tuple #[.agg #[.string ow, .int .i64 pe, .int .i64 lo, .slice (some ⟨qg, qo, none⟩) qn qc], .bool true] := by rw [hfe]; rfl
  have Hgv := Lib.hid hgv; clear hgv
  have Hl := Lib.hid hl; clear hl
  have D0 := Lib.hid (EX.start w a n c #[.int .u8 kd, .int .u8 wh, .int .u8 us, .int .i64 nu, .int .i64 ep, .string sr, .string by_])
  go_enter Tryz.func21, Tryz.ntmps21
  go_wp2_with fail
  generalize (((w.alloc (.cells #[.slice a n c] 30)).alloc (.cells #[.int .u8 kd, .int .u8 wh, .int .u8 us, .int .i64 nu, .int .i64 ep, .string sr, .string by_] 35)).alloc (.cells #[.string ⟨#[]⟩, .string ⟨#[]⟩, .string ⟨#[]⟩, .int .i64 0] 42)).alloc (.cells #[.slice none 0 0] 30) = W at *
  refine (get_any37 a n c es nu ep W (Hl.out.later D0.out.below) (by omega)).mono ?_
  rintro r w1 ⟨rfl, hb1⟩
  rw [Hgv.out]
  have D1 := Lib.hid (D0.out.later hb1)
  clear hb1 D0 Hgv
  have D1a : Hid (∀ o, EX w (w1.alloc o) a n c #[.int .u8 kd, .int .u8 wh, .int .u8 us, .int .i64 nu, .int .i64 ep, .string sr, .string by_]) := fun o => D1.out.later ((Below.refl _ _).alloc (Nat.le_refl _) _)
  have HP1 : Hid (∀ o, (w1.alloc o).heap[w1.heap.size]? = some o) := fun o => heap_alloc_new w1 o
  have hPb : w.heap.size + 1 + 1 + 1 < w1.heap.size := lt_of_heap D1.out.mo
  have o5 : w1.cell? ⟨w.heap.size + 1, 5, none⟩ = some (.string sr) := cell_of_heap D1.out.op 5
  have o6 : w1.cell? ⟨w.heap.size + 1, 6, none⟩ = some (.string by_) := cell_of_heap D1.out.op 6
  have hne5 := World.new_ne w1 ⟨w.heap.size + 1, 5, none⟩ o5
  have hlt5 := lt_of_heap D1.out.op
  go_wp2_with fail
  refine (small_any sr by_ _ hsr hby).mono ?_
  rintro r w3 ⟨rfl, hb3⟩
  have D3 := Lib.hid ((D1a.out _).later hb3)
  have HP3 := Lib.hid ((hb3.block _ (lt_of_heap (HP1.out _))).trans (HP1.out (.cells #[.string ow, .int .i64 pe, .int .i64 lo, .slice (some ⟨qg, qo, none⟩) qn qc] 80)))
  clear hb3 D1a HP1 o5 o6 hne5 hlt5 D1
  have D4 : Hid (∀ o, EX w (w3.alloc o) a n c #[.int .u8 kd, .int .u8 wh, .int .u8 us, .int .i64 nu, .int .i64 ep, .string sr, .string by_]) := fun o => D3.out.later ((Below.refl _ _).alloc (Nat.le_refl _) _)
  have HP4 : Hid (∀ o, (w3.alloc o).heap[w1.heap.size]? = some (.cells #[.string ow, .int .i64 pe, .int .i64 lo, .slice (some ⟨qg, qo, none⟩) qn qc] 80 (0, 0))) := fun o => (Below.heap_alloc w3 o _ (lt_of_heap HP3.out)).trans HP3.out
  have HA4 : Hid (∀ o, (w3.alloc o).heap[w3.heap.size]? = some o) := fun o => heap_alloc_new w3 o
  have hAb : w1.heap.size < w3.heap.size := lt_of_heap HP3.out
  clear D3 HP3
  go_upto_region 4 with fail
  have E := Lib.hid (D4.out (.cells #[.string (cut sr 60), .string (cut by_ 600)] 33))
  have HP := Lib.hid (HP4.out (.cells #[.string (cut sr 60), .string (cut by_ 600)] 33))
  have HA := Lib.hid (HA4.out (.cells #[.string (cut sr 60), .string (cut by_ 600)] 33))
  clear D4 HP4 HA4
  generalize w3.alloc (.cells #[.string (cut sr 60), .string (cut by_ 600)] 33) = V at *
  clear hfe
  have b0 := cell_of_heap E.out.bx 0
  have o1 := cell_of_heap E.out.op 1
  have o2 := cell_of_heap E.out.op 2
  have o3 := cell_of_heap E.out.op 3
  have o4 := cell_of_heap E.out.op 4
  go_wp2_with fail
  refine (lNumber_is ep _ He.out _).mono ?_
  rintro r w6 ⟨rfl, rfl⟩
  have hp0 : V.cell? ⟨w1.heap.size, 0, none⟩ = some (.string ow) := cell_of_heap HP.out 0
  have ho1 : V.cell? ⟨w.heap.size + 1, 1, none⟩ = some (.int .u8 wh) := cell_of_heap E.out.op 1
  go_upto_region 16 with fail
  go_region_held3 (fun w' => w'.cell? ⟨w1.heap.size, 0, none⟩ = some (.string ow) ∧ w'.cell? ⟨w.heap.size + 1, 1, none⟩ = some (.int .u8 wh)) (first | with_reducible exact S1.out | with_reducible exact ⟨hp0, ho1⟩ | go_keep)
    (first
      | (go_at_call 26; refine (who_is wh ow Hw.out _ hwh).mono ?_; rintro r w8 ⟨rfl, hb8⟩; have E8 := Lib.hid (E.out.drew.later hb8); have HP8 := Lib.hid ((hb8.block _ (lt_of_heap HP.out)).trans HP.out); have HA8 := Lib.hid ((hb8.block _ (lt_of_heap HA.out)).trans HA.out); have S1 : Hid (w8.cell? ⟨w1.heap.size, 0, none⟩ = some (.string ow) ∧ w8.cell? ⟨w.heap.size + 1, 1, none⟩ = some (.int .u8 wh)) := ⟨cell_of_heap HP8.out 0, cell_of_heap E8.out.op 1⟩; clear hb8)
      | fail)
  clear hp0 ho1
  clear b0 o1 o2 o3 o4
  have hq0b : ((qn : Int) == 0) = false := beq_eq_false_iff_ne.2 (by omega)
  have b0 := cell_of_heap E8.out.bx 0
  have p0 := cell_of_heap HP8.out 0
  have p1 := cell_of_heap HP8.out 1
  have p2 := cell_of_heap HP8.out 2
  have p3 := cell_of_heap HP8.out 3
  have Hal : Hid (∀ o, EX w (w8.alloc o) a n c #[.int .u8 kd, .int .u8 wh, .int .u8 us, .int .i64 nu, .int .i64 ep, .string sr, .string by_]) := fun o => (E8.out.later ((Below.refl _ _).alloc (Nat.le_refl _) _))
  have HPa : Hid (∀ o, (w8.alloc o).heap[w1.heap.size]? = some (.cells #[.string ow, .int .i64 pe, .int .i64 lo, .slice (some ⟨qg, qo, none⟩) qn qc] 80 (0, 0))) := fun o => (Below.heap_alloc w8 o _ (lt_of_heap HP8.out)).trans HP8.out
  have HTa : Hid (∀ o, (w8.alloc o).heap[w8.heap.size]? = some o) := fun o => heap_alloc_new w8 o
  have hPT : w1.heap.size < w8.heap.size := lt_of_heap HP8.out
  go_upto_block 1 with fail
  have E1 := Lib.hid (Hal.out (.cells #[.string ⟨#[]⟩, .string ⟨#[]⟩, .string ⟨#[]⟩, .int .i64 0] 42))
  have HP1 := Lib.hid (HPa.out (.cells #[.string ⟨#[]⟩, .string ⟨#[]⟩, .string ⟨#[]⟩, .int .i64 0] 42))
  have HT1 := Lib.hid (HTa.out (.cells #[.string ⟨#[]⟩, .string ⟨#[]⟩, .string ⟨#[]⟩, .int .i64 0] 42))
  clear b0 p0 p1 p2 p3 Hal HPa HTa E HP HA E8 HA8 HP8
  generalize (w8.alloc (.cells #[.string ⟨#[]⟩, .string ⟨#[]⟩, .string ⟨#[]⟩, .int .i64 0] 42)) = U1 at *
  go_cut [157] (fun _ wx => Hid (RX w wx es a n c #[.int .u8 kd, .int .u8 wh, .int .u8 us, .int .i64 nu, .int .i64 ep, .string sr, .string by_] w1.heap.size w8.heap.size ow pe ⟨ow, pe, lo, ls.drop 1⟩ ⟨⟨xs, xb⟩, ⟨#[]⟩, 0⟩))
  case first =>
    have hUb1 : Below w.heap.size w U1 := E1.out.below
    obtain ⟨e0, e1, hp2⟩ := head0 (Hps.out.later hUb1) hq0 Hx0.out
    have Hp2 : Hid (PSl w (some ⟨qg, qo + 2, none⟩) (qn - 1) (ls.drop 1)) := (head0 Hps.out hq0 Hx0.out).2.2
    have Hln := Lib.hid Hps.out.1
    clear hp2 hUb1
    have p3 : U1.cell? ⟨w1.heap.size, 3, none⟩ = some (.slice (some ⟨qg, qo, none⟩) qn qc) := cell_of_heap HP1.out 3
    have t0 : U1.cell? ⟨w8.heap.size, 0, none⟩ = some (.string ⟨#[]⟩) := cell_of_heap HT1.out 0
    have t1 : U1.cell? ⟨w8.heap.size, 1, none⟩ = some (.string ⟨#[]⟩) := cell_of_heap HT1.out 1
    have k0 : U1.frozen? ⟨w8.heap.size, 0, none⟩ = false := frozen_of_heap HT1.out 0
    have k1 : U1.frozen? ⟨w8.heap.size, 1, none⟩ = false := frozen_of_heap HT1.out 1
    go_upto_region 28 with fail
    have hQ : QB w ((U1.setCell ⟨w8.heap.size, 0, none⟩ (.string xs)).setCell ⟨w8.heap.size, 1, none⟩ (.string xb)) a n c #[.int .u8 kd, .int .u8 wh, .int .u8 us, .int .i64 nu, .int .i64 ep, .string sr, .string by_] w1.heap.size w8.heap.size w1.heap.size #[.string ow, .int .i64 pe, .int .i64 lo, .slice (some ⟨qg, qo, none⟩) qn qc] #[.string xs, .string xb, .string ⟨#[]⟩, .int .i64 0] (.cells #[.string ow, .int .i64 pe, .int .i64 lo, .slice (some ⟨qg, qo, none⟩) qn qc] 80 (0, 0)) := ⟨(E1.out.grown (grown_setCell _ _ _ _) (fun k hk => by cases hk; omega)).grown (grown_setCell _ _ _ _) (fun k hk => by cases hk; omega), (Below.heap_setCell _ _ _ _ (by show w1.heap.size ≠ w8.heap.size; omega)).trans ((Below.heap_setCell _ _ _ _ (by show w1.heap.size ≠ w8.heap.size; omega)).trans HP1.out), heap_setCell_same (heap_setCell_same HT1.out 0 _) 1 _, (Below.heap_setCell _ _ _ _ (by show w1.heap.size ≠ w8.heap.size; omega)).trans ((Below.heap_setCell _ _ _ _ (by show w1.heap.size ≠ w8.heap.size; omega)).trans HP1.out), hPb, hPT, hPT⟩
    clear p3 t0 t1 k0 k1 e0 e1 E1 HP1 HT1
    generalize ((U1.setCell ⟨w8.heap.size, 0, none⟩ (.string xs)).setCell ⟨w8.heap.size, 1, none⟩ (.string xb)) = U2 at *
    have QB1 : Hid (∀ o, QB w (U2.alloc o) a n c #[.int .u8 kd, .int .u8 wh, .int .u8 us, .int .i64 nu, .int .i64 ep, .string sr, .string by_] w1.heap.size w8.heap.size w1.heap.size #[.string ow, .int .i64 pe, .int .i64 lo, .slice (some ⟨qg, qo, none⟩) qn qc] #[.string xs, .string xb, .string ⟨#[]⟩, .int .i64 0] (.cells #[.string ow, .int .i64 pe, .int .i64 lo, .slice (some ⟨qg, qo, none⟩) qn qc] 80 (0, 0))) := fun o => hQ.alloc o
    have HE0 : Hid (∀ o, (U2.alloc o).heap[U2.heap.size]? = some o) := fun o => heap_alloc_new U2 o
    have hTU : w8.heap.size < U2.heap.size := lt_of_get hQ.ht
    have p3 : U2.cell? ⟨w1.heap.size, 3, none⟩ = some (.slice (some ⟨qg, qo, none⟩) qn qc) := cell_of_heap hQ.hp 3
    have hlt3 := World.block_lt_of_cell? U2 _ p3
    have hne3 := World.new_ne U2 ⟨w1.heap.size, 3, none⟩ p3
    have HQ := Lib.hid hQ
    clear hQ
    have hq1 : 1 ≤ qn := hq0
    by_cases hc1 : qc = 1
    · subst hc1
      obtain rfl : qn = 1 := by omega
      go_wp2_with (first
        | (at_builtin; go_loud (refine wpList_append_packs rfl _ _ rfl (.slice (some ⟨U2.heap.size, 0, none⟩) 0 0) [] rfl (PRow.empty (HE0.out _)) (some ⟨qg, qo, none⟩) (0) (0) (ls.drop 1) rfl (⟨by rw [List.length_drop, Hln.out], fun h => absurd h (Nat.lt_irrefl _)⟩) (fun e => nomatch e) (by simp <;> omega) ?_; intro vq wq hrowq hgq hatq; have Qq := Lib.hid ((QB1.out _).grown hgq (fun k hk => by have hk : U2.heap.size = k := Option.some.inj hk; have := hTU; omega)); have Rq : Hid (PRow wq vq (ls.drop 1)) := hrowq; have Lq : Hid (∀ k, vq.ownBlock = some k → w1.heap.size + 1 ≤ k) := own_ge (X := U2.heap.size) hatq (by have := hTU; have := hPT; omega) (by have := hTU; have := hPT; simp <;> omega); have p3q := cell_of_heap Qq.out.hp 3; have f3q := frozen_of_heap Qq.out.hp 3; clear hrowq hgq hatq; obtain ⟨aq, nq, cq, rfl⟩ : ∃ a n c, vq = .slice a n c := (by obtain ⟨a, c, h, -⟩ := Rq.out.form; exact ⟨a, _, c, h⟩)))
        | go_in)
      go_wp2
      go_meet
      exact RX.row Qq.out.ex Qq.out.hp Qq.out.ht hPT hPb Rq.out Lq.out
    · skip
      go_wp2_with (first
        | (at_builtin; go_loud (refine wpList_append_packs rfl _ _ rfl (.slice (some ⟨U2.heap.size, 0, none⟩) 0 0) [] rfl (PRow.empty (HE0.out _)) (some ⟨qg, qo + 2, none⟩) (qn - 1) (qc - 1) (ls.drop 1) rfl (Hp2.out.later (QB1.out _).ex.below) (fun e => nomatch e) (by simp <;> omega) ?_; intro vq wq hrowq hgq hatq; have Qq := Lib.hid ((QB1.out _).grown hgq (fun k hk => by have hk : U2.heap.size = k := Option.some.inj hk; have := hTU; omega)); have Rq : Hid (PRow wq vq (ls.drop 1)) := hrowq; have Lq : Hid (∀ k, vq.ownBlock = some k → w1.heap.size + 1 ≤ k) := own_ge (X := U2.heap.size) hatq (by have := hTU; have := hPT; omega) (by have := hTU; have := hPT; simp <;> omega); have p3q := cell_of_heap Qq.out.hp 3; have f3q := frozen_of_heap Qq.out.hp 3; clear hrowq hgq hatq; obtain ⟨aq, nq, cq, rfl⟩ : ∃ a n c, vq = .slice a n c := (by obtain ⟨a, c, h, -⟩ := Rq.out.form; exact ⟨a, _, c, h⟩)))
        | go_in)
      go_wp2
      go_meet
      exact RX.row Qq.out.ex Qq.out.hp Qq.out.ht hPT hPb Rq.out Lq.out
  case rest =>
    obtain ⟨aq, nq, cq, hE, hP, hT, hq, hnil⟩ := hcut
    have E := Lib.hid hE
    have HP := Lib.hid hP
    have HT := Lib.hid hT
    have Hq := Lib.hid hq
    have Hnil2 := Lib.hid hnil
    clear hE hP hT hq hnil
    have hUb : w.heap.size + 1 + 1 + 1 < wc.heap.size := lt_of_heap E.out.mo
    have zb0 : wc.cell? ⟨w.heap.size, 0, none⟩ = some (.slice a n c) := cell_of_heap E.out.bx 0
    have zo3 : wc.cell? ⟨w.heap.size + 1, 3, none⟩ = some (.int .i64 nu) := cell_of_heap E.out.op 3
    have zt0 : wc.cell? ⟨w8.heap.size, 0, none⟩ = some (.string xs) := cell_of_heap HT.out 0
    have zt1 : wc.cell? ⟨w8.heap.size, 1, none⟩ = some (.string xb) := cell_of_heap HT.out 1
    have zt2 : wc.cell? ⟨w8.heap.size, 2, none⟩ = some (.string ⟨#[]⟩) := cell_of_heap HT.out 2
    have zt3 : wc.cell? ⟨w8.heap.size, 3, none⟩ = some (.int .i64 0) := cell_of_heap HT.out 3
    have zp0 : wc.cell? ⟨w1.heap.size, 0, none⟩ = some (.string ow) := cell_of_heap HP.out 0
    have zp1 : wc.cell? ⟨w1.heap.size, 1, none⟩ = some (.int .i64 pe) := cell_of_heap HP.out 1
    have zp2 : wc.cell? ⟨w1.heap.size, 2, none⟩ = some (.int .i64 lo) := cell_of_heap HP.out 2
    have zp3 : wc.cell? ⟨w1.heap.size, 3, none⟩ = some (.slice aq nq cq) := cell_of_heap HP.out 3
    have Hlen : Hid ((sansE es nu).length ≤ 1000000) := sansE_len Hl.out.1 hn nu
    have EA : Hid (∀ o, EX w (wc.alloc o).drew a n c #[.int .u8 kd, .int .u8 wh, .int .u8 us, .int .i64 nu, .int .i64 ep, .string sr, .string by_]) := fun o => (E.out.later ((Below.refl _ _).alloc (Nat.le_refl _) _)).drew
    have hTb := lt_of_heap HT.out
    have hPb2 := lt_of_heap HP.out
    go_wp2_with fail
    go_region_held3 (fun W => W.cell? ⟨w.heap.size, 0, none⟩ = some (.slice a n c) ∧ W.cell? ⟨w.heap.size + 1, 3, none⟩ = some (.int .i64 nu) ∧ W.cell? ⟨w8.heap.size, 0, none⟩ = some (.string xs) ∧ W.cell? ⟨w8.heap.size, 1, none⟩ = some (.string xb) ∧ W.cell? ⟨w8.heap.size, 2, none⟩ = some (.string ⟨#[]⟩) ∧ W.cell? ⟨w8.heap.size, 3, none⟩ = some (.int .i64 0) ∧ W.cell? ⟨w1.heap.size, 0, none⟩ = some (.string ow) ∧ W.cell? ⟨w1.heap.size, 1, none⟩ = some (.int .i64 pe) ∧ W.cell? ⟨w1.heap.size, 2, none⟩ = some (.int .i64 lo) ∧ W.cell? ⟨w1.heap.size, 3, none⟩ = some (.slice aq nq cq)) (first | with_reducible exact S1.out | with_reducible exact S3.out | with_reducible exact ⟨zb0, zo3, zt0, zt1, zt2, zt3, zp0, zp1, zp2, zp3⟩ | with_reducible exact ⟨cell_al S1.out.1 _, cell_al S1.out.2.1 _, cell_al S1.out.2.2.1 _, cell_al S1.out.2.2.2.1 _, cell_al S1.out.2.2.2.2.1 _, cell_al S1.out.2.2.2.2.2.1 _, cell_al S1.out.2.2.2.2.2.2.1 _, cell_al S1.out.2.2.2.2.2.2.2.1 _, cell_al S1.out.2.2.2.2.2.2.2.2.1 _, cell_al S1.out.2.2.2.2.2.2.2.2.2 _⟩ | with_reducible exact ⟨cell_set4 S3.out.1 (by omega) _ _ _ _, cell_set4 S3.out.2.1 (by omega) _ _ _ _, cell_set4 S3.out.2.2.1 (by omega) _ _ _ _, cell_set4 S3.out.2.2.2.1 (by omega) _ _ _ _, cell_set4 S3.out.2.2.2.2.1 (by omega) _ _ _ _, cell_set4 S3.out.2.2.2.2.2.1 (by omega) _ _ _ _, cell_set4 S3.out.2.2.2.2.2.2.1 (by omega) _ _ _ _, cell_set4 S3.out.2.2.2.2.2.2.2.1 (by omega) _ _ _ _, cell_set4 S3.out.2.2.2.2.2.2.2.2.1 (by omega) _ _ _ _, cell_set4 S3.out.2.2.2.2.2.2.2.2.2 (by omega) _ _ _ _⟩ | with_reducible exact ⟨cell_set1 (cell_set4 S3.out.1 (by omega) _ _ _ _) (by omega) _, cell_set1 (cell_set4 S3.out.2.1 (by omega) _ _ _ _) (by omega) _, cell_set1 (cell_set4 S3.out.2.2.1 (by omega) _ _ _ _) (by omega) _, cell_set1 (cell_set4 S3.out.2.2.2.1 (by omega) _ _ _ _) (by omega) _, cell_set1 (cell_set4 S3.out.2.2.2.2.1 (by omega) _ _ _ _) (by omega) _, cell_set1 (cell_set4 S3.out.2.2.2.2.2.1 (by omega) _ _ _ _) (by omega) _, cell_set1 (cell_set4 S3.out.2.2.2.2.2.2.1 (by omega) _ _ _ _) (by omega) _, cell_set1 (cell_set4 S3.out.2.2.2.2.2.2.2.1 (by omega) _ _ _ _) (by omega) _, cell_set1 (cell_set4 S3.out.2.2.2.2.2.2.2.2.1 (by omega) _ _ _ _) (by omega) _, cell_set1 (cell_set4 S3.out.2.2.2.2.2.2.2.2.2 (by omega) _ _ _ _) (by omega) _⟩ | with_reducible exact ⟨cell_al zb0 _, cell_al zo3 _, cell_al zt0 _, cell_al zt1 _, cell_al zt2 _, cell_al zt3 _, cell_al zp0 _, cell_al zp1 _, cell_al zp2 _, cell_al zp3 _⟩ | go_keep)
      (first
        | (go_at_call 43; refine (without_any37 a n c es nu _ (Hl.out.later (EA.out _).below) (by omega)).mono ?_; rintro r wb ⟨vb, rfl, hrowb, hbb⟩; have Eb := Lib.hid ((EA.out _).later hbb); have HBw : Hid (Below wc.heap.size wc wb) := (((Below.refl _ _).alloc (Nat.le_refl _) _).drew).trans (hbb.mono (by simp)); have HTb := Lib.hid ((HBw.out.block _ (lt_of_heap HT.out)).trans HT.out); have HPb := Lib.hid ((HBw.out.block _ (lt_of_heap HP.out)).trans HP.out); have Hob : Hid (ERow wc.heap.size wb vb (sansE es nu)) := hrowb.down (by simp); have S1 : Hid (wb.cell? ⟨w.heap.size, 0, none⟩ = some (.slice a n c) ∧ wb.cell? ⟨w.heap.size + 1, 3, none⟩ = some (.int .i64 nu) ∧ wb.cell? ⟨w8.heap.size, 0, none⟩ = some (.string xs) ∧ wb.cell? ⟨w8.heap.size, 1, none⟩ = some (.string xb) ∧ wb.cell? ⟨w8.heap.size, 2, none⟩ = some (.string ⟨#[]⟩) ∧ wb.cell? ⟨w8.heap.size, 3, none⟩ = some (.int .i64 0) ∧ wb.cell? ⟨w1.heap.size, 0, none⟩ = some (.string ow) ∧ wb.cell? ⟨w1.heap.size, 1, none⟩ = some (.int .i64 pe) ∧ wb.cell? ⟨w1.heap.size, 2, none⟩ = some (.int .i64 lo) ∧ wb.cell? ⟨w1.heap.size, 3, none⟩ = some (.slice aq nq cq)) := ⟨cell_of_heap Eb.out.bx 0, cell_of_heap Eb.out.op 3, cell_of_heap HTb.out 0, cell_of_heap HTb.out 1, cell_of_heap HTb.out 2, cell_of_heap HTb.out 3, cell_of_heap HPb.out 0, cell_of_heap HPb.out 1, cell_of_heap HPb.out 2, cell_of_heap HPb.out 3⟩; have Bb : Hid (wc.heap.size ≤ wb.heap.size) := HBw.out.size; have HEb := Lib.hid ((hbb.block wc.heap.size (by simp)).trans (heap_alloc_new wc (.cells #[.int .i64 nu, .string ow, .int .i64 pe, .int .i64 lo, .slice aq nq cq] 82))); clear hrowb hbb)
        | (go_at_call 43; refine (without_any37 a n c es nu _ (Hl.out.later E.out.drew.below) (by omega)).mono ?_; rintro r wb ⟨vb, rfl, hrowb, hbb⟩; have Eb := Lib.hid (E.out.drew.later hbb); have HBw : Hid (Below wc.heap.size wc wb) := (Below.refl _ _).drew.trans hbb; have HTb := Lib.hid ((HBw.out.block _ (lt_of_heap HT.out)).trans HT.out); have HPb := Lib.hid ((HBw.out.block _ (lt_of_heap HP.out)).trans HP.out); have Hob : Hid (ERow wc.heap.size wb vb (sansE es nu)) := hrowb.down (by simp); have S1 : Hid (wb.cell? ⟨w.heap.size, 0, none⟩ = some (.slice a n c) ∧ wb.cell? ⟨w.heap.size + 1, 3, none⟩ = some (.int .i64 nu) ∧ wb.cell? ⟨w8.heap.size, 0, none⟩ = some (.string xs) ∧ wb.cell? ⟨w8.heap.size, 1, none⟩ = some (.string xb) ∧ wb.cell? ⟨w8.heap.size, 2, none⟩ = some (.string ⟨#[]⟩) ∧ wb.cell? ⟨w8.heap.size, 3, none⟩ = some (.int .i64 0) ∧ wb.cell? ⟨w1.heap.size, 0, none⟩ = some (.string ow) ∧ wb.cell? ⟨w1.heap.size, 1, none⟩ = some (.int .i64 pe) ∧ wb.cell? ⟨w1.heap.size, 2, none⟩ = some (.int .i64 lo) ∧ wb.cell? ⟨w1.heap.size, 3, none⟩ = some (.slice aq nq cq)) := ⟨cell_of_heap Eb.out.bx 0, cell_of_heap Eb.out.op 3, cell_of_heap HTb.out 0, cell_of_heap HTb.out 1, cell_of_heap HTb.out 2, cell_of_heap HTb.out 3, cell_of_heap HPb.out 0, cell_of_heap HPb.out 1, cell_of_heap HPb.out 2, cell_of_heap HPb.out 3⟩; have Bb : Hid (wc.heap.size ≤ wb.heap.size) := HBw.out.size; clear hrowb hbb)
        | (refine step_append_ent (by rfl) _ _ (by rfl) wc.heap.size vb (sansE es nu) (by rfl) (World.ownsRow.alloc Hob.out _) ⟨nu, ⟨ow, pe, lo, ls.drop 1⟩, aq, nq, cq⟩ wb.heap.size (by rfl) (heap_alloc_new wb _) Hlen.out (by have := Bb.out; simp; omega) ?_; intro g n8 cap wd hrowd hnd hgd hatd; have Hod := Lib.hid hrowd; have Hnd : Hid (n8 = (sansE es nu ++ [(⟨nu, ⟨ow, pe, lo, ls.drop 1⟩, aq, nq, cq⟩ : EntT)]).length) := (by show _ = _; rw [List.length_append]; exact hnd); have Ed := Lib.hid ((Eb.out.later ((Below.refl _ _).alloc (Nat.le_refl _) _)).grown hgd (fun k hk => by have := (World.ownsRow.lt Hob.out k hk).1; have := hUb; omega)); have HTd := Lib.hid ((hgd.block _ (by have := lt_of_heap HTb.out; simp; omega) (fun e => by have := (World.ownsRow.lt Hob.out _ e.symm).1; have := hTb; have := hPb2; omega)).trans ((Below.heap_alloc wb _ _ (lt_of_heap HTb.out)).trans HTb.out)); have HPd := Lib.hid ((hgd.block _ (by have := lt_of_heap HPb.out; simp; omega) (fun e => by have := (World.ownsRow.lt Hob.out _ e.symm).1; have := hTb; have := hPb2; omega)).trans ((Below.heap_alloc wb _ _ (lt_of_heap HPb.out)).trans HPb.out)); have S3 : Hid (wd.cell? ⟨w.heap.size, 0, none⟩ = some (.slice a n c) ∧ wd.cell? ⟨w.heap.size + 1, 3, none⟩ = some (.int .i64 nu) ∧ wd.cell? ⟨w8.heap.size, 0, none⟩ = some (.string xs) ∧ wd.cell? ⟨w8.heap.size, 1, none⟩ = some (.string xb) ∧ wd.cell? ⟨w8.heap.size, 2, none⟩ = some (.string ⟨#[]⟩) ∧ wd.cell? ⟨w8.heap.size, 3, none⟩ = some (.int .i64 0) ∧ wd.cell? ⟨w1.heap.size, 0, none⟩ = some (.string ow) ∧ wd.cell? ⟨w1.heap.size, 1, none⟩ = some (.int .i64 pe) ∧ wd.cell? ⟨w1.heap.size, 2, none⟩ = some (.int .i64 lo) ∧ wd.cell? ⟨w1.heap.size, 3, none⟩ = some (.slice aq nq cq)) := ⟨cell_of_heap Ed.out.bx 0, cell_of_heap Ed.out.op 3, cell_of_heap HTd.out 0, cell_of_heap HTd.out 1, cell_of_heap HTd.out 2, cell_of_heap HTd.out 3, cell_of_heap HPd.out 0, cell_of_heap HPd.out 1, cell_of_heap HPd.out 2, cell_of_heap HPd.out 3⟩; have Hgd : Hid (wb.grownBy wd vb.ownBlock) := grown_trans (World.grownBy_alloc wb _ _) hgd; clear hrowd hnd hgd hatd; have r0 := cell_of_heap Ed.out.res 0; have g0 := frozen_of_heap Ed.out.res 0; have r1 := cell_of_heap Ed.out.res 1; have g1 := frozen_of_heap Ed.out.res 1; have r2 := cell_of_heap Ed.out.res 2; have g2 := frozen_of_heap Ed.out.res 2; have r3 := cell_of_heap Ed.out.res 3; have g3 := frozen_of_heap Ed.out.res 3; have m0 := cell_of_heap Ed.out.mo 0; have h0 := frozen_of_heap Ed.out.mo 0)
        | (refine step_append_ent (by rfl) _ _ (by rfl) wc.heap.size vb (sansE es nu) (by rfl) Hob.out ⟨nu, ⟨ow, pe, lo, ls.drop 1⟩, aq, nq, cq⟩ wc.heap.size (by rfl) HEb.out Hlen.out (by have := Bb.out; simp; omega) ?_; intro g n8 cap wd hrowd hnd hgd hatd; have Hod := Lib.hid hrowd; have Hnd : Hid (n8 = (sansE es nu ++ [(⟨nu, ⟨ow, pe, lo, ls.drop 1⟩, aq, nq, cq⟩ : EntT)]).length) := (by show _ = _; rw [List.length_append]; exact hnd); have Ed := Lib.hid (Eb.out.grown hgd (fun k hk => by have := (World.ownsRow.lt Hob.out k hk).1; have := hUb; omega)); have HTd := Lib.hid ((hgd.block _ (by have := lt_of_heap HTb.out; simp; omega) (fun e => by have := (World.ownsRow.lt Hob.out _ e.symm).1; have := hTb; have := hPb2; omega)).trans HTb.out); have HPd := Lib.hid ((hgd.block _ (by have := lt_of_heap HPb.out; simp; omega) (fun e => by have := (World.ownsRow.lt Hob.out _ e.symm).1; have := hTb; have := hPb2; omega)).trans HPb.out); have S3 : Hid (wd.cell? ⟨w.heap.size, 0, none⟩ = some (.slice a n c) ∧ wd.cell? ⟨w.heap.size + 1, 3, none⟩ = some (.int .i64 nu) ∧ wd.cell? ⟨w8.heap.size, 0, none⟩ = some (.string xs) ∧ wd.cell? ⟨w8.heap.size, 1, none⟩ = some (.string xb) ∧ wd.cell? ⟨w8.heap.size, 2, none⟩ = some (.string ⟨#[]⟩) ∧ wd.cell? ⟨w8.heap.size, 3, none⟩ = some (.int .i64 0) ∧ wd.cell? ⟨w1.heap.size, 0, none⟩ = some (.string ow) ∧ wd.cell? ⟨w1.heap.size, 1, none⟩ = some (.int .i64 pe) ∧ wd.cell? ⟨w1.heap.size, 2, none⟩ = some (.int .i64 lo) ∧ wd.cell? ⟨w1.heap.size, 3, none⟩ = some (.slice aq nq cq)) := ⟨cell_of_heap Ed.out.bx 0, cell_of_heap Ed.out.op 3, cell_of_heap HTd.out 0, cell_of_heap HTd.out 1, cell_of_heap HTd.out 2, cell_of_heap HTd.out 3, cell_of_heap HPd.out 0, cell_of_heap HPd.out 1, cell_of_heap HPd.out 2, cell_of_heap HPd.out 3⟩; have Hgd : Hid (wb.grownBy wd vb.ownBlock) := hgd; clear hrowd hnd hgd hatd; have r0 := cell_of_heap Ed.out.res 0; have g0 := frozen_of_heap Ed.out.res 0; have r1 := cell_of_heap Ed.out.res 1; have g1 := frozen_of_heap Ed.out.res 1; have r2 := cell_of_heap Ed.out.res 2; have g2 := frozen_of_heap Ed.out.res 2; have r3 := cell_of_heap Ed.out.res 3; have g3 := frozen_of_heap Ed.out.res 3; have m0 := cell_of_heap Ed.out.mo 0; have h0 := frozen_of_heap Ed.out.mo 0)
        | fail)
    all_goals go_wp2
    all_goals (
    refine bodyPost_ret (v := .tuple #[.agg #[.string xs, .string xb, .string ⟨#[]⟩, .int .i64 0], .agg #[.slice (some ⟨g, 0, none⟩) n8 cap]]) (by simp [results, Tryz.results21, go_sem, r0, r1, r2, r3, m0]) rfl ?_
    have hn8 := Hnd.out
    subst hn8
    obtain ⟨hb, hr⟩ := Ed.out.fin2 Hl.out Hod.out (by simpa using hUb) (q_end Hq.out HBw.out Hgd.out (fun k hk => (World.ownsRow.lt Hob.out k hk).1)) Hnil2.out (.string xs) (.string xb) (.string ⟨#[]⟩) (.int .i64 0) _
    exact ⟨_, _, cap, _, rfl, hb, hr, step_key (e := ⟨nu, ⟨ow, pe, lo, ls.drop 1⟩, aq, nq, cq⟩) rfl⟩)

end Go.Proofs.YtijfdgoeppehlaaGreatDoor
