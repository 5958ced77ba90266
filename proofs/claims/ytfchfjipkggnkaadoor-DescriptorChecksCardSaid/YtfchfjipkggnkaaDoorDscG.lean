/- descriptor: Decode. (printed by wip/gen_dscg.py) -/
import Derived.Test.YtfchfjipkggnkaaDoorDscD
import Derived.Test.YtfchfjipkggnkaaDoorViewB
import Derived.Lib.ConvBytes
import Derived.Deep.LoopGhost
namespace Go.Proofs.YtfchfjipkggnkaaDoor
open Go.RowKit
attribute [local go_sem ↓] run_eql_opn run_neq_opn

/-- In the midst of Decode: the result's block R, the table's T, the Reader's between L and U. -/
structure DDec (w0 : World) (R T L U b : Nat) (wr : World) (t : List OpnT) (s : RdS) : Prop where
  tab : TabAt wr T t
  res : TabAt wr R zeroTab
  rd : Rd (fun k => L ≤ k ∧ k < U) b wr s
  low : Below w0.heap.size w0 wr
  r0 : w0.heap.size ≤ R
  rt : R < T
  tl : T < L
  up : U ≤ wr.heap.size
section
variable {w0 : World} {R T L U b : Nat} {wr w1 : World} {t t' : List OpnT} {s s' : RdS}
theorem DDec.later (h : DDec w0 R T L U b wr t s) (hb : Below wr.heap.size wr w1) : DDec w0 R T L U b w1 t s :=
  ⟨h.tab.later hb, h.res.later hb, h.rd.later hb, h.low.trans (hb.mono h.low.size), h.r0, h.rt, h.tl, Nat.le_trans h.up hb.size⟩
theorem DDec.read (h : DDec w0 R T L U b wr t s) (hr : Rd (fun k => L ≤ k ∧ k < U) b w1 s') (hg : wr.grownBy w1 (some b)) : DDec w0 R T L U b w1 t s' := by
  have hbL := hr.1
  have h1 := h.rt
  have h2 := h.tl
  have h3 := h.r0
  exact ⟨⟨(hg.block T (lt_of_heap h.tab.1) (fun e => by cases e; omega)).trans h.tab.1, h.tab.2⟩, ⟨(hg.block R (lt_of_heap h.res.1) (fun e => by cases e; omega)).trans h.res.1, h.res.2⟩, hr, Below.grownRow h.low hg (Nat.le_refl _) (fun k hk => by cases hk; omega), h.r0, h.rt, h.tl, Nat.le_trans h.up hg.size⟩
/-- A block that is newer is stored into. -/
theorem DDec.other (h : DDec w0 R T L U b wr t s) {X : Nat} (hX : U ≤ X) (hg : wr.grownBy w1 (some X)) : DDec w0 R T L U b w1 t s := by
  have h1 := h.rt
  have h2 := h.tl
  have h3 := h.r0
  have h4 := h.rd.1
  exact ⟨⟨(hg.block T (lt_of_heap h.tab.1) (fun e => by cases e; omega)).trans h.tab.1, h.tab.2⟩, ⟨(hg.block R (lt_of_heap h.res.1) (fun e => by cases e; omega)).trans h.res.1, h.res.2⟩, h.rd.grown hg (fun k hk => by cases hk; omega), Below.grownRow h.low hg (Nat.le_refl _) (fun k hk => by cases hk; omega), h.r0, h.rt, h.tl, Nat.le_trans h.up hg.size⟩
/-- The table is stored into. -/
theorem DDec.put (h : DDec w0 R T L U b wr t s) (ht : TabAt w1 T t') (hg : wr.grownBy w1 (some T)) : DDec w0 R T L U b w1 t' s := by
  have h1 := h.rt
  have h2 := h.tl
  have h3 := h.r0
  exact ⟨ht, ⟨(hg.block R (lt_of_heap h.res.1) (fun e => by cases e; omega)).trans h.res.1, h.res.2⟩, h.rd.grown hg (fun k hk => by cases hk; omega), Below.grownRow h.low hg (Nat.le_refl _) (fun k hk => by cases hk; omega), h.r0, h.rt, h.tl, Nat.le_trans h.up hg.size⟩
end
theorem OpnAt.set {w : World} {X : Nat} {o : OpnT} {cs : Array Value} (h : OpnAt w X o) (i : Nat) (v : Value) (o' : OpnT)
    (e : (#[.int .i64 o.kd, .string o.mak, .int .i64 o.bn, .int .i64 o.num, .int .i64 o.off, .bool o.rd, .bool o.wr, .bool o.ap] : Array Value).setIfInBounds i v = cs)
    (e2 : cs = #[.int .i64 o'.kd, .string o'.mak, .int .i64 o'.bn, .int .i64 o'.num, .int .i64 o'.off, .bool o'.rd, .bool o'.wr, .bool o'.ap]) : OpnAt (w.setCell ⟨X, i, none⟩ v) X o' := by
  have := heap_setCell_same h i v
  rw [e, e2] at this
  exact this
theorem OpnAt.kept {w w' : World} {X : Nat} {o : OpnT} (h : OpnAt w X o) (hk : w'.heap[X]? = w.heap[X]?) : OpnAt w' X o := hk.trans h
theorem OpnAt.free {w : World} {X : Nat} {o : OpnT} (h : OpnAt w X o) (i : Nat) : w.frozen? ⟨X, i, none⟩ = false := frozen_of_heap h i
theorem decE_bad1 {n : Nat} {last : Int} {t : List OpnT} {s : RdS} {fd : Nat} {x : OpnT} {s' : RdS} (h : rdEnt s = ⟨fd, x, s'⟩) (hb : (fd : Int) ≤ last) : decE (n + 1) last t s = none := by
  unfold decE
  rw [h]
  exact if_pos (.inl hb)
theorem decE_bad2 {n : Nat} {last : Int} {t : List OpnT} {s : RdS} {fd : Nat} {x : OpnT} {s' : RdS} (h : rdEnt s = ⟨fd, x, s'⟩) (hb : checkO x ≠ 0) : decE (n + 1) last t s = none := by
  unfold decE
  rw [h]
  exact if_pos (.inr hb)
theorem decE_good {n : Nat} {last : Int} {t : List OpnT} {s : RdS} {fd : Nat} {x : OpnT} {s' : RdS} (h : rdEnt s = ⟨fd, x, s'⟩) (hb : ¬ (fd : Int) ≤ last) (hc : checkO x = 0) : decE (n + 1) last t s = decE n fd (t.set fd x) s' := by
  have e : decE (n + 1) last t s = if ((rdEnt s).fd : Int) ≤ last ∨ checkO (rdEnt s).o ≠ 0 then none else decE n (rdEnt s).fd (t.set (rdEnt s).fd (rdEnt s).o) (rdEnt s).s := rfl
  rw [e, h]
  exact if_neg (fun h1 => h1.elim hb (fun h2 => h2 hc))
theorem second_newG (w : World) (o1 o2 : Obj) : ((w.alloc o1).alloc o2).heap[w.heap.size + 1]? = some o2 := by have := World.alloc_heap_new (w.alloc o1) o2; rwa [World.size_alloc] at this
/-- What Decode answers. -/
def DecPost (w : World) (s : ByteArray) (r : Ending) (w' : World) : Prop := r = .returned (.tuple #[.agg (tabA (decD s).1), .int .i64 (decD s).2]) ∧ Below w.heap.size w w'
theorem setRow_below {w0 w : World} {R : Nat} (h : Below w0.heap.size w0 w) (hR : w0.heap.size ≤ R) (cs : Array Value) : Below w0.heap.size w0 (w.setRow R cs) := Below.grownRow h (grown_setRow _ _ _) (Nat.le_refl _) (fun k hk => by cases hk; exact hR)
def finD : Option (List OpnT × RdS) → List OpnT × Nat
  | none => (zeroTab, 3)
  | some x => if rdClose x.2 ≠ 0 then (zeroTab, 3) else (x.1, 0)
theorem decD_fin (s : ByteArray) : decD s = finD (decE (rdNum 16 ⟨s.data.toList, 0⟩).1 (-1) zeroTab (rdNum 16 ⟨s.data.toList, 0⟩).2) := by
  unfold decD
  cases decE (rdNum 16 ⟨s.data.toList, 0⟩).1 (-1) zeroTab (rdNum 16 ⟨s.data.toList, 0⟩).2 with
  | none => rfl
  | some x => rfl
set_option maxRecDepth 100000 in
set_option maxHeartbeats 12800000 in
theorem dDecode_any (s : ByteArray) (w : World) (hs : s.size ≤ 16777216) : Calls Tryd.prog 13 #[.string s] w (DecPost w s) := by
  have hconv := Lib.run_convert_string_bytes (P := Tryd.prog) ((w.alloc (.cells Tryd.zeroCells31 31)).alloc (.cells Tryd.zeroCells31 31)) 9 41 5 s Tryd.underlying9 Tryd.underlying41 Tryd.underlying5
  have hbw := bytesWorld_below ((w.alloc (.cells Tryd.zeroCells31 31)).alloc (.cells Tryd.zeroCells31 31)) 5 s
  have hsrc : BSrc (Lib.bytesWorld ((w.alloc (.cells Tryd.zeroCells31 31)).alloc (.cells Tryd.zeroCells31 31)) 5 s) (.slice (some ⟨w.heap.size + 1 + 1, 0, none⟩) s.size (grownCap ((w.alloc (.cells Tryd.zeroCells31 31)).alloc (.cells Tryd.zeroCells31 31)) s.size 0 5)) s.data.toList := by
    refine .inr ⟨_, _, _, rfl, (size_toList s).symm, fun j u hu => ?_⟩
    have hj : j < s.size := by
      rw [← size_toList]
      rcases Nat.lt_or_ge j s.data.toList.length with h | h
      · exact h
      · rw [List.getElem?_eq_none (by simpa using h)] at hu; cases hu
    have hadd : (⟨w.heap.size + 1 + 1, 0, none⟩ : Addr).add j = ⟨w.heap.size + 1 + 1, j, none⟩ := by unfold Addr.add; split <;> simp_all
    rw [hadd]
    have := Lib.bytesWorld_cell ((w.alloc (.cells Tryd.zeroCells31 31)).alloc (.cells Tryd.zeroCells31 31)) 5 s j hj
    rw [World.size_alloc, World.size_alloc] at this
    rw [this, ← hu]
    have hj' : j < s.data.toList.length := by rw [size_toList]; exact hj
    simp only [List.getElem?_map, List.getElem?_eq_getElem hj', Option.map_some, byteV, List.getD_eq_getElem?_getD, Option.getD_some]
  rw [World.size_alloc, World.size_alloc] at hconv
  have HR0 : Hid (TabAt (Lib.bytesWorld ((w.alloc (.cells Tryd.zeroCells31 31)).alloc (.cells Tryd.zeroCells31 31)) 5 s) w.heap.size zeroTab) := ⟨(hbw.block _ (by simp; omega)).trans ((Below.heap_alloc _ _ _ (by simp)).trans ((World.alloc_heap_new w _).trans (by rw [zero_tab]))), zeroTab_len⟩
  have HT0 : Hid (TabAt (Lib.bytesWorld ((w.alloc (.cells Tryd.zeroCells31 31)).alloc (.cells Tryd.zeroCells31 31)) 5 s) (w.heap.size + 1) zeroTab) := ⟨(hbw.block _ (by simp)).trans ((second_newG w _ _).trans (by rw [zero_tab])), zeroTab_len⟩
  have Hwb : Hid (Below w.heap.size w (Lib.bytesWorld ((w.alloc (.cells Tryd.zeroCells31 31)).alloc (.cells Tryd.zeroCells31 31)) 5 s)) := (((Below.refl _ _).alloc (Nat.le_refl _) _).alloc (by simp) _).trans (hbw.mono (by simp; omega))
  have hwsz : w.heap.size + 1 < (Lib.bytesWorld ((w.alloc (.cells Tryd.zeroCells31 31)).alloc (.cells Tryd.zeroCells31 31)) 5 s).heap.size := by rw [Lib.bytesWorld_size]; simp
  have Hsrc := Lib.hid hsrc; clear hsrc hbw
  have Hlen : Hid (s.data.toList.length ≤ 35184372088832) := by show _ ≤ _; rw [size_toList]; omega
  clear hs
  go_enter Tryd.func13, Tryd.ntmps13
  go_wp2_with fail
  generalize Lib.bytesWorld ((w.alloc (.cells Tryd.zeroCells31 31)).alloc (.cells Tryd.zeroCells31 31)) 5 s = wb at *
  refine (newReader_any _ s.data.toList _ Hlen.out Hsrc.out (by simp)).mono ?_
  rintro e w1 ⟨b, rfl, hrd, hb1⟩
  clear hconv Hsrc
  have D0 : Hid (DDec w w.heap.size (w.heap.size + 1) wb.heap.size w1.heap.size b w1 zeroTab ⟨s.data.toList, 0⟩) := ⟨HT0.out.later hb1, HR0.out.later hb1, hrd, Hwb.out.trans (hb1.mono Hwb.out.size), Nat.le_refl _, by omega, hwsz, Nat.le_refl _⟩
  clear hrd hb1 HT0 HR0 Hwb hwsz
  have HDd := Lib.hid (decD_fin s)
  generalize s.data.toList = bs at *
  obtain ⟨⟨n, s0⟩, hn⟩ : ∃ p, rdNum 16 ⟨bs, 0⟩ = p := ⟨_, rfl⟩
  have h16 : n ≤ 16 := by have h : (rdNum 16 ⟨bs, 0⟩).1 ≤ 16 := rdNum_le 16 _; rw [hn] at h; exact h
  have hc := rNumber_any _ b 16 ⟨bs, 0⟩ _ D0.out.rd
  rw [hn] at hc HDd
  dsimp only at hc HDd
  have HC := Lib.hid hc
  clear hc hn
  generalize wb.heap.size = L at *
  generalize w1.heap.size = U at *
  obtain ⟨R, hR⟩ : ∃ R, w.heap.size = R := ⟨_, rfl⟩
  obtain ⟨T, hT⟩ : ∃ T, R + 1 = T := ⟨_, rfl⟩
  rw [hR, hT] at D0
  rw [hR, hT]
  go_wp2_with fail
  refine HC.out.mono ?_
  rintro e w2 ⟨rfl, hr, hg⟩
  have D1 := Lib.hid (D0.out.read hr hg); clear hr hg D0 HC
  go_wp2
  go_loopw [6, 14] (fun lv iv wr => ∃ (k : Nat) (last : Int) (t : List OpnT) (s1 : RdS), k ≤ n ∧ iv = .int .i64 k ∧ lv = .int .i64 last ∧ (-1 ≤ last ∧ last ≤ 15) ∧ Hid (decE n (-1) zeroTab s0 = decE (n - k) last t s1) ∧ Hid (DDec w R T L U b wr t s1)) (fun _ iv _ => n - (intOf iv).toNat)
  case atStart => exact ⟨0, -1, zeroTab, s0, by omega, rfl, rfl, by omega, rfl, D1.out⟩
  case round =>
    obtain ⟨k, last, t, s1, hk, rfl, rfl, hlast, HE, D⟩ := hrel
    clear D1
    by_cases h4 : k < n
    · have HE2 : Hid (decE n (-1) zeroTab s0 = decE (n - (k + 1) + 1) last t s1) := by
        show _ = _
        rw [show n - (k + 1) + 1 = n - k by omega]
        exact HE.out
      have HbX : Hid (b < wr.heap.size) := by have h1 := D.out.rd.1.2; have h2 := D.out.up; show _ < _; omega
      clear HE
      obtain ⟨⟨fd, t1⟩, h1⟩ : ∃ p, rdNum 15 s1 = p := ⟨_, rfl⟩
      have hc1 := rNumber_any _ b 15 s1 _ D.out.rd
      rw [h1] at hc1
      dsimp only at hc1
      have H1 := Lib.hid h1; clear h1
      have HC1 := Lib.hid hc1; clear hc1
      go_wp2_with fail
      refine HC1.out.mono ?_
      rintro e y1 ⟨rfl, hr, hg⟩
      have D1 := Lib.hid (D.out.read hr hg)
      have Hy1 : Hid (b < y1.heap.size) := Nat.lt_of_lt_of_le HbX.out hg.size
      clear hr hg D HC1 HbX
      have Da : Hid (DDec w R T L U b (y1.alloc (.cells #[.int .i64 0, .string ⟨#[]⟩, .int .i64 0, .int .i64 0, .int .i64 0, .bool false, .bool false, .bool false] 26)) t t1) := D1.out.later ((Below.refl _ _).alloc (Nat.le_refl _) _)
      have Oa : Hid (OpnAt (y1.alloc (.cells #[.int .i64 0, .string ⟨#[]⟩, .int .i64 0, .int .i64 0, .int .i64 0, .bool false, .bool false, .bool false] 26)) y1.heap.size ⟨0, ⟨#[]⟩, 0, 0, 0, false, false, false⟩) := World.alloc_heap_new y1 _
      have HUX : Hid (U ≤ y1.heap.size) := D1.out.up
      have hgt : y1.heap.size < (y1.alloc (.cells #[.int .i64 0, .string ⟨#[]⟩, .int .i64 0, .int .i64 0, .int .i64 0, .bool false, .bool false, .bool false] 26)).heap.size := by simp
      have HgX := Lib.hid hgt; clear hgt D1
      obtain ⟨⟨m2, t2⟩, h2⟩ : ∃ p, rdNum 5 t1 = p := ⟨_, rfl⟩
      have hc := rNumber_any _ b 5 t1 _ Da.out.rd
      rw [h2] at hc
      dsimp only at hc
      have H2 := Lib.hid h2; clear h2
      have HC := Lib.hid hc; clear hc
      go_wp2_with fail
      refine HC.out.mono ?_
      rintro e y2 ⟨rfl, hr, hg⟩
      have D2 := Lib.hid (Da.out.read hr hg)
      have O2 := Lib.hid (Oa.out.kept (hg.block _ (lt_of_heap Oa.out) (fun e => by cases e; exact absurd Hy1.out (Nat.lt_irrefl _))))
      clear hr hg Da Oa HC
      obtain ⟨v2, hv2⟩ : ∃ v : Int, (m2 : Int) = v := ⟨_, rfl⟩
      rw [hv2]
      have Hv2 := Lib.hid hv2; clear hv2
      have x0 : y2.cell? ⟨y1.heap.size, 0, none⟩ = some (.int .i64 0) := cell_of_heap O2.out 0
      have f0 : y2.frozen? ⟨y1.heap.size, 0, none⟩ = false := frozen_of_heap O2.out 0
      have D2n : Hid (DDec w R T L U b (y2.setCell ⟨y1.heap.size, 0, none⟩ (.int .i64 v2)) t t2) := D2.out.other HUX.out (grown_setCell _ _ _ _)
      have O2n : Hid (OpnAt (y2.setCell ⟨y1.heap.size, 0, none⟩ (.int .i64 v2)) y1.heap.size ⟨v2, ⟨#[]⟩, 0, 0, 0, false, false, false⟩) := O2.out.set 0 _ _ rfl rfl
      clear D2 O2
      obtain ⟨⟨m3, t3⟩, h3⟩ : ∃ p, rdText 65536 t2 = p := ⟨_, rfl⟩
      have hc := rText_any _ b 65536 t2 _ D2n.out.rd
      rw [h3] at hc
      dsimp only at hc
      have H3 := Lib.hid h3; clear h3
      have HC := Lib.hid hc; clear hc
      go_wp2_with fail
      refine HC.out.mono ?_
      rintro e y3 ⟨rfl, hr, hg⟩
      have D3 := Lib.hid (D2n.out.read hr hg)
      have O3 := Lib.hid (O2n.out.kept (hg.block _ (lt_of_heap O2n.out) (fun e => by cases e; exact absurd Hy1.out (Nat.lt_irrefl _))))
      clear hr hg D2n O2n HC x0 f0
      obtain ⟨v3, hv3⟩ : ∃ v : ByteArray, strOf m3 = v := ⟨_, rfl⟩
      rw [hv3]
      have Hv3 := Lib.hid hv3; clear hv3
      have x1 : y3.cell? ⟨y1.heap.size, 1, none⟩ = some (.string ⟨#[]⟩) := cell_of_heap O3.out 1
      have f1 : y3.frozen? ⟨y1.heap.size, 1, none⟩ = false := frozen_of_heap O3.out 1
      have D3n : Hid (DDec w R T L U b (y3.setCell ⟨y1.heap.size, 1, none⟩ (.string v3)) t t3) := D3.out.other HUX.out (grown_setCell _ _ _ _)
      have O3n : Hid (OpnAt (y3.setCell ⟨y1.heap.size, 1, none⟩ (.string v3)) y1.heap.size ⟨v2, v3, 0, 0, 0, false, false, false⟩) := O3.out.set 1 _ _ rfl rfl
      clear D3 O3
      obtain ⟨⟨m4, t4⟩, h4⟩ : ∃ p, rdNum 1073741824 t3 = p := ⟨_, rfl⟩
      have hc := rNumber_any _ b 1073741824 t3 _ D3n.out.rd
      rw [h4] at hc
      dsimp only at hc
      have H4 := Lib.hid h4; clear h4
      have HC := Lib.hid hc; clear hc
      go_wp2_with fail
      refine HC.out.mono ?_
      rintro e y4 ⟨rfl, hr, hg⟩
      have D4 := Lib.hid (D3n.out.read hr hg)
      have O4 := Lib.hid (O3n.out.kept (hg.block _ (lt_of_heap O3n.out) (fun e => by cases e; exact absurd Hy1.out (Nat.lt_irrefl _))))
      clear hr hg D3n O3n HC x1 f1
      obtain ⟨v4, hv4⟩ : ∃ v : Int, (m4 : Int) = v := ⟨_, rfl⟩
      rw [hv4]
      have Hv4 := Lib.hid hv4; clear hv4
      have x2 : y4.cell? ⟨y1.heap.size, 2, none⟩ = some (.int .i64 0) := cell_of_heap O4.out 2
      have f2 : y4.frozen? ⟨y1.heap.size, 2, none⟩ = false := frozen_of_heap O4.out 2
      have D4n : Hid (DDec w R T L U b (y4.setCell ⟨y1.heap.size, 2, none⟩ (.int .i64 v4)) t t4) := D4.out.other HUX.out (grown_setCell _ _ _ _)
      have O4n : Hid (OpnAt (y4.setCell ⟨y1.heap.size, 2, none⟩ (.int .i64 v4)) y1.heap.size ⟨v2, v3, v4, 0, 0, false, false, false⟩) := O4.out.set 2 _ _ rfl rfl
      clear D4 O4
      obtain ⟨⟨m5, t5⟩, h5⟩ : ∃ p, rdNum 9999 t4 = p := ⟨_, rfl⟩
      have hc := rNumber_any _ b 9999 t4 _ D4n.out.rd
      rw [h5] at hc
      dsimp only at hc
      have H5 := Lib.hid h5; clear h5
      have HC := Lib.hid hc; clear hc
      go_wp2_with fail
      refine HC.out.mono ?_
      rintro e y5 ⟨rfl, hr, hg⟩
      have D5 := Lib.hid (D4n.out.read hr hg)
      have O5 := Lib.hid (O4n.out.kept (hg.block _ (lt_of_heap O4n.out) (fun e => by cases e; exact absurd Hy1.out (Nat.lt_irrefl _))))
      clear hr hg D4n O4n HC x2 f2
      obtain ⟨v5, hv5⟩ : ∃ v : Int, (m5 : Int) = v := ⟨_, rfl⟩
      rw [hv5]
      have Hv5 := Lib.hid hv5; clear hv5
      have x3 : y5.cell? ⟨y1.heap.size, 3, none⟩ = some (.int .i64 0) := cell_of_heap O5.out 3
      have f3 : y5.frozen? ⟨y1.heap.size, 3, none⟩ = false := frozen_of_heap O5.out 3
      have D5n : Hid (DDec w R T L U b (y5.setCell ⟨y1.heap.size, 3, none⟩ (.int .i64 v5)) t t5) := D5.out.other HUX.out (grown_setCell _ _ _ _)
      have O5n : Hid (OpnAt (y5.setCell ⟨y1.heap.size, 3, none⟩ (.int .i64 v5)) y1.heap.size ⟨v2, v3, v4, v5, 0, false, false, false⟩) := O5.out.set 3 _ _ rfl rfl
      clear D5 O5
      obtain ⟨⟨m6, t6⟩, h6⟩ : ∃ p, rdNum 4096 t5 = p := ⟨_, rfl⟩
      have hc := rNumber_any _ b 4096 t5 _ D5n.out.rd
      rw [h6] at hc
      dsimp only at hc
      have H6 := Lib.hid h6; clear h6
      have HC := Lib.hid hc; clear hc
      go_wp2_with fail
      refine HC.out.mono ?_
      rintro e y6 ⟨rfl, hr, hg⟩
      have D6 := Lib.hid (D5n.out.read hr hg)
      have O6 := Lib.hid (O5n.out.kept (hg.block _ (lt_of_heap O5n.out) (fun e => by cases e; exact absurd Hy1.out (Nat.lt_irrefl _))))
      clear hr hg D5n O5n HC x3 f3
      obtain ⟨v6, hv6⟩ : ∃ v : Int, (m6 : Int) = v := ⟨_, rfl⟩
      rw [hv6]
      have Hv6 := Lib.hid hv6; clear hv6
      have x4 : y6.cell? ⟨y1.heap.size, 4, none⟩ = some (.int .i64 0) := cell_of_heap O6.out 4
      have f4 : y6.frozen? ⟨y1.heap.size, 4, none⟩ = false := frozen_of_heap O6.out 4
      have D6n : Hid (DDec w R T L U b (y6.setCell ⟨y1.heap.size, 4, none⟩ (.int .i64 v6)) t t6) := D6.out.other HUX.out (grown_setCell _ _ _ _)
      have O6n : Hid (OpnAt (y6.setCell ⟨y1.heap.size, 4, none⟩ (.int .i64 v6)) y1.heap.size ⟨v2, v3, v4, v5, v6, false, false, false⟩) := O6.out.set 4 _ _ rfl rfl
      clear D6 O6
      obtain ⟨⟨v7, t7⟩, h7⟩ : ∃ p, rdFlag t6 = p := ⟨_, rfl⟩
      have hc := rFlag_any _ b t6 _ D6n.out.rd
      rw [h7] at hc
      dsimp only at hc
      have H7 := Lib.hid h7; clear h7
      have HC := Lib.hid hc; clear hc
      go_wp2_with fail
      refine HC.out.mono ?_
      rintro e y7 ⟨rfl, hr, hg⟩
      have D7 := Lib.hid (D6n.out.read hr hg)
      have O7 := Lib.hid (O6n.out.kept (hg.block _ (lt_of_heap O6n.out) (fun e => by cases e; exact absurd Hy1.out (Nat.lt_irrefl _))))
      clear hr hg D6n O6n HC x4 f4
      have x5 : y7.cell? ⟨y1.heap.size, 5, none⟩ = some (.bool false) := cell_of_heap O7.out 5
      have f5 : y7.frozen? ⟨y1.heap.size, 5, none⟩ = false := frozen_of_heap O7.out 5
      have D7n : Hid (DDec w R T L U b (y7.setCell ⟨y1.heap.size, 5, none⟩ (.bool v7)) t t7) := D7.out.other HUX.out (grown_setCell _ _ _ _)
      have O7n : Hid (OpnAt (y7.setCell ⟨y1.heap.size, 5, none⟩ (.bool v7)) y1.heap.size ⟨v2, v3, v4, v5, v6, v7, false, false⟩) := O7.out.set 5 _ _ rfl rfl
      clear D7 O7
      obtain ⟨⟨v8, t8⟩, h8⟩ : ∃ p, rdFlag t7 = p := ⟨_, rfl⟩
      have hc := rFlag_any _ b t7 _ D7n.out.rd
      rw [h8] at hc
      dsimp only at hc
      have H8 := Lib.hid h8; clear h8
      have HC := Lib.hid hc; clear hc
      go_wp2_with fail
      refine HC.out.mono ?_
      rintro e y8 ⟨rfl, hr, hg⟩
      have D8 := Lib.hid (D7n.out.read hr hg)
      have O8 := Lib.hid (O7n.out.kept (hg.block _ (lt_of_heap O7n.out) (fun e => by cases e; exact absurd Hy1.out (Nat.lt_irrefl _))))
      clear hr hg D7n O7n HC x5 f5
      have x6 : y8.cell? ⟨y1.heap.size, 6, none⟩ = some (.bool false) := cell_of_heap O8.out 6
      have f6 : y8.frozen? ⟨y1.heap.size, 6, none⟩ = false := frozen_of_heap O8.out 6
      have D8n : Hid (DDec w R T L U b (y8.setCell ⟨y1.heap.size, 6, none⟩ (.bool v8)) t t8) := D8.out.other HUX.out (grown_setCell _ _ _ _)
      have O8n : Hid (OpnAt (y8.setCell ⟨y1.heap.size, 6, none⟩ (.bool v8)) y1.heap.size ⟨v2, v3, v4, v5, v6, v7, v8, false⟩) := O8.out.set 6 _ _ rfl rfl
      clear D8 O8
      obtain ⟨⟨v9, t9⟩, h9⟩ : ∃ p, rdFlag t8 = p := ⟨_, rfl⟩
      have hc := rFlag_any _ b t8 _ D8n.out.rd
      rw [h9] at hc
      dsimp only at hc
      have H9 := Lib.hid h9; clear h9
      have HC := Lib.hid hc; clear hc
      go_wp2_with fail
      refine HC.out.mono ?_
      rintro e y9 ⟨rfl, hr, hg⟩
      have D9 := Lib.hid (D8n.out.read hr hg)
      have O9 := Lib.hid (O8n.out.kept (hg.block _ (lt_of_heap O8n.out) (fun e => by cases e; exact absurd Hy1.out (Nat.lt_irrefl _))))
      clear hr hg D8n O8n HC x6 f6
      have x7 : y9.cell? ⟨y1.heap.size, 7, none⟩ = some (.bool false) := cell_of_heap O9.out 7
      have f7 : y9.frozen? ⟨y1.heap.size, 7, none⟩ = false := frozen_of_heap O9.out 7
      have D9n : Hid (DDec w R T L U b (y9.setCell ⟨y1.heap.size, 7, none⟩ (.bool v9)) t t9) := D9.out.other HUX.out (grown_setCell _ _ _ _)
      have O9n : Hid (OpnAt (y9.setCell ⟨y1.heap.size, 7, none⟩ (.bool v9)) y1.heap.size ⟨v2, v3, v4, v5, v6, v7, v8, v9⟩) := O9.out.set 7 _ _ rfl rfl
      clear D9 O9
      go_upto_region 16 with fail
      obtain ⟨wz, hwz⟩ : ∃ wz, y9.setCell ⟨y1.heap.size, 7, none⟩ (.bool v9) = wz := ⟨_, rfl⟩
      rw [hwz] at D9n O9n ⊢
      clear hwz x7 f7
      have D9 := D9n
      have O9 := O9n
      clear D9n O9n
      have hfd : fd ≤ 15 := by have h : (rdNum 15 s1).1 ≤ 15 := rdNum_le 15 _; rw [H1.out] at h; exact h
      have Hmz : Hid (v3.size ≤ 70368744177664) := by
        have this : (strOf (rdText 65536 t2).1).size ≤ 65536 := rdText_le 65536 _
        rw [H3.out] at this
        rw [← Hv3.out]
        exact Nat.le_trans this (by decide)
      have Hent : Hid (rdEnt s1 = ⟨fd, ⟨v2, v3, v4, v5, v6, v7, v8, v9⟩, t9⟩) := by
        show _ = _
        unfold rdEnt
        dsimp only
        rw [H1.out]
        dsimp only
        rw [H2.out]
        dsimp only
        rw [H3.out]
        dsimp only
        rw [H4.out]
        dsimp only
        rw [H5.out]
        dsimp only
        rw [H6.out]
        dsimp only
        rw [H7.out]
        dsimp only
        rw [H8.out]
        dsimp only
        rw [H9.out, Hv2.out, Hv3.out, Hv4.out, Hv5.out, Hv6.out]
      clear H1 H2 H3 H4 H5 H6 H7 H8 H9
      have hRsz := D9.out.r0
      obtain ⟨c0, c1, c2, c3, c4, c5, c6, c7⟩ := O9.out.cells
      by_cases hle : (fd : Int) ≤ last
      · have he : Hid (decD s = (zeroTab, 3)) := by
          show _ = _
          rw [HDd.out, HE2.out, decE_bad1 Hent.out hle]
          rfl
        have hres := D9.out.res.set (t' := zeroTab) zeroTab_len
        rw [← zero_tab] at hres
        have hlow := setRow_below D9.out.low hRsz Tryd.zeroCells31
        have HF := Lib.hid hlow
        have HRs := Lib.hid hres
        clear hlow hres
        have hsc := D9.out.res.store0
        go_wp2
        refine bodyPost_ret (v := .tuple #[.agg (tabA zeroTab), .int .i64 3]) (results_tab rfl _ _ R (by rfl) (by rfl) HRs.out) rfl ?_
        exact ⟨by rw [he.out]; rfl, HF.out⟩
      · have Hle := Lib.hid hle
        obtain ⟨q, hq⟩ : ∃ q, checkO ⟨v2, v3, v4, v5, v6, v7, v8, v9⟩ = q := ⟨_, rfl⟩
        have Hq := Lib.hid hq; clear hq
        go_wp2_with fail
        refine (oCheck_is v2 v3 v4 v5 v6 v7 v8 v9 q Hq.out _ Hmz.out).mono ?_
        rintro r w3 ⟨rfl, hb3⟩
        have D10 := Lib.hid (D9.out.later hb3)
        have O10 := Lib.hid (O9.out.later hb3)
        clear hb3 D9 O9 c0 c1 c2 c3 c4 c5 c6 c7
        by_cases h0 : q = 0
        · subst h0
          obtain ⟨old, hold⟩ := ent_some D10.out.tab.2 (show fd < 16 by omega)
          obtain ⟨c0, c1, c2, c3, c4, c5, c6, c7⟩ := O10.out.cells
          have z0 : w3.cell? ⟨T, fd * 8, none⟩ = some (.int .i64 old.kd) := D10.out.tab.cell hold (j := 0) rfl
          have z1 : w3.cell? ⟨T, fd * 8 + 1, none⟩ = some (.string old.mak) := D10.out.tab.cell hold (j := 1) rfl
          have z2 : w3.cell? ⟨T, fd * 8 + 2, none⟩ = some (.int .i64 old.bn) := D10.out.tab.cell hold (j := 2) rfl
          have z3 : w3.cell? ⟨T, fd * 8 + 3, none⟩ = some (.int .i64 old.num) := D10.out.tab.cell hold (j := 3) rfl
          have z4 : w3.cell? ⟨T, fd * 8 + 4, none⟩ = some (.int .i64 old.off) := D10.out.tab.cell hold (j := 4) rfl
          have z5 : w3.cell? ⟨T, fd * 8 + 5, none⟩ = some (.bool old.rd) := D10.out.tab.cell hold (j := 5) rfl
          have z6 : w3.cell? ⟨T, fd * 8 + 6, none⟩ = some (.bool old.wr) := D10.out.tab.cell hold (j := 6) rfl
          have z7 : w3.cell? ⟨T, fd * 8 + 7, none⟩ = some (.bool old.ap) := D10.out.tab.cell hold (j := 7) rfl
          have y0 := D10.out.tab.free (fd * 8)
          have y1 := D10.out.tab.free (fd * 8 + 1)
          have y2 := D10.out.tab.free (fd * 8 + 2)
          have y3 := D10.out.tab.free (fd * 8 + 3)
          have y4 := D10.out.tab.free (fd * 8 + 4)
          have y5 := D10.out.tab.free (fd * 8 + 5)
          have y6 := D10.out.tab.free (fd * 8 + 6)
          have y7 := D10.out.tab.free (fd * 8 + 7)
          have i0 : (0 : Int) ≤ (fd : Int) := by omega
          have i1 : (fd : Int) < 16 := by omega
          have HD := Lib.hid (D10.out.put (tab_stored D10.out.tab (show fd < 16 by omega) ⟨v2, v3, v4, v5, v6, v7, v8, v9⟩) (grown_set8 _ _ _ _ _ _ _ _ _ _ _ _ _ _ _ _ _ _))
          dsimp only at HD
          have HEn : Hid (decE n (-1) zeroTab s0 = decE (n - (k + 1)) fd (t.set fd ⟨v2, v3, v4, v5, v6, v7, v8, v9⟩) t9) := HE2.out.trans (decE_good Hent.out (by have := Hle.out; omega) Hq.out)
          clear hold D10 O10
          go_wp2
          go_roundw
          case rel => exact ⟨k + 1, fd, _, t9, by omega, by go_num, rfl, by omega, HEn.out, HD.out⟩
          case measure => simp [intOf]; omega
        · have he : Hid (decD s = (zeroTab, 3)) := by
            show _ = _
            rw [HDd.out, HE2.out, decE_bad2 Hent.out (by rw [Hq.out]; exact h0)]
            rfl
          have hq' : ((q : Int) != 0) = true := bne_iff_ne.2 (by omega)
          clear h0
          have hres := D10.out.res.set (t' := zeroTab) zeroTab_len
          rw [← zero_tab] at hres
          have hlow := setRow_below D10.out.low hRsz Tryd.zeroCells31
          have HF := Lib.hid hlow
          have HRs := Lib.hid hres
          clear hlow hres
          have hsc := D10.out.res.store0
          go_wp2
          refine bodyPost_ret (v := .tuple #[.agg (tabA zeroTab), .int .i64 3]) (results_tab rfl _ _ R (by rfl) (by rfl) HRs.out) rfl ?_
          exact ⟨by rw [he.out]; rfl, HF.out⟩
    · obtain rfl : k = n := by omega
      have HE2 : Hid (decE k (-1) zeroTab s0 = some (t, s1)) := by
        show _ = _
        rw [HE.out, Nat.sub_self]
        rfl
      clear HE
      go_wp2_with fail
      refine (rClose_any _ b _ _ D.out.rd).mono ?_
      rintro e w6 ⟨rfl, rfl⟩
      have hRsz := D.out.r0
      obtain ⟨q, hq⟩ : ∃ q, rdClose s1 = q := ⟨_, rfl⟩
      have HDn : Hid (decD s = if q ≠ 0 then (zeroTab, 3) else (t, 0)) := by
        show _ = _
        rw [HDd.out, HE2.out, ← hq]
        rfl
      rw [hq]
      clear hq HDd HE2
      by_cases h0 : q = 0
      · subst h0
        have he : Hid (decD s = (t, 0)) := HDn.out.trans (if_neg (by simp))
        have hres := D.out.res.set (t' := t) D.out.tab.2
        have hlow := setRow_below D.out.low hRsz (tabA t)
        have HF := Lib.hid hlow
        have HRs := Lib.hid hres
        clear hlow hres
        have hsc := D.out.res.store D.out.tab.2
        have hsz := tabA_128 D.out.tab.2
        go_wp2
        refine wp_load_tab _ (by rfl) T (by rfl) D.out.tab ?_
        go_wp2
        refine bodyPost_ret (v := .tuple #[.agg (tabA t), .int .i64 0]) (results_tab rfl _ _ R (by rfl) (by rfl) HRs.out) rfl ?_
        exact ⟨by rw [he.out]; rfl, HF.out⟩
      · have he : Hid (decD s = (zeroTab, 3)) := HDn.out.trans (if_pos h0)
        have hq' : ((q : Int) != 0) = true := bne_iff_ne.2 (by omega)
        clear h0
        have hres := D.out.res.set (t' := zeroTab) zeroTab_len
        rw [← zero_tab] at hres
        have hlow := setRow_below D.out.low hRsz Tryd.zeroCells31
        have HF := Lib.hid hlow
        have HRs := Lib.hid hres
        clear hlow hres
        have hsc := D.out.res.store0
        go_wp2
        refine bodyPost_ret (v := .tuple #[.agg (tabA zeroTab), .int .i64 3]) (results_tab rfl _ _ R (by rfl) (by rfl) HRs.out) rfl ?_
        exact ⟨by rw [he.out]; rfl, HF.out⟩
end Go.Proofs.YtfchfjipkggnkaaDoor
