/- Reference 36: take, piece, Encode. -/
import Derived.Test.YtfobmfenjdiimaaDoorTakA
import Derived.Test.YtfobmfenjdiimaaDoorRtA
import Derived.BigQuiet
import Derived.Deep.RegionHeld3
import Derived.Deep.DeepCutAuto
namespace Go.Proofs.YtfobmfenjdiimaaDoor
open Go.RowKit
attribute [local go_sem ↓] Go.wp_at_zero Go.wp_at_succ

set_option maxRecDepth 100000 in
set_option maxHeartbeats 1000000 in
theorem take36_any (s : ByteArray) (w : World) (hs : s.size ≤ 35184372088832) :
    Calls Tryd.prog 39 #[.string s] w fun r w' => r = .returned (.tuple #[.int .i64 (rTake s).1, .string (rTake s).2]) ∧ Below w.heap.size w w' := by
  have hconv := Lib.run_convert_string_bytes (P := Tryd.prog) w 9 72 5 s Tryd.underlying9 Tryd.underlying72 Tryd.underlying5
  have Hsl := Lib.hid (bytes_BSl w s)
  have Hb := Lib.hid (pBytes_below w 5 s)
  have Hlen : Hid (s.data.toList.length ≤ 70368744177664) := by show _ ≤ _; rw [size_toList]; omega
  go_enter Tryd.func39, Tryd.ntmps39
  go_wp2_with fail
  refine (rfParse_any _ _ _ _ _ _ Hlen.out Hsl.out).mono ?_
  rintro e w1 ⟨rfl, rfl⟩
  clear hconv Hsl
  obtain ⟨h1, h2, h3, h4⟩ := parse9_small s.data.toList
  rw [size_toList] at h2
  have T1 := Lib.hid (rfTake_fst s)
  have T2 := Lib.hid (rfTake_bad s)
  generalize hq : parseNat 9 s.data.toList = q at *
  obtain ⟨q1, q2, q3⟩ := q
  dsimp only at *
  clear hq
  by_cases h0 : q3 = 0
  · have he := Lib.hid (T1.out h0)
    subst h0
    clear T1 T2
    go_wp2_with fail
    go_quiet (fail)
    go_wp2
    go_ret2
    rw [he.out]
    exact ⟨rfl, Hb.out.trans ((below_drewN (Below.refl _ _) _).mono Hb.out.size)⟩
  · have he := Lib.hid (T2.out h0)
    have h0' : ((q3 : Int) == 0) = false := beq_eq_false_iff_ne.2 (by omega)
    clear T1 T2 h0
    go_wp2
    go_ret2
    rw [he.out]
    exact ⟨rfl, Hb.out⟩

theorem rPiece_bad (s : ByteArray) (h : (rTake s).1 < 0 ∨ ((rTake s).2.size : Int) < (rTake s).1) : rPiece s = (⟨#[]⟩, ⟨#[]⟩) := if_pos h
theorem rPiece_good (s : ByteArray) (h : ¬ ((rTake s).1 < 0 ∨ ((rTake s).2.size : Int) < (rTake s).1)) : rPiece s = ((rTake s).2.extract 0 (rTake s).1.toNat, (rTake s).2.extract (rTake s).1.toNat (rTake s).2.size) := if_neg h
set_option maxRecDepth 100000 in
set_option maxHeartbeats 1000000 in
theorem piece36_any (s : ByteArray) (w : World) (hs : s.size ≤ 35184372088832) :
    Calls Tryd.prog 40 #[.string s] w fun r w' => r = .returned (.tuple #[.string (rPiece s).1, .string (rPiece s).2]) ∧ Below w.heap.size w w' := by
  have T1 := Lib.hid (rPiece_bad s)
  have T2 := Lib.hid (rPiece_good s)
  have T3 := rTake_small s
  have Hsz : Hid ((rTake s).2.size ≤ 35184372088832) := Nat.le_trans T3.1 hs
  have Hs := Lib.hid hs
  clear hs T3
  go_enter Tryd.func40, Tryd.ntmps40
  go_wp2_with fail
  refine (take36_any s _ Hs.out).mono ?_
  rintro e w1 ⟨rfl, hb⟩
  have Hb := Lib.hid hb
  clear hb
  generalize rTake s = t at *
  obtain ⟨n, rest⟩ := t
  dsimp only at *
  by_cases h0 : n < 0 ∨ (rest.size : Int) < n
  · have he := Lib.hid (T1.out h0)
    have hways : n < 0 ∨ (¬ n < 0 ∧ (rest.size : Int) < n) := by omega
    clear T1 T2 h0
    rcases hways with h1 | ⟨h1, h2⟩
    all_goals
      go_wp2
      go_ret2
      rw [he.out]
      exact ⟨rfl, Hb.out⟩
  · have he := Lib.hid (T2.out h0)
    obtain ⟨m, rfl⟩ := Int.eq_ofNat_of_zero_le (a := n) (by omega)
    have hm : m ≤ rest.size := by omega
    have hz := Hsz.out
    clear T1 T2 h0
    go_wp2_with fail
    go_quiet (fail)
    go_wp2
    go_ret2
    rw [he.out]
    exact ⟨rfl, Hb.out.trans ((below_drewN (Below.refl _ _) _).mono Hb.out.size)⟩

theorem text_ne (s : ByteArray) : natBytes s.size ++ s.data.toList ≠ [] := fun h => pNat_ne _ (List.append_eq_nil_iff.1 h).1
theorem rfText_w (s : ByteArray) (w : World) (hs : s.size ≤ 1099511627776) : Calls Tryd.prog 34 #[.string s] w (Appended w (.slice none 0 0) (natBytes s.size ++ s.data.toList)) := rfText_any s w hs
theorem encB_len1 {t : TermT} (h1 : t.session.size ≤ 56) : (natBytes t.epoch.toNat ++ (natBytes t.session.size ++ t.session.data.toList)).length ≤ 1000 := by
  have a1 := natBytes_length t.epoch.toNat
  have a2 := natBytes_length t.session.size
  simp only [List.length_append, size_toList]
  omega
theorem linesB_le {ls : List ByteArray} (h3 : ls.length ≤ 16) (h : ∀ s ∈ ls, s.size ≤ 1024) (k : Nat) : (linesB (ls.take k)).length ≤ 20000 := by
  have h1 := linesB_length (ls := ls.take k) (fun s hs => h s (List.mem_of_mem_take hs))
  have h2 : (ls.take k).length ≤ 16 := Nat.le_trans (List.length_take_le' _ _) h3
  omega
/-- The row out in the midst of Encode. -/
structure EnR (w1 wr : World) (v : Value) (bs : List UInt8) : Prop where
  row : BRow wr v bs
  low : Below w1.heap.size w1 wr
  own : ∀ g, v.ownBlock = some g → w1.heap.size ≤ g
theorem EnR.keep {w1 wr w2 : World} {v : Value} {bs : List UInt8} (h : EnR w1 wr v bs) (hg : wr.grownBy w2 none) : EnR w1 w2 v bs := ⟨brow_kept h.row hg, pBelow_row h.low hg (Nat.le_refl _) (fun k hk => by cases hk), h.own⟩
theorem EnR.grow {w1 wr w2 : World} {g m cap g' m' cap' : Nat} {bs bs' : List UInt8} (h : EnR w1 wr (.slice (some ⟨g, 0, none⟩) m cap) bs) (hr : BRow w2 (.slice (some ⟨g', 0, none⟩) m' cap') bs') (hg : wr.grownBy w2 (Value.slice (some ⟨g, 0, none⟩) m cap).ownBlock) (hl : LiesAt wr (.slice (some ⟨g, 0, none⟩) m cap) g') : EnR w1 w2 (.slice (some ⟨g', 0, none⟩) m' cap') bs' := by
  have h0 : w1.heap.size ≤ g := h.own g rfl
  refine ⟨hr, pBelow_row h.low hg (Nat.le_refl _) (fun k hk => h.own k hk), fun k hk => ?_⟩
  have hk : some g' = some k := hk
  cases hk
  rcases hl with h1 | h1
  · have h1 : some g = some g' := h1
    cases h1; exact h0
  · exact Nat.le_trans h.low.size h1
theorem EnR.new {w1 w2 w3 : World} {g m cap : Nat} {bs : List UInt8} (hb : Below w1.heap.size w1 w2) (hr : BRow w3 (.slice (some ⟨g, 0, none⟩) m cap) bs) (hg : w2.grownBy w3 none) (hl : LiesAt w2 (.slice none 0 0) g) : EnR w1 w3 (.slice (some ⟨g, 0, none⟩) m cap) bs :=
  ⟨hr, pBelow_row hb hg (Nat.le_refl _) (fun k hk => by cases hk), fun k hk => by
    have hk : some g = some k := hk
    cases hk
    exact Nat.le_trans hb.size (lies_new hl)⟩

set_option maxRecDepth 100000 in
set_option maxHeartbeats 4000000 in
theorem rEnc36_any (ep : Int) (se sc : ByteArray) (a : Option Addr) (n c : Nat) (ls : List ByteArray) (w : World) (hs : SSl w a n ls) (hse : se.size ≤ 70368744177664) (hsc : sc.size ≤ 70368744177664) (hn : n ≤ 70368744177664) (hls : ∀ s ∈ ls, s.size ≤ 70368744177664) :
    Calls Tryd.prog 11 #[.agg #[.int .i64 ep, .string se, .slice a n c, .string sc]] w fun r w' => r = .returned (.tuple #[.string (encT ⟨ep, se, ls, sc⟩).1, .int .i64 (encT ⟨ep, se, ls, sc⟩).2]) ∧ Below w.heap.size w w' := by
  have Hbx : Hid (∀ v t, Below w.heap.size w (w.alloc (.cells v t))) := fun v t => (Below.refl _ _).alloc (Nat.le_refl _) _
  have HS : Hid (∀ W, Below w.heap.size w W → SSl W a n ls) := fun W hW => hs.later hW
  generalize hq : checkT ⟨ep, se, ls, sc⟩ = q at *
  have Hq := Lib.hid hq
  have Hck : Hid (∀ W, Below w.heap.size w W → Calls Tryd.prog 15 #[.agg #[.int .i64 ep, .string se, .slice a n c, .string sc]] W fun r w' => r = .returned (.int .i64 q) ∧ Below W.heap.size W w') := fun W hW => rTermCheck_is ep se sc a n c ls q hq W (hs.later hW) hse hsc hn hls
  clear hq hs hse hsc hn hls
  go_enter Tryd.func11, Tryd.ntmps11
  go_wp2_with fail
  refine (Hck.out _ (Hbx.out _ _)).mono ?_
  rintro e w1 ⟨rfl, hb1⟩
  have hqc : ∀ j, w1.cell? ⟨w.heap.size, j, none⟩ = (#[.int .i64 ep, .string se, .slice a n c, .string sc] : Array Value)[j]? := fun j => ((bcell hb1).1 _ _ (by simp)).trans (cell_of_heap (World.alloc_heap_new w _) j)
  have Hb1 : Hid (Below w.heap.size w w1) := (Hbx.out _ _).trans (hb1.mono (by simp))
  have hsz1 : w.heap.size < w1.heap.size := by have := hb1.size; simp at this; omega
  clear hb1 Hck
  by_cases h0 : q = 0
  · obtain ⟨hep, hva, hln, hli, -, hsc2⟩ := checkT_ok (Hq.out.trans h0)
    dsimp only at hep hva hln hli hsc2
    subst h0
    have he : Hid (encT ⟨ep, se, ls, sc⟩ = (strOf (encB ⟨ep, se, ls, sc⟩), 0)) := if_pos Hq.out
    have hse2 := valid_small hva
    have hlines : ∀ s ∈ ls, s.size ≤ 1024 := fun s hm => lineE_size (linesE_size hli s hm)
    have hnl : ls.length = n := (HS.out w (Below.refl _ _)).1
    have hn16 : n ≤ 16 := by omega
    clear Hq hva hli
    obtain ⟨me, rfl⟩ := Int.eq_ofNat_of_zero_le hep.1
    have Hme : Hid (me < 18446744073709551616) := by show _ < _; omega
    have Hse : Hid (se.size ≤ 1099511627776) := by show _ ≤ _; omega
    have Hsc : Hid (sc.size ≤ 1099511627776) := by show _ ≤ _; omega
    have HC : Hid (∀ W, Below w1.heap.size w1 W → W.cell? ⟨w.heap.size, 0, none⟩ = some (.int .i64 me) ∧ W.cell? ⟨w.heap.size, 1, none⟩ = some (.string se) ∧ W.cell? ⟨w.heap.size, 2, none⟩ = some (.slice a n c) ∧ W.cell? ⟨w.heap.size, 3, none⟩ = some (.string sc)) := fun W hW => by
      have h : ∀ j, W.cell? ⟨w.heap.size, j, none⟩ = w1.cell? ⟨w.heap.size, j, none⟩ := fun j => (bcell hW).1 _ _ hsz1
      exact ⟨(h 0).trans (hqc 0), (h 1).trans (hqc 1), (h 2).trans (hqc 2), (h 3).trans (hqc 3)⟩
    have HL1 : Hid ((natBytes me).length + (natBytes se.size ++ se.data.toList).length ≤ 35184372088832) := by
      show _ ≤ _
      have a1 := natBytes_length me
      have a2 := natBytes_length se.size
      simp only [List.length_append, size_toList]
      omega
    have HL2 : Hid ((natBytes me ++ (natBytes se.size ++ se.data.toList)).length + (natBytes n).length ≤ 2000) := by
      show _ ≤ _
      have a1 := natBytes_length me
      have a2 := natBytes_length se.size
      have a3 := natBytes_length n
      simp only [List.length_append, size_toList]
      omega
    have HLk : Hid (∀ k, (linesB (ls.take k)).length ≤ 20000) := linesB_le (by omega) hlines
    have HLs : Hid (∀ k, k < n → (ls.getD k ⟨#[]⟩).size ≤ 1024) := fun k hk => by
      rw [List.getD_eq_getElem?_getD, List.getElem?_eq_getElem (by omega)]
      exact hlines _ (List.getElem_mem _)
    have Hnl := Lib.hid hnl
    have hHead : encB ⟨me, se, ls, sc⟩ = ((natBytes me ++ (natBytes se.size ++ se.data.toList)) ++ natBytes n) ++ linesB ls ++ (natBytes sc.size ++ sc.data.toList) := by
      simp [encB, headB, textB, hnl]
    have HHead := Lib.hid hHead
    clear hep hln hlines hnl hHead hse2 hsc2 hqc
    obtain ⟨c0, c1, -, -⟩ := HC.out _ (Below.refl _ _)
    have D0 : Hid (Below w1.heap.size w1 w1.drew) := (Below.refl _ _).drew
    go_wp2_with fail
    go_region_held3 (fun w' => w'.cell? ⟨w.heap.size, 0, none⟩ = some (.int .i64 me) ∧ w'.cell? ⟨w.heap.size, 1, none⟩ = some (.string se)) (first | with_reducible exact S4.out | with_reducible exact S3.out | with_reducible exact S2.out | go_keep)
      (first
        | (go_at_call 33; refine (rfNatural_w me _ Hme.out).mono ?_; rintro r w2 ⟨g2, n2, k2, rfl, row2, gr2, lie2⟩; have E2 := Lib.hid (EnR.new D0.out row2 gr2 lie2); have S2 : Hid (w2.cell? ⟨w.heap.size, 0, none⟩ = some (.int .i64 me) ∧ w2.cell? ⟨w.heap.size, 1, none⟩ = some (.string se)) := ⟨(HC.out _ E2.out.low).1, (HC.out _ E2.out.low).2.1⟩; clear row2 gr2 lie2)
        | (go_at_call 34; refine (rfText_w se _ Hse.out).mono ?_; rintro r w3 ⟨g3, n3, k3, rfl, row3, gr3, lie3⟩; have E3 := Lib.hid (E2.out.keep gr3); have R3 := Lib.hid row3; have S3 : Hid (w3.cell? ⟨w.heap.size, 0, none⟩ = some (.int .i64 me) ∧ w3.cell? ⟨w.heap.size, 1, none⟩ = some (.string se)) := ⟨(HC.out _ E3.out.low).1, (HC.out _ E3.out.low).2.1⟩; clear row3 gr3 lie3)
        | (refine step_append_row rfl _ _ rfl (.slice (some ⟨g2, 0, none⟩) n2 k2) (natBytes me) rfl E3.out.row _ _ _ _ rfl R3.out (text_ne _) HL1.out ?_; intro g4 n4 k4 w4 row4 gr4 lie4; have E4 := Lib.hid (E3.out.grow row4 gr4 lie4); have S4 : Hid (w4.cell? ⟨w.heap.size, 0, none⟩ = some (.int .i64 me) ∧ w4.cell? ⟨w.heap.size, 1, none⟩ = some (.string se)) := ⟨(HC.out _ E4.out.low).1, (HC.out _ E4.out.low).2.1⟩; clear row4 gr4 lie4)
        | fail)
    clear S2 S3 S4 E2 E3 R3 c0 c1 D0
    obtain ⟨-, -, c2, -⟩ := HC.out _ E4.out.low
    have hnw : IntKind.u64.wrap (n : Int) = n := IntWalk.u64_in _ ⟨by omega, by omega⟩
    go_wp2_with fail
    refine (rfNatural_any n _ (by omega)).mono ?_
    rintro r w5 ⟨g5, n5, k5, rfl, row5, gr5, lie5⟩
    have R5 := Lib.hid row5
    have E5 := Lib.hid (E4.out.keep gr5)
    clear row5 gr5 lie5 c2 hnw E4
    go_wp2_with (at_builtin; refine wpList_append_row rfl _ _ rfl (.slice (some ⟨g4, 0, none⟩) n4 k4) _ rfl E5.out.row _ _ _ _ rfl R5.out (pNat_ne _) (Nat.le_trans HL2.out (by decide)) ?_; intro g6 n6 k6 w6 row6 gr6 lie6)
    have E6 := Lib.hid (E5.out.grow row6 gr6 lie6)
    clear row6 gr6 lie6 E5 R5
    have HL3 : Hid (((natBytes me ++ (natBytes se.size ++ se.data.toList)) ++ natBytes n).length ≤ 2000) := by
      show _ ≤ _
      rw [List.length_append]
      exact HL2.out
    clear HL1 HL2 Hme Hse
    generalize (natBytes me ++ (natBytes se.size ++ se.data.toList)) ++ natBytes n = HD at *
    go_loopg [5, 6] n (fun gk ov iv wr => ∃ (k g m cap : Nat), k + gk = n ∧ ov = .slice (some ⟨g, 0, none⟩) m cap ∧ iv = .int .i64 k ∧ Hid (EnR w1 wr (.slice (some ⟨g, 0, none⟩) m cap) (HD ++ linesB (ls.take k))))
    case atStart => exact ⟨0, g6, n6, k6, by omega, rfl, rfl, by have := E6.out; show EnR _ _ _ _; simpa [linesB] using this⟩
    case round =>
      clear E6
      obtain ⟨k, g, m, cap, hk, rfl, rfl, E⟩ := hrel
      have Hk := Lib.hid hk
      have hkn : k ≤ n := by omega
      clear hk
      obtain ⟨-, -, c2, c3⟩ := HC.out _ E.out.low
      by_cases h4 : k < n
      · clear c3
        obtain ⟨ga, off, rfl, hcell⟩ := (HS.out _ (Hb1.out.trans (E.out.low.mono Hb1.out.size))).2 (by omega)
        have hck := hcell k h4
        have hszk := HLs.out k h4
        have Hsn : Hid (linesB (ls.take (k + 1)) = linesB (ls.take k) ++ (natBytes (ls.getD k ⟨#[]⟩).size ++ (ls.getD k ⟨#[]⟩).data.toList)) := by
          have := linesB_snoc ls k (by rw [Hnl.out]; exact h4)
          rw [List.append_assoc] at this
          exact this
        clear hcell
        generalize ls.getD k ⟨#[]⟩ = lk at *
        have HLt : Hid ((HD ++ linesB (ls.take k)).length + (natBytes lk.size ++ lk.data.toList).length ≤ 35184372088832) := by
          show _ ≤ _
          have a1 := natBytes_length lk.size
          have a2 := HLk.out k
          have a3 := HL3.out
          simp only [List.length_append, size_toList]
          omega
        go_wp2_with fail
        refine (rfText_w lk _ (by omega)).mono ?_
        rintro r w7 ⟨g7, n7, k7, rfl, row7, gr7, lie7⟩
        have R7 := Lib.hid row7
        have E7 := Lib.hid (E.out.keep gr7)
        clear row7 gr7 lie7 c2 E hck
        go_wp2_with (at_builtin; refine wpList_append_row rfl _ _ rfl (.slice (some ⟨g, 0, none⟩) m cap) _ rfl E7.out.row _ _ _ _ rfl R7.out (text_ne _) HLt.out ?_; intro g8 n8 k8 w8 row8 gr8 lie8)
        have E8 := Lib.hid (E7.out.grow row8 gr8 lie8)
        clear row8 gr8 lie8 E7 R7 HLt
        rw [List.append_assoc, ← Hsn.out] at E8
        go_roundg (n - (k + 1))
        case measure => have := Hk.out; omega
        case rel => exact ⟨k + 1, g8, n8, k8, by have := Hk.out; omega, rfl, by go_num, E8⟩
      · obtain rfl : k = n := by omega
        clear Hk h4 hkn
        have Hfull : Hid (linesB (ls.take k) = linesB ls) := by
          show _ = _
          rw [List.take_of_length_le (by have := Hnl.out; omega)]
        have HLt : Hid ((HD ++ linesB (ls.take k)).length + (natBytes sc.size ++ sc.data.toList).length ≤ 35184372088832) := by
          show _ ≤ _
          have a1 := natBytes_length sc.size
          have a2 := HLk.out k
          have a3 := HL3.out
          have a4 := Hsc.out
          simp only [List.length_append, size_toList]
          omega
        go_wp2_with fail
        refine (rfText_w sc _ Hsc.out).mono ?_
        rintro r w7 ⟨g7, n7, k7, rfl, row7, gr7, lie7⟩
        have R7 := Lib.hid row7
        have E7 := Lib.hid (E.out.keep gr7)
        clear row7 gr7 lie7 c3 E
        go_wp2_with (at_builtin; refine wpList_append_row rfl _ _ rfl (.slice (some ⟨g, 0, none⟩) m cap) _ rfl E7.out.row _ _ _ _ rfl R7.out (text_ne _) HLt.out ?_; intro g8 n8 k8 w8 row8 gr8 lie8; have hconv := run_bytes_str w8 g8 0 n8 k8 _ row8.sl.1)
        have E8 := Lib.hid (E7.out.grow row8 gr8 lie8)
        go_ret2
        rw [he.out, HHead.out, ← Hfull.out, List.append_assoc]
        exact ⟨rfl, Hb1.out.trans (E8.out.low.mono Hb1.out.size)⟩
  · have he : Hid (encT ⟨ep, se, ls, sc⟩ = (⟨#[]⟩, q)) := by show _ = _; simp [encT, Hq.out, h0]
    have h0' : ((q : Int) != 0) = true := bne_iff_ne.2 (by omega)
    clear h0
    go_wp2
    go_ret2
    rw [he.out]
    exact ⟨rfl, Hb1.out⟩
theorem rEnc36_is (ep : Int) (se sc : ByteArray) (a : Option Addr) (n c : Nat) (ls : List ByteArray) (x : ByteArray) (q : Nat) (he : encT ⟨ep, se, ls, sc⟩ = (x, q)) (w : World) (hs : SSl w a n ls) (hse : se.size ≤ 70368744177664) (hsc : sc.size ≤ 70368744177664) (hn : n ≤ 70368744177664) (hls : ∀ s ∈ ls, s.size ≤ 70368744177664) :
    Calls Tryd.prog 11 #[.agg #[.int .i64 ep, .string se, .slice a n c, .string sc]] w fun r w' => r = .returned (.tuple #[.string x, .int .i64 q]) ∧ Below w.heap.size w w' := by
  have h := rEnc36_any ep se sc a n c ls w hs hse hsc hn hls
  rw [he] at h
  exact h
end Go.Proofs.YtfobmfenjdiimaaDoor
