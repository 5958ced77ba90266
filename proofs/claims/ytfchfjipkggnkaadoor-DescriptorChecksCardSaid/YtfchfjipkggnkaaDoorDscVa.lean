/- Law 31: value. (printed by wip/gen_dscva.py) -/
import Derived.Test.YtfchfjipkggnkaaDoorDscO
import Derived.Deep.LoopGhost
namespace Go.Proofs.YtfchfjipkggnkaaDoor
open Go.RowKit
attribute [local go_sem ↓] run_eql_opn run_neq_opn

set_option maxRecDepth 100000 in
set_option maxHeartbeats 3200000 in
theorem value31_any (t : List OpnT) (ht : t.length = 16) (hE : tabE t = 0) (w : World) : Calls Tryd.prog 14 #[.agg (tabA t)] w fun r w' => r = .returned (.string (strOf (encDB t))) ∧ Below w.heap.size w w' := by
  have HT0 : Hid (TabAt (w.alloc (.cells (tabA t) 31)) w.heap.size t) := ⟨World.alloc_heap_new w _, ht⟩
  have HB0 : Hid (Below w.heap.size w (w.alloc (.cells (tabA t) 31))) := (Below.refl _ _).alloc (Nat.le_refl _) _
  have Ht := Lib.hid ht; clear ht
  have HE := Lib.hid hE; clear hE
  go_enter Tryd.func14, Tryd.ntmps14
  go_wp2_with fail
  generalize w.alloc (.cells (tabA t) 31) = w1 at *
  refine (newWriter_any _).mono ?_
  rintro e w2 ⟨rfl, rfl⟩
  have Hwr := Lib.hid (wr_box (w := w1))
  have HB2 : Hid (Below w1.heap.size w1 (w1.alloc (.cells #[.slice none 0 0, .int .i64 0] 108))) := (Below.refl _ _).alloc (Nat.le_refl _) _
  have HT2 := Lib.hid (HT0.out.later HB2.out)
  generalize w1.alloc (.cells #[.slice none 0 0, .int .i64 0] 108) = w2 at *
  go_wp2_with fail
  go_loopw [4, 5] (fun u i wr => ∃ k : Nat, k ≤ 16 ∧ i = .int .i64 k ∧ u = .int .i64 (usedO 0 (t.take k)).length ∧ wr = w2) (fun _ i _ => 16 - (intOf i).toNat)
  case atStart => exact ⟨0, by omega, rfl, rfl, rfl⟩
  case round =>
    obtain ⟨k, hk, rfl, rfl, rfl⟩ := hrel
    by_cases h5 : k < 16
    · obtain ⟨x, hx⟩ := ent_some Ht.out h5
      have Hln := Lib.hid (used_snoc_len hx)
      have Hul : Hid ((usedO 0 (t.take k)).length ≤ 16) := by
        have h1 := usedO_len (t.take k) 0
        have h2 : (t.take k).length ≤ 16 := by rw [List.length_take]; omega
        exact Nat.le_trans h1 h2
      have hul := Hul.out
      generalize (usedO 0 (t.take k)).length = un at *
      obtain ⟨kd, mak, bn, num, off, rd, wr_, ap⟩ := x
      have z0 : wr.cell? ⟨w.heap.size, k * 8, none⟩ = some (.int .i64 kd) := HT2.out.cell hx (j := 0) rfl
      have z1 : wr.cell? ⟨w.heap.size, k * 8 + 1, none⟩ = some (.string mak) := HT2.out.cell hx (j := 1) rfl
      have z2 : wr.cell? ⟨w.heap.size, k * 8 + 2, none⟩ = some (.int .i64 bn) := HT2.out.cell hx (j := 2) rfl
      have z3 : wr.cell? ⟨w.heap.size, k * 8 + 3, none⟩ = some (.int .i64 num) := HT2.out.cell hx (j := 3) rfl
      have z4 : wr.cell? ⟨w.heap.size, k * 8 + 4, none⟩ = some (.int .i64 off) := HT2.out.cell hx (j := 4) rfl
      have z5 : wr.cell? ⟨w.heap.size, k * 8 + 5, none⟩ = some (.bool rd) := HT2.out.cell hx (j := 5) rfl
      have z6 : wr.cell? ⟨w.heap.size, k * 8 + 6, none⟩ = some (.bool wr_) := HT2.out.cell hx (j := 6) rfl
      have z7 : wr.cell? ⟨w.heap.size, k * 8 + 7, none⟩ = some (.bool ap) := HT2.out.cell hx (j := 7) rfl
      have i0 : (0 : Int) ≤ (k : Int) := by omega
      have i1 : (k : Int) < 16 := by omega
      clear hx
      cases hz : isZ ⟨kd, mak, bn, num, off, rd, wr_, ap⟩ with
      | true =>
        have hz2 : sameO ⟨kd, mak, bn, num, off, rd, wr_, ap⟩ ⟨0, ⟨#[]⟩, 0, 0, 0, false, false, false⟩ = true := hz
        rw [hz] at Hln
        clear hz
        go_wp2
        go_roundw
        case rel => exact ⟨k + 1, by omega, by go_num, by rw [Hln.out]; rfl, by trivial⟩
        case measure => simp [intOf]; omega
      | false =>
        have hz2 : sameO ⟨kd, mak, bn, num, off, rd, wr_, ap⟩ ⟨0, ⟨#[]⟩, 0, 0, 0, false, false, false⟩ = false := hz
        rw [hz] at Hln
        have Hln2 := Lib.hid (Hln.out.trans (by rw [if_neg (fun h => nomatch h)]))
        clear hz Hln
        go_wp2
        go_roundw
        case rel => exact ⟨k + 1, by omega, by go_num, by rw [Hln2.out]; go_num, by trivial⟩
        case measure => simp [intOf]; omega
    · obtain rfl : k = 16 := by omega
      have htk : t.take 16 = t := List.take_of_length_le (by rw [Ht.out]; exact Nat.le_refl _)
      rw [htk]
      clear htk h5 hk
      have hul : (usedO 0 t).length ≤ 16 := Nat.le_trans (usedO_len t 0) (by rw [Ht.out]; exact Nat.le_refl _)
      have Hhd : Hid ([] ++ natBytes ((usedO 0 t).length : Int).toNat = natBytes (usedO 0 t).length) := by show _ = _; simp
      have HfD : Hid (encDB t = natBytes (usedO 0 t).length ++ entsB (usedO 0 t)) := rfl
      have HnL : Hid ((natBytes (usedO 0 t).length).length ≤ 10) := natBytes_length _
      generalize (usedO 0 t).length = un at *
      go_wp2_with fail
      refine (number_any w1.heap.size w1.heap.size [] un _ (by omega) (by omega) (by simp) HB2.out.size Hwr.out).mono ?_
      rintro e w3 ⟨rfl, hwr, hb⟩
      rw [Hhd.out] at hwr
      have HB3 : Hid (Below w1.heap.size w1 w3) := HB2.out.trans hb
      have HW3 := Lib.hid hwr
      have HTw : Hid (∀ W, Below w1.heap.size w1 W → TabAt W w.heap.size t) := fun W h => HT0.out.later h
      clear hwr hb Hwr HB2 Hhd HT2 HT0
      go_wp2_with fail
      go_loopw [6] (fun i wr => ∃ k : Nat, k ≤ 16 ∧ i = .int .i64 k ∧ Hid (Wr w1.heap.size w1.heap.size wr (natBytes un ++ entsB (usedO 0 (t.take k)))) ∧ Hid (Below w1.heap.size w1 wr)) (fun i _ => 16 - (intOf i).toNat)
      case atStart => exact ⟨0, by omega, rfl, by show Wr _ _ _ _; simpa [entsB, usedO] using HW3.out, HB3.out⟩
      case round =>
        obtain ⟨k, hk, rfl, HW, HBx⟩ := hrel
        clear HW3 HB3
        by_cases h5 : k < 16
        · obtain ⟨x, hx⟩ := ent_some Ht.out h5
          have Hx := Lib.hid hx; clear hx
          have Hst := Lib.hid (ents_step Hx.out)
          have HL0 : Hid ((natBytes un ++ entsB (usedO 0 (t.take k))).length ≤ 4000) := by
            show _ ≤ _
            have h1 := ents_take_len HE.out Ht.out k
            have h2 := HnL.out
            rw [List.length_append]
            omega
          have HCk : Hid (isZ x = false → OkO x) := fun h => checkO_ok (tabE_mem HE.out x (List.mem_of_getElem? Hx.out) h)
          obtain ⟨pre, hpre⟩ : ∃ p, natBytes un ++ entsB (usedO 0 (t.take k)) = p := ⟨_, rfl⟩
          rw [hpre] at HL0 HW
          have Hpre := Lib.hid hpre
          clear hpre
          have i0 : (0 : Int) ≤ (k : Int) := by omega
          have i1 : (k : Int) < 16 := by omega
          obtain ⟨kd, mak, bn, num, off, rd, wr_, ap⟩ := x
          have z0 : wr.cell? ⟨w.heap.size, k * 8, none⟩ = some (.int .i64 kd) := (HTw.out _ HBx.out).cell Hx.out (j := 0) rfl
          have z1 : wr.cell? ⟨w.heap.size, k * 8 + 1, none⟩ = some (.string mak) := (HTw.out _ HBx.out).cell Hx.out (j := 1) rfl
          have z2 : wr.cell? ⟨w.heap.size, k * 8 + 2, none⟩ = some (.int .i64 bn) := (HTw.out _ HBx.out).cell Hx.out (j := 2) rfl
          have z3 : wr.cell? ⟨w.heap.size, k * 8 + 3, none⟩ = some (.int .i64 num) := (HTw.out _ HBx.out).cell Hx.out (j := 3) rfl
          have z4 : wr.cell? ⟨w.heap.size, k * 8 + 4, none⟩ = some (.int .i64 off) := (HTw.out _ HBx.out).cell Hx.out (j := 4) rfl
          have z5 : wr.cell? ⟨w.heap.size, k * 8 + 5, none⟩ = some (.bool rd) := (HTw.out _ HBx.out).cell Hx.out (j := 5) rfl
          have z6 : wr.cell? ⟨w.heap.size, k * 8 + 6, none⟩ = some (.bool wr_) := (HTw.out _ HBx.out).cell Hx.out (j := 6) rfl
          have z7 : wr.cell? ⟨w.heap.size, k * 8 + 7, none⟩ = some (.bool ap) := (HTw.out _ HBx.out).cell Hx.out (j := 7) rfl
          cases hz : isZ ⟨kd, mak, bn, num, off, rd, wr_, ap⟩ with
          | true =>
            have hz2 : sameO ⟨kd, mak, bn, num, off, rd, wr_, ap⟩ ⟨0, ⟨#[]⟩, 0, 0, 0, false, false, false⟩ = true := hz
            rw [hz] at Hst
            have Hst2 : Hid (natBytes un ++ entsB (usedO 0 (t.take (k + 1))) = pre) := by
              show _ = _
              rw [Hst.out, if_pos rfl, List.append_nil]
              exact Hpre.out
            clear hz HCk
            go_wp2
            go_roundw
            case rel => exact ⟨k + 1, by omega, by go_num, by rw [Hst2.out]; exact HW.out, HBx.out⟩
            case measure => simp [intOf]; omega
          | false =>
            have hz2 : sameO ⟨kd, mak, bn, num, off, rd, wr_, ap⟩ ⟨0, ⟨#[]⟩, 0, 0, 0, false, false, false⟩ = false := hz
            obtain ⟨b1, b2, b3, b4, b5⟩ := HCk.out hz
            dsimp only at b1 b2 b3 b4 b5
            rw [hz] at Hst
            have Hst2 : Hid (natBytes un ++ entsB (usedO 0 (t.take (k + 1))) = pre ++ entB k ⟨kd, mak, bn, num, off, rd, wr_, ap⟩) := by
              show _ = _
              rw [Hst.out, if_neg (fun h => nomatch h), ← List.append_assoc, Hpre.out]
            clear hz HCk
            go_wp2_with fail
            refine (number_any w1.heap.size w1.heap.size pre (k : Int) _ (by omega) (by omega) (by have := HL0.out; omega) HBx.out.size HW.out).mono ?_
            rintro r y1 ⟨rfl, hw, hb⟩
            have HW1 := Lib.hid hw
            have HBy1 : Hid (Below w1.heap.size w1 y1) := HBx.out.trans hb
            have HL1 : Hid ((pre ++ natBytes (k : Int).toNat).length ≤ 4100) := by
              show _ ≤ _
              have h1 := HL0.out
              have h2 := natBytes_length (k : Int).toNat
              rw [List.length_append]
              omega
            obtain ⟨p1, hp1⟩ : ∃ p, pre ++ natBytes (k : Int).toNat = p := ⟨_, rfl⟩
            rw [hp1] at HW1 HL1
            have Hp1 := Lib.hid hp1
            clear hw hb hp1 HW z0 z1 z2 z3 z4 z5 z6 z7
            have c1 : y1.cell? ⟨w.heap.size, k * 8, none⟩ = some (.int .i64 kd) := (HTw.out _ HBy1.out).cell Hx.out (j := 0) rfl
            go_wp2_with fail
            refine (number_any w1.heap.size w1.heap.size p1 kd _ (by omega) (by omega) (by have := HL1.out; omega) HBy1.out.size HW1.out).mono ?_
            rintro r y2 ⟨rfl, hw, hb⟩
            have HW2 := Lib.hid hw
            have HBy2 : Hid (Below w1.heap.size w1 y2) := HBy1.out.trans hb
            have HL2 : Hid ((p1 ++ natBytes kd.toNat).length ≤ 4200) := by
              show _ ≤ _
              have h1 := HL1.out
              have h2 := natBytes_length kd.toNat
              rw [List.length_append]
              omega
            obtain ⟨p2, hp2⟩ : ∃ p, p1 ++ natBytes kd.toNat = p := ⟨_, rfl⟩
            rw [hp2] at HW2 HL2
            have Hp2 := Lib.hid hp2
            clear hw hb hp2 HW1 c1
            have c2 : y2.cell? ⟨w.heap.size, k * 8 + 1, none⟩ = some (.string mak) := (HTw.out _ HBy2.out).cell Hx.out (j := 1) rfl
            go_wp2_with fail
            refine (text_any w1.heap.size w1.heap.size p2 mak _ (by omega) (by have := HL2.out; omega) HBy2.out.size HW2.out).mono ?_
            rintro r y3 ⟨rfl, hw, hb⟩
            have HW3 := Lib.hid hw
            have HBy3 : Hid (Below w1.heap.size w1 y3) := HBy2.out.trans hb
            have HL3 : Hid ((p2 ++ natBytes mak.size ++ mak.data.toList).length ≤ 4300) := by
              show _ ≤ _
              have h1 := HL2.out
              have h2 := natBytes_length mak.size
              rw [List.length_append, List.length_append, size_toList]
              omega
            obtain ⟨p3, hp3⟩ : ∃ p, p2 ++ natBytes mak.size ++ mak.data.toList = p := ⟨_, rfl⟩
            rw [hp3] at HW3 HL3
            have Hp3 := Lib.hid hp3
            clear hw hb hp3 HW2 c2
            have c3 : y3.cell? ⟨w.heap.size, k * 8 + 2, none⟩ = some (.int .i64 bn) := (HTw.out _ HBy3.out).cell Hx.out (j := 2) rfl
            go_wp2_with fail
            refine (number_any w1.heap.size w1.heap.size p3 bn _ (by omega) (by omega) (by have := HL3.out; omega) HBy3.out.size HW3.out).mono ?_
            rintro r y4 ⟨rfl, hw, hb⟩
            have HW4 := Lib.hid hw
            have HBy4 : Hid (Below w1.heap.size w1 y4) := HBy3.out.trans hb
            have HL4 : Hid ((p3 ++ natBytes bn.toNat).length ≤ 4400) := by
              show _ ≤ _
              have h1 := HL3.out
              have h2 := natBytes_length bn.toNat
              rw [List.length_append]
              omega
            obtain ⟨p4, hp4⟩ : ∃ p, p3 ++ natBytes bn.toNat = p := ⟨_, rfl⟩
            rw [hp4] at HW4 HL4
            have Hp4 := Lib.hid hp4
            clear hw hb hp4 HW3 c3
            have c4 : y4.cell? ⟨w.heap.size, k * 8 + 3, none⟩ = some (.int .i64 num) := (HTw.out _ HBy4.out).cell Hx.out (j := 3) rfl
            go_wp2_with fail
            refine (number_any w1.heap.size w1.heap.size p4 num _ (by omega) (by omega) (by have := HL4.out; omega) HBy4.out.size HW4.out).mono ?_
            rintro r y5 ⟨rfl, hw, hb⟩
            have HW5 := Lib.hid hw
            have HBy5 : Hid (Below w1.heap.size w1 y5) := HBy4.out.trans hb
            have HL5 : Hid ((p4 ++ natBytes num.toNat).length ≤ 4500) := by
              show _ ≤ _
              have h1 := HL4.out
              have h2 := natBytes_length num.toNat
              rw [List.length_append]
              omega
            obtain ⟨p5, hp5⟩ : ∃ p, p4 ++ natBytes num.toNat = p := ⟨_, rfl⟩
            rw [hp5] at HW5 HL5
            have Hp5 := Lib.hid hp5
            clear hw hb hp5 HW4 c4
            have c5 : y5.cell? ⟨w.heap.size, k * 8 + 4, none⟩ = some (.int .i64 off) := (HTw.out _ HBy5.out).cell Hx.out (j := 4) rfl
            go_wp2_with fail
            refine (number_any w1.heap.size w1.heap.size p5 off _ (by omega) (by omega) (by have := HL5.out; omega) HBy5.out.size HW5.out).mono ?_
            rintro r y6 ⟨rfl, hw, hb⟩
            have HW6 := Lib.hid hw
            have HBy6 : Hid (Below w1.heap.size w1 y6) := HBy5.out.trans hb
            have HL6 : Hid ((p5 ++ natBytes off.toNat).length ≤ 4600) := by
              show _ ≤ _
              have h1 := HL5.out
              have h2 := natBytes_length off.toNat
              rw [List.length_append]
              omega
            obtain ⟨p6, hp6⟩ : ∃ p, p5 ++ natBytes off.toNat = p := ⟨_, rfl⟩
            rw [hp6] at HW6 HL6
            have Hp6 := Lib.hid hp6
            clear hw hb hp6 HW5 c5
            have c6 : y6.cell? ⟨w.heap.size, k * 8 + 5, none⟩ = some (.bool rd) := (HTw.out _ HBy6.out).cell Hx.out (j := 5) rfl
            go_wp2_with fail
            refine (flag_any w1.heap.size w1.heap.size p6 rd _ (by have := HL6.out; omega) HBy6.out.size HW6.out).mono ?_
            rintro r y7 ⟨rfl, hw, hb⟩
            have HW7 := Lib.hid hw
            have HBy7 : Hid (Below w1.heap.size w1 y7) := HBy6.out.trans hb
            have HL7 : Hid ((p6 ++ flagB rd).length ≤ 4700) := by
              show _ ≤ _
              have h1 := HL6.out
              rw [List.length_append]; show _ + 1 ≤ _
              omega
            obtain ⟨p7, hp7⟩ : ∃ p, p6 ++ flagB rd = p := ⟨_, rfl⟩
            rw [hp7] at HW7 HL7
            have Hp7 := Lib.hid hp7
            clear hw hb hp7 HW6 c6
            have c7 : y7.cell? ⟨w.heap.size, k * 8 + 6, none⟩ = some (.bool wr_) := (HTw.out _ HBy7.out).cell Hx.out (j := 6) rfl
            go_wp2_with fail
            refine (flag_any w1.heap.size w1.heap.size p7 wr_ _ (by have := HL7.out; omega) HBy7.out.size HW7.out).mono ?_
            rintro r y8 ⟨rfl, hw, hb⟩
            have HW8 := Lib.hid hw
            have HBy8 : Hid (Below w1.heap.size w1 y8) := HBy7.out.trans hb
            have HL8 : Hid ((p7 ++ flagB wr_).length ≤ 4800) := by
              show _ ≤ _
              have h1 := HL7.out
              rw [List.length_append]; show _ + 1 ≤ _
              omega
            obtain ⟨p8, hp8⟩ : ∃ p, p7 ++ flagB wr_ = p := ⟨_, rfl⟩
            rw [hp8] at HW8 HL8
            have Hp8 := Lib.hid hp8
            clear hw hb hp8 HW7 c7
            have c8 : y8.cell? ⟨w.heap.size, k * 8 + 7, none⟩ = some (.bool ap) := (HTw.out _ HBy8.out).cell Hx.out (j := 7) rfl
            go_wp2_with fail
            refine (flag_any w1.heap.size w1.heap.size p8 ap _ (by have := HL8.out; omega) HBy8.out.size HW8.out).mono ?_
            rintro r y9 ⟨rfl, hw, hb⟩
            have HW9 := Lib.hid hw
            have HBy9 : Hid (Below w1.heap.size w1 y9) := HBy8.out.trans hb
            have HL9 : Hid ((p8 ++ flagB ap).length ≤ 4900) := by
              show _ ≤ _
              have h1 := HL8.out
              rw [List.length_append]; show _ + 1 ≤ _
              omega
            obtain ⟨p9, hp9⟩ : ∃ p, p8 ++ flagB ap = p := ⟨_, rfl⟩
            rw [hp9] at HW9 HL9
            have Hp9 := Lib.hid hp9
            clear hw hb hp9 HW8 c8
            have Hfull : Hid (p9 = pre ++ entB k ⟨kd, mak, bn, num, off, rd, wr_, ap⟩) := by
              show _ = _
              rw [← Hp9.out, ← Hp8.out, ← Hp7.out, ← Hp6.out, ← Hp5.out, ← Hp4.out, ← Hp3.out, ← Hp2.out, ← Hp1.out]
              simp [entB, textB]
            rw [Hfull.out] at HW9
            go_wp2
            go_roundw
            case rel => exact ⟨k + 1, by omega, by go_num, by rw [Hst2.out]; exact HW9.out, HBy9.out⟩
            case measure => simp [intOf]; omega
        · obtain rfl : k = 16 := by omega
          have htk : t.take 16 = t := List.take_of_length_le (by rw [Ht.out]; exact Nat.le_refl _)
          rw [htk] at HW
          have hwr := HW.out
          rw [← HfD.out] at hwr
          have HWn := Lib.hid hwr
          have Hel : Hid ((encDB t).length ≤ 35184372088832) := Nat.le_trans (encDB_len HE.out (by rw [Ht.out]; exact Nat.le_refl _)) (by decide)
          clear hwr HW htk
          go_wp2_with fail
          refine (bytes_any w1.heap.size w1.heap.size _ _ Hel.out HWn.out).mono ?_
          rintro e w7 ⟨v, rfl, hrow, hb, hform⟩
          rcases hform with rfl | ⟨g2, n2, c2, rfl, hg2⟩
          · exfalso
            rcases hrow.2 with ⟨_, h⟩ | ⟨g', cap', cur, h0, _⟩
            · have := natBytes_ne un
              rw [HfD.out] at h
              simp at h
              exact this h.1
            · cases h0
          · have hconv := run_bytes_str w7 g2 0 n2 c2 _ hrow.sl.1
            have Hfin : Hid (Below w.heap.size w w7) := HB0.out.trans ((HBx.out.trans (hb.mono HBx.out.size)).mono HB0.out.size)
            clear hrow hb HBx HWn
            go_wp2
            go_ret
            exact ⟨rfl, Hfin.out⟩
end Go.Proofs.YtfchfjipkggnkaaDoor
