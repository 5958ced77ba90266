/- descriptor: Encode. (printed by wip/gen_dsce.py) -/
import Derived.Test.YtfchfjipkggnkaaDoorDscD
import Derived.Test.YtfchfjipkggnkaaDoorDscX
import Derived.Deep.LoopGhost
namespace Go.Proofs.YtfchfjipkggnkaaDoor
open Go.RowKit
attribute [local go_sem ↓] run_eql_opn run_neq_opn

theorem used_snoc_len {t : List OpnT} {k : Nat} {x : OpnT} (h : t[k]? = some x) : (usedO 0 (t.take (k + 1))).length = (usedO 0 (t.take k)).length + (if isZ x = true then 0 else 1) := by
  rw [usedO_take h, List.length_append]
  split <;> rfl
theorem ents_step {t : List OpnT} {k : Nat} {x : OpnT} (h : t[k]? = some x) : entsB (usedO 0 (t.take (k + 1))) = entsB (usedO 0 (t.take k)) ++ (if isZ x = true then [] else entB k x) := by
  rw [usedO_take h]
  unfold entsB
  rw [List.flatMap_append]
  split <;> simp
theorem take_tabE {t : List OpnT} (h : tabE t = 0) (k : Nat) : tabE (t.take k) = 0 := tabE_of fun o ho hz => tabE_mem h o (List.mem_of_mem_take ho) hz
theorem ents_take_len {t : List OpnT} (h : tabE t = 0) (hl : t.length = 16) (k : Nat) : (entsB (usedO 0 (t.take k))).length ≤ 3200 := by
  have h1 := entsB_len (used_size (take_tabE h k))
  have h2 := usedO_len (t.take k) 0
  have h3 : (t.take k).length ≤ 16 := by rw [List.length_take]; omega
  omega
set_option maxRecDepth 100000 in
set_option maxHeartbeats 12800000 in
theorem dEncode_any (t : List OpnT) (ht : t.length = 16) (hm : ∀ o ∈ t, o.mak.size ≤ 70368744177664) (w : World) : Calls Tryd.prog 10 #[.agg (tabA t)] w fun r w' => r = .returned (.tuple #[.string (encD t).1, .int .i64 (encD t).2]) ∧ Below w.heap.size w w' := by
  have HT0 : Hid (TabAt (w.alloc (.cells (tabA t) 31)) w.heap.size t) := ⟨World.alloc_heap_new w _, ht⟩
  have HB0 : Hid (Below w.heap.size w (w.alloc (.cells (tabA t) 31))) := (Below.refl _ _).alloc (Nat.le_refl _) _
  have Hm := Lib.hid hm; clear hm
  have Ht := Lib.hid ht; clear ht
  go_enter Tryd.func10, Tryd.ntmps10
  go_wp2
  refine wp_load_tab _ rfl w.heap.size rfl HT0.out ?_
  go_wp2
  generalize w.alloc (.cells (tabA t) 31) = w1 at *
  go_loopw [4, 14] (fun u i wr => ∃ k : Nat, k ≤ 16 ∧ i = .int .i64 k ∧ u = .int .i64 (usedO 0 (t.take k)).length ∧ Hid (tabE (t.take k) = 0) ∧ Hid (Below w1.heap.size w1 wr)) (fun _ i _ => 16 - (intOf i).toNat)
  case atStart => exact ⟨0, by omega, rfl, rfl, rfl, Below.refl _ _⟩
  case round =>
    obtain ⟨k, hk, rfl, rfl, HE, HB⟩ := hrel
    by_cases h5 : k < 16
    · obtain ⟨x, hx⟩ := ent_some Ht.out h5
      have hix := tab_index t h5 hx wr
      have HXt := Lib.hid (Hm.out x (List.mem_of_getElem? hx))
      have Hx := Lib.hid hx; clear hx
      have Hln := Lib.hid (used_snoc_len Hx.out)
      have HEs := Lib.hid (tabE_step Hx.out HE.out)
      have Hul : Hid ((usedO 0 (t.take k)).length ≤ 16) := by
        have h1 := usedO_len (t.take k) 0
        have h2 : (t.take k).length ≤ 16 := by rw [List.length_take]; omega
        exact Nat.le_trans h1 h2
      have hul := Hul.out
      have HA : Hid (∀ ob, Below w1.heap.size w1 (wr.alloc ob)) := fun ob => HB.out.alloc HB.out.size _
      generalize (usedO 0 (t.take k)).length = un at *
      obtain ⟨kd, mak, bn, num, off, rd, wr_, ap⟩ := x
      dsimp only [opnA] at hix
      cases hz : isZ ⟨kd, mak, bn, num, off, rd, wr_, ap⟩ with
      | true =>
        have hz2 : sameO ⟨kd, mak, bn, num, off, rd, wr_, ap⟩ ⟨0, ⟨#[]⟩, 0, 0, 0, false, false, false⟩ = true := hz
        rw [hz] at Hln HEs
        clear hz
        go_wp2
        go_roundw
        case rel => exact ⟨k + 1, by omega, by go_num, by rw [Hln.out]; rfl, HEs.out, HA.out _⟩
        case measure => simp [intOf]; omega
      | false =>
        have hz2 : sameO ⟨kd, mak, bn, num, off, rd, wr_, ap⟩ ⟨0, ⟨#[]⟩, 0, 0, 0, false, false, false⟩ = false := hz
        have Hz := Lib.hid hz
        rw [hz] at Hln HEs
        clear hz
        have HEs2 : Hid (tabE (t.take (k + 1)) = checkO ⟨kd, mak, bn, num, off, rd, wr_, ap⟩) := HEs.out.trans (if_neg (fun h => nomatch h))
        have Hln2 : Hid ((usedO 0 (t.take (k + 1))).length = un + 1) := Hln.out.trans (by rw [if_neg (fun h => nomatch h)])
        have HS : Hid (checkO ⟨kd, mak, bn, num, off, rd, wr_, ap⟩ ≠ 0 → encD t = (⟨#[]⟩, checkO ⟨kd, mak, bn, num, off, rd, wr_, ap⟩)) := fun h => by
          have h2 := tabE_stop Hx.out HE.out Hz.out h
          unfold encD
          rw [h2, if_neg h]
        clear HEs Hln
        go_wp2_with fail
        generalize hq : checkO ⟨kd, mak, bn, num, off, rd, wr_, ap⟩ = q at *
        have Hq := Lib.hid hq; clear hq
        refine (oCheck_is kd mak bn num off rd wr_ ap q Hq.out _ HXt.out).mono ?_
        rintro r w2 ⟨rfl, hb2⟩
        have HB2 : Hid (Below w1.heap.size w1 w2) := (HA.out _).trans (hb2.mono (HA.out _).size)
        clear hb2
        by_cases h0 : q = 0
        · subst h0
          go_wp2
          go_roundw
          case rel => exact ⟨k + 1, by omega, by go_num, by rw [Hln2.out]; go_num, HEs2.out, HB2.out⟩
          case measure => simp [intOf]; omega
        · have he := HS.out h0
          have He := Lib.hid he
          have hq' : ((q : Int) != 0) = true := bne_iff_ne.2 (by omega)
          have HF : Hid (Below w.heap.size w w2) := HB0.out.trans (HB2.out.mono HB0.out.size)
          clear h0 HS he
          go_wp2
          go_ret2
          rw [He.out]
          exact ⟨rfl, HF.out⟩
    · obtain rfl : k = 16 := by omega
      have htk : t.take 16 = t := List.take_of_length_le (by rw [Ht.out]; exact Nat.le_refl _)
      rw [htk] at HE ⊢
      clear htk h5 hk
      have HT1 := Lib.hid (HT0.out.later HB.out)
      have he : Hid (encD t = (strOf (encDB t), 0)) := if_pos HE.out
      have hul : (usedO 0 t).length ≤ 16 := Nat.le_trans (usedO_len t 0) (by rw [Ht.out]; exact Nat.le_refl _)
      have HBr : Hid (Below w.heap.size w wr) := HB0.out.trans (HB.out.mono HB0.out.size)
      clear HB HT0
      go_wp2_with fail
      refine (newWriter_any _).mono ?_
      rintro e w2 ⟨rfl, rfl⟩
      have Hwr := Lib.hid (wr_box (w := wr))
      have HB2 : Hid (Below wr.heap.size wr (wr.alloc (.cells #[.slice none 0 0, .int .i64 0] 108))) := (Below.refl _ _).alloc (Nat.le_refl _) _
      generalize wr.alloc (.cells #[.slice none 0 0, .int .i64 0] 108) = w2 at *
      have Hnl : Hid ((usedO 0 t).length = (usedO 0 t).length) := rfl
      clear Hnl
      have Hhd : Hid ([] ++ natBytes ((usedO 0 t).length : Int).toNat = natBytes (usedO 0 t).length) := by show _ = _; simp
      have HfD : Hid (encDB t = natBytes (usedO 0 t).length ++ entsB (usedO 0 t)) := rfl
      have HnL : Hid ((natBytes (usedO 0 t).length).length ≤ 10) := natBytes_length _
      generalize (usedO 0 t).length = un at *
      go_wp2_with fail
      refine (number_any wr.heap.size wr.heap.size [] un _ (by omega) (by omega) (by simp) HB2.out.size Hwr.out).mono ?_
      rintro e w3 ⟨rfl, hwr, hb⟩
      rw [Hhd.out] at hwr
      have HB3 : Hid (Below wr.heap.size wr w3) := HB2.out.trans hb
      have HW3 := Lib.hid hwr
      have HT3 := Lib.hid (HT1.out.later HB3.out)
      clear hwr hb Hwr HB2 Hhd HT1
      obtain ⟨wo, hwo⟩ : ∃ x, x = wr := ⟨_, rfl⟩
      subst hwo
      obtain ⟨B, hB⟩ : ∃ B, wo.heap.size = B := ⟨_, rfl⟩
      rw [hB] at HB3 HW3
      rw [hB]
      have hBw : B ≤ w3.heap.size := by rw [← hB]; exact HB3.out.size
      go_wp2
      refine wp_load_tab _ rfl w.heap.size rfl HT3.out ?_
      go_wp2
      go_loopw [33] (fun i wr => ∃ k : Nat, k ≤ 16 ∧ i = .int .i64 k ∧ Hid (Wr B B wr (natBytes un ++ entsB (usedO 0 (t.take k)))) ∧ Hid (Below B wo wr)) (fun i _ => 16 - (intOf i).toNat)
      case atStart => exact ⟨0, by omega, rfl, by show Wr _ _ _ _; simpa [entsB, usedO] using HW3.out, HB3.out⟩
      case round =>
        obtain ⟨k, hk, rfl, HW, HBx⟩ := hrel
        clear HT3 HW3
        by_cases h5 : k < 16
        · obtain ⟨x, hx⟩ := ent_some Ht.out h5
          have hix := tab_index t h5 hx wr
          have Hx := Lib.hid hx; clear hx
          have Hst := Lib.hid (ents_step Hx.out)
          have HL0 : Hid ((natBytes un ++ entsB (usedO 0 (t.take k))).length ≤ 4000) := by
            show _ ≤ _
            have h1 := ents_take_len HE.out Ht.out k
            have h2 := HnL.out
            rw [List.length_append]
            omega
          have HCk : Hid (isZ x = false → OkO x) := fun h => checkO_ok (tabE_mem HE.out x (List.mem_of_getElem? Hx.out) h)
          have HWx : Hid (∀ ob, WrX B B wr.heap.size (wr.alloc ob) (natBytes un ++ entsB (usedO 0 (t.take k)))) := fun ob => HW.out.x ob
          have HA : Hid (∀ ob, Below B wo (wr.alloc ob)) := fun ob => HBx.out.alloc (by have := HBx.out.size; omega) _
          have HX : Hid (∀ ob, (wr.alloc ob).heap[wr.heap.size]? = some ob) := fun ob => World.alloc_heap_new wr ob
          obtain ⟨pre, hpre⟩ : ∃ p, natBytes un ++ entsB (usedO 0 (t.take k)) = p := ⟨_, rfl⟩
          rw [hpre] at HL0 HWx HW
          have Hpre := Lib.hid hpre
          clear hpre HW
          obtain ⟨kd, mak, bn, num, off, rd, wr_, ap⟩ := x
          dsimp only [opnA] at hix
          cases hz : isZ ⟨kd, mak, bn, num, off, rd, wr_, ap⟩ with
          | true =>
            have hz2 : sameO ⟨kd, mak, bn, num, off, rd, wr_, ap⟩ ⟨0, ⟨#[]⟩, 0, 0, 0, false, false, false⟩ = true := hz
            rw [hz] at Hst
            have HW2 : Hid (∀ ob, Wr B B (wr.alloc ob) pre) := fun ob => (HWx.out ob).wr
            have Hst2 : Hid (natBytes un ++ entsB (usedO 0 (t.take (k + 1))) = pre) := by
              show _ = _
              rw [Hst.out, if_pos rfl, List.append_nil]
              exact Hpre.out
            clear hz HCk HWx
            go_wp2
            go_roundw
            case rel => exact ⟨k + 1, by omega, by go_num, by rw [Hst2.out]; exact HW2.out _, HA.out _⟩
            case measure => simp [intOf]; omega
          | false =>
            have hz2 : sameO ⟨kd, mak, bn, num, off, rd, wr_, ap⟩ ⟨0, ⟨#[]⟩, 0, 0, 0, false, false, false⟩ = false := hz
            obtain ⟨b1, b2, b3, b4, b5⟩ := HCk.out hz
            dsimp only at b1 b2 b3 b4 b5
            rw [hz] at Hst
            have Hst2 : Hid (natBytes un ++ entsB (usedO 0 (t.take (k + 1))) = pre ++ entB k ⟨kd, mak, bn, num, off, rd, wr_, ap⟩) := by
              show _ = _
              rw [Hst.out, if_neg (fun h => nomatch h), ← List.append_assoc, Hpre.out]
            clear hz HCk
            have HL := HL0
            go_wp2_with fail
            refine (numberX_any B B wr.heap.size pre (k : Int) _ (by omega) (by omega) (by have := HL.out; omega) (by simp; have := HBx.out.size; omega) (HWx.out _)).mono ?_
            rintro r y1 ⟨rfl, hw, hb, hx⟩
            have HW1 := Lib.hid hw
            have HS1 : Hid (B ≤ y1.heap.size) := Nat.le_trans (by simp; have := HBx.out.size; omega) hb.size
            have HBy1 : Hid (Below B wo y1) := (HA.out _).trans hb
            have HX1 := Lib.hid (hx.trans (HX.out _))
            have HL1 : Hid ((pre ++ natBytes (k : Int).toNat).length ≤ 4100) := by
              show _ ≤ _
              have h1 := HL.out
              have h2 := natBytes_length (k : Int).toNat
              rw [List.length_append]
              omega
            have HP1 : Hid (pre ++ natBytes (k : Int).toNat = pre ++ natBytes (k : Int).toNat) := rfl
            obtain ⟨p1, hp1⟩ : ∃ p, pre ++ natBytes (k : Int).toNat = p := ⟨_, rfl⟩
            rw [hp1] at HW1 HL1
            have Hp1 := Lib.hid hp1
            clear hw hb hx hp1 HP1 HWx HX
            have c1 : y1.cell? ⟨wr.heap.size, 0, none⟩ = some (.int .i64 kd) := cell_of_heap HX1.out 0
            go_wp2_with fail
            refine (numberX_any B B wr.heap.size p1 kd _ (by omega) (by omega) (by have := HL1.out; omega) HS1.out HW1.out).mono ?_
            rintro r y2 ⟨rfl, hw, hb, hx⟩
            have HW2 := Lib.hid hw
            have HS2 : Hid (B ≤ y2.heap.size) := Nat.le_trans HS1.out hb.size
            have HBy2 : Hid (Below B wo y2) := HBy1.out.trans hb
            have HX2 := Lib.hid (hx.trans HX1.out)
            have HL2 : Hid ((p1 ++ natBytes kd.toNat).length ≤ 4200) := by
              show _ ≤ _
              have h1 := HL1.out
              have h2 := natBytes_length kd.toNat
              rw [List.length_append]
              omega
            have HP2 : Hid (p1 ++ natBytes kd.toNat = p1 ++ natBytes kd.toNat) := rfl
            obtain ⟨p2, hp2⟩ : ∃ p, p1 ++ natBytes kd.toNat = p := ⟨_, rfl⟩
            rw [hp2] at HW2 HL2
            have Hp2 := Lib.hid hp2
            clear hw hb hx hp2 HP2 HX1 HW1
            have c2 : y2.cell? ⟨wr.heap.size, 1, none⟩ = some (.string mak) := cell_of_heap HX2.out 1
            go_wp2_with fail
            refine (textXX_any B B wr.heap.size p2 mak _ (by omega) (by have := HL2.out; omega) HS2.out HW2.out).mono ?_
            rintro r y3 ⟨rfl, hw, hb, hx⟩
            have HW3 := Lib.hid hw
            have HS3 : Hid (B ≤ y3.heap.size) := Nat.le_trans HS2.out hb.size
            have HBy3 : Hid (Below B wo y3) := HBy2.out.trans hb
            have HX3 := Lib.hid (hx.trans HX2.out)
            have HL3 : Hid ((p2 ++ natBytes mak.size ++ mak.data.toList).length ≤ 4300) := by
              show _ ≤ _
              have h1 := HL2.out
              have h2 := natBytes_length mak.size
              rw [List.length_append, List.length_append, size_toList]
              omega
            have HP3 : Hid (p2 ++ natBytes mak.size ++ mak.data.toList = p2 ++ natBytes mak.size ++ mak.data.toList) := rfl
            obtain ⟨p3, hp3⟩ : ∃ p, p2 ++ natBytes mak.size ++ mak.data.toList = p := ⟨_, rfl⟩
            rw [hp3] at HW3 HL3
            have Hp3 := Lib.hid hp3
            clear hw hb hx hp3 HP3 HX2 HW2
            have c3 : y3.cell? ⟨wr.heap.size, 2, none⟩ = some (.int .i64 bn) := cell_of_heap HX3.out 2
            go_wp2_with fail
            refine (numberX_any B B wr.heap.size p3 bn _ (by omega) (by omega) (by have := HL3.out; omega) HS3.out HW3.out).mono ?_
            rintro r y4 ⟨rfl, hw, hb, hx⟩
            have HW4 := Lib.hid hw
            have HS4 : Hid (B ≤ y4.heap.size) := Nat.le_trans HS3.out hb.size
            have HBy4 : Hid (Below B wo y4) := HBy3.out.trans hb
            have HX4 := Lib.hid (hx.trans HX3.out)
            have HL4 : Hid ((p3 ++ natBytes bn.toNat).length ≤ 4400) := by
              show _ ≤ _
              have h1 := HL3.out
              have h2 := natBytes_length bn.toNat
              rw [List.length_append]
              omega
            have HP4 : Hid (p3 ++ natBytes bn.toNat = p3 ++ natBytes bn.toNat) := rfl
            obtain ⟨p4, hp4⟩ : ∃ p, p3 ++ natBytes bn.toNat = p := ⟨_, rfl⟩
            rw [hp4] at HW4 HL4
            have Hp4 := Lib.hid hp4
            clear hw hb hx hp4 HP4 HX3 HW3
            have c4 : y4.cell? ⟨wr.heap.size, 3, none⟩ = some (.int .i64 num) := cell_of_heap HX4.out 3
            go_wp2_with fail
            refine (numberX_any B B wr.heap.size p4 num _ (by omega) (by omega) (by have := HL4.out; omega) HS4.out HW4.out).mono ?_
            rintro r y5 ⟨rfl, hw, hb, hx⟩
            have HW5 := Lib.hid hw
            have HS5 : Hid (B ≤ y5.heap.size) := Nat.le_trans HS4.out hb.size
            have HBy5 : Hid (Below B wo y5) := HBy4.out.trans hb
            have HX5 := Lib.hid (hx.trans HX4.out)
            have HL5 : Hid ((p4 ++ natBytes num.toNat).length ≤ 4500) := by
              show _ ≤ _
              have h1 := HL4.out
              have h2 := natBytes_length num.toNat
              rw [List.length_append]
              omega
            have HP5 : Hid (p4 ++ natBytes num.toNat = p4 ++ natBytes num.toNat) := rfl
            obtain ⟨p5, hp5⟩ : ∃ p, p4 ++ natBytes num.toNat = p := ⟨_, rfl⟩
            rw [hp5] at HW5 HL5
            have Hp5 := Lib.hid hp5
            clear hw hb hx hp5 HP5 HX4 HW4
            have c5 : y5.cell? ⟨wr.heap.size, 4, none⟩ = some (.int .i64 off) := cell_of_heap HX5.out 4
            go_wp2_with fail
            refine (numberX_any B B wr.heap.size p5 off _ (by omega) (by omega) (by have := HL5.out; omega) HS5.out HW5.out).mono ?_
            rintro r y6 ⟨rfl, hw, hb, hx⟩
            have HW6 := Lib.hid hw
            have HS6 : Hid (B ≤ y6.heap.size) := Nat.le_trans HS5.out hb.size
            have HBy6 : Hid (Below B wo y6) := HBy5.out.trans hb
            have HX6 := Lib.hid (hx.trans HX5.out)
            have HL6 : Hid ((p5 ++ natBytes off.toNat).length ≤ 4600) := by
              show _ ≤ _
              have h1 := HL5.out
              have h2 := natBytes_length off.toNat
              rw [List.length_append]
              omega
            have HP6 : Hid (p5 ++ natBytes off.toNat = p5 ++ natBytes off.toNat) := rfl
            obtain ⟨p6, hp6⟩ : ∃ p, p5 ++ natBytes off.toNat = p := ⟨_, rfl⟩
            rw [hp6] at HW6 HL6
            have Hp6 := Lib.hid hp6
            clear hw hb hx hp6 HP6 HX5 HW5
            have c6 : y6.cell? ⟨wr.heap.size, 5, none⟩ = some (.bool rd) := cell_of_heap HX6.out 5
            go_wp2_with fail
            refine (flagX_any B B wr.heap.size p6 rd _ (by have := HL6.out; omega) HS6.out HW6.out).mono ?_
            rintro r y7 ⟨rfl, hw, hb, hx⟩
            have HW7 := Lib.hid hw
            have HS7 : Hid (B ≤ y7.heap.size) := Nat.le_trans HS6.out hb.size
            have HBy7 : Hid (Below B wo y7) := HBy6.out.trans hb
            have HX7 := Lib.hid (hx.trans HX6.out)
            have HL7 : Hid ((p6 ++ flagB rd).length ≤ 4700) := by
              show _ ≤ _
              have h1 := HL6.out
              rw [List.length_append]; show _ + 1 ≤ _
              omega
            have HP7 : Hid (p6 ++ flagB rd = p6 ++ flagB rd) := rfl
            obtain ⟨p7, hp7⟩ : ∃ p, p6 ++ flagB rd = p := ⟨_, rfl⟩
            rw [hp7] at HW7 HL7
            have Hp7 := Lib.hid hp7
            clear hw hb hx hp7 HP7 HX6 HW6
            have c7 : y7.cell? ⟨wr.heap.size, 6, none⟩ = some (.bool wr_) := cell_of_heap HX7.out 6
            go_wp2_with fail
            refine (flagX_any B B wr.heap.size p7 wr_ _ (by have := HL7.out; omega) HS7.out HW7.out).mono ?_
            rintro r y8 ⟨rfl, hw, hb, hx⟩
            have HW8 := Lib.hid hw
            have HS8 : Hid (B ≤ y8.heap.size) := Nat.le_trans HS7.out hb.size
            have HBy8 : Hid (Below B wo y8) := HBy7.out.trans hb
            have HX8 := Lib.hid (hx.trans HX7.out)
            have HL8 : Hid ((p7 ++ flagB wr_).length ≤ 4800) := by
              show _ ≤ _
              have h1 := HL7.out
              rw [List.length_append]; show _ + 1 ≤ _
              omega
            have HP8 : Hid (p7 ++ flagB wr_ = p7 ++ flagB wr_) := rfl
            obtain ⟨p8, hp8⟩ : ∃ p, p7 ++ flagB wr_ = p := ⟨_, rfl⟩
            rw [hp8] at HW8 HL8
            have Hp8 := Lib.hid hp8
            clear hw hb hx hp8 HP8 HX7 HW7
            have c8 : y8.cell? ⟨wr.heap.size, 7, none⟩ = some (.bool ap) := cell_of_heap HX8.out 7
            go_wp2_with fail
            refine (flagX_any B B wr.heap.size p8 ap _ (by have := HL8.out; omega) HS8.out HW8.out).mono ?_
            rintro r y9 ⟨rfl, hw, hb, hx⟩
            have HW9 := Lib.hid hw
            have HS9 : Hid (B ≤ y9.heap.size) := Nat.le_trans HS8.out hb.size
            have HBy9 : Hid (Below B wo y9) := HBy8.out.trans hb
            have HX9 := Lib.hid (hx.trans HX8.out)
            have HL9 : Hid ((p8 ++ flagB ap).length ≤ 4900) := by
              show _ ≤ _
              have h1 := HL8.out
              rw [List.length_append]; show _ + 1 ≤ _
              omega
            have HP9 : Hid (p8 ++ flagB ap = p8 ++ flagB ap) := rfl
            obtain ⟨p9, hp9⟩ : ∃ p, p8 ++ flagB ap = p := ⟨_, rfl⟩
            rw [hp9] at HW9 HL9
            have Hp9 := Lib.hid hp9
            clear hw hb hx hp9 HP9 HX8 HW8
            have Hfull : Hid (p9 = pre ++ entB k ⟨kd, mak, bn, num, off, rd, wr_, ap⟩) := by
              show _ = _
              rw [← Hp9.out, ← Hp8.out, ← Hp7.out, ← Hp6.out, ← Hp5.out, ← Hp4.out, ← Hp3.out, ← Hp2.out, ← Hp1.out]
              simp [entB, textB]
            rw [Hfull.out] at HW9
            go_wp2
            go_roundw
            case rel => exact ⟨k + 1, by omega, by go_num, by rw [Hst2.out]; exact HW9.out.wr, HBy9.out⟩
            case measure => simp [intOf]; omega
        · obtain rfl : k = 16 := by omega
          have htk : t.take 16 = t := List.take_of_length_le (by rw [Ht.out]; exact Nat.le_refl _)
          rw [htk] at HW
          have hwr := HW.out
          rw [← HfD.out] at hwr
          have HWn := Lib.hid hwr
          have Hel : Hid ((encDB t).length ≤ 35184372088832) := Nat.le_trans (encDB_len HE.out (by rw [Ht.out]; exact Nat.le_refl _)) (by decide)
          clear hwr HW htk
          go_wp2_with fail
          refine (bytes_any B B _ _ Hel.out HWn.out).mono ?_
          rintro e w7 ⟨v, rfl, hrow, hb, hform⟩
          rcases hform with rfl | ⟨g2, n2, c2, rfl, hg2⟩
          · exfalso
            rcases hrow.2 with ⟨_, h⟩ | ⟨g', cap', cur, h0, _⟩
            · have := natBytes_ne un
              rw [HfD.out] at h
              simp at h
              exact this h.1
            · cases h0
          · have hconv := run_bytes_str w7 g2 0 n2 c2 _ hrow.sl.1
            have Hfin : Hid (Below w.heap.size w w7) := HBr.out.trans ((HBx.out.trans (hb.mono (by have := HBx.out.size; omega))).mono (by rw [← hB]; exact HBr.out.size))
            clear hrow hb HBx HWn
            go_wp2
            go_ret2
            rw [he.out]
            exact ⟨rfl, Hfin.out⟩
end Go.Proofs.YtfchfjipkggnkaaDoor
