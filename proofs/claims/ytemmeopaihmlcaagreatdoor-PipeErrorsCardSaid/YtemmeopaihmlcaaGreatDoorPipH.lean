/- pipe: Make; Decode of Encode. -/
import Derived.Test.YtemmeopaihmlcaaGreatDoorPipG
import Derived.Test.YtemmeopaihmlcaaGreatDoorViewH
import Derived.Test.YtemmeopaihmlcaaGreatDoorPlainN
namespace Go.Proofs.YtemmeopaihmlcaaGreatDoor
open Go.RowKit
attribute [local go_sem ↓] Go.wp_at_zero Go.wp_at_succ

/-- What Make makes of a view. -/
def pMake (V : AV) (m : ByteArray) (k e : Int) : AV × Nat :=
  if pArgs m k e ≠ 0 then (V, pArgs m k e) else if (avGet V (ofPipe m k)).2 = true then (avSeen V (ofPipe m k), 13)
  else (⟨(avSeen V (ofPipe m k)).base, (avSeen V (ofPipe m k)).reads, (avSeen V (ofPipe m k)).calls ++ [⟨ofPipe m k, (encP ⟨e, 1, 1, ⟨#[]⟩⟩).1, false⟩]⟩, 0)
theorem make_ok {e : Int} (h : pEpochB e = true) : checkP ⟨e, 1, 1, ⟨#[]⟩⟩ = 0 := by
  unfold checkP
  rw [if_neg (by simp [h, pEndsB]), if_neg (by simp), if_neg (by show ¬ 256 < (⟨#[]⟩ : ByteArray).size; decide)]
theorem avSeen_calls (V : AV) (n : NameT) : (avSeen V n).calls = V.calls := by
  unfold avSeen
  split <;> rfl

set_option maxRecDepth 100000 in
set_option maxHeartbeats 1600000 in
theorem pMake_any (h : VH) (V : AV) (m : ByteArray) (k e : Int) (w : World) (hv : ViewAt w h V) (hr : PReady V m k) :
    Calls Tryz.prog 31 #[.pointer (some ⟨h.b, 0, none⟩), .agg #[.string m, .int .i64 k], .int .i64 e] w (PErr h w (pMake V m k e)) := by
  have Hv := Lib.hid hv; clear hv
  have Hr := Lib.hid hr; clear hr
  have Ha : Hid (∀ o, Below w.heap.size w (w.alloc o)) := fun o => (Below.refl _ _).alloc (Nat.le_refl _) _
  obtain ⟨q, hq⟩ : ∃ q, pArgs m k e = q := ⟨_, rfl⟩
  have Hq := Lib.hid hq; clear hq
  go_enter Tryz.func31, Tryz.ntmps31
  go_wp2_with fail
  refine (pArgs_any h.b m k e q Hq.out _ Hr.out.mz).mono ?_
  rintro r w1 ⟨rfl, hb1⟩
  have hB1 := (hb1.block w.heap.size (by simp)).trans (World.alloc_heap_new w _)
  have HB1 : Hid (Below w.heap.size w w1) := (Ha.out _).trans (hb1.mono (by simp))
  have b0 : w1.cell? ⟨w.heap.size, 0, none⟩ = some (.string m) := cell_of_heap hB1 0
  have b1 : w1.cell? ⟨w.heap.size, 1, none⟩ = some (.int .i64 k) := cell_of_heap hB1 1
  have HBx := Lib.hid hB1; clear hB1 hb1
  by_cases h0 : q = 0
  · subst h0
    have hao := pArgs_ok Hq.out
    have Hn : Hid (NameOk (ofPipe m k)) := nameOk_pipe hao.1 Hr.out.mz hao.2.1.1 hao.2.1.2
    have Hck : Hid (encP ⟨e, 1, 1, ⟨#[]⟩⟩ = (strOf (encPB ⟨e, 1, 1, ⟨#[]⟩⟩), 0)) := by show _ = _; unfold encP; rw [if_pos (make_ok hao.2.2)]
    clear hao
    have Hmk : Hid (pMake V m k e = if (avGet V (ofPipe m k)).2 = true then (avSeen V (ofPipe m k), 13) else (⟨(avSeen V (ofPipe m k)).base, (avSeen V (ofPipe m k)).reads, (avSeen V (ofPipe m k)).calls ++ [⟨ofPipe m k, (encP ⟨e, 1, 1, ⟨#[]⟩⟩).1, false⟩]⟩, 0)) := by
      show _ = _
      unfold pMake
      rw [Hq.out, if_neg (by simp)]
    go_wp2_with fail
    refine (ofPipe_any m k _).mono ?_
    rintro r w2 ⟨rfl, hb2⟩
    have HB2 : Hid (Below w.heap.size w w2) := HB1.out.trans (hb2.mono HB1.out.size)
    have HBx2 := Lib.hid ((hb2.block w.heap.size (lt_of_heap HBx.out)).trans HBx.out)
    clear hb2 b0 b1
    go_wp2_with fail
    refine (vHas_any h V (ofPipe m k) w2 (Hv.out.later HB2.out) Hn.out).mono ?_
    rintro r w3 ⟨rfl, hp⟩
    obtain ⟨h', hp⟩ := hp.vq
    have HP : Hid (VQ h (fun _ => False) w (avSeen V (ofPipe m k)) w3 h') := VQ.after HB2.out hp
    have hB3 := (hp.kept.block w.heap.size (lt_of_heap HBx2.out) (fun hh => by rcases hh with h1 | h1; exact absurd (Hv.out.fp_lt h1) (Nat.lt_irrefl _); exact h1)).trans HBx2.out
    have HBx3 := Lib.hid hB3; clear hB3 hp HBx2 HBx HB2
    cases hav : (avGet V (ofPipe m k)).2 with
    | true =>
      have he : Hid (pMake V m k e = (avSeen V (ofPipe m k), 13)) := by show _ = _; rw [Hmk.out, hav, if_pos rfl]
      clear Hmk hav
      go_wp2
      go_ret
      rw [he.out]
      exact ⟨h', rfl, HP.out⟩
    | false =>
      have he : Hid (pMake V m k e = (⟨(avSeen V (ofPipe m k)).base, (avSeen V (ofPipe m k)).reads, (avSeen V (ofPipe m k)).calls ++ [⟨ofPipe m k, strOf (encPB ⟨e, 1, 1, ⟨#[]⟩⟩), false⟩]⟩, 0)) := by show _ = _; rw [Hmk.out, hav, if_neg (by simp), Hck.out]
      have Hez : Hid ((strOf (encPB ⟨e, 1, 1, ⟨#[]⟩⟩)).size ≤ 65536) := by have := encP_size ⟨e, 1, 1, ⟨#[]⟩⟩; rw [Hck.out] at this; exact this
      have Hpe : Hid (∀ W, Calls Tryz.prog 84 #[.agg #[.int .i64 e, .int .i64 1, .int .i64 1, .string ⟨#[]⟩]] W fun r w' => r = .returned (.tuple #[.string (strOf (encPB ⟨e, 1, 1, ⟨#[]⟩⟩)), .int .i64 0]) ∧ Below W.heap.size W w') := fun W => by have := pEncode_any e 1 1 ⟨#[]⟩ W; rw [Hck.out] at this; exact this
      generalize strOf (encPB ⟨e, 1, 1, ⟨#[]⟩⟩) = sv at *
      clear Hmk hav Hck
      go_wp2_with fail
      refine (Hpe.out _).mono ?_
      rintro r w4 ⟨rfl, hb4⟩
      have HP4 := Lib.hid (HP.out.later hb4)
      have hB4 := (hb4.block w.heap.size (lt_of_heap HBx3.out)).trans HBx3.out
      have b0 : w4.cell? ⟨w.heap.size, 0, none⟩ = some (.string m) := cell_of_heap hB4 0
      have b1 : w4.cell? ⟨w.heap.size, 1, none⟩ = some (.int .i64 k) := cell_of_heap hB4 1
      clear hb4 hB4
      go_wp2_with fail
      refine (ofPipe_any m k _).mono ?_
      rintro r w5 ⟨rfl, hb5⟩
      have HP5 := Lib.hid (HP4.out.later hb5)
      clear hb5
      have hb1' : h.b = h'.b := HP5.out.b.symm
      rw [hb1']
      go_wp2_with fail
      refine (vSet_any h' (avSeen V (ofPipe m k)) (ofPipe m k) sv _ HP5.out.at_ Hn.out Hez.out (by rw [avSeen_calls]; exact Hr.out.len)).mono ?_
      rintro r w6 ⟨rfl, hp6⟩
      obtain ⟨h2, hp6⟩ := hp6.vq
      have Hp6 := Lib.hid hp6; clear hp6
      go_wp2
      go_ret
      rw [he.out]
      exact ⟨h2, rfl, HP5.out.trans Hp6.out⟩
  · have he : Hid (pMake V m k e = (V, q)) := by show _ = _; unfold pMake; rw [Hq.out, if_pos h0]
    have h0' : ((q : Int) != 0) = true := bne_iff_ne.2 (by omega)
    clear h0
    go_wp2
    go_ret
    rw [he.out]
    exact ⟨h, rfl, (VQ.refl Hv.out).later HB1.out⟩

theorem pdec_enc (p : PipeT) (h : checkP p = 0) : decP_ (strOf (encPB p)) = (p, 0) := by
  obtain ⟨h1, h2, h3, _, h5⟩ := checkP_ok h
  obtain ⟨ep, re, wr, by_⟩ := p
  dsimp only at *
  have e0 : (strOf (encPB ⟨ep, re, wr, by_⟩)).data.toList = natBytes ep.toNat ++ (natBytes re.toNat ++ (natBytes wr.toNat ++ (textB by_ ++ []))) := by
    simp [strOf, encPB, textB]
  have e1 : pr1 (strOf (encPB ⟨ep, re, wr, by_⟩)).data.toList = (ep.toNat, ⟨natBytes re.toNat ++ (natBytes wr.toNat ++ (textB by_ ++ [])), 0⟩) := by
    unfold pr1
    rw [e0]
    exact rdNum_nat 1073741824 _ _ (by omega) (by omega)
  have e2 : pr2 (strOf (encPB ⟨ep, re, wr, by_⟩)).data.toList = (re.toNat, ⟨natBytes wr.toNat ++ (textB by_ ++ []), 0⟩) := by
    unfold pr2
    rw [e1]
    exact rdNum_nat 64 _ _ (by omega) (by omega)
  have e3 : pr3 (strOf (encPB ⟨ep, re, wr, by_⟩)).data.toList = (wr.toNat, ⟨textB by_ ++ [], 0⟩) := by
    unfold pr3
    rw [e2]
    exact rdNum_nat 64 _ _ (by omega) (by omega)
  have e4 : pr4 (strOf (encPB ⟨ep, re, wr, by_⟩)).data.toList = (by_.data.toList, ⟨[], 0⟩) := by
    unfold pr4
    rw [e3]
    exact rdText_text 256 _ _ (by omega) (by decide)
  have ep0 : decPP (strOf (encPB ⟨ep, re, wr, by_⟩)).data.toList = ⟨ep, re, wr, by_⟩ := by
    unfold decPP
    rw [e1, e2, e3, e4]
    dsimp only
    rw [strOf_toList, show ((ep.toNat : Nat) : Int) = ep by omega, show ((re.toNat : Nat) : Int) = re by omega, show ((wr.toNat : Nat) : Int) = wr by omega]
  unfold decP_
  rw [e4, ep0, if_pos ⟨by simp [rdClose], h⟩]

end Go.Proofs.YtemmeopaihmlcaaGreatDoor
