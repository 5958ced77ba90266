/- Contracts of codec: the Reader's Text. -/
import Derived.Test.YtmknhokjpmjkkaaDoorCodecE
namespace Go.Proofs.YtmknhokjpmjkkaaDoor
open Go.RowKit

/-- What Text's closure parses. -/
def textParse (most : Int) (bs : List UInt8) : List UInt8 × Nat × Nat :=
  if (parseNat 9 bs).2.2 ≠ 0 then ([], 0, (parseNat 9 bs).2.2)
  else if most < (parseNat 9 bs).1 ∨ 16777216 < (parseNat 9 bs).1 then ([], 0, 5)
  else if bs.length < (parseNat 9 bs).2.1 + (parseNat 9 bs).1 then ([], 0, 28)
  else ((bs.drop (parseNat 9 bs).2.1).take (parseNat 9 bs).1, (parseNat 9 bs).2.1 + (parseNat 9 bs).1, 0)

def strOf (bs : List UInt8) : ByteArray := ⟨bs.toArray⟩

theorem foldl_push (l : List UInt8) (b : ByteArray) : (l.map fun x => (x.toNat : Int)).foldl (fun r n => r.push (UInt8.ofNat n.toNat)) b = ⟨b.data ++ l.toArray⟩ := by
  induction l generalizing b with
  | nil => simp
  | cons x r ih => simp [ih]

theorem run_bytes_str (w : World) (g off n c : Nat) (bs : List UInt8) (h : BSl w g off n bs) : (convert 136 9 (.slice (some ⟨g, off, none⟩) n c)).run Tryd.prog w = .ok (.string (strOf bs)) w := by
  obtain ⟨rfl, hc⟩ := h
  rw [run_convert_bytes_string w 136 9 5 _ _ _ Tryd.underlying136 Tryd.underlying5 Tryd.underlying9]
  have hl : (loadCells ⟨g, off, none⟩ bs.length).run Tryd.prog w = .ok ((bs.map fun x => (x.toNat : Int)).map (Value.int .u8)).toArray w := by
    have h1 := run_firstCells_some (P := Tryd.prog) w 1 bs.length ⟨g, off, none⟩ bs.length c ((bs.map fun x => (x.toNat : Int)).map (Value.int .u8)) (by simp) (fun j u hu => by
      have hj : j < bs.length := by
        rcases Nat.lt_or_ge j bs.length with h | h
        · exact h
        · rw [List.getElem?_eq_none (by simpa using h)] at hu; cases hu
      have hadd : (⟨g, off, none⟩ : Addr).add j = ⟨g, off + j, none⟩ := by unfold Addr.add; split <;> simp_all
      rw [hadd, hc j hj, ← hu]
      simp [hj])
    simpa [Builtin.firstCells] using h1
  rw [run_bytesToString w _ _ _ _ hl, foldl_push]
  simp [strOf]

set_option maxRecDepth 100000 in
set_option maxHeartbeats 800000 in
theorem text1_any (g off n c m : Nat) (most : Int) (bs : List UInt8) (w : World) (hlen : bs.length ≤ 70368744177664) (hnc : n ≤ c) (hb : BSl w g off n bs) (hm : w.cell? ⟨m, 0, none⟩ = some (.int .i64 most)) :
    Calls Tryd.prog 136 #[.slice (some ⟨g, off, none⟩) n c, .pointer (some ⟨m, 0, none⟩)] w fun r w' =>
      r = .returned (.tuple #[.string (strOf (textParse most bs).1), .int .i64 (textParse most bs).2.1, .int .i64 (textParse most bs).2.2]) ∧ w = w' := by
  have Hs := Lib.hid (parse9_small bs)
  have hn2 : n ≤ 70368744177664 := by have := hb.1; omega
  have Hb := Lib.hid hb; clear hb
  go_enter Tryd.func136, Tryd.ntmps136
  go_wp2_with fail
  refine (parse_any g off n c bs _ hlen Hb.out).mono ?_
  rintro e w1 ⟨rfl, rfl⟩
  have h1 := Hs.out
  clear Hs
  generalize hq : parseNat 9 bs = q at *
  have Hq := Lib.hid hq; clear hq
  obtain ⟨q1, q2, q3⟩ := q
  dsimp only at *
  by_cases h0 : q3 = 0
  · subst h0
    by_cases h2 : most < (q1 : Int)
    · have hfin : Hid (textParse most bs = ([], 0, 5)) := by show _ = _; unfold textParse; rw [Hq.out]; simp [h2]
      go_wp2
      go_ret3
      rw [hfin.out]
      exact ⟨rfl, rfl⟩
    · by_cases h3 : 16777216 < q1
      · have hfin : Hid (textParse most bs = ([], 0, 5)) := by show _ = _; unfold textParse; rw [Hq.out]; simp [h3]
        go_wp2
        go_ret3
        rw [hfin.out]
        exact ⟨rfl, rfl⟩
      · by_cases h4 : n < q2 + q1
        · have hfin : Hid (textParse most bs = ([], 0, 28)) := by
            show _ = _; unfold textParse; rw [Hq.out]
            have hl := Hb.out.1
            simp only
            rw [if_neg (by simp), if_neg (by omega), if_pos (by omega)]
          go_wp2
          go_ret3
          rw [hfin.out]
          exact ⟨rfl, rfl⟩
        · have hl := Hb.out.1
          have hfin : Hid (textParse most bs = ((bs.drop q2).take q1, q2 + q1, 0)) := by
            show _ = _; unfold textParse; rw [Hq.out]
            simp only
            rw [if_neg (by simp), if_neg (by omega), if_neg (by omega)]
          have hq2 : q2 + q1 ≤ n := by omega
          have Hl := Lib.hid hl; clear hl
          by_cases hcq : c = q2
          · obtain rfl : q1 = 0 := by omega
            have hconv := run_bytes_str w g off 0 0 [] ⟨rfl, fun j hj => by omega⟩
            subst hcq
            go_wp2
            go_ret3
            rw [hfin.out]
            exact ⟨rfl, rfl⟩
          · have hconv := run_bytes_str w g (off + q2) q1 (c - q2) ((bs.drop q2).take q1) ⟨by simp; have := Hl.out; omega, fun j hj => by
              have := Hb.out.2 (q2 + j) (by omega)
              rw [Nat.add_assoc, this]
              simp [hj]⟩
            generalize hss : (bs.drop q2).take q1 = ss at *
            have Hss := Lib.hid hss; clear hss
            go_wp2
            go_ret3
            rw [hfin.out]
            exact ⟨rfl, rfl⟩
  · have hfin : Hid (textParse most bs = ([], 0, q3)) := by show _ = _; unfold textParse; rw [Hq.out]; simp [h0]
    have h3 : ((q3 : Int) != 0) = true := bne_iff_ne.2 (by omega)
    have h4 : ((q3 : Int) == 0) = false := beq_eq_false_iff_ne.2 (by omega)
    go_wp2
    go_ret3
    rw [hfin.out]
    exact ⟨rfl, rfl⟩

end Go.Proofs.YtmknhokjpmjkkaaDoor
