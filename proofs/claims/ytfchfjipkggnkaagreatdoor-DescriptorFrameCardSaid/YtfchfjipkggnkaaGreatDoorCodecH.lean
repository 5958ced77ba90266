/- Contract of codec.parseNatural. Contracts of codec: Parse, the Reader. Contracts of codec: the Reader's Text. Contracts of codec: the Reader. Contracts of codec: the Reader's methods, Bytes of the Writer. -/
import Derived.Test.YtfchfjipkggnkaaGreatDoorCodecC
import Derived.BigQuiet
namespace Go.Proofs.YtfchfjipkggnkaaGreatDoor
open Go.RowKit

/-- A slice of bytes, its address written out. -/
def BSl (w : World) (g off n : Nat) (bs : List UInt8) : Prop := n = bs.length ∧ ∀ j, j < n → w.cell? ⟨g, off + j, none⟩ = some (.int .u8 (bs.getD j 0).toNat)

set_option maxRecDepth 100000 in
set_option maxHeartbeats 1000000 in
theorem parseNatural_any (g off n c most : Nat) (bs : List UInt8) (w : World) (hm : most ≤ 10) (hlen : bs.length ≤ 70368744177664) (hb : BSl w g off n bs) :
    Calls Tryz.prog 117 #[.slice (some ⟨g, off, none⟩) n c, .int .i64 most] w fun r w' =>
      r = .returned (.tuple #[.int .u64 (parseNat most bs).1, .int .i64 (parseNat most bs).2.1, .int .i64 (parseNat most bs).2.2]) ∧ w = w' := by
  obtain ⟨hn, hc⟩ := hb
  have hn2 : n ≤ 70368744177664 := by omega
  have Hn := Lib.hid hn; clear hn
  have Hlen := Lib.hid hlen; clear hlen
  have Hc := Lib.hid hc; clear hc
  go_enter Tryz.func117, Tryz.ntmps117
  go_wp2
  go_loop [7] (fun i => ∃ k : Nat, i = .int .i64 k ∧ k ≤ n ∧ k ≤ most ∧ Hid (∀ j, j < k → 128 ≤ (bs.getD j 0).toNat)) (fun i => n - (intOf i).toNat)
  case atStart => exact ⟨0, rfl, Nat.zero_le _, Nat.zero_le _, fun j hj => by omega⟩
  case round =>
    obtain ⟨k, rfl, hkn, hkm, Hlo⟩ := hrel
    have hcell : k < n → w.cell? ⟨g, off + k, none⟩ = some (.int .u8 (bs.getD k 0).toNat) := fun h => Hc.out k h
    by_cases h1 : k = most
    · have hfin : Hid (parseNat most bs = (0, 0, 3)) := by
        show _ = _
        unfold parseNat
        rw [scan7_eq most k bs hkm (by have := Hn.out; omega) Hlo.out (.inl h1)]
        simp [h1]
      have h1' : ((k : Int) == (most : Int)) = true := beq_iff_eq.2 (by omega)
      have h1'' : ¬ k < most := by omega
      clear h1
      by_cases h2 : k < n
      all_goals
        clear hcell
        go_wp2
        go_ret3
        rw [hfin.out]
        exact ⟨rfl, rfl⟩
    · by_cases h2 : k = n
      · have hfin : Hid (parseNat most bs = (0, 0, 28)) := by
          show _ = _
          unfold parseNat
          rw [scan7_eq most k bs hkm (by have := Hn.out; omega) Hlo.out (.inr (.inl (by have := Hn.out; omega)))]
          have := Hn.out
          simp only
          rw [if_neg h1, if_pos (by omega)]
        have h1' : ((k : Int) == (most : Int)) = false := beq_eq_false_iff_ne.2 (by omega)
        have h2' : ((k : Int) == (n : Int)) = true := beq_iff_eq.2 (by omega)
        have h2'' : ¬ k < n := by omega
        clear h1 h2 hcell
        go_wp2
        go_ret3
        rw [hfin.out]
        exact ⟨rfl, rfl⟩
      · have h3 : k < n := by omega
        have h4 : k < most := by omega
        have hce := hcell h3
        clear hcell
        have hx256 : (bs.getD k 0).toNat < 256 := UInt8.toNat_lt _
        have Hb256 : Hid (∀ j, (bs.getD j 0).toNat < 256) := fun j => UInt8.toNat_lt _
        generalize hx : (bs.getD k 0).toNat = x at *
        have Hx := Lib.hid hx; clear hx
        have h1' : ((k : Int) == (most : Int)) = false := beq_eq_false_iff_ne.2 (by omega)
        have h2' : ((k : Int) == (n : Int)) = false := beq_eq_false_iff_ne.2 (by omega)
        clear h1 h2
        by_cases h5 : 128 ≤ x
        · go_wp2
          go_round
          case rel =>
            refine ⟨k + 1, by go_num, by omega, by omega, fun j hj => ?_⟩
            by_cases hjk : j = k
            · subst hjk; rw [Hx.out]; exact h5
            · exact Hlo.out j (by omega)
          case measure => simp [intOf]; omega
        · have hsc : Hid (scan7 most bs = k) := scan7_eq most k bs hkm (by have := Hn.out; omega) Hlo.out (by have := Hx.out; omega)
          by_cases h6 : 0 < k ∧ x = 0
          · have hfin : Hid (parseNat most bs = (0, 0, 3)) := by
              show _ = _
              unfold parseNat
              have := Hn.out
              simp only [hsc.out]
              rw [if_neg (by omega), if_neg (by omega), if_pos (by rw [Hx.out]; exact h6)]
            obtain ⟨ha, rfl⟩ := h6
            go_wp2
            go_ret3
            rw [hfin.out]
            exact ⟨rfl, rfl⟩
          · by_cases h7 : k = 9 ∧ 1 < x
            · have hfin : Hid (parseNat most bs = (0, 0, 3)) := by
                show _ = _
                unfold parseNat
                have := Hn.out
                simp only [hsc.out]
                rw [if_neg (by omega), if_neg (by omega), if_neg (by rw [Hx.out]; exact h6), if_pos (by rw [Hx.out]; exact h7)]
              have ha : 0 < k := by omega
              have hb : ((x : Int) == 0) = false := beq_eq_false_iff_ne.2 (by omega)
              have hd : ((k : Int) == 9) = true := beq_iff_eq.2 (by omega)
              have he : 1 < x := by omega
              clear h6 h7
              go_wp2
              go_ret3
              rw [hfin.out]
              exact ⟨rfl, rfl⟩
            · have hk9 : k ≤ 9 := by omega
              have hfin : Hid (parseNat most bs = (natVal (bs.take (k + 1)), k + 1, 0)) := by
                show _ = _
                unfold parseNat
                have := Hn.out
                simp only [hsc.out]
                rw [if_neg (by omega), if_neg (by omega), if_neg (by rw [Hx.out]; exact h6), if_neg (by rw [Hx.out]; exact h7)]
              have hV : Hid (natVal (bs.take (k + 1)) < 18446744073709551616) := natVal_small bs k (by have := Hn.out; omega) (by have := Hx.out; omega)
              have hcases : (k ≤ 0 ∧ ((k : Int) == 9) = false) ∨ (0 < k ∧ ((x : Int) == 0) = false ∧ ((k : Int) == 9) = false) ∨ (0 < k ∧ ((x : Int) == 0) = false ∧ ((k : Int) == 9) = true ∧ x ≤ 1) := by
                by_cases hk0 : k = 0
                · exact .inl ⟨by omega, beq_eq_false_iff_ne.2 (by omega)⟩
                · by_cases hk9 : k = 9
                  · exact .inr (.inr ⟨by omega, beq_eq_false_iff_ne.2 (by omega), beq_iff_eq.2 (by omega), by omega⟩)
                  · exact .inr (.inl ⟨by omega, beq_eq_false_iff_ne.2 (by omega), beq_eq_false_iff_ne.2 (by omega)⟩)
              clear h6 h7
              rcases hcases with ⟨ha, hb⟩ | ⟨ha, hd, he⟩ | ⟨ha, hd, he, hf⟩
              all_goals
                go_wp2
                go_loop [8, 9] (fun u i => ∃ (m U : Nat), i = .int .i64 ((m : Int) - 1) ∧ m ≤ k + 1 ∧ u = .int .u64 U ∧ Hid (U = natVal ((bs.take (k + 1)).drop m))) (fun _ i => (intOf i + 1).toNat)
                case atStart => exact ⟨k + 1, 0, by go_num, Nat.le_refl _, rfl, by show _ = _; rw [List.drop_of_length_le (by simp; omega)]; rfl⟩
                case round =>
                  obtain ⟨m, U, rfl, hmk, rfl, hU⟩ := hrel
                  cases m with
                  | zero =>
                    go_wp2
                    go_ret3
                    rw [hfin.out, hU.out]
                    exact ⟨rfl, rfl⟩
                  | succ m =>
                    have hcm := Hc.out m (by omega)
                    have hy256 := Hb256.out m
                    have hstep : Hid (natVal ((bs.take (k + 1)).drop m) = (bs.getD m 0).toNat % 128 + 128 * U) := by
                      show _ = _
                      have hl : m < (bs.take (k + 1)).length := by have := Hn.out; simp; omega
                      rw [natVal_drop _ _ hl, hU.out]
                      congr 2
                      rw [List.getD_eq_getElem?_getD, List.getD_eq_getElem?_getD, List.getElem?_take, if_pos (by omega)]
                    generalize hy : (bs.getD m 0).toNat = y at *
                    have Hy := Lib.hid hy; clear hy
                    have hmi : (((m + 1 : Nat) : Int) - 1) = (m : Int) := by omega
                    rw [hmi]
                    clear hmi
                    go_wp2
                    go_round
                    case rel =>
                      refine ⟨m, y % 128 + 128 * U, rfl, by omega, ?_, hstep.out.symm⟩
                      rw [shift_or U y hy256 (by have h1 := natVal_drop_le (bs.take (k + 1)) m; have h2 := hV.out; have h3 := hstep.out; omega)]
                    case measure => simp [intOf]

end Go.Proofs.YtfchfjipkggnkaaGreatDoor

namespace Go.Proofs.YtfchfjipkggnkaaGreatDoor
open Go.RowKit

theorem parse9_small (bs : List UInt8) : (parseNat 9 bs).1 < 9223372036854775808 ∧ (parseNat 9 bs).2.1 ≤ bs.length ∧ (parseNat 9 bs).2.1 ≤ 9 ∧ (parseNat 9 bs).2.2 ≤ 28 := by
  have hs := scan7_le 9 bs
  unfold parseNat
  simp only
  split
  · simp
  · split
    · simp
    · split
      · simp
      · split
        · simp
        · have h1 := natVal_lt (bs.take (scan7 9 bs + 1))
          have h2 : (bs.take (scan7 9 bs + 1)).length ≤ 9 := by simp; omega
          have h3 : (128 : Nat) ^ (bs.take (scan7 9 bs + 1)).length ≤ 128 ^ 9 := Nat.pow_le_pow_right (by decide) h2
          dsimp only
          refine ⟨by omega, by omega, by omega, by omega⟩

set_option maxRecDepth 100000 in
set_option maxHeartbeats 800000 in
theorem parse_any (g off n c : Nat) (bs : List UInt8) (w : World) (hlen : bs.length ≤ 70368744177664) (hb : BSl w g off n bs) :
    Calls Tryz.prog 87 #[.slice (some ⟨g, off, none⟩) n c] w fun r w' =>
      r = .returned (.tuple #[.int .i64 (parseNat 9 bs).1, .int .i64 (parseNat 9 bs).2.1, .int .i64 (parseNat 9 bs).2.2]) ∧ w = w' := by
  have Hs := Lib.hid (parse9_small bs)
  have Hb := Lib.hid hb; clear hb
  go_enter Tryz.func87, Tryz.ntmps87
  go_wp2_with fail
  refine (parseNatural_any g off n c 9 bs _ (by omega) hlen Hb.out).mono ?_
  rintro e w1 ⟨rfl, rfl⟩
  have h1 := Hs.out.1
  generalize hq : parseNat 9 bs = q at *
  have Hq := Lib.hid hq; clear hq
  obtain ⟨q1, q2, q3⟩ := q
  dsimp only at *
  go_wp2
  go_ret3
  rw [Hq.out]
  exact ⟨rfl, rfl⟩

/-- What Number's closure parses. -/
def numParse (most : Int) (bs : List UInt8) : Nat × Nat × Nat :=
  if (parseNat 9 bs).2.2 = 0 ∧ most < (parseNat 9 bs).1 then ((parseNat 9 bs).1, (parseNat 9 bs).2.1, 2) else parseNat 9 bs

set_option maxRecDepth 100000 in
set_option maxHeartbeats 800000 in
theorem number1_any (g off n c m : Nat) (most : Int) (bs : List UInt8) (w : World) (hlen : bs.length ≤ 70368744177664) (hb : BSl w g off n bs) (hm : w.cell? ⟨m, 0, none⟩ = some (.int .i64 most)) :
    Calls Tryz.prog 86 #[.slice (some ⟨g, off, none⟩) n c, .pointer (some ⟨m, 0, none⟩)] w fun r w' =>
      r = .returned (.tuple #[.int .i64 (numParse most bs).1, .int .i64 (numParse most bs).2.1, .int .i64 (numParse most bs).2.2]) ∧ w = w' := by
  have Hs := Lib.hid (parse9_small bs)
  have Hb := Lib.hid hb; clear hb
  go_enter Tryz.func86, Tryz.ntmps86
  go_wp2_with fail
  refine (parse_any g off n c bs _ hlen Hb.out).mono ?_
  rintro e w1 ⟨rfl, rfl⟩
  have h1 := Hs.out
  by_cases h : (parseNat 9 bs).2.2 = 0 ∧ most < (parseNat 9 bs).1
  · have hfin : Hid (numParse most bs = ((parseNat 9 bs).1, (parseNat 9 bs).2.1, 2)) := by show _ = _; unfold numParse; rw [if_pos h]
    generalize parseNat 9 bs = q at *
    obtain ⟨q1, q2, q3⟩ := q
    dsimp only at *
    obtain ⟨rfl, h2⟩ := h
    go_wp2
    go_ret3
    rw [hfin.out]
    exact ⟨rfl, rfl⟩
  · have hfin : Hid (numParse most bs = parseNat 9 bs) := by show _ = _; unfold numParse; rw [if_neg h]
    generalize parseNat 9 bs = q at *
    obtain ⟨q1, q2, q3⟩ := q
    dsimp only at *
    by_cases h0 : q3 = 0
    · subst h0
      have h3 : ¬ (most < (q1 : Int)) := by omega
      clear h
      go_wp2
      go_ret3
      rw [hfin.out]
      exact ⟨rfl, rfl⟩
    · have h3 : ((q3 : Int) == 0) = false := beq_eq_false_iff_ne.2 (by omega)
      clear h
      go_wp2
      go_ret3
      rw [hfin.out]
      exact ⟨rfl, rfl⟩

end Go.Proofs.YtfchfjipkggnkaaGreatDoor

namespace Go.Proofs.YtfchfjipkggnkaaGreatDoor
open Go.RowKit

/-- What Text's closure parses. -/
def textParse (most : Int) (bs : List UInt8) : List UInt8 × Nat × Nat :=
  if (parseNat 9 bs).2.2 ≠ 0 then ([], 0, (parseNat 9 bs).2.2)
  else if most < (parseNat 9 bs).1 ∨ 16777216 < (parseNat 9 bs).1 then ([], 0, 5)
  else if bs.length < (parseNat 9 bs).2.1 + (parseNat 9 bs).1 then ([], 0, 28)
  else ((bs.drop (parseNat 9 bs).2.1).take (parseNat 9 bs).1, (parseNat 9 bs).2.1 + (parseNat 9 bs).1, 0)

def strOf (bs : List UInt8) : ByteArray := ⟨bs.toArray⟩

theorem foldl_push (l : List UInt8) (b : ByteArray) : (l.map fun x => (x.toNat : Int)).foldl (fun r n => r.push (UInt8.ofNat n.toNat)) b = ⟨b.data ++ l.toArray⟩ := by
  induction l generalizing b with
  | nil => simp
  | cons x r ih => simp [ih]

theorem run_bytes_str (w : World) (g off n c : Nat) (bs : List UInt8) (h : BSl w g off n bs) : (convert 113 9 (.slice (some ⟨g, off, none⟩) n c)).run Tryz.prog w = .ok (.string (strOf bs)) w := by
  obtain ⟨rfl, hc⟩ := h
  rw [run_convert_bytes_string w 113 9 5 _ _ _ Tryz.underlying113 Tryz.underlying5 Tryz.underlying9]
  have hl : (loadCells ⟨g, off, none⟩ bs.length).run Tryz.prog w = .ok ((bs.map fun x => (x.toNat : Int)).map (Value.int .u8)).toArray w := by
    have h1 := run_firstCells_some (P := Tryz.prog) w 1 bs.length ⟨g, off, none⟩ bs.length c ((bs.map fun x => (x.toNat : Int)).map (Value.int .u8)) (by simp) (fun j u hu => by
      have hj : j < bs.length := by
        rcases Nat.lt_or_ge j bs.length with h | h
        · exact h
        · rw [List.getElem?_eq_none (by simpa using h)] at hu; cases hu
      have hadd : (⟨g, off, none⟩ : Addr).add j = ⟨g, off + j, none⟩ := by unfold Addr.add; split <;> simp_all
      rw [hadd, hc j hj, ← hu]
      simp [hj])
    simpa [Builtin.firstCells] using h1
  rw [run_bytesToString w _ _ _ _ hl, foldl_push]
  simp [strOf]

set_option maxRecDepth 100000 in
set_option maxHeartbeats 800000 in
theorem text1_any (g off n c m : Nat) (most : Int) (bs : List UInt8) (w : World) (hlen : bs.length ≤ 70368744177664) (hnc : n ≤ c) (hb : BSl w g off n bs) (hm : w.cell? ⟨m, 0, none⟩ = some (.int .i64 most)) :
    Calls Tryz.prog 89 #[.slice (some ⟨g, off, none⟩) n c, .pointer (some ⟨m, 0, none⟩)] w fun r w' =>
      r = .returned (.tuple #[.string (strOf (textParse most bs).1), .int .i64 (textParse most bs).2.1, .int .i64 (textParse most bs).2.2]) ∧ w = w' := by
  have Hs := Lib.hid (parse9_small bs)
  have hn2 : n ≤ 70368744177664 := by have := hb.1; omega
  have Hb := Lib.hid hb; clear hb
  go_enter Tryz.func89, Tryz.ntmps89
  go_wp2_with fail
  refine (parse_any g off n c bs _ hlen Hb.out).mono ?_
  rintro e w1 ⟨rfl, rfl⟩
  have h1 := Hs.out
  clear Hs
  generalize hq : parseNat 9 bs = q at *
  have Hq := Lib.hid hq; clear hq
  obtain ⟨q1, q2, q3⟩ := q
  dsimp only at *
  by_cases h0 : q3 = 0
  · subst h0
    by_cases h2 : most < (q1 : Int)
    · have hfin : Hid (textParse most bs = ([], 0, 5)) := by show _ = _; unfold textParse; rw [Hq.out]; simp [h2]
      go_wp2
      go_ret3
      rw [hfin.out]
      exact ⟨rfl, rfl⟩
    · by_cases h3 : 16777216 < q1
      · have hfin : Hid (textParse most bs = ([], 0, 5)) := by show _ = _; unfold textParse; rw [Hq.out]; simp [h3]
        go_wp2
        go_ret3
        rw [hfin.out]
        exact ⟨rfl, rfl⟩
      · by_cases h4 : n < q2 + q1
        · have hfin : Hid (textParse most bs = ([], 0, 28)) := by
            show _ = _; unfold textParse; rw [Hq.out]
            have hl := Hb.out.1
            simp only
            rw [if_neg (by simp), if_neg (by omega), if_pos (by omega)]
          go_wp2
          go_ret3
          rw [hfin.out]
          exact ⟨rfl, rfl⟩
        · have hl := Hb.out.1
          have hfin : Hid (textParse most bs = ((bs.drop q2).take q1, q2 + q1, 0)) := by
            show _ = _; unfold textParse; rw [Hq.out]
            simp only
            rw [if_neg (by simp), if_neg (by omega), if_neg (by omega)]
          have hq2 : q2 + q1 ≤ n := by omega
          have Hl := Lib.hid hl; clear hl
          by_cases hcq : c = q2
          · obtain rfl : q1 = 0 := by omega
            have hconv := run_bytes_str w g off 0 0 [] ⟨rfl, fun j hj => by omega⟩
            subst hcq
            go_wp2
            go_ret3
            rw [hfin.out]
            exact ⟨rfl, rfl⟩
          · have hconv := run_bytes_str w g (off + q2) q1 (c - q2) ((bs.drop q2).take q1) ⟨by simp; have := Hl.out; omega, fun j hj => by
              have := Hb.out.2 (q2 + j) (by omega)
              rw [Nat.add_assoc, this]
              simp [hj]⟩
            generalize hss : (bs.drop q2).take q1 = ss at *
            have Hss := Lib.hid hss; clear hss
            go_wp2
            go_ret3
            rw [hfin.out]
            exact ⟨rfl, rfl⟩
  · have hfin : Hid (textParse most bs = ([], 0, q3)) := by show _ = _; unfold textParse; rw [Hq.out]; simp [h0]
    have h3 : ((q3 : Int) != 0) = true := bne_iff_ne.2 (by omega)
    have h4 : ((q3 : Int) == 0) = false := beq_eq_false_iff_ne.2 (by omega)
    go_wp2
    go_ret3
    rw [hfin.out]
    exact ⟨rfl, rfl⟩

end Go.Proofs.YtfchfjipkggnkaaGreatDoor

namespace Go.Proofs.YtfchfjipkggnkaaGreatDoor
open Go.RowKit

/-- The state of a Reader: what is left, and the error. -/
structure RdS where
  rest : List UInt8
  fail : Nat

def rdNum (most : Int) (s : RdS) : Nat × RdS :=
  if s.fail ≠ 0 then (0, s) else if (numParse most s.rest).2.2 ≠ 0 then (0, ⟨s.rest, (numParse most s.rest).2.2⟩) else ((numParse most s.rest).1, ⟨s.rest.drop (numParse most s.rest).2.1, 0⟩)
def rdText (most : Int) (s : RdS) : List UInt8 × RdS :=
  if s.fail ≠ 0 then ([], s) else if (textParse most s.rest).2.2 ≠ 0 then ([], ⟨s.rest, (textParse most s.rest).2.2⟩) else ((textParse most s.rest).1, ⟨s.rest.drop (textParse most s.rest).2.1, 0⟩)

/-- A Reader at block b, all of it in blocks of B. -/
def Rd (B : Nat → Prop) (b : Nat) (w : World) (s : RdS) : Prop :=
  B b ∧ ∃ (g off n c : Nat) (p : Int), w.heap[b]? = some (.cells #[.slice (some ⟨g, off, none⟩) n c, .int .i64 p, .int .i64 s.fail] 145 (0, 0)) ∧ BSl w g off n s.rest ∧ n ≤ c ∧ B g ∧ g ≠ b ∧ s.rest.length ≤ 70368744177664

def RdPost (B : Nat → Prop) (b : Nat) (w : World) (v : Value) (s : RdS) (r : Ending) (w' : World) : Prop := r = .returned v ∧ Rd B b w' s ∧ w.grownBy w' (some b)

theorem BSl.kept {w w' : World} {g off n : Nat} {bs : List UInt8} (h : BSl w g off n bs) (hk : w'.heap[g]? = w.heap[g]?) : BSl w' g off n bs :=
  ⟨h.1, fun j hj => (World.cell?_of_block (a := ⟨g, off + j, none⟩) hk).trans (h.2 j hj)⟩
theorem BSl.drop {w : World} {g off n : Nat} {bs : List UInt8} (h : BSl w g off n bs) (k : Nat) : BSl w g (off + k) (n - k) (bs.drop k) := by
  refine ⟨by rw [List.length_drop, h.1], fun j hj => ?_⟩
  rw [Nat.add_assoc, h.2 (k + j) (by omega)]
  simp

theorem numParse_small (most : Int) (bs : List UInt8) : (numParse most bs).1 < 9223372036854775808 ∧ (numParse most bs).2.1 ≤ bs.length ∧ (numParse most bs).2.1 ≤ 9 ∧ (numParse most bs).2.2 ≤ 28 := by
  have h := parse9_small bs
  unfold numParse
  split
  · exact ⟨h.1, h.2.1, h.2.2.1, by simp⟩
  · exact h

theorem textParse_small (most : Int) (bs : List UInt8) : (textParse most bs).2.1 ≤ bs.length ∧ (textParse most bs).2.2 ≤ 28 := by
  have h := parse9_small bs
  unfold textParse
  split
  · exact ⟨Nat.zero_le _, h.2.2.2⟩
  · split
    · simp
    · split
      · simp
      · exact ⟨by dsimp only; omega, by simp⟩

theorem rd_stored {B : Nat → Prop} {b : Nat} {w : World} {g off n c : Nat} {p : Int} {e : Int} (hBb : B b) (hBg : B g) (hgb : g ≠ b) (hh : w.heap[b]? = some (.cells #[.slice (some ⟨g, off, none⟩) n c, .int .i64 p, .int .i64 e] 145 (0, 0))) (he : e = 0)
    (off' n' c' : Nat) (p' : Int) (rest : List UInt8) (hsl : BSl w g off' n' rest) (hnc : n' ≤ c') (hlen : rest.length ≤ 70368744177664) :
    Rd B b ((w.setCell ⟨b, 0, none⟩ (.slice (some ⟨g, off', none⟩) n' c')).setCell ⟨b, 1, none⟩ (.int .i64 p')) ⟨rest, 0⟩ ∧ w.grownBy ((w.setCell ⟨b, 0, none⟩ (.slice (some ⟨g, off', none⟩) n' c')).setCell ⟨b, 1, none⟩ (.int .i64 p')) (some b) := by
  subst he
  refine ⟨⟨hBb, g, off', n', c', p', ?_, ?_, hnc, hBg, hgb, hlen⟩, ?_⟩
  · exact heap_setCell_same (heap_setCell_same hh 0 _) 1 _
  · exact hsl.kept ((Below.heap_setCell _ _ _ _ hgb).trans (Below.heap_setCell _ _ _ _ hgb))
  · exact grown_trans (grown_setCell _ _ _ _) (grown_setCell _ _ _ _)

theorem rd_failed {B : Nat → Prop} {b : Nat} {w : World} {g off n c : Nat} {p : Int} {e : Int} (hBb : B b) (hBg : B g) (hgb : g ≠ b) (hh : w.heap[b]? = some (.cells #[.slice (some ⟨g, off, none⟩) n c, .int .i64 p, .int .i64 e] 145 (0, 0)))
    (rest : List UInt8) (hsl : BSl w g off n rest) (hnc : n ≤ c) (hlen : rest.length ≤ 70368744177664) (f : Nat) :
    Rd B b (w.setCell ⟨b, 2, none⟩ (.int .i64 f)) ⟨rest, f⟩ ∧ w.grownBy (w.setCell ⟨b, 2, none⟩ (.int .i64 f)) (some b) := by
  refine ⟨⟨hBb, g, off, n, c, p, ?_, ?_, hnc, hBg, hgb, hlen⟩, ?_⟩
  · exact heap_setCell_same hh 2 _
  · exact hsl.kept (Below.heap_setCell _ _ _ _ hgb)
  · exact grown_setCell _ _ _ _

set_option maxRecDepth 100000 in
set_option maxHeartbeats 800000 in
theorem readInt_any (B : Nat → Prop) (b m : Nat) (most : Int) (s : RdS) (w : World) (hm : w.cell? ⟨m, 0, none⟩ = some (.int .i64 most)) (h : Rd B b w s) :
    Calls Tryz.prog 85 #[.pointer (some ⟨b, 0, none⟩), .func (.func 86) #[] #[.pointer (some ⟨m, 0, none⟩)]] w
      (RdPost B b w (.int .i64 (rdNum most s).1) (rdNum most s).2) := by
  obtain ⟨hBb, g, off, n, c, p, hh, hsl, hnc, hBg, hgb, hlen⟩ := h
  have hc0 : w.cell? ⟨b, 0, none⟩ = some (.slice (some ⟨g, off, none⟩) n c) := cell_of_heap hh 0
  have hc1 : w.cell? ⟨b, 1, none⟩ = some (.int .i64 p) := cell_of_heap hh 1
  have hc2 : w.cell? ⟨b, 2, none⟩ = some (.int .i64 s.fail) := cell_of_heap hh 2
  have hf0 : w.frozen? ⟨b, 0, none⟩ = false := frozen_of_heap hh 0
  have hf1 : w.frozen? ⟨b, 1, none⟩ = false := frozen_of_heap hh 1
  have hf2 : w.frozen? ⟨b, 2, none⟩ = false := frozen_of_heap hh 2
  have Hh := Lib.hid hh; clear hh
  have Hsl := Lib.hid hsl; clear hsl
  have Hlen := Lib.hid hlen; clear hlen
  have Hs := Lib.hid (numParse_small most s.rest)
  have Hgb := Lib.hid hgb; clear hgb
  by_cases h0 : s.fail = 0
  · have hn2 : n ≤ 70368744177664 := by have := Hsl.out.1; have := Hlen.out; omega
    rw [h0] at hc2
    have hc2' : w.cell? ⟨b, 2, none⟩ = some (.int .i64 0) := hc2
    clear hc2
    go_enter Tryz.func85, Tryz.ntmps85
    go_wp2_with fail
    refine (number1_any g off n c m most s.rest _ Hlen.out Hsl.out hm).mono ?_
    rintro e w1 ⟨rfl, rfl⟩
    have h1 := Hs.out
    have hq2n : (numParse most s.rest).2.1 ≤ n := by have := Hsl.out.1; omega
    clear Hs
    generalize hq : numParse most s.rest = q at *
    have Hq := Lib.hid hq; clear hq
    have H0 := Lib.hid h0; clear h0
    obtain ⟨q1, q2, q3⟩ := q
    dsimp only at *
    by_cases h3 : q3 = 0
    · subst h3
      have hfin : Hid (rdNum most s = (q1, ⟨s.rest.drop q2, 0⟩)) := by show _ = _; unfold rdNum; rw [Hq.out]; simp [H0.out]
      by_cases hcq : c = q2
      · subst hcq
        obtain rfl : n = c := by omega
        go_wp2
        go_ret
        rw [hfin.out]
        refine ⟨rfl, rd_stored hBb hBg Hgb.out Hh.out (by rw [H0.out]; rfl) _ _ _ _ _ ⟨?_, fun j hj => by omega⟩ (by omega) (by have := Hlen.out; simp; omega)⟩
        have := Hsl.out.1
        simp; omega
      · go_wp2
        go_ret
        rw [hfin.out]
        exact ⟨rfl, rd_stored hBb hBg Hgb.out Hh.out (by rw [H0.out]; rfl) _ _ _ _ _ (Hsl.out.drop q2) (by omega) (by have := Hlen.out; simp; omega)⟩
    · have hfin : Hid (rdNum most s = (0, ⟨s.rest, q3⟩)) := by show _ = _; unfold rdNum; rw [Hq.out]; simp [H0.out, h3]
      have h3' : ((q3 : Int) != 0) = true := bne_iff_ne.2 (by omega)
      clear h3
      go_wp2
      go_ret
      rw [hfin.out]
      exact ⟨rfl, rd_failed hBb hBg Hgb.out Hh.out _ Hsl.out hnc Hlen.out _⟩
  · have hfin : Hid (rdNum most s = (0, s)) := by show _ = _; unfold rdNum; simp [h0]
    generalize hfl : s.fail = f at *
    have Hfl := Lib.hid hfl; clear hfl
    have h0' : ((f : Int) != 0) = true := bne_iff_ne.2 (by omega)
    clear h0
    go_enter Tryz.func85, Tryz.ntmps85
    go_wp2
    go_ret
    rw [hfin.out]
    exact ⟨rfl, ⟨hBb, g, off, n, c, p, by rw [Hfl.out]; exact Hh.out, Hsl.out, hnc, hBg, Hgb.out, Hlen.out⟩, grown_refl _ _⟩

set_option maxRecDepth 100000 in
set_option maxHeartbeats 800000 in
theorem readString_any (B : Nat → Prop) (b m : Nat) (most : Int) (s : RdS) (w : World) (hm : w.cell? ⟨m, 0, none⟩ = some (.int .i64 most)) (h : Rd B b w s) :
    Calls Tryz.prog 88 #[.pointer (some ⟨b, 0, none⟩), .func (.func 89) #[] #[.pointer (some ⟨m, 0, none⟩)]] w
      (RdPost B b w (.string (strOf (rdText most s).1)) (rdText most s).2) := by
  obtain ⟨hBb, g, off, n, c, p, hh, hsl, hnc, hBg, hgb, hlen⟩ := h
  have hc0 : w.cell? ⟨b, 0, none⟩ = some (.slice (some ⟨g, off, none⟩) n c) := cell_of_heap hh 0
  have hc1 : w.cell? ⟨b, 1, none⟩ = some (.int .i64 p) := cell_of_heap hh 1
  have hc2 : w.cell? ⟨b, 2, none⟩ = some (.int .i64 s.fail) := cell_of_heap hh 2
  have hf0 : w.frozen? ⟨b, 0, none⟩ = false := frozen_of_heap hh 0
  have hf1 : w.frozen? ⟨b, 1, none⟩ = false := frozen_of_heap hh 1
  have hf2 : w.frozen? ⟨b, 2, none⟩ = false := frozen_of_heap hh 2
  have Hh := Lib.hid hh; clear hh
  have Hsl := Lib.hid hsl; clear hsl
  have Hlen := Lib.hid hlen; clear hlen
  have Hs := Lib.hid (textParse_small most s.rest)
  have Hgb := Lib.hid hgb; clear hgb
  by_cases h0 : s.fail = 0
  · have hn2 : n ≤ 70368744177664 := by have := Hsl.out.1; have := Hlen.out; omega
    rw [h0] at hc2
    have hc2' : w.cell? ⟨b, 2, none⟩ = some (.int .i64 0) := hc2
    clear hc2
    go_enter Tryz.func88, Tryz.ntmps88
    go_wp2_with fail
    refine (text1_any g off n c m most s.rest _ Hlen.out hnc Hsl.out hm).mono ?_
    rintro e w1 ⟨rfl, rfl⟩
    have h1 := Hs.out
    have hq2n : (textParse most s.rest).2.1 ≤ n := by have := Hsl.out.1; omega
    clear Hs
    generalize hq : textParse most s.rest = q at *
    have Hq := Lib.hid hq; clear hq
    have H0 := Lib.hid h0; clear h0
    obtain ⟨q1, q2, q3⟩ := q
    dsimp only at *
    by_cases h3 : q3 = 0
    · subst h3
      have hfin : Hid (rdText most s = (q1, ⟨s.rest.drop q2, 0⟩)) := by show _ = _; unfold rdText; rw [Hq.out]; simp [H0.out]
      by_cases hcq : c = q2
      · subst hcq
        obtain rfl : n = c := by omega
        go_wp2
        go_ret
        rw [hfin.out]
        refine ⟨rfl, rd_stored hBb hBg Hgb.out Hh.out (by rw [H0.out]; rfl) _ _ _ _ _ ⟨?_, fun j hj => by omega⟩ (by omega) (by have := Hlen.out; simp; omega)⟩
        have := Hsl.out.1
        simp; omega
      · go_wp2
        go_ret
        rw [hfin.out]
        exact ⟨rfl, rd_stored hBb hBg Hgb.out Hh.out (by rw [H0.out]; rfl) _ _ _ _ _ (Hsl.out.drop q2) (by omega) (by have := Hlen.out; simp; omega)⟩
    · have hfin : Hid (rdText most s = ([], ⟨s.rest, q3⟩)) := by show _ = _; unfold rdText; rw [Hq.out]; simp [H0.out, h3]
      have h3' : ((q3 : Int) != 0) = true := bne_iff_ne.2 (by omega)
      clear h3
      go_wp2
      go_ret
      rw [hfin.out]
      exact ⟨rfl, rd_failed hBb hBg Hgb.out Hh.out _ Hsl.out hnc Hlen.out _⟩
  · have hfin : Hid (rdText most s = ([], s)) := by show _ = _; unfold rdText; simp [h0]
    generalize hfl : s.fail = f at *
    have Hfl := Lib.hid hfl; clear hfl
    have h0' : ((f : Int) != 0) = true := bne_iff_ne.2 (by omega)
    clear h0
    go_enter Tryz.func88, Tryz.ntmps88
    go_wp2
    go_ret
    rw [hfin.out]
    exact ⟨rfl, ⟨hBb, g, off, n, c, p, by rw [Hfl.out]; exact Hh.out, Hsl.out, hnc, hBg, Hgb.out, Hlen.out⟩, grown_refl _ _⟩


end Go.Proofs.YtfchfjipkggnkaaGreatDoor

namespace Go.Proofs.YtfchfjipkggnkaaGreatDoor
open Go.RowKit

theorem Rd.later {B : Nat → Prop} {b : Nat} {w w' : World} {s : RdS} (h : Rd B b w s) (hb : Below w.heap.size w w') : Rd B b w' s := by
  obtain ⟨hBb, g, off, n, c, p, hh, hsl, hnc, hBg, hgb, hlen⟩ := h
  have hg : n = 0 ∨ g < w.heap.size := by
    rcases Nat.eq_zero_or_pos n with h0 | h0
    · exact .inl h0
    · exact .inr (World.block_lt_of_cell? w _ (hsl.2 0 h0))
  refine ⟨hBb, g, off, n, c, p, (hb.block b (lt_of_heap hh)).trans hh, ?_, hnc, hBg, hgb, hlen⟩
  rcases hg with rfl | hg
  · exact ⟨hsl.1, fun j hj => by omega⟩
  · exact hsl.kept (hb.block g hg)

set_option maxRecDepth 100000 in
set_option maxHeartbeats 800000 in
theorem rNumber_any (B : Nat → Prop) (b : Nat) (most : Int) (s : RdS) (w : World) (h : Rd B b w s) :
    Calls Tryz.prog 56 #[.pointer (some ⟨b, 0, none⟩), .int .i64 most] w (RdPost B b w (.int .i64 (rdNum most s).1) (rdNum most s).2) := by
  have hmf : ∀ (fn : Fn) (first cap : Array Value) (w : World), (Instr.makeFunc fn first cap).run Tryz.prog w = .ok (.func fn first cap) w := fun _ _ _ _ => rfl
  have H := Lib.hid h; clear h
  go_enter Tryz.func56, Tryz.ntmps56
  go_wp2_with fail
  refine (readInt_any B b w.heap.size most s _ (cell_box _ _ _) (H.out.later ((Below.refl _ _).alloc (Nat.le_refl _) _))).mono ?_
  rintro e w1 ⟨rfl, hr, hb⟩
  have Hr := Lib.hid hr; clear hr
  have Hb := Lib.hid hb; clear hb
  go_wp2
  go_ret
  exact ⟨rfl, Hr.out, grown_trans (World.grownBy_alloc _ _ _) Hb.out⟩

set_option maxRecDepth 100000 in
set_option maxHeartbeats 800000 in
theorem rText_any (B : Nat → Prop) (b : Nat) (most : Int) (s : RdS) (w : World) (h : Rd B b w s) :
    Calls Tryz.prog 57 #[.pointer (some ⟨b, 0, none⟩), .int .i64 most] w (RdPost B b w (.string (strOf (rdText most s).1)) (rdText most s).2) := by
  have hmf : ∀ (fn : Fn) (first cap : Array Value) (w : World), (Instr.makeFunc fn first cap).run Tryz.prog w = .ok (.func fn first cap) w := fun _ _ _ _ => rfl
  have H := Lib.hid h; clear h
  go_enter Tryz.func57, Tryz.ntmps57
  go_wp2_with fail
  refine (readString_any B b w.heap.size most s _ (cell_box _ _ _) (H.out.later ((Below.refl _ _).alloc (Nat.le_refl _) _))).mono ?_
  rintro e w1 ⟨rfl, hr, hb⟩
  have Hr := Lib.hid hr; clear hr
  have Hb := Lib.hid hb; clear hb
  go_wp2
  go_ret
  exact ⟨rfl, Hr.out, grown_trans (World.grownBy_alloc _ _ _) Hb.out⟩

theorem BRow.sl {w : World} {g n c : Nat} {bs : List UInt8} (h : BRow w (.slice (some ⟨g, 0, none⟩) n c) bs) : BSl w g 0 n bs ∧ n ≤ c ∧ g < w.heap.size := by
  have hcs := World.ownsRow.cells h (g := g) rfl
  rcases h.2 with ⟨hv, _⟩ | ⟨g', cap, cur, hv, hb, hg, hnc, hcm, hcs', htake⟩
  · cases hv
  · simp only [Value.slice.injEq, Option.some.injEq, Addr.mk.injEq, and_true] at hv
    obtain ⟨rfl, rfl, rfl⟩ := hv
    refine ⟨⟨rfl, fun j hj => ?_⟩, hnc, lt_of_heap hg⟩
    have h1 := hcs j (byteV (bs.getD j 0)) (by simp [hj])
    have hadd : (⟨g, 0, none⟩ : Addr).add j = ⟨g, 0 + j, none⟩ := by unfold Addr.add; split <;> simp_all
    rw [hadd] at h1
    exact h1

def rdClose (s : RdS) : Nat := if s.fail ≠ 0 then s.fail else if 0 < s.rest.length then 5 else 0

set_option maxRecDepth 100000 in
set_option maxHeartbeats 800000 in
theorem rClose_any (B : Nat → Prop) (b : Nat) (s : RdS) (w : World) (h : Rd B b w s) :
    Calls Tryz.prog 59 #[.pointer (some ⟨b, 0, none⟩)] w fun r w' => r = .returned (.int .i64 (rdClose s)) ∧ w = w' := by
  obtain ⟨hBb, g, off, n, c, p, hh, hsl, hnc, hBg, hgb, hlen⟩ := h
  have hc0 : w.cell? ⟨b, 0, none⟩ = some (.slice (some ⟨g, off, none⟩) n c) := cell_of_heap hh 0
  have hc2 : w.cell? ⟨b, 2, none⟩ = some (.int .i64 s.fail) := cell_of_heap hh 2
  have hl := hsl.1
  clear hh hsl
  unfold rdClose
  by_cases h0 : s.fail = 0
  · rw [h0] at hc2 ⊢
    have hc2' : w.cell? ⟨b, 2, none⟩ = some (.int .i64 0) := hc2
    clear hc2
    by_cases h1 : 0 < s.rest.length
    · have hn : 0 < n := by omega
      rw [if_neg (by simp), if_pos h1]
      clear hl h1 h0 hlen
      go_enter Tryz.func59, Tryz.ntmps59
      go_wp2
      go_ret
      exact ⟨rfl, rfl⟩
    · obtain rfl : n = 0 := by omega
      rw [if_neg (by simp), if_neg h1]
      clear hl h1 h0 hlen
      go_enter Tryz.func59, Tryz.ntmps59
      go_wp2
      go_ret
      exact ⟨rfl, rfl⟩
  · rw [if_pos h0]
    clear hl hlen
    generalize s.fail = f at *
    have h0' : ((f : Int) != 0) = true := bne_iff_ne.2 (by omega)
    clear h0
    go_enter Tryz.func59, Tryz.ntmps59
    go_wp2
    go_ret
    exact ⟨rfl, rfl⟩

set_option maxRecDepth 100000 in
set_option maxHeartbeats 800000 in
theorem newReader_any (v : Value) (bs : List UInt8) (w : World) (hlen : bs.length ≤ 35184372088832) (hsrc : BSrc w v bs) (hv : v ≠ .slice none 0 0) :
    Calls Tryz.prog 55 #[v] w fun r w' => ∃ b, r = .returned (.pointer (some ⟨b, 0, none⟩)) ∧ Rd (fun k => w.heap.size ≤ k ∧ k < w'.heap.size) b w' ⟨bs, 0⟩ ∧ Below w.heap.size w w' := by
  have Hsrc := Lib.hid hsrc; clear hsrc
  have Hlen := Lib.hid hlen; clear hlen
  have Hv := Lib.hid hv; clear hv
  go_enter Tryz.func55, Tryz.ntmps55
  go_wp2_with fail
  refine (clone_any v bs _ Hlen.out Hsrc.out).mono ?_
  rintro e w1 ⟨v1, rfl, hrow, hb, hform⟩
  rcases hform with h | ⟨g, n, c, rfl, hg⟩
  · exact absurd h.1 Hv.out
  have Hrow := Lib.hid hrow; clear hrow
  have Hb := Lib.hid hb; clear hb
  go_wp2
  go_ret
  obtain ⟨hsl, hnc, hgl⟩ := Hrow.out.sl
  refine ⟨w1.heap.size, rfl, ⟨⟨Hb.out.size, by simp⟩, g, 0, n, c, 0, heap_alloc_new w1 _, hsl.kept (Below.heap_alloc _ _ _ hgl), hnc, ⟨hg, by simp; omega⟩, by omega, by show bs.length ≤ _; have := Hlen.out; omega⟩, Hb.out.alloc Hb.out.size _⟩

/-- What Bytes leaves. -/
def BytesPost (w : World) (bs : List UInt8) (r : Ending) (w' : World) : Prop :=
  ∃ v, r = .returned (.tuple #[v, .int .i64 0]) ∧ BRow w' v bs ∧ Below w.heap.size w w' ∧ (v = .slice none 0 0 ∨ ∃ g n c, v = .slice (some ⟨g, 0, none⟩) n c ∧ w.heap.size ≤ g)

set_option maxRecDepth 100000 in
set_option maxHeartbeats 800000 in
theorem bytes_any (B b : Nat) (bs : List UInt8) (w : World) (hlen : bs.length ≤ 35184372088832) (h : Wr B b w bs) :
    Calls Tryz.prog 96 #[.pointer (some ⟨b, 0, none⟩)] w (BytesPost w bs) := by
  obtain ⟨hBb, v, hh, hrow, hlie⟩ := h
  have hc0 : w.cell? ⟨b, 0, none⟩ = some v := cell_of_heap hh 0
  have hc1 : w.cell? ⟨b, 1, none⟩ = some (.int .i64 0) := cell_of_heap hh 1
  have Hh := Lib.hid hh; clear hh
  have Hrow := Lib.hid hrow; clear hrow
  have Hlen := Lib.hid hlen; clear hlen
  clear hlie
  go_enter Tryz.func96, Tryz.ntmps96
  go_wp2_with fail
  refine (clone_any v bs _ Hlen.out Hrow.out.src).mono ?_
  rintro e w1 ⟨v1, rfl, hrow1, hb1, hform⟩
  have Hrow1 := Lib.hid hrow1; clear hrow1
  have Hb1 := Lib.hid hb1; clear hb1
  have Hform := Lib.hid hform; clear hform
  go_wp2
  go_ret2
  refine ⟨v1, rfl, Hrow1.out, Hb1.out, ?_⟩
  rcases Hform.out with h | h
  · exact .inl h.2
  · exact .inr h

end Go.Proofs.YtfchfjipkggnkaaGreatDoor
