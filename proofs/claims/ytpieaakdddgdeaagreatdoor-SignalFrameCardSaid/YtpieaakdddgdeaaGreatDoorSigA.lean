/- signal: sets, addresses; the plain words of a record; Check. -/
import Derived.Test.YtpieaakdddgdeaaGreatDoorViewH
import Derived.Test.YtpieaakdddgdeaaGreatDoorCodecH
namespace Go.Proofs.YtpieaakdddgdeaaGreatDoor
open Go.RowKit

def setB (n : Int) : Bool := decide (0 ≤ n) && decide (n ≤ 254) && (n % 2 == 0)
def addrB (n : Int) : Bool := decide (0 ≤ n) && decide (n ≤ 4095)
def hasB (p n : Int) : Bool := bits BinOp.and IntKind.i64 (p / 2 ^ n.toNat) 1 == 1

/-- A record. -/
structure RecT where
  p : Int
  b : Int
  i : Int
  h0 : Int
  h1 : Int
  h2 : Int
  h3 : Int
  h4 : Int
  h5 : Int
  h6 : Int
  h7 : Int
  deriving DecidableEq
def RecT.hs (r : RecT) : List Int := [r.h0, r.h1, r.h2, r.h3, r.h4, r.h5, r.h6, r.h7]
def rCells (r : RecT) : Array Value := #[.int .i64 r.p, .int .i64 r.b, .int .i64 r.i, .int .i64 r.h0, .int .i64 r.h1, .int .i64 r.h2, .int .i64 r.h3, .int .i64 r.h4, .int .i64 r.h5, .int .i64 r.h6, .int .i64 r.h7]
def hCells (r : RecT) : Array Value := #[.int .i64 r.h0, .int .i64 r.h1, .int .i64 r.h2, .int .i64 r.h3, .int .i64 r.h4, .int .i64 r.h5, .int .i64 r.h6, .int .i64 r.h7]
def zeroR : RecT := ⟨0, 0, 0, 0, 0, 0, 0, 0, 0, 0, 0⟩
def allH (P : Nat → Int → Bool) (l : List Int) : Bool := (List.range 8).all fun k => P k (l.getD k 0)
def clashB (i : Int) (k : Nat) (x : Int) : Bool := (x != 0) && hasB i k
def checkR (r : RecT) : Nat :=
  if setB r.p = false ∨ setB r.b = false ∨ setB r.i = false ∨ r.h0 ≠ 0 then 2
  else if allH (fun _ x => addrB x) r.hs = false then 2
  else if hasB r.b 3 = true ∨ hasB r.i 3 = true ∨ r.h3 ≠ 0 then 33
  else if allH (fun k x => !clashB r.i k x) r.hs = false then 10
  else 0
theorem allH_true {P : Nat → Int → Bool} {l : List Int} (h : ∀ k, k < 8 → P k (l.getD k 0) = true) : allH P l = true :=
  List.all_eq_true.2 fun k hk => h k (List.mem_range.1 hk)
theorem allH_false {P : Nat → Int → Bool} {l : List Int} (k : Nat) (hk : k < 8) (h : P k (l.getD k 0) = false) : allH P l = false := by
  cases ha : allH P l with
  | false => rfl
  | true => rw [List.all_eq_true.1 ha k (List.mem_range.2 hk)] at h; cases h
theorem hCells_at (r : RecT) (k : Nat) (hk : k < 8) : (hCells r)[k]? = some (.int .i64 (r.hs.getD k 0)) := by
  rcases (by omega : k = 0 ∨ k = 1 ∨ k = 2 ∨ k = 3 ∨ k = 4 ∨ k = 5 ∨ k = 6 ∨ k = 7) with rfl | rfl | rfl | rfl | rfl | rfl | rfl | rfl <;> rfl
theorem rCells_at (r : RecT) (k : Nat) (hk : k < 8) : (rCells r)[3 + k]? = some (.int .i64 (r.hs.getD k 0)) := by
  rcases (by omega : k = 0 ∨ k = 1 ∨ k = 2 ∨ k = 3 ∨ k = 4 ∨ k = 5 ∨ k = 6 ∨ k = 7) with rfl | rfl | rfl | rfl | rfl | rfl | rfl | rfl <;> rfl

set_option maxHeartbeats 400000 in
theorem setValid_any (n : Int) (w : World) : Calls Tryz.prog 129 #[.int .i64 n] w fun r w' => r = .returned (.bool (setB n)) ∧ w = w' := by
  by_cases h1 : 0 ≤ n
  · by_cases h2 : n ≤ 254
    · go_enter Tryz.func129, Tryz.ntmps129
      go_wp2
      go_ret
      exact ⟨by simp [setB, h1, h2], rfl⟩
    · have h3 : setB n = false := by simp [setB, h2]
      go_enter Tryz.func129, Tryz.ntmps129
      go_wp2
      go_ret
      exact ⟨rfl, rfl⟩
  · have h3 : setB n = false := by simp [setB, h1]
    go_enter Tryz.func129, Tryz.ntmps129
    go_wp2
    go_ret
    exact ⟨rfl, rfl⟩
theorem setValid_is (n : Int) (v : Bool) (h : setB n = v) (w : World) : Calls Tryz.prog 129 #[.int .i64 n] w fun r w' => r = .returned (.bool v) ∧ w = w' := by
  subst h; exact setValid_any n w
set_option maxHeartbeats 400000 in
theorem isAddress_any (n : Int) (w : World) : Calls Tryz.prog 126 #[.int .i64 n] w fun r w' => r = .returned (.bool (addrB n)) ∧ w = w' := by
  by_cases h1 : 0 ≤ n
  · go_enter Tryz.func126, Tryz.ntmps126
    go_wp2
    go_ret
    exact ⟨by simp [addrB, h1], rfl⟩
  · have h3 : addrB n = false := by simp [addrB, h1]
    go_enter Tryz.func126, Tryz.ntmps126
    go_wp2
    go_ret
    exact ⟨rfl, rfl⟩
theorem isAddress_is (n : Int) (v : Bool) (h : addrB n = v) (w : World) : Calls Tryz.prog 126 #[.int .i64 n] w fun r w' => r = .returned (.bool v) ∧ w = w' := by
  subst h; exact isAddress_any n w
set_option maxHeartbeats 400000 in
theorem setHas_any (p : Int) (n : Int) (hn : 0 ≤ n ∧ n < 8) (w : World) : Calls Tryz.prog 109 #[.int .i64 p, .int .i64 n] w fun r w' => r = .returned (.bool (hasB p n)) ∧ w = w' := by
  go_enter Tryz.func109, Tryz.ntmps109
  go_wp2
  go_ret
  exact ⟨rfl, rfl⟩
theorem setHas_is (p n : Int) (v : Bool) (h : hasB p n = v) (hn : 0 ≤ n ∧ n < 8) (w : World) : Calls Tryz.prog 109 #[.int .i64 p, .int .i64 n] w fun r w' => r = .returned (.bool v) ∧ w = w' := by
  subst h; exact setHas_any p n hn w

set_option maxRecDepth 100000 in
theorem run_index8 (r : RecT) (n : Nat) (hn : n < 8) (W : World) : (Instr.index 28 (.agg (hCells r)) (.int .i64 n)).run Tryz.prog W = .ok (.int .i64 (r.hs.getD n 0)) W := by
  obtain ⟨p, b, i, h0, h1, h2, h3, h4, h5, h6, h7⟩ := r
  rcases (by omega : n = 0 ∨ n = 1 ∨ n = 2 ∨ n = 3 ∨ n = 4 ∨ n = 5 ∨ n = 6 ∨ n = 7) with rfl | rfl | rfl | rfl | rfl | rfl | rfl | rfl <;> simp [go_sem, hCells, RecT.hs, Instr.index, part]

set_option maxRecDepth 100000 in
set_option maxHeartbeats 2000000 in
theorem recCheck_any (p b i h0 h1 h2 h3 h4 h5 h6 h7 : Int) (w : World) : Calls Tryz.prog 107 #[.agg #[.int .i64 p, .int .i64 b, .int .i64 i, .int .i64 h0, .int .i64 h1, .int .i64 h2, .int .i64 h3, .int .i64 h4, .int .i64 h5, .int .i64 h6, .int .i64 h7]] w fun r w' => r = .returned (.int .i64 (checkR ⟨p, b, i, h0, h1, h2, h3, h4, h5, h6, h7⟩)) ∧ Below w.heap.size w w' := by
  have Hbx : Hid (∀ v t, Below w.heap.size w (w.alloc (.cells v t))) := fun v t => (Below.refl _ _).alloc (Nat.le_refl _) _
  go_enter Tryz.func107, Tryz.ntmps107
  cases ha : setB p with
  | false =>
    have he : Hid (checkR ⟨p, b, i, h0, h1, h2, h3, h4, h5, h6, h7⟩ = 2) := if_pos (.inl ha)
    go_wp2_with fail
    refine (setValid_is p _ ha _).mono ?_
    rintro r w1 ⟨rfl, rfl⟩
    go_wp2
    go_ret
    rw [he.out]
    exact ⟨rfl, Hbx.out _ _⟩
  | true =>
  cases hb : setB b with
  | false =>
    have he : Hid (checkR ⟨p, b, i, h0, h1, h2, h3, h4, h5, h6, h7⟩ = 2) := if_pos (.inr (.inl hb))
    go_wp2_with fail
    refine (setValid_is p _ ha _).mono ?_
    rintro r w1 ⟨rfl, rfl⟩
    go_wp2_with fail
    refine (setValid_is b _ hb _).mono ?_
    rintro r w1 ⟨rfl, rfl⟩
    go_wp2
    go_ret
    rw [he.out]
    exact ⟨rfl, Hbx.out _ _⟩
  | true =>
  cases hi : setB i with
  | false =>
    have he : Hid (checkR ⟨p, b, i, h0, h1, h2, h3, h4, h5, h6, h7⟩ = 2) := if_pos (.inr (.inr (.inl hi)))
    go_wp2_with fail
    refine (setValid_is p _ ha _).mono ?_
    rintro r w1 ⟨rfl, rfl⟩
    go_wp2_with fail
    refine (setValid_is b _ hb _).mono ?_
    rintro r w1 ⟨rfl, rfl⟩
    go_wp2_with fail
    refine (setValid_is i _ hi _).mono ?_
    rintro r w1 ⟨rfl, rfl⟩
    go_wp2
    go_ret
    rw [he.out]
    exact ⟨rfl, Hbx.out _ _⟩
  | true =>
  by_cases hz : h0 = 0
  · have E1 : Hid (¬ (setB p = false ∨ setB b = false ∨ setB i = false ∨ h0 ≠ 0)) := by show ¬ _; rw [ha, hb, hi]; simp [hz]
    subst hz
    go_wp2_with fail
    refine (setValid_is p _ ha _).mono ?_
    rintro r w1 ⟨rfl, rfl⟩
    go_wp2_with fail
    refine (setValid_is b _ hb _).mono ?_
    rintro r w1 ⟨rfl, rfl⟩
    go_wp2_with fail
    refine (setValid_is i _ hi _).mono ?_
    rintro r w1 ⟨rfl, rfl⟩
    go_wp2
    have HIx : Hid (∀ n : Nat, n < 8 → ∀ W, (Instr.index 28 (.agg #[.int .i64 0, .int .i64 h1, .int .i64 h2, .int .i64 h3, .int .i64 h4, .int .i64 h5, .int .i64 h6, .int .i64 h7]) (.int .i64 n)).run Tryz.prog W = .ok (.int .i64 ((RecT.mk p b i 0 h1 h2 h3 h4 h5 h6 h7).hs.getD n 0)) W) := fun n hn W => run_index8 ⟨p, b, i, 0, h1, h2, h3, h4, h5, h6, h7⟩ n hn W
    generalize hhs : (RecT.mk p b i 0 h1 h2 h3 h4 h5 h6 h7).hs = hs at *
    have Hhs := Lib.hid hhs; clear hhs
    go_loop [31] (fun k => ∃ n : Nat, n ≤ 8 ∧ k = .int .i64 n ∧ Hid (∀ j, j < n → addrB (hs.getD j 0) = true)) (fun k => 8 - (intOf k).toNat)
    case atStart => exact ⟨0, by omega, rfl, fun j hj => by omega⟩
    case round =>
      obtain ⟨n, hn, rfl, Hd⟩ := hrel
      by_cases hlt : n < 8
      · have hix := HIx.out n hlt
        have Hlt := Lib.hid hlt
        obtain ⟨x, hx⟩ : ∃ x, hs.getD n 0 = x := ⟨_, rfl⟩
        rw [hx] at hix
        have Hx := Lib.hid hx; clear hx
        cases hax : addrB x with
        | false =>
          have he : Hid (checkR ⟨p, b, i, 0, h1, h2, h3, h4, h5, h6, h7⟩ = 2) := (if_neg E1.out).trans (if_pos (by rw [Hhs.out]; exact allH_false n Hlt.out (by rw [Hx.out]; exact hax)))
          go_wp2_with fail
          refine (isAddress_is x _ hax _).mono ?_
          rintro r w1 ⟨rfl, rfl⟩
          go_wp2
          go_ret
          rw [he.out]
          exact ⟨rfl, Hbx.out _ _⟩
        | true =>
          have Hax := Lib.hid hax
          go_wp2_with fail
          refine (isAddress_is x _ hax _).mono ?_
          rintro r w1 ⟨rfl, rfl⟩
          go_wp2
          go_round
          case rel =>
            refine ⟨n + 1, by omega, by go_num, fun j hj => ?_⟩
            by_cases hjn : j = n
            · subst hjn; rw [Hx.out]; exact Hax.out
            · exact Hd.out j (by omega)
          case measure => simp [intOf]; omega
      · have E2 : Hid (¬ allH (fun _ x => addrB x) hs = false) := by show ¬ _; rw [allH_true (fun k hk => Hd.out k (by omega))]; simp
        clear Hd
        cases hk1 : hasB b 3 with
        | true =>
          have he : Hid (checkR ⟨p, b, i, 0, h1, h2, h3, h4, h5, h6, h7⟩ = 33) := (if_neg E1.out).trans ((if_neg (by rw [Hhs.out]; exact E2.out)).trans (if_pos (.inl hk1)))
          go_wp2_with fail
          refine (setHas_is b 3 _ hk1 (by omega) _).mono ?_
          rintro r w1 ⟨rfl, rfl⟩
          go_wp2
          go_ret
          rw [he.out]
          exact ⟨rfl, Hbx.out _ _⟩
        | false =>
        cases hk2 : hasB i 3 with
        | true =>
          have he : Hid (checkR ⟨p, b, i, 0, h1, h2, h3, h4, h5, h6, h7⟩ = 33) := (if_neg E1.out).trans ((if_neg (by rw [Hhs.out]; exact E2.out)).trans (if_pos (.inr (.inl hk2))))
          go_wp2_with fail
          refine (setHas_is b 3 _ hk1 (by omega) _).mono ?_
          rintro r w1 ⟨rfl, rfl⟩
          go_wp2_with fail
          refine (setHas_is i 3 _ hk2 (by omega) _).mono ?_
          rintro r w1 ⟨rfl, rfl⟩
          go_wp2
          go_ret
          rw [he.out]
          exact ⟨rfl, Hbx.out _ _⟩
        | false =>
        by_cases hk3 : h3 = 0
        · have E3 : Hid (¬ (hasB b 3 = true ∨ hasB i 3 = true ∨ h3 ≠ 0)) := by show ¬ _; rw [hk1, hk2]; simp [hk3]
          have Hk3 := Lib.hid hk3
          have hk3' : (h3 != 0) = false := by simp [hk3]
          clear hk3
          go_wp2_with fail
          refine (setHas_is b 3 _ hk1 (by omega) _).mono ?_
          rintro r w1 ⟨rfl, rfl⟩
          go_wp2_with fail
          refine (setHas_is i 3 _ hk2 (by omega) _).mono ?_
          rintro r w1 ⟨rfl, rfl⟩
          go_wp2
          go_loop [54] (fun k => ∃ n : Nat, n ≤ 8 ∧ k = .int .i64 n ∧ Hid (∀ j, j < n → (!clashB i j (hs.getD j 0)) = true)) (fun k => 8 - (intOf k).toNat)
          case atStart => exact ⟨0, by omega, rfl, fun j hj => by omega⟩
          case round =>
            rename_i hn0 hlt0
            obtain ⟨n, hn, rfl, Hd⟩ := hrel
            by_cases hlt : n < 8
            · have hix := HIx.out n hlt
              have Hlt := Lib.hid hlt
              obtain ⟨x, hx⟩ : ∃ x, hs.getD n 0 = x := ⟨_, rfl⟩
              rw [hx] at hix
              have Hx := Lib.hid hx; clear hx
              by_cases hx0 : x = 0
              · have Hc : Hid ((!clashB i n (hs.getD n 0)) = true) := by show _ = _; rw [Hx.out]; simp [clashB, hx0]
                have hx0' : (x != 0) = false := by simp [hx0]
                clear hx0
                go_wp2
                go_round
                case rel =>
                  refine ⟨n + 1, by omega, by go_num, fun j hj => ?_⟩
                  by_cases hjn : j = n
                  · subst hjn; exact Hc.out
                  · exact Hd.out j (by omega)
                case measure => simp [intOf]; omega
              · have hx0' : (x != 0) = true := bne_iff_ne.2 hx0
                clear hx0
                cases hh : hasB i n with
                | true =>
                  have he : Hid (checkR ⟨p, b, i, 0, h1, h2, h3, h4, h5, h6, h7⟩ = 10) := (if_neg E1.out).trans ((if_neg (by rw [Hhs.out]; exact E2.out)).trans ((if_neg E3.out).trans (if_pos (by rw [Hhs.out]; exact allH_false n Hlt.out (by rw [Hx.out]; simp only [clashB, hx0', hh, Bool.and_self, Bool.not_true])))))
                  go_wp2_with fail
                  refine (setHas_is i n _ hh (by omega) _).mono ?_
                  rintro r w1 ⟨rfl, rfl⟩
                  go_wp2
                  go_ret
                  rw [he.out]
                  exact ⟨rfl, Hbx.out _ _⟩
                | false =>
                  have Hc : Hid ((!clashB i n (hs.getD n 0)) = true) := by show _ = _; rw [Hx.out]; simp only [clashB, hh, Bool.and_false, Bool.not_false]
                  go_wp2_with fail
                  refine (setHas_is i n _ hh (by omega) _).mono ?_
                  rintro r w1 ⟨rfl, rfl⟩
                  go_wp2
                  go_round
                  case rel =>
                    refine ⟨n + 1, by omega, by go_num, fun j hj => ?_⟩
                    by_cases hjn : j = n
                    · subst hjn; exact Hc.out
                    · exact Hd.out j (by omega)
                  case measure => simp [intOf]; omega
            · have he : Hid (checkR ⟨p, b, i, 0, h1, h2, h3, h4, h5, h6, h7⟩ = 0) := (if_neg E1.out).trans ((if_neg (by rw [Hhs.out]; exact E2.out)).trans ((if_neg E3.out).trans (if_neg (by rw [Hhs.out, allH_true (fun k hk => Hd.out k (by omega))]; simp))))
              go_wp2
              go_ret
              rw [he.out]
              exact ⟨rfl, Hbx.out _ _⟩
        · have he : Hid (checkR ⟨p, b, i, 0, h1, h2, h3, h4, h5, h6, h7⟩ = 33) := (if_neg E1.out).trans ((if_neg (by rw [Hhs.out]; exact E2.out)).trans (if_pos (.inr (.inr hk3))))
          have hk3' : (h3 != 0) = true := bne_iff_ne.2 hk3
          clear hk3
          go_wp2_with fail
          refine (setHas_is b 3 _ hk1 (by omega) _).mono ?_
          rintro r w1 ⟨rfl, rfl⟩
          go_wp2_with fail
          refine (setHas_is i 3 _ hk2 (by omega) _).mono ?_
          rintro r w1 ⟨rfl, rfl⟩
          go_wp2
          go_ret
          rw [he.out]
          exact ⟨rfl, Hbx.out _ _⟩
  · have he : Hid (checkR ⟨p, b, i, h0, h1, h2, h3, h4, h5, h6, h7⟩ = 2) := if_pos (.inr (.inr (.inr hz)))
    have hz' : (h0 != 0) = true := bne_iff_ne.2 hz
    clear hz
    go_wp2_with fail
    refine (setValid_is p _ ha _).mono ?_
    rintro r w1 ⟨rfl, rfl⟩
    go_wp2_with fail
    refine (setValid_is b _ hb _).mono ?_
    rintro r w1 ⟨rfl, rfl⟩
    go_wp2_with fail
    refine (setValid_is i _ hi _).mono ?_
    rintro r w1 ⟨rfl, rfl⟩
    go_wp2
    go_ret
    rw [he.out]
    exact ⟨rfl, Hbx.out _ _⟩
end Go.Proofs.YtpieaakdddgdeaaGreatDoor
