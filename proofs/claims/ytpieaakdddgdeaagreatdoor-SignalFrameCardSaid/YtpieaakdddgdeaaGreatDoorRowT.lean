/- Arguments that are slices of law 33's operations. -/
import Derived.Test.YtpieaakdddgdeaaGreatDoorRowV
import Derived.Test.YtpieaakdddgdeaaGreatDoorRowZ
import Derived.Test.YtpieaakdddgdeaaGreatDoorSgkB
import Derived.Deep.Slices
namespace Go.Proofs.YtpieaakdddgdeaaGreatDoor
open Go.ChangeShapes Go.WideShapes Go.ChangeAt Go.ChangeMaps Go.RowKit

theorem sadd_at (g off j : Nat) : (⟨g, off, none⟩ : Addr).add j = ⟨g, off + j, none⟩ := by unfold Addr.add; split <;> simp_all
theorem sspot_none {w : World} {a : Addr} {v : Value} (h : w.cell? a = some v) : a.spot = none := by
  unfold World.cell? at h
  split at h
  · split at h
    · cases h
    · rename_i h1
      simpa using h1
  · cases h
theorem saddr_at {w : World} {a : Addr} {v : Value} (h : w.cell? (a.add 0) = some v) : ∃ g off, a = ⟨g, off, none⟩ := by
  obtain ⟨g, off, el⟩ := a
  have := sspot_none h
  simp [Addr.add] at this
  exact ⟨g, off, by rw [this]⟩
theorem sixL {cs : List Value} (h : cs.length = 6) : ∃ v0 v1 v2 v3 v4 v5, cs = [v0, v1, v2, v3, v4, v5] := by
  match cs, h with
  | [v0, v1, v2, v3, v4, v5], _ => exact ⟨v0, v1, v2, v3, v4, v5, rfl⟩

set_option maxRecDepth 100000 in
theorem open_sops {H : Type} {enc : TypeId × Value → H} {W : World} {a : Option Addr} {n c : Nat} {d : DataW H} {p : List MemPlace} (h : DataW.Trod enc Tryz.prog W 0 (fun _ => true) true 22 (.slice a n c) d p) :
    ∃ f, OpSlS W a n f ∧ n ≤ maxLen := by
  obtain ⟨fuel, hf⟩ := h
  rcases Deep.open_slice Tryz.underlying22 hf with ⟨hcs, hx⟩ | ⟨a1, len, cap, m, fu, D, Pl, hcs, _, hl, hm, hmm, hx, hall⟩
  · have : (Value.slice a n c) = .slice none 0 0 := by simpa [Value.cells] using hcs
    cases this
    exact ⟨fun _ => default, fun h => absurd h (Nat.lt_irrefl _), Nat.zero_le _⟩
  · have : (Value.slice a n c) = .slice (some a1) len cap := by simpa [Value.cells] using hcs
    cases this
    simp only [if_true] at hmm
    subst hmm
    rw [cellsSop] at hall
    obtain ⟨fs, hfs, hmap⟩ := underSop
    have each : ∀ i, i < n → ∃ o : OpS, W.cell? (a1.add (i * 6)) = some (.int .u8 o.kd) ∧ W.cell? (a1.add (i * 6 + 1)) = some (.int .u8 o.wh) ∧ W.cell? (a1.add (i * 6 + 2)) = some (.int .u8 o.to) ∧ W.cell? (a1.add (i * 6 + 3)) = some (.int .i64 o.sg) ∧ W.cell? (a1.add (i * 6 + 4)) = some (.int .i64 o.nn) ∧ W.cell? (a1.add (i * 6 + 5)) = some (.bool o.is) ∧
        o.kd ≤ 255 ∧ o.wh ≤ 255 ∧ o.to ≤ 255 := by
      intro i hi
      obtain ⟨cs', h1, h2⟩ := hall i (by omega)
      obtain ⟨_, hlen, hcell⟩ := World.cells?_some h1
      obtain ⟨xs, k, _, _, _, hxl, hg⟩ := DataW.trod_struct hfs h2
      obtain ⟨v0, v1, v2, v3, v4, v5, rfl⟩ := sixL hlen
      have fld : ∀ (j : Nat) (ty : TypeId) (off : Nat), [(5, 0), (5, 1), (5, 2), (3, 3), (3, 4), (4, 5)][j]? = some (ty, off) → Tryz.prog.cellsOf ty = 1 →
          ∃ y, DataW.trod enc Tryz.prog W 0 (fun _ => true) true k ty (([v0, v1, v2, v3, v4, v5].drop off).take 1) = some y := fun j ty off hj hc => by
        rw [← hmap] at hj
        simp only [List.getElem?_map, Option.map_eq_some_iff, Prod.mk.injEq] at hj
        obtain ⟨f, hf', rfl, rfl⟩ := hj
        have hjj : j < fs.size := by
          have := (List.getElem?_eq_some_iff.1 hf').1
          simpa using this
        have := hg j f (by simpa using hf')
        rw [hc] at this
        exact ⟨xs[j]'(by omega), by rw [this]; exact List.getElem?_eq_getElem _⟩
      obtain ⟨y0, g0⟩ := fld 0 _ _ rfl cellsSU8
      obtain ⟨y1, g1⟩ := fld 1 _ _ rfl cellsSU8
      obtain ⟨y2, g2⟩ := fld 2 _ _ rfl cellsSU8
      obtain ⟨y3, g3⟩ := fld 3 _ _ rfl cellsSInt
      obtain ⟨y4, g4⟩ := fld 4 _ _ rfl cellsSInt
      obtain ⟨y5, g5⟩ := fld 5 _ _ rfl cellsSBool
      obtain ⟨z0, e0, _, w0⟩ := DataW.trod_int Tryz.underlying5 g0
      obtain ⟨z1, e1, _, w1⟩ := DataW.trod_int Tryz.underlying5 g1
      obtain ⟨z2, e2, _, w2⟩ := DataW.trod_int Tryz.underlying5 g2
      obtain ⟨z3, e3, _, w3⟩ := DataW.trod_int Tryz.underlying3 g3
      obtain ⟨z4, e4, _, w4⟩ := DataW.trod_int Tryz.underlying3 g4
      obtain ⟨z5, e5, _⟩ := DataW.trod_bool Tryz.underlying4 g5
      obtain rfl : v0 = .int .u8 z0 := by simpa using e0
      obtain rfl : v1 = .int .u8 z1 := by simpa using e1
      obtain rfl : v2 = .int .u8 z2 := by simpa using e2
      obtain rfl : v3 = .int .i64 z3 := by simpa using e3
      obtain rfl : v4 = .int .i64 z4 := by simpa using e4
      obtain rfl : v5 = .bool z5 := by simpa using e5
      have b0 := bounds_u8 w0
      have b1 := bounds_u8 w1
      have b2 := bounds_u8 w2
      obtain ⟨m0, rfl⟩ := Int.eq_ofNat_of_zero_le b0.1
      obtain ⟨m1, rfl⟩ := Int.eq_ofNat_of_zero_le b1.1
      obtain ⟨m2, rfl⟩ := Int.eq_ofNat_of_zero_le b2.1
      have c0 := hcell 0 (by omega)
      have c1 := hcell 1 (by omega)
      have c2 := hcell 2 (by omega)
      have c3 := hcell 3 (by omega)
      have c4 := hcell 4 (by omega)
      have c5 := hcell 5 (by omega)
      rw [Deep.add_add] at c0 c1 c2 c3 c4 c5
      exact ⟨⟨m0, m1, m2, z3, z4, z5⟩, by simpa using c0, by simpa using c1, by simpa using c2, by simpa using c3, by simpa using c4, by simpa using c5, by dsimp only; omega, by dsimp only; omega, by dsimp only; omega⟩
    obtain ⟨f, hf'⟩ := Deep.choose_lt each
    refine ⟨f, fun h0 => ?_, Nat.le_trans hl hm⟩
    obtain ⟨g, off, rfl⟩ := saddr_at (by simpa only [Nat.zero_mul] using (hf' 0 h0).1)
    refine ⟨g, off, rfl, fun j hj => ?_⟩
    have := hf' j hj
    simpa only [sadd_at, Nat.add_assoc] using this
end Go.Proofs.YtpieaakdddgdeaaGreatDoor
