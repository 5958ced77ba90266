/- Arguments that are records of signals. -/
import Derived.Test.YtmknhokjpmjkkaaDoorRowG
namespace Go.Proofs.YtmknhokjpmjkkaaDoor
open Go.ChangeShapes Go.WideShapes Go.ChangeAt Go.ChangeMaps Go.RowKit

theorem mapM_each {α β : Type} {f : α → Option β} : ∀ {l : List α} {xs : List β}, l.mapM f = some xs → ∀ a ∈ l, ∃ y, f a = some y := by
  intro l
  induction l with
  | nil => intro _ _ a ha; cases ha
  | cons b r ih =>
    intro xs h a ha
    rw [List.mapM_cons] at h
    simp only [bind, Option.bind_eq_some_iff, pure, Option.some.injEq] at h
    obtain ⟨y, hy, ys, hys, -⟩ := h
    rcases List.mem_cons.1 ha with rfl | ha
    · exact ⟨y, hy⟩
    · exact ih hys a ha
theorem trod_elemS {H : Type} {enc : TypeId × Value → H} {W : World} {t e : TypeId} {n : Nat} {fuel : Nat} {cs : List Value} {x : DataW H × List MemPlace}
    (ht : Tryd.prog.underlying t = some (.array n e)) (h : DataW.trod enc Tryd.prog W 0 (fun _ => true) true fuel t cs = some x) (i : Nat) (hi : i < n) :
    ∃ k y, DataW.trod enc Tryd.prog W 0 (fun _ => true) true k e ((cs.drop (i * Tryd.prog.cellsOf e)).take (Tryd.prog.cellsOf e)) = some y := by
  cases fuel with
  | zero => simp [DataW.trod] at h
  | succ fuel =>
    simp only [DataW.trod, ht] at h
    split at h
    · obtain ⟨xs, hm, -⟩ := Option.map_eq_some_iff.1 h
      obtain ⟨y, hy⟩ := mapM_each hm i (List.mem_range.2 hi)
      exact ⟨fuel, y, hy⟩
    · cases h
theorem eleven {cs : Array Value} (h : cs.size = 11) : ∃ v0 v1 v2 v3 v4 v5 v6 v7 v8 v9 v10, cs = #[v0, v1, v2, v3, v4, v5, v6, v7, v8, v9, v10] := by
  obtain ⟨l⟩ := cs
  match l, h with
  | [v0, v1, v2, v3, v4, v5, v6, v7, v8, v9, v10], _ => exact ⟨v0, v1, v2, v3, v4, v5, v6, v7, v8, v9, v10, rfl⟩
theorem cellsRec : Tryd.prog.cellsOf 42 = 11 := by kernel_rfl
theorem cellsH8 : Tryd.prog.cellsOf 40 = 8 := by kernel_rfl
theorem cellsIntS : Tryd.prog.cellsOf 3 = 1 := by kernel_rfl
theorem underRec : ∃ fs, Tryd.prog.underlying 42 = some (.struct fs) ∧ fs.toList.map (fun f => (f.type, f.offset)) = [(3, 0), (3, 1), (3, 2), (40, 3)] := ⟨_, Tryd.underlying42, by kernel_rfl⟩
theorem cell_int {H : Type} {enc : TypeId × Value → H} {W : World} {k : Nat} {v : Value} {y : DataW H × List MemPlace} (h : DataW.trod enc Tryd.prog W 0 (fun _ => true) true k 3 [v] = some y) : ∃ z, v = .int .i64 z := by
  obtain ⟨z, e, _, _⟩ := DataW.trod_int Tryd.underlying3 h
  exact ⟨z, by simpa [Value.cells] using e⟩
set_option maxRecDepth 100000 in
theorem open_rec {H : Type} {enc : TypeId × Value → H} {W : World} {base : Nat} {v : Value} {d : DataW H} {p : List MemPlace} (hv : Value.okWide Tryd.prog W .any base 42 v) (h : DataW.Trod enc Tryd.prog W 0 (fun _ => true) true 42 v d p) :
    ∃ (p b i h0 h1 h2 h3 h4 h5 h6 h7 : Int), v = .agg #[.int .i64 p, .int .i64 b, .int .i64 i, .int .i64 h0, .int .i64 h1, .int .i64 h2, .int .i64 h3, .int .i64 h4, .int .i64 h5, .int .i64 h6, .int .i64 h7] := by
  obtain ⟨fs, hfs, hmap⟩ := underRec
  obtain ⟨cs, rfl, hsz⟩ := okWide_struct hfs hv
  obtain ⟨fuel, hf⟩ := h
  obtain ⟨k, hk⟩ := trod_fields underRec hf
  rw [cellsRec] at hsz
  obtain ⟨v0, v1, v2, v3, v4, v5, v6, v7, v8, v9, v10, rfl⟩ := eleven hsz
  obtain ⟨y0, g0⟩ := hk 0 _ _ rfl
  obtain ⟨y1, g1⟩ := hk 1 _ _ rfl
  obtain ⟨y2, g2⟩ := hk 2 _ _ rfl
  obtain ⟨y3, g3⟩ := hk 3 _ _ rfl
  rw [cellsIntS] at g0 g1 g2
  rw [cellsH8] at g3
  obtain ⟨z0, rfl⟩ := cell_int g0
  obtain ⟨z1, rfl⟩ := cell_int g1
  obtain ⟨z2, rfl⟩ := cell_int g2
  have hel := fun i hi => trod_elemS Tryd.underlying40 g3 i hi
  rw [cellsIntS] at hel
  obtain ⟨_, _, q0⟩ := hel 0 (by omega)
  obtain ⟨_, _, q1⟩ := hel 1 (by omega)
  obtain ⟨_, _, q2⟩ := hel 2 (by omega)
  obtain ⟨_, _, q3⟩ := hel 3 (by omega)
  obtain ⟨_, _, q4⟩ := hel 4 (by omega)
  obtain ⟨_, _, q5⟩ := hel 5 (by omega)
  obtain ⟨_, _, q6⟩ := hel 6 (by omega)
  obtain ⟨_, _, q7⟩ := hel 7 (by omega)
  obtain ⟨x0, rfl⟩ := cell_int q0
  obtain ⟨x1, rfl⟩ := cell_int q1
  obtain ⟨x2, rfl⟩ := cell_int q2
  obtain ⟨x3, rfl⟩ := cell_int q3
  obtain ⟨x4, rfl⟩ := cell_int q4
  obtain ⟨x5, rfl⟩ := cell_int q5
  obtain ⟨x6, rfl⟩ := cell_int q6
  obtain ⟨x7, rfl⟩ := cell_int q7
  exact ⟨z0, z1, z2, x0, x1, x2, x3, x4, x5, x6, x7, rfl⟩

end Go.Proofs.YtmknhokjpmjkkaaDoor
