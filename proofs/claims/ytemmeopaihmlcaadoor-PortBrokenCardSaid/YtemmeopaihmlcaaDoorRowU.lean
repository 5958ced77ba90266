/- What the row's list says of the table of usages; the last step of a law that answers true. -/
import Derived.Test.YtemmeopaihmlcaaDoorObjA
import Derived.Test.YtemmeopaihmlcaaDoorCards
import Derived.Test.YtemmeopaihmlcaaDoorTie
import Derived.ProofKit
import Derived.OpenShut
import Derived.Deep.DeepHandedRow
import Derived.Lib.LaidTab
import Derived.ChangeSame
namespace Go.Proofs.YtemmeopaihmlcaaDoor
open Go.ChangeShapes Go.WideShapes Go.ChangeAt Go.RowKit

section
variable {H : Type} {enc : TypeId × Value → H} {P : Program} {w : World} {base : Nat} {sp : Nat → Bool} {held : Bool}

theorem trod_elem {t e : TypeId} {n fuel : Nat} {cs : List Value} {ds : List (DataW H)} {p : List MemPlace} (ht : P.underlying t = some (.array n e)) (h : DataW.trod enc P w base sp held fuel t cs = some (.agg ds, p)) (i : Nat) (hi : i < n) :
    ∃ fuel' d p', ds[i]? = some d ∧ DataW.trod enc P w base sp held fuel' e ((cs.drop (i * P.cellsOf e)).take (P.cellsOf e)) = some (d, p') := by
  cases fuel with
  | zero => simp [DataW.trod] at h
  | succ fuel =>
    simp only [DataW.trod, ht] at h
    split at h
    · obtain ⟨xs, hm, hx⟩ := Option.map_eq_some_iff.1 h
      obtain ⟨b, hb, hf⟩ := Lib.mapM_at hm i i (by simp [hi])
      have hxs : xs.map (·.1) = ds := by
        have := congrArg Prod.fst hx
        simpa using this
      exact ⟨fuel, b.1, b.2, by rw [← hxs]; simp [hb], hf⟩
    · cases h
theorem trod_field {t : TypeId} {fs : Array Field} {fuel : Nat} {cs : List Value} {ds : List (DataW H)} {p : List MemPlace} (ht : P.underlying t = some (.struct fs)) (h : DataW.trod enc P w base sp held fuel t cs = some (.agg ds, p)) (j : Nat) (f : Field) (hf : fs.toList[j]? = some f) :
    ∃ fuel' d p', ds[j]? = some d ∧ DataW.trod enc P w base sp held fuel' f.type ((cs.drop f.offset).take (P.cellsOf f.type)) = some (d, p') := by
  cases fuel with
  | zero => simp [DataW.trod] at h
  | succ fuel =>
    simp only [DataW.trod, ht] at h
    split at h
    · obtain ⟨xs, hm, hx⟩ := Option.map_eq_some_iff.1 h
      obtain ⟨b, hb, hg⟩ := Lib.mapM_at hm j f hf
      have hxs : xs.map (·.1) = ds := by
        have := congrArg Prod.fst hx
        simpa using this
      exact ⟨fuel, b.1, b.2, by rw [← hxs]; simp [hb], hg⟩
    · cases h
end

theorem one_at {l : List Value} {k o : Nat} {v : Value} (h : (((l.drop (k * 6)).take 6).drop o).take 1 = [v]) (ho : o < 6) : l[k * 6 + o]? = some v := by
  have := congrArg (·[0]?) h
  simpa [List.getElem?_take, List.getElem?_drop, ho] using this

theorem gUse : Tryd.prog.globalNamed "replevin/object.usages" = some 0 := by kernel_rfl
theorem gUseType : (Tryd.prog.globals[0]?).map (·.type) = some 117 := by kernel_rfl
theorem cellsUse : Tryd.prog.cellsOf 116 = 6 := by kernel_rfl
theorem cellsStr : Tryd.prog.cellsOf 9 = 1 := by kernel_rfl
theorem cellsBool : Tryd.prog.cellsOf 4 = 1 := by kernel_rfl
theorem cellsInt : Tryd.prog.cellsOf 3 = 1 := by kernel_rfl
theorem underUse : ∃ fs, Tryd.prog.underlying 116 = some (.struct fs) ∧ fs.toList.map (fun f => (f.type, f.offset)) = [(9, 0), (4, 1), (4, 2), (4, 3), (4, 4), (3, 5)] := ⟨_, Tryd.underlying116, by kernel_rfl⟩
theorem underUses : Tryd.prog.underlying 117 = some (.array 21 116) := Tryd.underlying117

/-- The table as useT tells it. -/
def useD {H : Type} (k : Nat) : DataW H := .agg [.lit (.string (useT k).word), .lit (.bool (useT k).owner), .lit (.bool (useT k).number), .lit (.bool (useT k).index), .lit (.bool (useT k).text), .lit (.int .i64 (useT k).most)]
theorem laid_use {H : Type} : (Rows.laid_replevin_object_usages : DataW H) = .agg ((List.range 21).map useD) := rfl

theorem usages_of_laid {W : World} (h : laidMetH Tryd.prog [("replevin/object.usages", Rows.laid_replevin_object_usages)] W) : Usages W := by
  obtain ⟨ps, ⟨g', t', cs, fuel, p, q, hg', ht', hvar, hd, _, _⟩, _⟩ := h
  obtain rfl := Option.some.inj (gUse.symm.trans hg')
  obtain rfl := Option.some.inj (gUseType.symm.trans ht')
  obtain ⟨fs, hfs, hmap⟩ := underUse
  rw [laid_use] at hd
  have hheap : ∀ i, W.cell? ⟨0, i, none⟩ = cs[i]? := by
    intro i
    unfold World.var? at hvar
    rw [gUse] at hvar
    simp only [Option.bind_some] at hvar
    unfold World.cell?
    revert hvar
    cases hW : W.heap[0]? with
    | none => simp
    | some o => cases o <;> simp <;> intro e <;> subst e <;> simp
  intro k hk
  obtain ⟨fuel1, d, p1, hd1, hf1⟩ := trod_elem underUses hd k (by omega)
  have hdk : d = useD k := by
    have : ((List.range 21).map (useD (H := Unit)))[k]? = some (useD k) := by rw [List.getElem?_map, List.getElem?_range (by omega)]; rfl
    rw [this] at hd1
    exact (Option.some.inj hd1).symm
  subst hdk
  rw [cellsUse] at hf1
  have fld : ∀ (j : Nat) (ty : TypeId) (off : Nat), [(9, 0), (4, 1), (4, 2), (4, 3), (4, 4), (3, 5)][j]? = some (ty, off) → Tryd.prog.cellsOf ty = 1 →
      ∃ fuel' d p', [DataW.lit (.string (useT k).word), .lit (.bool (useT k).owner), .lit (.bool (useT k).number), .lit (.bool (useT k).index), .lit (.bool (useT k).text), .lit (.int .i64 (useT k).most)][j]? = some d ∧
        DataW.trod _ Tryd.prog W _ _ _ fuel' ty ((((cs.toList.drop (k * 6)).take 6).drop off).take 1) = some (d, p') := fun j ty off hj h1 => by
    rw [← hmap] at hj
    simp only [List.getElem?_map, Option.map_eq_some_iff, Prod.mk.injEq] at hj
    obtain ⟨f, hf, rfl, rfl⟩ := hj
    obtain ⟨fuel', d, p', h2, h3⟩ := trod_field hfs hf1 j f hf
    rw [h1] at h3
    exact ⟨fuel', d, p', h2, h3⟩
  have str : W.cell? ⟨0, k * 6, none⟩ = some (.string ⟨(useT k).word.toArray⟩) := by
    obtain ⟨fuel', d, p', h2, h3⟩ := fld 0 _ _ rfl cellsStr
    obtain ⟨s, hc, hx, _⟩ := DataW.trod_string Tryd.underlying9 h3
    cases h2
    have hs : s = ⟨(useT k).word.toArray⟩ := by
      have := (Prod.mk.inj hx).1
      simp only [DataW.lit.injEq, Lit.string.injEq] at this
      rw [this]
    rw [hheap, ← hs]
    have := one_at hc (by decide)
    simpa using this
  have bl : ∀ (j : Nat) (b : Bool), 1 ≤ j → j ≤ 4 → [DataW.lit (H := Unit) (.string (useT k).word), .lit (.bool (useT k).owner), .lit (.bool (useT k).number), .lit (.bool (useT k).index), .lit (.bool (useT k).text), .lit (.int .i64 (useT k).most)][j]? = some (.lit (.bool b)) → W.cell? ⟨0, k * 6 + j, none⟩ = some (.bool b) := fun j b h1 h4 hb => by
    obtain ⟨fuel', d, p', h2, h3⟩ := fld j 4 j (by rcases (by omega : j = 1 ∨ j = 2 ∨ j = 3 ∨ j = 4) with rfl | rfl | rfl | rfl <;> rfl) cellsBool
    obtain ⟨b', hc, hx⟩ := DataW.trod_bool Tryd.underlying4 h3
    rw [hb] at h2
    cases h2
    have hs : b = b' := by
      have := (Prod.mk.inj hx).1
      simpa only [DataW.lit.injEq, Lit.bool.injEq] using this
    rw [hheap, hs]
    have := one_at hc (by omega)
    simpa using this
  refine ⟨str, bl 1 _ (by decide) (by decide) rfl, bl 2 _ (by decide) (by decide) rfl, bl 3 _ (by decide) (by decide) rfl, bl 4 _ (by decide) (by decide) rfl, ?_⟩
  obtain ⟨fuel', d, p', h2, h3⟩ := fld 5 _ _ rfl cellsInt
  obtain ⟨z, hc, hx, _⟩ := DataW.trod_int Tryd.underlying3 h3
  cases h2
  have hs : z = (useT k).most := by
    have := (Prod.mk.inj hx).1
    simp only [DataW.lit.injEq, Lit.int.injEq, true_and] at this
    exact this.symm
  rw [hheap, ← hs]
  have := one_at hc (by decide)
  simpa using this

end Go.Proofs.YtemmeopaihmlcaaDoor
