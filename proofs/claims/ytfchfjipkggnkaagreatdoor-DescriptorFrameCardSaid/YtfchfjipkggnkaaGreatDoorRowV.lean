/- What the row's list says of the table of usages; the last step of a law that answers true. The frame of a law's row: its last step; arguments that read as before. -/
import Derived.Test.YtfchfjipkggnkaaGreatDoorObjA
import Derived.Test.YtfchfjipkggnkaaGreatDoorCards
import Derived.Test.YtfchfjipkggnkaaGreatDoorTie
import Derived.Test.YtfchfjipkggnkaaGreatDoorMem
import Derived.ProofKit
import Derived.OpenShut
import Derived.Deep.DeepHandedRow
import Derived.Lib.LaidTab
import Derived.ChangeSame
import Derived.ChangeMaps5
import Derived.Carry
namespace Go.Proofs.YtfchfjipkggnkaaGreatDoor
open Go.ChangeShapes Go.WideShapes Go.ChangeAt Go.RowKit

section
variable {H : Type} {enc : TypeId × Value → H} {P : Program} {w : World} {base : Nat} {sp : Nat → Bool} {held : Bool}

theorem trod_elem {t e : TypeId} {n fuel : Nat} {cs : List Value} {ds : List (DataW H)} {p : List MemPlace} (ht : P.underlying t = some (.array n e)) (h : DataW.trod enc P w base sp held fuel t cs = some (.agg ds, p)) (i : Nat) (hi : i < n) :
    ∃ fuel' d p', ds[i]? = some d ∧ DataW.trod enc P w base sp held fuel' e ((cs.drop (i * P.cellsOf e)).take (P.cellsOf e)) = some (d, p') := by
  cases fuel with
  | zero => simp [DataW.trod] at h
  | succ fuel =>
    simp only [DataW.trod, ht] at h
    split at h
    · obtain ⟨xs, hm, hx⟩ := Option.map_eq_some_iff.1 h
      obtain ⟨b, hb, hf⟩ := Lib.mapM_at hm i i (by simp [hi])
      have hxs : xs.map (·.1) = ds := by
        have := congrArg Prod.fst hx
        simpa using this
      exact ⟨fuel, b.1, b.2, by rw [← hxs]; simp [hb], hf⟩
    · cases h
theorem trod_field {t : TypeId} {fs : Array Field} {fuel : Nat} {cs : List Value} {ds : List (DataW H)} {p : List MemPlace} (ht : P.underlying t = some (.struct fs)) (h : DataW.trod enc P w base sp held fuel t cs = some (.agg ds, p)) (j : Nat) (f : Field) (hf : fs.toList[j]? = some f) :
    ∃ fuel' d p', ds[j]? = some d ∧ DataW.trod enc P w base sp held fuel' f.type ((cs.drop f.offset).take (P.cellsOf f.type)) = some (d, p') := by
  cases fuel with
  | zero => simp [DataW.trod] at h
  | succ fuel =>
    simp only [DataW.trod, ht] at h
    split at h
    · obtain ⟨xs, hm, hx⟩ := Option.map_eq_some_iff.1 h
      obtain ⟨b, hb, hg⟩ := Lib.mapM_at hm j f hf
      have hxs : xs.map (·.1) = ds := by
        have := congrArg Prod.fst hx
        simpa using this
      exact ⟨fuel, b.1, b.2, by rw [← hxs]; simp [hb], hg⟩
    · cases h
end

theorem one_at {l : List Value} {k o : Nat} {v : Value} (h : (((l.drop (k * 6)).take 6).drop o).take 1 = [v]) (ho : o < 6) : l[k * 6 + o]? = some v := by
  have := congrArg (·[0]?) h
  simpa [List.getElem?_take, List.getElem?_drop, ho] using this

theorem gUse : Tryz.prog.globalNamed "replevin/object.usages" = some 0 := by kernel_rfl
theorem gUseType : (Tryz.prog.globals[0]?).map (·.type) = some 140 := by kernel_rfl
theorem cellsUse : Tryz.prog.cellsOf 139 = 6 := by kernel_rfl
theorem cellsStr : Tryz.prog.cellsOf 9 = 1 := by kernel_rfl
theorem cellsBool : Tryz.prog.cellsOf 4 = 1 := by kernel_rfl
theorem cellsInt : Tryz.prog.cellsOf 3 = 1 := by kernel_rfl
theorem underUse : ∃ fs, Tryz.prog.underlying 139 = some (.struct fs) ∧ fs.toList.map (fun f => (f.type, f.offset)) = [(9, 0), (4, 1), (4, 2), (4, 3), (4, 4), (3, 5)] := ⟨_, Tryz.underlying139, by kernel_rfl⟩
theorem underUses : Tryz.prog.underlying 140 = some (.array 21 139) := Tryz.underlying140

/-- The table as useT tells it. -/
def useD {H : Type} (k : Nat) : DataW H := .agg [.lit (.string (useT k).word), .lit (.bool (useT k).owner), .lit (.bool (useT k).number), .lit (.bool (useT k).index), .lit (.bool (useT k).text), .lit (.int .i64 (useT k).most)]
theorem laid_use {H : Type} : (Rows.laid_replevin_object_usages : DataW H) = .agg ((List.range 21).map useD) := rfl

theorem usages_of_laid {W : World} (h : laidMetH Tryz.prog [("replevin/object.usages", Rows.laid_replevin_object_usages)] W) : Usages W := by
  obtain ⟨ps, ⟨g', t', cs, fuel, p, q, hg', ht', hvar, hd, _, _⟩, _⟩ := h
  obtain rfl := Option.some.inj (gUse.symm.trans hg')
  obtain rfl := Option.some.inj (gUseType.symm.trans ht')
  obtain ⟨fs, hfs, hmap⟩ := underUse
  rw [laid_use] at hd
  have hheap : ∀ i, W.cell? ⟨0, i, none⟩ = cs[i]? := by
    intro i
    unfold World.var? at hvar
    rw [gUse] at hvar
    simp only [Option.bind_some] at hvar
    unfold World.cell?
    revert hvar
    cases hW : W.heap[0]? with
    | none => simp
    | some o => cases o <;> simp <;> intro e <;> subst e <;> simp
  intro k hk
  obtain ⟨fuel1, d, p1, hd1, hf1⟩ := trod_elem underUses hd k (by omega)
  have hdk : d = useD k := by
    have : ((List.range 21).map (useD (H := Unit)))[k]? = some (useD k) := by rw [List.getElem?_map, List.getElem?_range (by omega)]; rfl
    rw [this] at hd1
    exact (Option.some.inj hd1).symm
  subst hdk
  rw [cellsUse] at hf1
  have fld : ∀ (j : Nat) (ty : TypeId) (off : Nat), [(9, 0), (4, 1), (4, 2), (4, 3), (4, 4), (3, 5)][j]? = some (ty, off) → Tryz.prog.cellsOf ty = 1 →
      ∃ fuel' d p', [DataW.lit (.string (useT k).word), .lit (.bool (useT k).owner), .lit (.bool (useT k).number), .lit (.bool (useT k).index), .lit (.bool (useT k).text), .lit (.int .i64 (useT k).most)][j]? = some d ∧
        DataW.trod _ Tryz.prog W _ _ _ fuel' ty ((((cs.toList.drop (k * 6)).take 6).drop off).take 1) = some (d, p') := fun j ty off hj h1 => by
    rw [← hmap] at hj
    simp only [List.getElem?_map, Option.map_eq_some_iff, Prod.mk.injEq] at hj
    obtain ⟨f, hf, rfl, rfl⟩ := hj
    obtain ⟨fuel', d, p', h2, h3⟩ := trod_field hfs hf1 j f hf
    rw [h1] at h3
    exact ⟨fuel', d, p', h2, h3⟩
  have str : W.cell? ⟨0, k * 6, none⟩ = some (.string ⟨(useT k).word.toArray⟩) := by
    obtain ⟨fuel', d, p', h2, h3⟩ := fld 0 _ _ rfl cellsStr
    obtain ⟨s, hc, hx, _⟩ := DataW.trod_string Tryz.underlying9 h3
    cases h2
    have hs : s = ⟨(useT k).word.toArray⟩ := by
      have := (Prod.mk.inj hx).1
      simp only [DataW.lit.injEq, Lit.string.injEq] at this
      rw [this]
    rw [hheap, ← hs]
    have := one_at hc (by decide)
    simpa using this
  have bl : ∀ (j : Nat) (b : Bool), 1 ≤ j → j ≤ 4 → [DataW.lit (H := Unit) (.string (useT k).word), .lit (.bool (useT k).owner), .lit (.bool (useT k).number), .lit (.bool (useT k).index), .lit (.bool (useT k).text), .lit (.int .i64 (useT k).most)][j]? = some (.lit (.bool b)) → W.cell? ⟨0, k * 6 + j, none⟩ = some (.bool b) := fun j b h1 h4 hb => by
    obtain ⟨fuel', d, p', h2, h3⟩ := fld j 4 j (by rcases (by omega : j = 1 ∨ j = 2 ∨ j = 3 ∨ j = 4) with rfl | rfl | rfl | rfl <;> rfl) cellsBool
    obtain ⟨b', hc, hx⟩ := DataW.trod_bool Tryz.underlying4 h3
    rw [hb] at h2
    cases h2
    have hs : b = b' := by
      have := (Prod.mk.inj hx).1
      simpa only [DataW.lit.injEq, Lit.bool.injEq] using this
    rw [hheap, hs]
    have := one_at hc (by omega)
    simpa using this
  refine ⟨str, bl 1 _ (by decide) (by decide) rfl, bl 2 _ (by decide) (by decide) rfl, bl 3 _ (by decide) (by decide) rfl, bl 4 _ (by decide) (by decide) rfl, ?_⟩
  obtain ⟨fuel', d, p', h2, h3⟩ := fld 5 _ _ rfl cellsInt
  obtain ⟨z, hc, hx, _⟩ := DataW.trod_int Tryz.underlying3 h3
  cases h2
  have hs : z = (useT k).most := by
    have := (Prod.mk.inj hx).1
    simp only [DataW.lit.injEq, Lit.int.injEq, true_and] at this
    exact this.symm
  rw [hheap, ← hs]
  have := one_at hc (by decide)
  simpa using this

end Go.Proofs.YtfchfjipkggnkaaGreatDoor

namespace Go.Proofs.YtfchfjipkggnkaaGreatDoor
open Go.ChangeShapes Go.WideShapes Go.ChangeAt Go.ChangeMaps Go.RowKit

/-- The last step of a law: its world is as it was below the heap's old end, its result holds no memory. -/
theorem law_post {H : Type} {enc : TypeId × Value → H} {P : Program} {f : Func} {s : ChangeSpec} {apart fresh handsOn again : Bool} {W X : World} {args : Array Value} {v : Value} {ds gs : List (DataW H)} {was there : List MemPlace}
    (whole : DataW.Whole enc P f.params.toList s.vars apart W args.toList ds gs was) (low : Below W.heap.size W X)
    (result : ∀ (base : Nat) (spare : Nat → Bool) (held : Bool), DataW.TrodAll enc P X base spare held f.resultTypes.toList (v.resultList f.resultTypes.size) (s.fn H (ds ++ gs)).results [])
    (same : ∀ spare : Nat → Bool, (∀ p ∈ was, spare p.block = true) → DataW.TrodAll enc P X 0 spare true f.params.toList args.toList (s.fn H (ds ++ gs)).args there)
    (none : ∀ spare : Nat → Bool, (∀ p ∈ was, spare p.block = true) → DataW.TrodVars enc P X spare s.vars (s.fn H (ds ++ gs)).vars [])
    (eq : was = there)
    (fine : ∀ (j : Nat) (t : TypeId) (r : Value), f.resultTypes[j]? = some t → (v.resultList f.resultTypes.size)[j]? = some r → Value.okWide P X .any 0 t r) :
    s.post enc P f apart fresh handsOn again W args v X := by
  subst eq
  have old := fun p (hp : p ∈ was) => whole.lt p hp
  have spares : ∀ p ∈ was, (fun b => decide (b < W.heap.size)) p.block = true := fun p hp => decide_eq_true (old p hp)
  have kept := World.keptBut_mono (may' := fun p => p ∈ was ∧ (p ∈ ([] : List MemPlace) ∨ p ∈ was ∨ p ∈ ([] : List MemPlace))) (fun p hp => ⟨hp, .inr (.inl hp)⟩) (low.frame (· ∈ was))
  refine ⟨ds, gs, was, [], was, [], whole, result _ _ _, same _ spares, none _ spares, kept, fun _ => ⟨fine, _, _, ([] ++ was) ++ [], ⟨[] ++ was, [], trodAll_append (same _ (fun _ _ => rfl)) (result _ _ _), none _ (fun _ _ => rfl), rfl, ?_, ?_⟩, fun p hp _ => by simpa using hp⟩⟩
  · obtain ⟨_, _, _, _, _, fz, _⟩ := whole
    intro b off hp
    have hm : MemPlace.cell b off ∈ was := by simpa using hp
    rw [low.frozen (old _ hm)]
    exact fz b off hm
  · obtain ⟨_, _, _, _, _, _, nd⟩ := whole
    intro ha
    simpa using nd ha

theorem own : ownKnob Tryz.prog.godebug = none := by kernel_rfl

/-- A world for the witness: the table holds what its initialiser lays. -/
noncomputable def useCells : Array Value := ((List.range 21).flatMap fun k => [.string ⟨(useT k).word.toArray⟩, .bool (useT k).owner, .bool (useT k).number, .bool (useT k).index, .bool (useT k).text, .int .i64 (useT k).most]).toArray
noncomputable def laidWorld (os : Os) : World :=
  { World.holding Tryz.prog os ⟨#[], #[], []⟩ with heap := (World.holding Tryz.prog os ⟨#[], #[], []⟩).heap.modify 0 fun
      | .cells _ t frozen => .cells useCells t frozen
      | o => o }

theorem Tryz.laidOut : laidOutB Tryz.prog = true := by kernel_rfl

theorem trodAll_stays {H : Type} {enc : TypeId × Value → H} {P : Program} (hl : laidOutB P = true) {W X : World} {sp : Nat → Bool} : ∀ {ts : List TypeId} {vs : List Value} {ds : List (DataW H)} {ps : List MemPlace}, (∀ t ∈ ts, P.readableRec t = true ∧ t < P.types.size) →
    DataW.TrodAll enc P W 0 (fun _ => true) true ts vs ds ps → (∀ p ∈ ps, W.sameAt X p) → (∀ p ∈ ps, sp p.block = true) → DataW.TrodAll enc P X 0 sp true ts vs ds ps
  | [], vs, ds, ps, _, h, _, _ => by
    obtain ⟨rfl, rfl, rfl⟩ := trodAll_nil h
    exact trodAll_mk0
  | t :: ts, vs, ds, ps, ht, h, hsame, hs => by
    obtain ⟨v, vs', d, ds', p, q, rfl, rfl, rfl, h0, hr⟩ := trodAll_cons h
    exact trodAll_cons_mk (WideElems.Trod_stays hl (ht t (by simp)).1 (ht t (by simp)).2 h0 (fun x hx => hsame x (by simp [hx])) (fun x hx => hs x (by simp [hx])))
      (trodAll_stays hl (fun t' h' => ht t' (by simp [h'])) hr (fun x hx => hsame x (by simp [hx])) (fun x hx => hs x (by simp [hx])))

set_option maxRecDepth 100000 in
/-- The last step of a law that answers true and leaves its arguments. -/
theorem law_done {H : Type} {enc : TypeId × Value → H} {f : Func} {s : ChangeSpec} {apart fresh handsOn again : Bool} {W X : World} {args : Array Value} {ds gs : List (DataW H)} {was : List MemPlace}
    (hts : ∀ t ∈ f.params.toList, Tryz.prog.readableRec t = true ∧ t < Tryz.prog.types.size) (hvars : s.vars = []) (hfn : ∀ ds' : List (DataW H), ds'.length = f.params.toList.length → s.fn H ds' = { results := [.lit (.bool true)], args := ds' }) (hres : f.resultTypes = #[4])
    (whole : DataW.Whole enc Tryz.prog f.params.toList s.vars apart W args.toList ds gs was) (low : Below W.heap.size W X) (hlen : ds.length = f.params.toList.length) :
    s.post enc Tryz.prog f apart fresh handsOn again W args (.bool true) X := by
  have whole' := whole
  obtain ⟨p, q, hA, hV, rfl, hfz, hnd⟩ := whole
  rw [hvars] at hV
  obtain ⟨rfl, rfl⟩ := trodVars_none hV
  have hf := hfn ds hlen
  have hold : ∀ x ∈ p, x.block < W.heap.size := fun x hx => whole'.lt x (by simp [hx])
  refine law_post (there := p) whole' low (fun _ _ _ => ?_) (fun sp hsp => ?_) (fun _ _ => ?_) (by simp) ?_
  · rw [List.append_nil, hf, hres]
    exact trodAll_cons_mk (shut_bool Tryz.underlying4 _) trodAll_mk0
  · rw [List.append_nil, hf]
    exact trodAll_stays Tryz.laidOut hts hA (fun x hx => low.same (hold x hx)) (fun x hx => hsp x (by simp [hx]))
  · rw [List.append_nil, hf, hvars]
    rfl
  · exact ok_one hres rfl (okWide_bool_mk Tryz.underlying4 _)

end Go.Proofs.YtfchfjipkggnkaaGreatDoor
