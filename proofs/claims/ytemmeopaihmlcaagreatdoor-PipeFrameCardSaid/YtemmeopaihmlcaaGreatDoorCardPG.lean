/- PipeFrame: its rows of arguments, its row and its card. -/
import Derived.Test.YtemmeopaihmlcaaGreatDoorObjA
import Derived.Test.YtemmeopaihmlcaaGreatDoorCards
import Derived.Test.YtemmeopaihmlcaaGreatDoorTie
import Derived.Test.YtemmeopaihmlcaaGreatDoorMem
import Derived.Test.YtemmeopaihmlcaaGreatDoorPipN
import Derived.Test.YtemmeopaihmlcaaGreatDoorFraC
import Derived.ProofKit
import Derived.OpenShut
import Derived.Deep.DeepHandedRow
import Derived.Lib.LaidTab
import Derived.ChangeSame
import Derived.ChangeMaps5
import Derived.Carry
import Derived.Deep.Slices
import Derived.SliceStrings
namespace Go.Proofs.YtemmeopaihmlcaaGreatDoor
open Go.ChangeShapes Go.WideShapes Go.ChangeAt Go.RowKit

section
variable {H : Type} {enc : TypeId × Value → H} {P : Program} {w : World} {base : Nat} {sp : Nat → Bool} {held : Bool}

theorem trod_elem {t e : TypeId} {n fuel : Nat} {cs : List Value} {ds : List (DataW H)} {p : List MemPlace} (ht : P.underlying t = some (.array n e)) (h : DataW.trod enc P w base sp held fuel t cs = some (.agg ds, p)) (i : Nat) (hi : i < n) :
    ∃ fuel' d p', ds[i]? = some d ∧ DataW.trod enc P w base sp held fuel' e ((cs.drop (i * P.cellsOf e)).take (P.cellsOf e)) = some (d, p') := by
  cases fuel with
  | zero => simp [DataW.trod] at h
  | succ fuel =>
    simp only [DataW.trod, ht] at h
    split at h
    · obtain ⟨xs, hm, hx⟩ := Option.map_eq_some_iff.1 h
      obtain ⟨b, hb, hf⟩ := Lib.mapM_at hm i i (by simp [hi])
      have hxs : xs.map (·.1) = ds := by
        have := congrArg Prod.fst hx
        simpa using this
      exact ⟨fuel, b.1, b.2, by rw [← hxs]; simp [hb], hf⟩
    · cases h
theorem trod_field {t : TypeId} {fs : Array Field} {fuel : Nat} {cs : List Value} {ds : List (DataW H)} {p : List MemPlace} (ht : P.underlying t = some (.struct fs)) (h : DataW.trod enc P w base sp held fuel t cs = some (.agg ds, p)) (j : Nat) (f : Field) (hf : fs.toList[j]? = some f) :
    ∃ fuel' d p', ds[j]? = some d ∧ DataW.trod enc P w base sp held fuel' f.type ((cs.drop f.offset).take (P.cellsOf f.type)) = some (d, p') := by
  cases fuel with
  | zero => simp [DataW.trod] at h
  | succ fuel =>
    simp only [DataW.trod, ht] at h
    split at h
    · obtain ⟨xs, hm, hx⟩ := Option.map_eq_some_iff.1 h
      obtain ⟨b, hb, hg⟩ := Lib.mapM_at hm j f hf
      have hxs : xs.map (·.1) = ds := by
        have := congrArg Prod.fst hx
        simpa using this
      exact ⟨fuel, b.1, b.2, by rw [← hxs]; simp [hb], hg⟩
    · cases h
end

theorem one_at {l : List Value} {k o : Nat} {v : Value} (h : (((l.drop (k * 6)).take 6).drop o).take 1 = [v]) (ho : o < 6) : l[k * 6 + o]? = some v := by
  have := congrArg (·[0]?) h
  simpa [List.getElem?_take, List.getElem?_drop, ho] using this

theorem gUse : Tryz.prog.globalNamed "replevin/object.usages" = some 0 := by kernel_rfl
theorem gUseType : (Tryz.prog.globals[0]?).map (·.type) = some 194 := by kernel_rfl
theorem cellsUse : Tryz.prog.cellsOf 193 = 6 := by kernel_rfl
theorem cellsStr : Tryz.prog.cellsOf 9 = 1 := by kernel_rfl
theorem cellsBool : Tryz.prog.cellsOf 4 = 1 := by kernel_rfl
theorem cellsInt : Tryz.prog.cellsOf 3 = 1 := by kernel_rfl
theorem underUse : ∃ fs, Tryz.prog.underlying 193 = some (.struct fs) ∧ fs.toList.map (fun f => (f.type, f.offset)) = [(9, 0), (4, 1), (4, 2), (4, 3), (4, 4), (3, 5)] := ⟨_, Tryz.underlying193, by kernel_rfl⟩
theorem underUses : Tryz.prog.underlying 194 = some (.array 21 193) := Tryz.underlying194

/-- The table as useT tells it. -/
def useD {H : Type} (k : Nat) : DataW H := .agg [.lit (.string (useT k).word), .lit (.bool (useT k).owner), .lit (.bool (useT k).number), .lit (.bool (useT k).index), .lit (.bool (useT k).text), .lit (.int .i64 (useT k).most)]
theorem laid_use {H : Type} : (Rows.laid_replevin_object_usages : DataW H) = .agg ((List.range 21).map useD) := rfl

theorem usages_of_laid {W : World} (h : laidMetH Tryz.prog [("replevin/object.usages", Rows.laid_replevin_object_usages)] W) : Usages W := by
  obtain ⟨ps, ⟨g', t', cs, fuel, p, q, hg', ht', hvar, hd, _, _⟩, _⟩ := h
  obtain rfl := Option.some.inj (gUse.symm.trans hg')
  obtain rfl := Option.some.inj (gUseType.symm.trans ht')
  obtain ⟨fs, hfs, hmap⟩ := underUse
  rw [laid_use] at hd
  have hheap : ∀ i, W.cell? ⟨0, i, none⟩ = cs[i]? := by
    intro i
    unfold World.var? at hvar
    rw [gUse] at hvar
    simp only [Option.bind_some] at hvar
    unfold World.cell?
    revert hvar
    cases hW : W.heap[0]? with
    | none => simp
    | some o => cases o <;> simp <;> intro e <;> subst e <;> simp
  intro k hk
  obtain ⟨fuel1, d, p1, hd1, hf1⟩ := trod_elem underUses hd k (by omega)
  have hdk : d = useD k := by
    have : ((List.range 21).map (useD (H := Unit)))[k]? = some (useD k) := by rw [List.getElem?_map, List.getElem?_range (by omega)]; rfl
    rw [this] at hd1
    exact (Option.some.inj hd1).symm
  subst hdk
  rw [cellsUse] at hf1
  have fld : ∀ (j : Nat) (ty : TypeId) (off : Nat), [(9, 0), (4, 1), (4, 2), (4, 3), (4, 4), (3, 5)][j]? = some (ty, off) → Tryz.prog.cellsOf ty = 1 →
      ∃ fuel' d p', [DataW.lit (.string (useT k).word), .lit (.bool (useT k).owner), .lit (.bool (useT k).number), .lit (.bool (useT k).index), .lit (.bool (useT k).text), .lit (.int .i64 (useT k).most)][j]? = some d ∧
        DataW.trod _ Tryz.prog W _ _ _ fuel' ty ((((cs.toList.drop (k * 6)).take 6).drop off).take 1) = some (d, p') := fun j ty off hj h1 => by
    rw [← hmap] at hj
    simp only [List.getElem?_map, Option.map_eq_some_iff, Prod.mk.injEq] at hj
    obtain ⟨f, hf, rfl, rfl⟩ := hj
    obtain ⟨fuel', d, p', h2, h3⟩ := trod_field hfs hf1 j f hf
    rw [h1] at h3
    exact ⟨fuel', d, p', h2, h3⟩
  have str : W.cell? ⟨0, k * 6, none⟩ = some (.string ⟨(useT k).word.toArray⟩) := by
    obtain ⟨fuel', d, p', h2, h3⟩ := fld 0 _ _ rfl cellsStr
    obtain ⟨s, hc, hx, _⟩ := DataW.trod_string Tryz.underlying9 h3
    cases h2
    have hs : s = ⟨(useT k).word.toArray⟩ := by
      have := (Prod.mk.inj hx).1
      simp only [DataW.lit.injEq, Lit.string.injEq] at this
      rw [this]
    rw [hheap, ← hs]
    have := one_at hc (by decide)
    simpa using this
  have bl : ∀ (j : Nat) (b : Bool), 1 ≤ j → j ≤ 4 → [DataW.lit (H := Unit) (.string (useT k).word), .lit (.bool (useT k).owner), .lit (.bool (useT k).number), .lit (.bool (useT k).index), .lit (.bool (useT k).text), .lit (.int .i64 (useT k).most)][j]? = some (.lit (.bool b)) → W.cell? ⟨0, k * 6 + j, none⟩ = some (.bool b) := fun j b h1 h4 hb => by
    obtain ⟨fuel', d, p', h2, h3⟩ := fld j 4 j (by rcases (by omega : j = 1 ∨ j = 2 ∨ j = 3 ∨ j = 4) with rfl | rfl | rfl | rfl <;> rfl) cellsBool
    obtain ⟨b', hc, hx⟩ := DataW.trod_bool Tryz.underlying4 h3
    rw [hb] at h2
    cases h2
    have hs : b = b' := by
      have := (Prod.mk.inj hx).1
      simpa only [DataW.lit.injEq, Lit.bool.injEq] using this
    rw [hheap, hs]
    have := one_at hc (by omega)
    simpa using this
  refine ⟨str, bl 1 _ (by decide) (by decide) rfl, bl 2 _ (by decide) (by decide) rfl, bl 3 _ (by decide) (by decide) rfl, bl 4 _ (by decide) (by decide) rfl, ?_⟩
  obtain ⟨fuel', d, p', h2, h3⟩ := fld 5 _ _ rfl cellsInt
  obtain ⟨z, hc, hx, _⟩ := DataW.trod_int Tryz.underlying3 h3
  cases h2
  have hs : z = (useT k).most := by
    have := (Prod.mk.inj hx).1
    simp only [DataW.lit.injEq, Lit.int.injEq, true_and] at this
    exact this.symm
  rw [hheap, ← hs]
  have := one_at hc (by decide)
  simpa using this

end Go.Proofs.YtemmeopaihmlcaaGreatDoor

namespace Go.Proofs.YtemmeopaihmlcaaGreatDoor
open Go.ChangeShapes Go.WideShapes Go.ChangeAt Go.ChangeMaps Go.RowKit

/-- The last step of a law: its world is as it was below the heap's old end, its result holds no memory. -/
theorem law_post {H : Type} {enc : TypeId × Value → H} {P : Program} {f : Func} {s : ChangeSpec} {apart fresh handsOn again : Bool} {W X : World} {args : Array Value} {v : Value} {ds gs : List (DataW H)} {was there : List MemPlace}
    (whole : DataW.Whole enc P f.params.toList s.vars apart W args.toList ds gs was) (low : Below W.heap.size W X)
    (result : ∀ (base : Nat) (spare : Nat → Bool) (held : Bool), DataW.TrodAll enc P X base spare held f.resultTypes.toList (v.resultList f.resultTypes.size) (s.fn H (ds ++ gs)).results [])
    (same : ∀ spare : Nat → Bool, (∀ p ∈ was, spare p.block = true) → DataW.TrodAll enc P X 0 spare true f.params.toList args.toList (s.fn H (ds ++ gs)).args there)
    (none : ∀ spare : Nat → Bool, (∀ p ∈ was, spare p.block = true) → DataW.TrodVars enc P X spare s.vars (s.fn H (ds ++ gs)).vars [])
    (eq : was = there)
    (fine : ∀ (j : Nat) (t : TypeId) (r : Value), f.resultTypes[j]? = some t → (v.resultList f.resultTypes.size)[j]? = some r → Value.okWide P X .any 0 t r) :
    s.post enc P f apart fresh handsOn again W args v X := by
  subst eq
  have old := fun p (hp : p ∈ was) => whole.lt p hp
  have spares : ∀ p ∈ was, (fun b => decide (b < W.heap.size)) p.block = true := fun p hp => decide_eq_true (old p hp)
  have kept := World.keptBut_mono (may' := fun p => p ∈ was ∧ (p ∈ ([] : List MemPlace) ∨ p ∈ was ∨ p ∈ ([] : List MemPlace))) (fun p hp => ⟨hp, .inr (.inl hp)⟩) (low.frame (· ∈ was))
  refine ⟨ds, gs, was, [], was, [], whole, result _ _ _, same _ spares, none _ spares, kept, fun _ => ⟨fine, _, _, ([] ++ was) ++ [], ⟨[] ++ was, [], trodAll_append (same _ (fun _ _ => rfl)) (result _ _ _), none _ (fun _ _ => rfl), rfl, ?_, ?_⟩, fun p hp _ => by simpa using hp⟩⟩
  · obtain ⟨_, _, _, _, _, fz, _⟩ := whole
    intro b off hp
    have hm : MemPlace.cell b off ∈ was := by simpa using hp
    rw [low.frozen (old _ hm)]
    exact fz b off hm
  · obtain ⟨_, _, _, _, _, _, nd⟩ := whole
    intro ha
    simpa using nd ha

theorem own : ownKnob Tryz.prog.godebug = none := by kernel_rfl

/-- A world for the witness: the table holds what its initialiser lays. -/
noncomputable def useCells : Array Value := ((List.range 21).flatMap fun k => [.string ⟨(useT k).word.toArray⟩, .bool (useT k).owner, .bool (useT k).number, .bool (useT k).index, .bool (useT k).text, .int .i64 (useT k).most]).toArray
noncomputable def laidWorld (os : Os) : World :=
  { World.holding Tryz.prog os ⟨#[], #[], []⟩ with heap := (World.holding Tryz.prog os ⟨#[], #[], []⟩).heap.modify 0 fun
      | .cells _ t frozen => .cells useCells t frozen
      | o => o }

theorem Tryz.laidOut : laidOutB Tryz.prog = true := by kernel_rfl

theorem trodAll_stays {H : Type} {enc : TypeId × Value → H} {P : Program} (hl : laidOutB P = true) {W X : World} {sp : Nat → Bool} : ∀ {ts : List TypeId} {vs : List Value} {ds : List (DataW H)} {ps : List MemPlace}, (∀ t ∈ ts, P.readableRec t = true ∧ t < P.types.size) →
    DataW.TrodAll enc P W 0 (fun _ => true) true ts vs ds ps → (∀ p ∈ ps, W.sameAt X p) → (∀ p ∈ ps, sp p.block = true) → DataW.TrodAll enc P X 0 sp true ts vs ds ps
  | [], vs, ds, ps, _, h, _, _ => by
    obtain ⟨rfl, rfl, rfl⟩ := trodAll_nil h
    exact trodAll_mk0
  | t :: ts, vs, ds, ps, ht, h, hsame, hs => by
    obtain ⟨v, vs', d, ds', p, q, rfl, rfl, rfl, h0, hr⟩ := trodAll_cons h
    exact trodAll_cons_mk (WideElems.Trod_stays hl (ht t (by simp)).1 (ht t (by simp)).2 h0 (fun x hx => hsame x (by simp [hx])) (fun x hx => hs x (by simp [hx])))
      (trodAll_stays hl (fun t' h' => ht t' (by simp [h'])) hr (fun x hx => hsame x (by simp [hx])) (fun x hx => hs x (by simp [hx])))

set_option maxRecDepth 100000 in
/-- The last step of a law that answers true and leaves its arguments. -/
theorem law_done {H : Type} {enc : TypeId × Value → H} {f : Func} {s : ChangeSpec} {apart fresh handsOn again : Bool} {W X : World} {args : Array Value} {ds gs : List (DataW H)} {was : List MemPlace}
    (hts : ∀ t ∈ f.params.toList, Tryz.prog.readableRec t = true ∧ t < Tryz.prog.types.size) (hvars : s.vars = []) (hfn : ∀ ds' : List (DataW H), ds'.length = f.params.toList.length → s.fn H ds' = { results := [.lit (.bool true)], args := ds' }) (hres : f.resultTypes = #[4])
    (whole : DataW.Whole enc Tryz.prog f.params.toList s.vars apart W args.toList ds gs was) (low : Below W.heap.size W X) (hlen : ds.length = f.params.toList.length) :
    s.post enc Tryz.prog f apart fresh handsOn again W args (.bool true) X := by
  have whole' := whole
  obtain ⟨p, q, hA, hV, rfl, hfz, hnd⟩ := whole
  rw [hvars] at hV
  obtain ⟨rfl, rfl⟩ := trodVars_none hV
  have hf := hfn ds hlen
  have hold : ∀ x ∈ p, x.block < W.heap.size := fun x hx => whole'.lt x (by simp [hx])
  refine law_post (there := p) whole' low (fun _ _ _ => ?_) (fun sp hsp => ?_) (fun _ _ => ?_) (by simp) ?_
  · rw [List.append_nil, hf, hres]
    exact trodAll_cons_mk (shut_bool Tryz.underlying4 _) trodAll_mk0
  · rw [List.append_nil, hf]
    exact trodAll_stays Tryz.laidOut hts hA (fun x hx => low.same (hold x hx)) (fun x hx => hsp x (by simp [hx]))
  · rw [List.append_nil, hf, hvars]
    rfl
  · exact ok_one hres rfl (okWide_bool_mk Tryz.underlying4 _)

end Go.Proofs.YtemmeopaihmlcaaGreatDoor

namespace Go.Proofs.YtemmeopaihmlcaaGreatDoor
open Go.ChangeShapes Go.WideShapes Go.ChangeAt Go.ChangeMaps Go.RowKit

theorem trod_fields {H : Type} {enc : TypeId × Value → H} {W : World} {t : TypeId} {ps : List (TypeId × Nat)} {fuel : Nat} {cs : List Value} {x : DataW H × List MemPlace}
    (hu : ∃ fs, Tryz.prog.underlying t = some (.struct fs) ∧ fs.toList.map (fun f => (f.type, f.offset)) = ps) (h : DataW.trod enc Tryz.prog W 0 (fun _ => true) true fuel t cs = some x) :
    ∃ k, ∀ (j : Nat) (ty : TypeId) (off : Nat), ps[j]? = some (ty, off) → ∃ y, DataW.trod enc Tryz.prog W 0 (fun _ => true) true k ty ((cs.drop off).take (Tryz.prog.cellsOf ty)) = some y := by
  obtain ⟨fs, hfs, hmap⟩ := hu
  obtain ⟨xs, k, _, _, _, hxl, hg⟩ := DataW.trod_struct hfs h
  refine ⟨k, fun j ty off hj => ?_⟩
  rw [← hmap] at hj
  simp only [List.getElem?_map, Option.map_eq_some_iff, Prod.mk.injEq] at hj
  obtain ⟨f, hf', rfl, rfl⟩ := hj
  have hjj : j < fs.size := by
    have := (List.getElem?_eq_some_iff.1 hf').1
    simpa using this
  exact ⟨xs[j]'(by omega), by rw [hg j f (by simpa using hf')]; exact List.getElem?_eq_getElem _⟩
theorem four {cs : Array Value} (h : cs.size = 4) : ∃ v0 v1 v2 v3, cs = #[v0, v1, v2, v3] := by
  obtain ⟨l⟩ := cs
  match l, h with
  | [v0, v1, v2, v3], _ => exact ⟨v0, v1, v2, v3, rfl⟩

end Go.Proofs.YtemmeopaihmlcaaGreatDoor

namespace Go.Proofs.YtemmeopaihmlcaaGreatDoor
open Go.ChangeShapes Go.WideShapes Go.ChangeAt Go.ChangeMaps Go.RowKit

theorem oadd_at (g off j : Nat) : (⟨g, off, none⟩ : Addr).add j = ⟨g, off + j, none⟩ := by unfold Addr.add; split <;> simp_all
theorem ospot_none {w : World} {a : Addr} {v : Value} (h : w.cell? a = some v) : a.spot = none := by
  unfold World.cell? at h
  split at h
  · split at h
    · cases h
    · rename_i h1
      simpa using h1
  · cases h
theorem oaddr_at {w : World} {a : Addr} {v : Value} (h : w.cell? (a.add 0) = some v) : ∃ g off, a = ⟨g, off, none⟩ := by
  obtain ⟨g, off, el⟩ := a
  have := ospot_none h
  simp [Addr.add] at this
  exact ⟨g, off, by rw [this]⟩
theorem cellsOp : Tryz.prog.cellsOf 81 = 5 := by kernel_rfl
theorem cellsU8 : Tryz.prog.cellsOf 5 = 1 := by kernel_rfl
theorem underOp : ∃ fs, Tryz.prog.underlying 81 = some (.struct fs) ∧ fs.toList.map (fun f => (f.type, f.offset)) = [(5, 0), (3, 1), (3, 2), (9, 3), (4, 4)] := ⟨_, Tryz.underlying81, by kernel_rfl⟩
instance : Inhabited OpT := ⟨⟨0, 0, 0, ⟨#[]⟩, false⟩⟩

theorem five {cs : List Value} (h : cs.length = 5) : ∃ v0 v1 v2 v3 v4, cs = [v0, v1, v2, v3, v4] := by
  match cs, h with
  | [v0, v1, v2, v3, v4], _ => exact ⟨v0, v1, v2, v3, v4, rfl⟩

set_option maxRecDepth 100000 in
theorem open_opsl {H : Type} {enc : TypeId × Value → H} {W : World} {a : Option Addr} {n c : Nat} {d : DataW H} {p : List MemPlace} (h : DataW.Trod enc Tryz.prog W 0 (fun _ => true) true 77 (.slice a n c) d p) :
    ∃ f, OpSl W a n f ∧ n ≤ maxLen := by
  obtain ⟨fuel, hf⟩ := h
  rcases Deep.open_slice Tryz.underlying77 hf with ⟨hcs, hx⟩ | ⟨a1, len, cap, m, fu, D, Pl, hcs, _, hl, hm, hmm, hx, hall⟩
  · have : (Value.slice a n c) = .slice none 0 0 := by simpa [Value.cells] using hcs
    cases this
    exact ⟨fun _ => default, fun h => absurd h (Nat.lt_irrefl _), Nat.zero_le _⟩
  · have : (Value.slice a n c) = .slice (some a1) len cap := by simpa [Value.cells] using hcs
    cases this
    simp only [if_true] at hmm
    subst hmm
    rw [cellsOp] at hall
    obtain ⟨fs, hfs, hmap⟩ := underOp
    have each : ∀ i, i < n → ∃ o : OpT, W.cell? (a1.add (i * 5)) = some (.int .u8 o.kd) ∧ W.cell? (a1.add (i * 5 + 1)) = some (.int .i64 o.e) ∧ W.cell? (a1.add (i * 5 + 2)) = some (.int .i64 o.n) ∧ W.cell? (a1.add (i * 5 + 3)) = some (.string o.s) ∧ W.cell? (a1.add (i * 5 + 4)) = some (.bool o.x) ∧
        o.kd ≤ 255 ∧ o.n ≤ 9223372036854775807 ∧ o.s.size ≤ 9223372036854775807 := by
      intro i hi
      obtain ⟨cs', h1, h2⟩ := hall i (by omega)
      obtain ⟨_, hlen, hcell⟩ := World.cells?_some h1
      obtain ⟨xs, k, _, _, _, hxl, hg⟩ := DataW.trod_struct hfs h2
      obtain ⟨v0, v1, v2, v3, v4, rfl⟩ := five hlen
      · skip
        have fld : ∀ (j : Nat) (ty : TypeId) (off : Nat), [(5, 0), (3, 1), (3, 2), (9, 3), (4, 4)][j]? = some (ty, off) → Tryz.prog.cellsOf ty = 1 →
            ∃ y, DataW.trod enc Tryz.prog W 0 (fun _ => true) true k ty (([v0, v1, v2, v3, v4].drop off).take 1) = some y := fun j ty off hj hc => by
          rw [← hmap] at hj
          simp only [List.getElem?_map, Option.map_eq_some_iff, Prod.mk.injEq] at hj
          obtain ⟨f, hf', rfl, rfl⟩ := hj
          have hjj : j < fs.size := by
            have := (List.getElem?_eq_some_iff.1 hf').1
            simpa using this
          have := hg j f (by simpa using hf')
          rw [hc] at this
          exact ⟨xs[j]'(by omega), by rw [this]; exact List.getElem?_eq_getElem _⟩
        obtain ⟨y0, g0⟩ := fld 0 _ _ rfl cellsU8
        obtain ⟨y1, g1⟩ := fld 1 _ _ rfl cellsInt
        obtain ⟨y2, g2⟩ := fld 2 _ _ rfl cellsInt
        obtain ⟨y3, g3⟩ := fld 3 _ _ rfl cellsStr
        obtain ⟨y4, g4⟩ := fld 4 _ _ rfl cellsBool
        obtain ⟨z0, e0, _, w0⟩ := DataW.trod_int Tryz.underlying5 g0
        obtain ⟨z1, e1, _, w1⟩ := DataW.trod_int Tryz.underlying3 g1
        obtain ⟨z2, e2, _, w2⟩ := DataW.trod_int Tryz.underlying3 g2
        obtain ⟨z3, e3, _, w3⟩ := DataW.trod_string Tryz.underlying9 g3
        obtain ⟨z4, e4, _⟩ := DataW.trod_bool Tryz.underlying4 g4
        obtain rfl : v0 = .int .u8 z0 := by simpa using e0
        obtain rfl : v1 = .int .i64 z1 := by simpa using e1
        obtain rfl : v2 = .int .i64 z2 := by simpa using e2
        obtain rfl : v3 = .string z3 := by simpa using e3
        obtain rfl : v4 = .bool z4 := by simpa using e4
        have b0 := bounds_u8 w0
        have b2 := bounds_i64 w2
        obtain ⟨m0, rfl⟩ := Int.eq_ofNat_of_zero_le b0.1
        unfold maxLen at w3
        have c0 := hcell 0 (by omega)
        have c1 := hcell 1 (by omega)
        have c2 := hcell 2 (by omega)
        have c3 := hcell 3 (by omega)
        have c4 := hcell 4 (by omega)
        rw [Deep.add_add] at c0 c1 c2 c3 c4
        exact ⟨⟨m0, z1, z2, z3, z4⟩, by simpa using c0, by simpa using c1, by simpa using c2, by simpa using c3, by simpa using c4, by dsimp only; omega, by dsimp only; omega, by dsimp only; omega⟩
    obtain ⟨f, hf'⟩ := Deep.choose_lt each
    refine ⟨f, fun h0 => ?_, Nat.le_trans hl hm⟩
    obtain ⟨g, off, rfl⟩ := oaddr_at (by simpa only [Nat.zero_mul] using (hf' 0 h0).1)
    refine ⟨g, off, rfl, fun j hj => ?_⟩
    have := hf' j hj
    simpa only [oadd_at, Nat.add_assoc] using this

end Go.Proofs.YtemmeopaihmlcaaGreatDoor

namespace Go.Proofs.YtemmeopaihmlcaaGreatDoor
open Go.ChangeShapes Go.WideShapes Go.ChangeAt Go.ChangeMaps Go.RowKit

theorem open_strsl {H : Type} {enc : TypeId × Value → H} {W : World} {a : Option Addr} {n c : Nat} {d : DataW H} {p : List MemPlace} (h : DataW.Trod enc Tryz.prog W 0 (fun _ => true) true 91 (.slice a n c) d p) :
    ∃ ls, StrSl W a n ls ∧ (∀ s ∈ ls, s.size ≤ maxLen) ∧ n ≤ maxLen := by
  obtain ⟨fuel, hf⟩ := h
  rcases open_strings Tryz.underlying91 Tryz.underlying9 cellsStr hf with ⟨hcs, hx⟩ | ⟨a1, len, cap, ss, hcs, _, hl, hm, hz, hx, hcell, hws⟩
  · have : (Value.slice a n c) = .slice none 0 0 := by simpa [Value.cells] using hcs
    cases this
    exact ⟨[], ⟨rfl, fun h => absurd h (Nat.lt_irrefl _)⟩, (fun s hs => by simp at hs), Nat.zero_le _⟩
  · have : (Value.slice a n c) = .slice (some a1) len cap := by simpa [Value.cells] using hcs
    cases this
    simp only [if_true] at hz
    refine ⟨ss.take n, ⟨by simp; omega, fun h0 => ?_⟩, fun s hs => hws s (List.mem_of_mem_take hs), Nat.le_trans hl hm⟩
    obtain ⟨g, off, rfl⟩ := oaddr_at (hcell 0 (by omega))
    refine ⟨g, off, rfl, fun j hj => ?_⟩
    have h1 := hcell j (by omega)
    rw [oadd_at] at h1
    rw [h1]
    congr 2
    simp [List.getD_eq_getElem?_getD, hj]
    rfl

set_option maxRecDepth 100000 in
theorem open_pop {H : Type} {enc : TypeId × Value → H} {W : World} {base : Nat} {v : Value} {d : DataW H} {p : List MemPlace} (hv : Value.okWide Tryz.prog W .any base 81 v) (h : DataW.Trod enc Tryz.prog W 0 (fun _ => true) true 81 v d p) :
    ∃ (kd : Nat) (e n : Int) (s : ByteArray) (x : Bool), v = .agg #[.int .u8 kd, .int .i64 e, .int .i64 n, .string s, .bool x] ∧ kd ≤ 255 ∧ n ≤ 9223372036854775807 ∧ s.size ≤ maxLen := by
  obtain ⟨fs, hfs, hmap⟩ := underOp
  obtain ⟨cs, rfl, hsz⟩ := okWide_struct hfs hv
  obtain ⟨fuel, hf⟩ := h
  obtain ⟨k, hk⟩ := trod_fields underOp hf
  rw [cellsOp] at hsz
  obtain ⟨l⟩ := cs
  obtain ⟨v0, v1, v2, v3, v4, rfl⟩ := five (by simpa using hsz)
  obtain ⟨y0, g0⟩ := hk 0 _ _ rfl
  obtain ⟨y1, g1⟩ := hk 1 _ _ rfl
  obtain ⟨y2, g2⟩ := hk 2 _ _ rfl
  obtain ⟨y3, g3⟩ := hk 3 _ _ rfl
  obtain ⟨y4, g4⟩ := hk 4 _ _ rfl
  rw [cellsU8] at g0
  rw [cellsInt] at g1 g2
  rw [cellsStr] at g3
  rw [cellsBool] at g4
  obtain ⟨z0, e0, _, w0⟩ := DataW.trod_int Tryz.underlying5 g0
  obtain ⟨z1, e1, _, w1⟩ := DataW.trod_int Tryz.underlying3 g1
  obtain ⟨z2, e2, _, w2⟩ := DataW.trod_int Tryz.underlying3 g2
  obtain ⟨z3, e3, _, w3⟩ := DataW.trod_string Tryz.underlying9 g3
  obtain ⟨z4, e4, _⟩ := DataW.trod_bool Tryz.underlying4 g4
  obtain rfl : v0 = .int .u8 z0 := by simpa [Value.cells] using e0
  obtain rfl : v1 = .int .i64 z1 := by simpa [Value.cells] using e1
  obtain rfl : v2 = .int .i64 z2 := by simpa [Value.cells] using e2
  obtain rfl : v3 = .string z3 := by simpa [Value.cells] using e3
  obtain rfl : v4 = .bool z4 := by simpa [Value.cells] using e4
  have b0 := bounds_u8 w0
  have b2 := bounds_i64 w2
  obtain ⟨m0, rfl⟩ := Int.eq_ofNat_of_zero_le b0.1
  exact ⟨m0, z1, z2, z3, z4, rfl, by omega, by omega, w3⟩
end Go.Proofs.YtemmeopaihmlcaaGreatDoor

namespace Go.Proofs.YtemmeopaihmlcaaGreatDoor
open Go.ChangeShapes Go.WideShapes Go.ChangeAt Go.ChangeMaps Go.RowKit
namespace pipeFrame

theorem params_ok : ∀ t ∈ Tryz.f9.params.toList, Tryz.prog.readableRec t = true ∧ t < Tryz.prog.types.size := by
  rw [Tryz.params9]
  intro t ht
  rcases (by simpa using ht : t = 77 ∨ t = 81 ∨ t = 91) with rfl | rfl | rfl
  all_goals exact ⟨by kernel_rfl, of_decide_eq_true (by kernel_rfl)⟩

set_option maxRecDepth 100000 in
theorem contract (H : Type) (enc : TypeId × Value → H) (W : World) (base : Nat) (args : Array Value) (ds gs : List (DataW H)) (before : List MemPlace)
    (hval : ∀ (j : Nat) t v, Tryz.f9.params[j]? = some t → args[j]? = some v → Value.okWide Tryz.prog W .any base t v)
    (hW : DataW.Whole enc Tryz.prog Tryz.f9.params.toList Rows.pipeFrameSpec.vars false W args.toList ds gs before) (hL : laidMetH Tryz.prog Rows.pipeFrameRow.laid W) :
    Calls Tryz.prog 9 args W fun e W' => ∃ v, e = .returned v ∧ Rows.pipeFrameSpec.post enc Tryz.prog Tryz.f9 false true false false W args v W' := by
  have hW' := hW
  obtain ⟨p, q, hA0, hV, rfl, hfz, hnd⟩ := hW
  have hA : DataW.TrodAll enc Tryz.prog W 0 (fun _ => true) true Tryz.f9.params.toList args.toList ds p := hA0
  rw [Tryz.params9] at hA hval
  obtain ⟨v0, vs0, d0, ds0, p0, q0, hargs, rfl, rfl, h0, r0⟩ := trodAll_cons hA
  obtain ⟨v1, vs1, d1, ds1, p1, q1, rfl, rfl, rfl, h1, r1⟩ := trodAll_cons r0
  obtain ⟨v2, vs2, d2, ds2, p2, q2, rfl, rfl, rfl, h2, r2⟩ := trodAll_cons r1
  obtain ⟨rfl, rfl, rfl⟩ := trodAll_nil r2
  obtain rfl : args = #[v0, v1, v2] := by cases args; simp_all
  have hu : Usages W := usages_of_laid hL
  obtain ⟨a0, n0, c0, rfl⟩ := okWide_slice Tryz.underlying77 (hval 0 _ v0 rfl rfl)
  obtain ⟨f0, hs0, hn0⟩ := open_opsl h0
  unfold maxLen at hn0
  obtain ⟨kd1, ep1, nn1, by1, xb1, rfl, hq1⟩ := open_pop (hval 1 _ v1 rfl rfl) h1
  unfold maxLen at hq1
  obtain ⟨a2, n2, c2, rfl⟩ := okWide_slice Tryz.underlying91 (hval 2 _ v2 rfl rfl)
  obtain ⟨ls2, hs2, hz2, hn2⟩ := open_strsl h2
  unfold maxLen at hz2 hn2
  have walk : Calls Tryz.prog 9 _ W (TruePost W) := frame_any a0 n0 c0 f0 kd1 ep1 nn1 by1 xb1 hq1.1 hq1.2.1 (by omega) a2 n2 c2 ls2 W hu (by omega) hs0 hs2 (fun t ht => by have := hz2 t ht; omega)
  refine walk.mono fun e W' ⟨he, hg⟩ => ?_
  subst he
  exact ⟨_, rfl, law_done params_ok rfl (fun ds' h => by rw [Tryz.params9] at h; match ds', h with | [_, _, _], _ => rfl) (by kernel_rfl) hW' hg (by rw [Tryz.params9]; rfl)⟩

theorem laid_met (os : Os) : laidMet Tryz.prog Rows.pipeFrameRow.laid ((laidWorld os).forCall (fun _ _ => 0) ⟨#[], #[.slice none 0 0, .agg #[.int .u8 0, .int .i64 0, .int .i64 0, .string ⟨#[]⟩, .bool false], .slice none 0 0], []⟩).memory :=
  laidMet_of_run' 8 (by kernel_rfl) (by kernel_rfl)
theorem reads (os : Os) {H : Type} (enc : TypeId × Value → H) : ∃ places, DataW.whole enc Tryz.prog ((laidWorld os).forCall (fun _ _ => 0) ⟨#[], #[.slice none 0 0, .agg #[.int .u8 0, .int .i64 0, .int .i64 0, .string ⟨#[]⟩, .bool false], .slice none 0 0], []⟩).memory Tryz.f9.params.toList Rows.pipeFrameSpec.vars false #[Value.slice none 0 0, .agg #[.int .u8 0, .int .i64 0, .int .i64 0, .string ⟨#[]⟩, .bool false], .slice none 0 0].toList 8 = some ([.nil, .agg [.lit (.int .u8 0), .lit (.int .i64 0), .lit (.int .i64 0), .lit (.string []), .lit (.bool false)], .nil], [], places) :=
  ⟨[], by kernel_rfl⟩

set_option maxRecDepth 100000 in
theorem lifted (os : Os) (started : os.Started) (H : Type) (enc : TypeId × Value → H) (F : Stop.Interp) :
    ReturnsInHanded {} Tryz.checked os 9 .any ((OpenSpec.ofChange Rows.pipeFrameSpec).preRow enc Tryz.prog Tryz.f9 Rows.pipeFrameRow.domain false Rows.pipeFrameRow.laid) (((OpenSpec.ofChange Rows.pipeFrameSpec).at F).post enc Tryz.prog Tryz.f9 false true false false) := by
  obtain ⟨places, hx⟩ := reads os enc
  refine returnsInHanded_of_row (C := Tryz.checked) (s := OpenSpec.ofChange Rows.pipeFrameSpec) own started (by kernel_rfl) Tryz.func9
    (witness_row_at (enc := enc) (C := Tryz.checked) false (laidWorld os) #[.slice none 0 0, .agg #[.int .u8 0, .int .i64 0, .int .i64 0, .string ⟨#[]⟩, .bool false], .slice none 0 0] rfl (by kernel_rfl) (by kernel_rfl) (by kernel_rfl)
      (OpenSpec.preRow_of_cond 8 hx (by kernel_rfl) (fun k hk => by cases hk) (by kernel_rfl) (laid_met os))) ?_
  intro W base args ds gs before hval hW _ _ _ hL _ _
  exact contract H enc W base args ds gs before hval hW hL

theorem said : Rows.PipeFrameSaid :=
  OpenClaim.holds_of_cond 9 Tryz.f9 rfl rfl rfl rfl rfl rfl rfl ⟨rfl, rfl, rfl, rfl, rfl⟩ rfl rfl rfl rfl rfl (by kernel_rfl) Tryz.func9 (by kernel_rfl)
    (of_decide_eq_true (by kernel_rfl)) (by unfold Func.isWrapper; first | (rw [if_pos (by decide +kernel)]; kernel_rfl) | (rw [if_neg (by decide +kernel)]; exact ⟨rfl, rfl⟩))
    (fun os started H enc _ F => by rw [OpenClaim.pre_eq_preRow]; exact lifted os started H enc F)

theorem plain (f : FuncId) (fn : Func) (hf : Tryz.pinned.checked.prog.funcNamed "replevin/replevinlaw32.PipeFrame" = some f) (hfn : Tryz.pinned.checked.prog.funcs[f]? = some fn) :
    false = Tryz.pinned.checked.prog.looks [] ∧ ∀ (j : Nat) t, fn.params[j]? = some t → Tryz.pinned.checked.prog.wantsStandIn t = false := by
  obtain rfl : f = 9 := Option.some.inj ((show Tryz.prog.funcNamed "replevin/replevinlaw32.PipeFrame" = some 9 by kernel_rfl).symm.trans hf) |>.symm
  obtain rfl : fn = Tryz.f9 := (Option.some.inj (Tryz.func9.symm.trans hfn)).symm
  refine ⟨by kernel_rfl, fun j t ht => ?_⟩
  rw [Tryz.params9] at ht
  have hm := Array.mem_of_getElem? ht
  rcases (by simpa using hm : t = 77 ∨ t = 81 ∨ t = 91) with rfl | rfl | rfl
  · exact (show Tryz.prog.wantsStandIn 77 = false by kernel_rfl)
  · exact (show Tryz.prog.wantsStandIn 81 = false by kernel_rfl)
  · exact (show Tryz.prog.wantsStandIn 91 = false by kernel_rfl)

theorem card : Rows.PipeFrameCardSaid :=
  Claim7.holds_tied_plain_at .later [] _ _ _ _ said (fun _ h => by cases h) (by kernel_rfl) (fun _ h => by cases h) pipeFrame_row_tie rfl ⟨rfl, rfl⟩ (by kernel_rfl) rfl plain (by kernel_rfl)

end pipeFrame
end Go.Proofs.YtemmeopaihmlcaaGreatDoor
