/- The frame of a law's row: its last step; arguments that read as before. -/
import Derived.Test.YtemmeopaihmlcaaDoorRowU
import Derived.Test.YtemmeopaihmlcaaDoorTrue
import Derived.ChangeMaps5
import Derived.Carry
namespace Go.Proofs.YtemmeopaihmlcaaDoor
open Go.ChangeShapes Go.WideShapes Go.ChangeAt Go.ChangeMaps Go.RowKit

/-- The last step of a law: its world is as it was below the heap's old end, its result holds no memory. -/
theorem law_post {H : Type} {enc : TypeId × Value → H} {P : Program} {f : Func} {s : ChangeSpec} {apart fresh handsOn again : Bool} {W X : World} {args : Array Value} {v : Value} {ds gs : List (DataW H)} {was there : List MemPlace}
    (whole : DataW.Whole enc P f.params.toList s.vars apart W args.toList ds gs was) (low : Below W.heap.size W X)
    (result : ∀ (base : Nat) (spare : Nat → Bool) (held : Bool), DataW.TrodAll enc P X base spare held f.resultTypes.toList (v.resultList f.resultTypes.size) (s.fn H (ds ++ gs)).results [])
    (same : ∀ spare : Nat → Bool, (∀ p ∈ was, spare p.block = true) → DataW.TrodAll enc P X 0 spare true f.params.toList args.toList (s.fn H (ds ++ gs)).args there)
    (none : ∀ spare : Nat → Bool, (∀ p ∈ was, spare p.block = true) → DataW.TrodVars enc P X spare s.vars (s.fn H (ds ++ gs)).vars [])
    (eq : was = there)
    (fine : ∀ (j : Nat) (t : TypeId) (r : Value), f.resultTypes[j]? = some t → (v.resultList f.resultTypes.size)[j]? = some r → Value.okWide P X .any 0 t r) :
    s.post enc P f apart fresh handsOn again W args v X := by
  subst eq
  have old := fun p (hp : p ∈ was) => whole.lt p hp
  have spares : ∀ p ∈ was, (fun b => decide (b < W.heap.size)) p.block = true := fun p hp => decide_eq_true (old p hp)
  have kept := World.keptBut_mono (may' := fun p => p ∈ was ∧ (p ∈ ([] : List MemPlace) ∨ p ∈ was ∨ p ∈ ([] : List MemPlace))) (fun p hp => ⟨hp, .inr (.inl hp)⟩) (low.frame (· ∈ was))
  refine ⟨ds, gs, was, [], was, [], whole, result _ _ _, same _ spares, none _ spares, kept, fun _ => ⟨fine, _, _, ([] ++ was) ++ [], ⟨[] ++ was, [], trodAll_append (same _ (fun _ _ => rfl)) (result _ _ _), none _ (fun _ _ => rfl), rfl, ?_, ?_⟩, fun p hp _ => by simpa using hp⟩⟩
  · obtain ⟨_, _, _, _, _, fz, _⟩ := whole
    intro b off hp
    have hm : MemPlace.cell b off ∈ was := by simpa using hp
    rw [low.frozen (old _ hm)]
    exact fz b off hm
  · obtain ⟨_, _, _, _, _, _, nd⟩ := whole
    intro ha
    simpa using nd ha

theorem own : ownKnob Tryd.prog.godebug = none := by kernel_rfl

/-- A world for the witness: the table holds what its initialiser lays. -/
noncomputable def useCells : Array Value := ((List.range 21).flatMap fun k => [.string ⟨(useT k).word.toArray⟩, .bool (useT k).owner, .bool (useT k).number, .bool (useT k).index, .bool (useT k).text, .int .i64 (useT k).most]).toArray
noncomputable def laidWorld (os : Os) : World :=
  { World.holding Tryd.prog os ⟨#[], #[], []⟩ with heap := (World.holding Tryd.prog os ⟨#[], #[], []⟩).heap.modify 0 fun
      | .cells _ t frozen => .cells useCells t frozen
      | o => o }

theorem Tryd.laidOut : laidOutB Tryd.prog = true := by kernel_rfl

theorem trodAll_stays {H : Type} {enc : TypeId × Value → H} {P : Program} (hl : laidOutB P = true) {W X : World} {sp : Nat → Bool} : ∀ {ts : List TypeId} {vs : List Value} {ds : List (DataW H)} {ps : List MemPlace}, (∀ t ∈ ts, P.readableRec t = true ∧ t < P.types.size) →
    DataW.TrodAll enc P W 0 (fun _ => true) true ts vs ds ps → (∀ p ∈ ps, W.sameAt X p) → (∀ p ∈ ps, sp p.block = true) → DataW.TrodAll enc P X 0 sp true ts vs ds ps
  | [], vs, ds, ps, _, h, _, _ => by
    obtain ⟨rfl, rfl, rfl⟩ := trodAll_nil h
    exact trodAll_mk0
  | t :: ts, vs, ds, ps, ht, h, hsame, hs => by
    obtain ⟨v, vs', d, ds', p, q, rfl, rfl, rfl, h0, hr⟩ := trodAll_cons h
    exact trodAll_cons_mk (WideElems.Trod_stays hl (ht t (by simp)).1 (ht t (by simp)).2 h0 (fun x hx => hsame x (by simp [hx])) (fun x hx => hs x (by simp [hx])))
      (trodAll_stays hl (fun t' h' => ht t' (by simp [h'])) hr (fun x hx => hsame x (by simp [hx])) (fun x hx => hs x (by simp [hx])))

set_option maxRecDepth 100000 in
/-- The last step of a law that answers true and leaves its arguments. -/
theorem law_done {H : Type} {enc : TypeId × Value → H} {f : Func} {s : ChangeSpec} {apart fresh handsOn again : Bool} {W X : World} {args : Array Value} {ds gs : List (DataW H)} {was : List MemPlace}
    (hts : ∀ t ∈ f.params.toList, Tryd.prog.readableRec t = true ∧ t < Tryd.prog.types.size) (hvars : s.vars = []) (hfn : ∀ ds' : List (DataW H), ds'.length = f.params.toList.length → s.fn H ds' = { results := [.lit (.bool true)], args := ds' }) (hres : f.resultTypes = #[4])
    (whole : DataW.Whole enc Tryd.prog f.params.toList s.vars apart W args.toList ds gs was) (low : Below W.heap.size W X) (hlen : ds.length = f.params.toList.length) :
    s.post enc Tryd.prog f apart fresh handsOn again W args (.bool true) X := by
  have whole' := whole
  obtain ⟨p, q, hA, hV, rfl, hfz, hnd⟩ := whole
  rw [hvars] at hV
  obtain ⟨rfl, rfl⟩ := trodVars_none hV
  have hf := hfn ds hlen
  have hold : ∀ x ∈ p, x.block < W.heap.size := fun x hx => whole'.lt x (by simp [hx])
  refine law_post (there := p) whole' low (fun _ _ _ => ?_) (fun sp hsp => ?_) (fun _ _ => ?_) (by simp) ?_
  · rw [List.append_nil, hf, hres]
    exact trodAll_cons_mk (shut_bool Tryd.underlying4 _) trodAll_mk0
  · rw [List.append_nil, hf]
    exact trodAll_stays Tryd.laidOut hts hA (fun x hx => low.same (hold x hx)) (fun x hx => hsp x (by simp [hx]))
  · rw [List.append_nil, hf, hvars]
    rfl
  · exact ok_one hres rfl (okWide_bool_mk Tryd.underlying4 _)

end Go.Proofs.YtemmeopaihmlcaaDoor
