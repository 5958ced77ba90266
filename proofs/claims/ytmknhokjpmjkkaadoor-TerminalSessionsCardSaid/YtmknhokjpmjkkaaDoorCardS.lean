/- TerminalSessions: the row and its card. -/
import Derived.Test.YtmknhokjpmjkkaaDoorRowU
import Derived.ChangeMaps5
namespace Go.Proofs.YtmknhokjpmjkkaaDoor
open Go.ChangeShapes Go.WideShapes Go.ChangeAt Go.ChangeMaps Go.RowKit

/-- The last step of a law: its world is as it was below the heap's old end, its result holds no memory. -/
theorem law_post {H : Type} {enc : TypeId × Value → H} {P : Program} {f : Func} {s : ChangeSpec} {apart fresh handsOn again : Bool} {W X : World} {args : Array Value} {v : Value} {ds gs : List (DataW H)} {was there : List MemPlace}
    (whole : DataW.Whole enc P f.params.toList s.vars apart W args.toList ds gs was) (low : Below W.heap.size W X)
    (result : ∀ (base : Nat) (spare : Nat → Bool) (held : Bool), DataW.TrodAll enc P X base spare held f.resultTypes.toList (v.resultList f.resultTypes.size) (s.fn H (ds ++ gs)).results [])
    (same : ∀ spare : Nat → Bool, (∀ p ∈ was, spare p.block = true) → DataW.TrodAll enc P X 0 spare true f.params.toList args.toList (s.fn H (ds ++ gs)).args there)
    (none : ∀ spare : Nat → Bool, (∀ p ∈ was, spare p.block = true) → DataW.TrodVars enc P X spare s.vars (s.fn H (ds ++ gs)).vars [])
    (eq : was = there)
    (fine : ∀ (j : Nat) (t : TypeId) (r : Value), f.resultTypes[j]? = some t → (v.resultList f.resultTypes.size)[j]? = some r → Value.okWide P X .any 0 t r) :
    s.post enc P f apart fresh handsOn again W args v X := by
  subst eq
  have old := fun p (hp : p ∈ was) => whole.lt p hp
  have spares : ∀ p ∈ was, (fun b => decide (b < W.heap.size)) p.block = true := fun p hp => decide_eq_true (old p hp)
  have kept := World.keptBut_mono (may' := fun p => p ∈ was ∧ (p ∈ ([] : List MemPlace) ∨ p ∈ was ∨ p ∈ ([] : List MemPlace))) (fun p hp => ⟨hp, .inr (.inl hp)⟩) (low.frame (· ∈ was))
  refine ⟨ds, gs, was, [], was, [], whole, result _ _ _, same _ spares, none _ spares, kept, fun _ => ⟨fine, _, _, ([] ++ was) ++ [], ⟨[] ++ was, [], trodAll_append (same _ (fun _ _ => rfl)) (result _ _ _), none _ (fun _ _ => rfl), rfl, ?_, ?_⟩, fun p hp _ => by simpa using hp⟩⟩
  · obtain ⟨_, _, _, _, _, fz, _⟩ := whole
    intro b off hp
    have hm : MemPlace.cell b off ∈ was := by simpa using hp
    rw [low.frozen (old _ hm)]
    exact fz b off hm
  · obtain ⟨_, _, _, _, _, _, nd⟩ := whole
    intro ha
    simpa using nd ha

theorem own : ownKnob Tryd.prog.godebug = none := by kernel_rfl

/-- A world for the witness: the table holds what its initialiser lays. -/
noncomputable def useCells : Array Value := ((List.range 21).flatMap fun k => [.string ⟨(useT k).word.toArray⟩, .bool (useT k).owner, .bool (useT k).number, .bool (useT k).index, .bool (useT k).text, .int .i64 (useT k).most]).toArray
noncomputable def laidWorld (os : Os) : World :=
  { World.holding Tryd.prog os ⟨#[], #[], []⟩ with heap := (World.holding Tryd.prog os ⟨#[], #[], []⟩).heap.modify 0 fun
      | .cells _ t frozen => .cells useCells t frozen
      | o => o }

namespace terminalSessions

set_option maxRecDepth 100000 in
theorem contract (H : Type) (enc : TypeId × Value → H) (W : World) (base : Nat) (args : Array Value) (ds gs : List (DataW H)) (before : List MemPlace)
    (hval : ∀ (j : Nat) t v, Tryd.f6.params[j]? = some t → args[j]? = some v → Value.okWide Tryd.prog W .any base t v)
    (hW : DataW.Whole enc Tryd.prog Tryd.f6.params.toList Rows.terminalSessionsSpec.vars false W args.toList ds gs before) (hL : laidMetH Tryd.prog Rows.terminalSessionsRow.laid W) :
    Calls Tryd.prog 6 args W fun e W' => ∃ v, e = .returned v ∧ Rows.terminalSessionsSpec.post enc Tryd.prog Tryd.f6 false true false false W args v W' := by
  have hW' := hW
  obtain ⟨p, q, hA0, hV, rfl, hfz, hnd⟩ := hW
  have hA : DataW.TrodAll enc Tryd.prog W 0 (fun _ => true) true Tryd.f6.params.toList args.toList ds p := hA0
  rw [Tryd.params6] at hA hval
  obtain ⟨v0, vs0, d0, ds0, p0, q0, hargs, rfl, rfl, h0, r0⟩ := trodAll_cons hA
  obtain ⟨v1, vs1, d1, ds1, p1, q1, rfl, rfl, rfl, h1, r1⟩ := trodAll_cons r0
  obtain ⟨v2, vs2, d2, ds2, p2, q2, rfl, rfl, rfl, h2, r2⟩ := trodAll_cons r1
  obtain ⟨rfl, rfl, rfl⟩ := trodAll_nil r2
  obtain rfl : args = #[v0, v1, v2] := by cases args; simp_all
  obtain ⟨rfl, rfl⟩ := trodVars_none hV
  obtain ⟨a, rfl, rfl, rfl, ha⟩ := open_string Tryd.underlying9 (hval 0 _ v0 rfl rfl) h0
  obtain ⟨b, rfl, rfl, rfl, hb⟩ := open_string Tryd.underlying9 (hval 1 _ v1 rfl rfl) h1
  obtain ⟨c, rfl, rfl, rfl, hc⟩ := open_string Tryd.underlying9 (hval 2 _ v2 rfl rfl) h2
  clear hA0
  simp only [List.append_nil] at hW'
  have hu : Usages W := usages_of_laid hL
  have walk := sessions_any a b c W hu (by unfold maxLen at ha; omega) (by unfold maxLen at hb; omega) (by unfold maxLen at hc; omega)
  refine walk.mono fun e W' ⟨he, hg⟩ => ?_
  subst he
  exact ⟨_, rfl, law_post hW' hg (fun _ _ _ => trodAll_cons_mk (shut_bool Tryd.underlying4 _) trodAll_mk0)
    (fun _ _ => trodAll_cons_mk (shut_string Tryd.underlying9 ha) (trodAll_cons_mk (shut_string Tryd.underlying9 hb) (trodAll_cons_mk (shut_string Tryd.underlying9 hc) trodAll_mk0))) (fun _ _ => rfl) rfl
    (ok_one (by kernel_rfl) rfl (okWide_bool_mk Tryd.underlying4 _))⟩

theorem laid_met (os : Os) : laidMet Tryd.prog Rows.terminalSessionsRow.laid ((laidWorld os).forCall (fun _ _ => 0) ⟨#[], #[.string ⟨#[]⟩, .string ⟨#[]⟩, .string ⟨#[]⟩], []⟩).memory :=
  laidMet_of_run' 8 (by kernel_rfl) (by kernel_rfl)
theorem reads (os : Os) {H : Type} (enc : TypeId × Value → H) : ∃ places, DataW.whole enc Tryd.prog ((laidWorld os).forCall (fun _ _ => 0) ⟨#[], #[.string ⟨#[]⟩, .string ⟨#[]⟩, .string ⟨#[]⟩], []⟩).memory Tryd.f6.params.toList Rows.terminalSessionsSpec.vars false #[Value.string ⟨#[]⟩, .string ⟨#[]⟩, .string ⟨#[]⟩].toList 8 = some ([.lit (.string []), .lit (.string []), .lit (.string [])], [], places) :=
  ⟨[], by kernel_rfl⟩

set_option maxRecDepth 100000 in
theorem lifted (os : Os) (started : os.Started) (H : Type) (enc : TypeId × Value → H) (F : Stop.Interp) :
    ReturnsInHanded {} Tryd.checked os 6 .any ((OpenSpec.ofChange Rows.terminalSessionsSpec).preRow enc Tryd.prog Tryd.f6 Rows.terminalSessionsRow.domain false Rows.terminalSessionsRow.laid) (((OpenSpec.ofChange Rows.terminalSessionsSpec).at F).post enc Tryd.prog Tryd.f6 false true false false) := by
  obtain ⟨places, hx⟩ := reads os enc
  refine returnsInHanded_of_row (C := Tryd.checked) (s := OpenSpec.ofChange Rows.terminalSessionsSpec) own started (by kernel_rfl) Tryd.func6
    (witness_row_at (enc := enc) (C := Tryd.checked) false (laidWorld os) #[.string ⟨#[]⟩, .string ⟨#[]⟩, .string ⟨#[]⟩] rfl (by kernel_rfl) (by kernel_rfl) (by kernel_rfl)
      (OpenSpec.preRow_of_cond 8 hx (by kernel_rfl) (fun k hk => by cases hk) (by kernel_rfl) (laid_met os))) ?_
  intro W base args ds gs before hval hW _ _ _ hL _ _
  exact contract H enc W base args ds gs before hval hW hL

theorem said : Rows.TerminalSessionsSaid :=
  OpenClaim.holds_of_cond 6 Tryd.f6 rfl rfl rfl rfl rfl rfl rfl ⟨rfl, rfl, rfl, rfl, rfl⟩ rfl rfl rfl rfl rfl (by kernel_rfl) Tryd.func6 (by kernel_rfl)
    (of_decide_eq_true (by kernel_rfl)) (by unfold Func.isWrapper; first | (rw [if_pos (by decide +kernel)]; kernel_rfl) | (rw [if_neg (by decide +kernel)]; exact ⟨rfl, rfl⟩))
    (fun os started H enc _ F => by rw [OpenClaim.pre_eq_preRow]; exact lifted os started H enc F)

theorem plain (f : FuncId) (fn : Func) (hf : Tryd.pinned.checked.prog.funcNamed "replevin/replevinlaw36.TerminalSessions" = some f) (hfn : Tryd.pinned.checked.prog.funcs[f]? = some fn) :
    false = Tryd.pinned.checked.prog.looks [] ∧ ∀ (j : Nat) t, fn.params[j]? = some t → Tryd.pinned.checked.prog.wantsStandIn t = false := by
  obtain rfl : f = 6 := Option.some.inj ((show Tryd.prog.funcNamed "replevin/replevinlaw36.TerminalSessions" = some 6 by kernel_rfl).symm.trans hf) |>.symm
  obtain rfl : fn = Tryd.f6 := (Option.some.inj (Tryd.func6.symm.trans hfn)).symm
  refine ⟨by kernel_rfl, fun j t ht => ?_⟩
  rw [Tryd.params6] at ht
  obtain rfl : t = 9 := by simpa using Array.mem_of_getElem? ht
  exact (show Tryd.prog.wantsStandIn 9 = false by kernel_rfl)

theorem card : Rows.TerminalSessionsCardSaid :=
  Claim7.holds_tied_plain_at .later [] _ _ _ _ said (fun _ h => by cases h) (by kernel_rfl) (fun _ h => by cases h) terminalSessions_row_tie rfl ⟨rfl, rfl⟩ (by kernel_rfl) rfl plain (by kernel_rfl)

end terminalSessions
end Go.Proofs.YtmknhokjpmjkkaaDoor
