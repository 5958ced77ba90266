/- Law 31, plain: DescriptorFrame: what an operation does hangs on what it reads. -/
import Derived.Test.YtfchfjipkggnkaaGreatDoorDscAf
import Derived.Test.YtfchfjipkggnkaaGreatDoorDscU
namespace Go.Proofs.YtfchfjipkggnkaaGreatDoor
open Go.RowKit

/-- The names of tables that may be read: the valid ones. -/
def GoodD (n : NameT) : Prop := ∃ m : ByteArray, validB m = true ∧ m.size ≤ 70368744177664 ∧ n = ofTab m
theorem goodD_ok {n : NameT} (h : GoodD n) : NameOk n := by
  obtain ⟨m, h1, h2, rfl⟩ := h
  exact nameOk_tab ⟨h1, h2⟩
section
variable {P : NameT → Prop} {who : ByteArray}
theorem dOne_inV (h : validB who = true → P (ofTab who)) (f : List OpnT → ResD × ChD) : (dOne who f).within P := by
  unfold dOne
  split
  · trivial
  · rename_i hv
    have hp := h (by simpa using hv)
    refine ⟨hp, fun g => ?_⟩
    dsimp only
    split
    · trivial
    · exact putD_in hp _
theorem dMake_inV (h : validB who = true → P (ofTab who)) : (dMake who).within P := by
  unfold dMake
  split
  · trivial
  · rename_i hv
    have hp := h (by simpa using hv)
    refine ⟨hp, fun g => ?_⟩
    dsimp only
    split
    · trivial
    · exact ⟨hp, trivial⟩
theorem dCopy_inV {too : ByteArray} (h : validB who = true → P (ofTab who)) (h2 : validB too = true → P (ofTab too)) : (dCopy who too).within P := by
  unfold dCopy
  split
  · trivial
  · rename_i hv
    have hp := h (by cases hw : validB who with | true => rfl | false => exact absurd (.inl hw) hv)
    have hq := h2 (by cases hw : validB too with | true => rfl | false => exact absurd (.inr hw) hv)
    refine ⟨hp, fun g => ?_⟩
    dsimp only
    split
    · trivial
    · refine ⟨hq, fun g2 => ?_⟩
      dsimp only
      split
      · trivial
      · exact ⟨hq, trivial⟩
end
theorem pTree_good (o : OpD) : (pTree o).within GoodD := by
  have h1 : validB (nmD (o.who % 4)) = true → GoodD (ofTab (nmD (o.who % 4))) := fun h => ⟨_, h, nmD_size _, rfl⟩
  have h2 : validB (nmD (o.to % 4)) = true → GoodD (ofTab (nmD (o.to % 4))) := fun h => ⟨_, h, nmD_size _, rfl⟩
  unfold pTree
  split
  · exact dMake_inV h1
  split
  · exact dCopy_inV h1 h2
  split
  · exact dOne_inV h1 _
  split
  · exact dOne_inV h1 _
  split
  · exact dOne_inV h1 _
  split
  · unfold dAdd; split
    · trivial
    · exact dOne_inV h1 _
  split
  · unfold dPut; split
    · trivial
    · exact dOne_inV h1 _
  split
  · exact dOne_inV h1 _
  split
  · exact dOne_inV h1 _
  split
  · exact dOne_inV h1 _
  · exact dOne_inV h1 _
/-- What a view records of a name that it reads. -/
def seenD (f : NameT → Option ByteArray) (n : NameT) : ChangeT := ⟨n, (f n).getD ⟨#[]⟩, (f n).isNone⟩
theorem run_seenD {α : Type} (t : Vp α) : ∀ V : AV, (∀ p ∈ V.reads, p.2 = seenD V.base p.1) → ∀ p ∈ (t.run V).1.reads, p.2 = seenD V.base p.1 := by
  induction t with
  | ret x => intro V h; exact h
  | get n k ih =>
    intro V h
    have hb : (avSeen V n).base = V.base := by unfold avSeen; split <;> rfl
    have := ih (avGet V n) (avSeen V n) (fun p hp => ?_)
    · rw [hb] at this; exact this
    · rw [hb]
      unfold avSeen at hp
      split at hp
      · exact h p hp
      · rcases aSet_mem _ _ _ hp with e | e
        · rw [e]; rfl
        · exact h p e
  | put c k ih => intro V h; exact ih ⟨V.base, V.reads, V.calls ++ [c]⟩ h
theorem apply_other {cs : List ChangeT} {n : NameT} : ∀ {g : NameT → Option ByteArray}, (∀ c ∈ cs, c.name ≠ n) → applyF g cs n = g n := by
  induction cs with
  | nil => intro g _; rfl
  | cons c cs ih =>
    intro g h
    have h1 := h c List.mem_cons_self
    show applyF (applyC g c) cs n = g n
    rw [ih (fun d hd => h d (List.mem_cons_of_mem _ hd))]
    unfold applyC
    split <;> simp [delF, setF, Ne.symm h1]
theorem apply_seenD {f : NameT → Option ByteArray} {cs : List ChangeT} : ∀ {g : NameT → Option ByteArray}, (cs.map (·.name)).Nodup → (∀ c ∈ cs, c = seenD f c.name) → ∀ c ∈ cs, applyF g cs c.name = f c.name := by
  induction cs with
  | nil => intro g _ _ c hc; cases hc
  | cons d cs ih =>
    intro g hn hs c hc
    rw [List.map_cons, List.nodup_cons] at hn
    show applyF (applyC g d) cs c.name = f c.name
    rcases List.mem_cons.1 hc with rfl | hc
    · rw [apply_other (fun e he h => hn.1 (List.mem_map.2 ⟨e, he, h⟩))]
      have e := hs c List.mem_cons_self
      have e2 : c.value = (f c.name).getD ⟨#[]⟩ := congrArg ChangeT.value e
      have e3 : c.absent = (f c.name).isNone := congrArg ChangeT.absent e
      unfold applyC
      cases hf : f c.name with
      | none => rw [hf] at e3; rw [if_pos (show c.absent = true from e3)]; simp [delF]
      | some v => rw [hf] at e2 e3; rw [if_neg (show ¬ c.absent = true by rw [show c.absent = false from e3]; decide)]; simp [setF, e2]
    · exact ih hn.2 (fun e he => hs e (List.mem_cons_of_mem _ he)) c hc
/-- An operation upon a state that agrees with the reads of the first one. -/
theorem frame_plainD (o : OpD) {f : NameT → Option ByteArray} {cs : List ChangeT} (hv : ∀ n v, f n = some v → v.size ≤ 65536) (hr : ReadsOk ((pTree o).run ⟨f, [], []⟩).1.reads) (hp : cs.Perm (((pTree o).run ⟨f, [], []⟩).1.reads.map Prod.snd)) :
    (∀ c ∈ cs, CallOk c) ∧ ∀ g : NameT → Option ByteArray, ((pTree o).run ⟨applyF g cs, [], []⟩).2 = ((pTree o).run ⟨f, [], []⟩).2 ∧ ((pTree o).run ⟨applyF g cs, [], []⟩).1.reads = ((pTree o).run ⟨f, [], []⟩).1.reads ∧ ((pTree o).run ⟨applyF g cs, [], []⟩).1.calls = ((pTree o).run ⟨f, [], []⟩).1.calls := by
  have hse := run_seenD (pTree o) ⟨f, [], []⟩ (by simp)
  have hgd := ((pTree o).run_touch (P := GoodD) ⟨f, [], []⟩ (pTree_good o) (by simp) (by simp)).1
  have hnd : (cs.map (·.name)).Nodup := by
    have e : (((pTree o).run ⟨f, [], []⟩).1.reads.map Prod.snd).map (·.name) = ((pTree o).run ⟨f, [], []⟩).1.reads.map Prod.fst := by
      rw [List.map_map]
      exact List.map_congr_left (fun p hp => (hr.2 p hp).1)
    have := (hp.map (·.name)).nodup_iff.2 (by rw [e]; exact hr.1)
    exact this
  have hcs : ∀ c ∈ cs, c = seenD f c.name ∧ GoodD c.name := fun c hc => by
    obtain ⟨p, hpm, rfl⟩ := List.mem_map.1 (hp.mem_iff.1 hc)
    rw [(hr.2 p hpm).1]
    exact ⟨hse p hpm, hgd p hpm⟩
  refine ⟨fun c hc => ⟨goodD_ok (hcs c hc).2, ?_⟩, fun g => ?_⟩
  · have e : c.value = (f c.name).getD ⟨#[]⟩ := congrArg ChangeT.value (hcs c hc).1
    rw [e]
    cases hf : f c.name with
    | none => show (0 : Nat) ≤ 65536; decide
    | some v => exact hv _ _ hf
  · refine (pTree o).run_frame ⟨f, [], []⟩ ⟨applyF g cs, [], []⟩ rfl rfl (fun n hn => ?_)
    obtain ⟨p, hpm, rfl⟩ := List.mem_map.1 hn
    have h1 := apply_seenD (g := g) hnd (fun c hc => (hcs c hc).1) p.2 (hp.mem_iff.2 (List.mem_map.2 ⟨p, hpm, rfl⟩))
    rw [(hr.2 p hpm).1] at h1
    exact h1
end Go.Proofs.YtfchfjipkggnkaaGreatDoor
