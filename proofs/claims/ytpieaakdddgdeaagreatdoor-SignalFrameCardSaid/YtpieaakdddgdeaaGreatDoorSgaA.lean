/- SignalApart, plain: what an operation reads and writes. -/
import Derived.Test.YtpieaakdddgdeaaGreatDoorSgkB
import Derived.Test.YtpieaakdddgdeaaGreatDoorRdsE
import Derived.Test.YtpieaakdddgdeaaGreatDoorNeqC
namespace Go.Proofs.YtpieaakdddgdeaaGreatDoor
open Go.RowKit

theorem lastCall_in {cs : List ChangeT} {n : NameT} {c : ChangeT} (h : lastCall cs n = some c) : c ∈ cs := by
  induction cs with
  | nil => cases h
  | cons d cs ih =>
    unfold lastCall at h
    split at h
    · rename_i e he
      cases h
      exact List.mem_cons_of_mem _ (ih he)
    · split at h
      · cases h; exact List.mem_cons_self
      · cases h
theorem writes_in {cs : List ChangeT} {c : ChangeT} (h : c ∈ writesU cs) : c ∈ cs := lastCall_in (writes_mem.1 h)
theorem QM.rdk {w0 w : World} {b M : Nat} {V : AV} {G : Nat → Prop} (s : QM w0 w b M V G) : ReadsOk V.reads := by
  obtain ⟨⟨h, hv, _⟩, _⟩ := s
  exact hv.rdk
theorem two_names {l : List NameT} {x y : NameT} (hn : l.Nodup) (h : ∀ n ∈ l, n = x ∨ n = y) : l.length ≤ 2 := by
  match l, hn, h with
  | [], _, _ => simp
  | [_], _, _ => simp
  | [_, _], _, _ => simp
  | a :: b :: c :: r, hn, h =>
    exfalso
    simp only [List.nodup_cons, List.mem_cons, not_or] at hn
    obtain ⟨⟨h1, h2, _⟩, ⟨h3, _⟩, _⟩ := hn
    have ha := h a (by simp)
    have hb := h b (by simp)
    have hc := h c (by simp)
    rcases ha with rfl | rfl <;> rcases hb with rfl | rfl <;> rcases hc with rfl | rfl <;> simp_all
theorem apart_plain (f : NameT → Option ByteArray) (kd wh to : Nat) (sg nn : Int) (is : Bool) :
    (∀ p ∈ (sCall ⟨f, [], []⟩ kd wh to sg nn is).1.reads, Pend2 (whoS wh) (whoS to) p.1) ∧ (∀ c ∈ (sCall ⟨f, [], []⟩ kd wh to sg nn is).1.calls, Pend2 (whoS wh) (whoS to) c.name) ∧
      ((sCall ⟨f, [], []⟩ kd wh to sg nn is).2.e ≠ 0 → (sCall ⟨f, [], []⟩ kd wh to sg nn is).1.calls = []) ∧ (sCall ⟨f, [], []⟩ kd wh to sg nn is).1.calls.length ≤ 1 := by
  have h := (sCallT kd wh to sg nn is).run_touch ⟨f, [], []⟩ (sCallT_in kd wh to sg nn is) (by simp) (by simp)
  rw [sCallT_run] at h
  obtain ⟨ds, h1, h2⟩ := sCall_fit ⟨f, [], []⟩ kd wh to sg nn is
  refine ⟨h.1, h.2, fun he => ?_, ?_⟩
  · rw [h1]
    rcases h2 with h2 | h2
    · rw [h2]; rfl
    · exact absurd h2.1 he
  · rw [h1]
    rcases h2 with h2 | ⟨_, m, h2 | ⟨x, _, h2⟩⟩ <;> rw [h2] <;> simp
/-- What the law looks at. -/
theorem apart_names {f : NameT → Option ByteArray} {kd wh to : Nat} {sg nn : Int} {is : Bool} (hr : ReadsOk (sCall ⟨f, [], []⟩ kd wh to sg nn is).1.reads) {c1 c2 : List ChangeT} (h1 : c1.Perm ((sCall ⟨f, [], []⟩ kd wh to sg nn is).1.reads.map Prod.snd)) (h2 : c2.Perm (writesU (sCall ⟨f, [], []⟩ kd wh to sg nn is).1.calls)) :
    (∀ c ∈ c1 ++ c2, Pend2 (whoS wh) (whoS to) c.name) ∧ c1.length ≤ 2 ∧ ((sCall ⟨f, [], []⟩ kd wh to sg nn is).2.e ≠ 0 → c2 = []) ∧ c2.length ≤ 1 := by
  obtain ⟨p1, p2, p3, p4⟩ := apart_plain f kd wh to sg nn is
  refine ⟨fun c hc => ?_, ?_, fun he => ?_, ?_⟩
  · rcases List.mem_append.1 hc with h | h
    · obtain ⟨p, hp, rfl⟩ := List.mem_map.1 (h1.mem_iff.1 h)
      rw [(hr.2 p hp).1]
      exact p1 p hp
    · exact p2 c (writes_in (h2.mem_iff.1 h))
  · rw [h1.length_eq, List.length_map, ← List.length_map (f := Prod.fst)]
    refine two_names (x := ofPendN (whoS wh)) (y := ofPendN (whoS to)) hr.1 (fun n hn => ?_)
    obtain ⟨p, hp, rfl⟩ := List.mem_map.1 hn
    exact p1 p hp
  · rw [p3 he] at h2
    exact List.Perm.eq_nil h2
  · rw [h2.length_eq]
    have hz : writesU (sCall ⟨f, [], []⟩ kd wh to sg nn is).1.calls = [] ∨ ∃ c, (sCall ⟨f, [], []⟩ kd wh to sg nn is).1.calls = [c] := by
      match hq : (sCall ⟨f, [], []⟩ kd wh to sg nn is).1.calls, p4 with
      | [], _ => exact .inl rfl
      | [c], _ => exact .inr ⟨c, rfl⟩
      | _ :: _ :: _, h => simp at h
    rcases hz with hz | ⟨c, hz⟩
    · rw [hz]; simp
    · rw [hz]; exact Nat.le_refl 1
end Go.Proofs.YtpieaakdddgdeaaGreatDoor
