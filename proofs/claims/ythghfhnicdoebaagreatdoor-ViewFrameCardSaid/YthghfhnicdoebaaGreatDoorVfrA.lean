/- Law 24, plain: a view of another base beside the reference. -/
import Derived.Test.YthghfhnicdoebaaGreatDoorIsA
import Derived.Test.YthghfhnicdoebaaGreatDoorHolA
namespace Go.Proofs.YthghfhnicdoebaaGreatDoor
open Go.RowKit

/-- A view of the base f with the reads rs and the calls cs. -/
def VG (f : NameT → Option ByteArray) (rs : List NameT) (cs : List ChangeT) : AV := ⟨f, rs.foldl (fun m n => aSet m n ⟨n, (f n).getD ⟨#[]⟩, (f n).isNone⟩) [], cs⟩
def Agree (f : NameT → Option ByteArray) (l : List (NameT × ByteArray)) (rs : List NameT) : Prop := ∀ n ∈ rs, f n = getL cmpN l n
theorem VG_reads {f : NameT → Option ByteArray} {l : List (NameT × ByteArray)} {rs : List NameT} (h : Agree f l rs) (cs : List ChangeT) : (VG f rs cs).reads = rd l rs := by
  show rs.foldl _ [] = rs.foldl _ []
  induction rs using rev_ind with
  | h0 => rfl
  | h rs x ih =>
    rw [List.foldl_append, List.foldl_append, ih (fun n hn => h n (List.mem_append_left _ hn))]
    simp only [List.foldl_cons, List.foldl_nil, rdc, h x (List.mem_append_right _ (List.mem_singleton.2 rfl))]
theorem got_ofG {f : NameT → Option ByteArray} {l : List (NameT × ByteArray)} {rs : List NameT} {cs : List ChangeT} (h : ∀ c ∈ cs, c.absent = true → c.value = ⟨#[]⟩) (n : NameT) (ha : Agree f l (getR l rs cs n).1) : gotA (VG f rs cs) n = (getR l rs cs n).2 := by
  unfold gotA getR at *
  by_cases he : checkE n ≠ 0
  · rw [if_pos he, if_pos he]
  · rw [if_neg he] at ha
    rw [if_neg he, if_neg he]
    unfold avGet
    cases hl : lastCall cs n with
    | none =>
      rw [hl] at ha
      have hn := ha n (List.mem_append_right _ (List.mem_singleton.2 rfl))
      simp only [VG, hl, hn]
    | some c =>
      simp only [VG, hl]
      have := h c (last_mem hl)
      obtain ⟨cn, cv, ca⟩ := c
      cases ca with
      | true => rw [this rfl]; rfl
      | false => rfl
theorem seen_ofG {f : NameT → Option ByteArray} {rs : List NameT} {cs : List ChangeT} (l : List (NameT × ByteArray)) (n : NameT) : seenA (VG f rs cs) n = VG f (getR l rs cs n).1 cs := by
  unfold seenA getR
  split
  · rfl
  · unfold avSeen
    cases hl : lastCall cs n with
    | none => simp only [VG, hl, List.foldl_append, List.foldl_cons, List.foldl_nil]
    | some c =>
      simp only [VG, hl]
      split <;> rfl
theorem step_ofG {f : NameT → Option ByteArray} {rs : List NameT} {cs : List ChangeT} (l : List (NameT × ByteArray)) (o : OpV) : stepA (VG f rs cs) o = VG f (stepR l rs cs o).1 (stepR l rs cs o).2 := by
  unfold stepA stepR
  split
  · exact seen_ofG l _
  split
  · unfold putA callR
    split <;> rfl
  split
  · unfold putA callR
    split <;> rfl
  split
  · dsimp only
    unfold rolA rolR
    by_cases h : o.n < 0 ∨ (cs.length : Int) < o.n
    · rw [if_pos (show o.n < 0 ∨ ((VG f rs cs).calls.length : Int) < o.n from h), if_pos h]
    · rw [if_neg (show ¬ (o.n < 0 ∨ ((VG f rs cs).calls.length : Int) < o.n) from h), if_neg h]
      rfl
  · rfl
theorem stepR_mono {l : List (NameT × ByteArray)} {rs : List NameT} {cs : List ChangeT} {o : OpV} {n : NameT} (h : n ∈ rs) : n ∈ (stepR l rs cs o).1 := by
  unfold stepR
  split
  · dsimp only
    unfold getR
    split
    · exact h
    · split
      · split <;> exact h
      · exact List.mem_append_left _ h
  split
  · exact h
  split
  · exact h
  split <;> exact h
theorem runR_mono {l : List (NameT × ByteArray)} {fo : Nat → OpV} {k m : Nat} (hk : k ≤ m) {n : NameT} (h : n ∈ (runR l fo k).1) : n ∈ (runR l fo m).1 := by
  induction m with
  | zero => rwa [Nat.le_zero.1 hk] at h
  | succ m ih =>
    by_cases he : k = m + 1
    · rwa [he] at h
    · exact stepR_mono (ih (by omega))
/-- Do, upon a view of another base. -/
theorem pvf_do {w0 w : World} {b M k : Nat} {f : NameT → Option ByteArray} {l : List (NameT × ByteArray)} {G : Nat → Prop} {q : List NameT × List ChangeT} {ab ar ac : Option Addr} {nb nr nc kb kr kc : Nat} (h : PVU w0 w b M (VG f q.1 q.2) l G q (.slice ab nb kb) (.slice ar nr kr) (.slice ac nc kc)) (hl : LOk l 12) (hi : PInv q.1 q.2 k) (hk : k ≤ 60) (o : OpV) (hkd : o.kd ≤ 255) (h1 : o.c.name.owner.size ≤ 9223372036854775807) (h2 : o.c.name.text.size ≤ 9223372036854775807) (h3 : o.c.value.size ≤ 9223372036854775807) (ha : Agree f l (stepR l q.1 q.2 (shortO o)).1) :
    Calls Tryz.prog 11 #[.pointer (some ⟨b, 0, none⟩), .agg #[.slice ab nb kb, .slice ar nr kr, .slice ac nc kc], .agg #[.int .u8 o.kd, .int .i64 o.c.name.kind, .string o.c.name.owner, .int .i64 o.c.name.number, .int .i64 o.c.name.index, .string o.c.name.text, .string o.c.value, .bool o.c.absent, .int .i64 o.n]] w fun r w' =>
      ∃ a1 n1 c1 a2 n2 c2, r = .returned (.tuple #[.agg #[.slice ab nb kb, .slice a1 n1 c1, .slice a2 n2 c2], .bool true]) ∧ PVU w0 w' b M (VG f (stepR l q.1 q.2 (shortO o)).1 (stepR l q.1 q.2 (shortO o)).2) l G (stepR l q.1 q.2 (shortO o)) (.slice ab nb kb) (.slice a1 n1 c1) (.slice a2 n2 c2) ∧ (∀ k, G k → w'.heap[k]? = w.heap[k]?) ∧ (∀ k, (Value.slice a1 n1 c1).ownBlock = some k → (Value.slice ar nr kr).ownBlock = some k ∨ w.heap.size ≤ k) ∧ ∀ k, (Value.slice a2 n2 c2).ownBlock = some k → (Value.slice ac nc kc).ownBlock = some k ∨ w.heap.size ≤ k := by
  refine (pvu_do h hl hi hk o hkd h1 h2 h3 rfl (fun hkk => got_ofG hi.abs _ ?_)).mono ?_
  · have e : stepR l q.1 q.2 (shortO o) = ((getR l q.1 q.2 (shortO o).c.name).1, q.2) := if_pos hkk
    rw [e] at ha
    exact ha
  · rintro r w' ⟨a1, n1, c1, a2, n2, c2, rfl, h6, hk, f1, f2⟩
    rw [step_ofG l] at h6
    exact ⟨a1, n1, c1, a2, n2, c2, rfl, h6, hk, f1, f2⟩
theorem getL_val {l : List (NameT × ByteArray)} {n : NameT} {x : ByteArray} (h : getL cmpN l n = some x) : ∃ e ∈ l, e.2 = x := by
  induction l with
  | nil => simp [getL] at h
  | cons d es ih =>
    simp only [getL] at h
    split at h
    · cases h; exact ⟨d, List.mem_cons_self, rfl⟩
    · obtain ⟨e, he, hx⟩ := ih h
      exact ⟨e, List.mem_cons_of_mem _ he, hx⟩
theorem rdc_size {l : List (NameT × ByteArray)} {k : Nat} (hl : LOk l k) (n : NameT) : (rdc l n).value.size ≤ 70 := by
  show ((getL cmpN l n).getD ⟨#[]⟩).size ≤ 70
  cases hg : getL cmpN l n with
  | none => exact Nat.zero_le _
  | some x =>
    obtain ⟨e, he, rfl⟩ := getL_val hg
    exact (hl.e e he).2.2
theorem okC_rdc {f : NameT → Option ByteArray} {l : List (NameT × ByteArray)} {n : NameT} (h : f n = getL cmpN l n) : okC f (rdc l n) = true := by
  unfold okC
  show (match f n with | none => (rdc l n).absent | some x => !(rdc l n).absent && decide (x = (rdc l n).value)) = true
  rw [h]
  unfold rdc
  cases getL cmpN l n <;> simp
/-- The reads of a view hold in its base. -/
theorem holds_reads {f : NameT → Option ByteArray} {l : List (NameT × ByteArray)} {rs : List NameT} (h : Agree f l rs) : holdsB f ((sortR rs).map (rdc l)) = true := by
  unfold holdsB
  rw [List.all_eq_true]
  intro c hc
  obtain ⟨n, hn, rfl⟩ := List.mem_map.1 hc
  exact okC_rdc (h n (sortR_mem hn))
/-- A state with the reads agrees with the base in what was read. -/
theorem agree_apply (f : NameT → Option ByteArray) (l : List (NameT × ByteArray)) (rs : List NameT) : Agree (applyF f ((sortR rs).map (rdc l))) l rs := fun n hn => by
  have h1 : ((((sortR rs).map (rdc l))).map (·.name)).Nodup := (sorted_map rs (rdc l) (fun _ _ => rfl)).2
  have h2 : rdc l n ∈ (sortR rs).map (rdc l) := List.mem_map.2 ⟨n, (mem_sortR rs n).2 hn, rfl⟩
  have h3 := applyF_in h1 h2 f
  have h4 : (rdc l n).name = n := rfl
  rw [h4] at h3
  rw [h3]
  unfold rdc
  cases getL cmpN l n <;> simp
theorem reads_len {rs : List NameT} {cs : List ChangeT} {k : Nat} (h : PInv rs cs k) (l : List (NameT × ByteArray)) : ((sortR rs).map (rdc l)).length ≤ k := by
  rw [List.length_map]
  exact Nat.le_trans (sortR_len _) h.rl
theorem reads_ok {l : List (NameT × ByteArray)} {rs : List NameT} {cs : List ChangeT} {k : Nat} (hl : LOk l 12) (h : PInv rs cs k) : ∀ c ∈ (sortR rs).map (rdc l), CallOk c := fun c hc => by
  obtain ⟨n, hn, rfl⟩ := List.mem_map.1 hc
  have h1 := h.rf n (sortR_mem hn)
  exact ⟨nameOk_of h1.1 h1.2, Nat.le_trans (rdc_size hl n) (by decide)⟩
end Go.Proofs.YthghfhnicdoebaaGreatDoor
