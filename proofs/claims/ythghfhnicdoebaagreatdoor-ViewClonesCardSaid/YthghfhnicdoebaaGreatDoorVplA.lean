/- The view's functions upon any name and any mark; what an operation of law 24 leaves, plain. Law 24, plain: the view and the reference do the same. -/
import Derived.Test.YthghfhnicdoebaaGreatDoorErrA
import Derived.Test.YthghfhnicdoebaaGreatDoorRolA
import Derived.Test.YthghfhnicdoebaaGreatDoorRfL
import Derived.Test.YthghfhnicdoebaaGreatDoorShoA
namespace Go.Proofs.YthghfhnicdoebaaGreatDoor
open Go.RowKit

def seenA (V : AV) (n : NameT) : AV := if checkE n ≠ 0 then V else avSeen V n
def gotA (V : AV) (n : NameT) : ByteArray × Bool := if checkE n ≠ 0 then (⟨#[]⟩, false) else avGet V n
def putA (V : AV) (c : ChangeT) : AV × Int := if checkE c.name ≠ 0 then (V, 12) else (⟨V.base, V.reads, V.calls ++ [c]⟩, 0)
def rolA (V : AV) (m : Int) : AV × Int := if m < 0 ∨ (V.calls.length : Int) < m then (V, 2) else (⟨V.base, V.reads, V.calls.take m.toNat⟩, 0)

set_option maxRecDepth 100000 in
set_option maxHeartbeats 1000000 in
theorem rol_neg (h : VH) (V : AV) (m : Int) (w : World) (hv : ViewAt w h V) (hm : m < 0) :
    Calls Tryz.prog 34 #[.pointer (some ⟨h.b, 0, none⟩), .int .i64 m] w fun r w' => r = .returned (.int .i64 2) ∧ Below w.heap.size w w' := by
  obtain ⟨b, rm, lm, cv, sp, bs⟩ := h
  have c2 : w.cell? ⟨b, 2, none⟩ = some cv := cell_of_heap hv.heap 2
  obtain ⟨av, cap, hcv, -⟩ := row_form hv.calls
  dsimp only at hcv
  subst hcv
  clear hv
  go_enter Tryz.func34, Tryz.ntmps34
  go_wp2
  go_ret
  exact ⟨rfl, Below.refl _ _⟩
set_option maxRecDepth 100000 in
set_option maxHeartbeats 1000000 in
theorem rol_high (h : VH) (V : AV) (m : Int) (w : World) (hv : ViewAt w h V) (hm0 : ¬ m < 0) (hm : (V.calls.length : Int) < m) :
    Calls Tryz.prog 34 #[.pointer (some ⟨h.b, 0, none⟩), .int .i64 m] w fun r w' => r = .returned (.int .i64 2) ∧ Below w.heap.size w w' := by
  obtain ⟨b, rm, lm, cv, sp, bs⟩ := h
  have c2 : w.cell? ⟨b, 2, none⟩ = some cv := cell_of_heap hv.heap 2
  obtain ⟨av, cap, hcv, -⟩ := row_form hv.calls
  dsimp only at hcv
  subst hcv
  clear hv
  generalize V.calls.length = N at *
  go_enter Tryz.func34, Tryz.ntmps34
  go_wp2
  go_ret
  exact ⟨rfl, Below.refl _ _⟩
section
variable {w0 w : World} {b M : Nat} {V : AV} {G : Nat → Prop} (s : QM w0 w b M V G)
include s
theorem vGetA (n : NameT) (hf : FitN n) : Calls Tryz.prog 30 #[.pointer (some ⟨b, 0, none⟩), nameV n] w (QMP w0 b M (seenA V n) G w (.tuple #[.string (gotA V n).1, .bool (gotA V n).2])) := by
  unfold seenA gotA
  by_cases he : checkE n = 0
  · rw [if_neg (not_not_intro he), if_neg (not_not_intro he)]
    exact qmVGet s n (nameOk_of hf he)
  · rw [if_pos he, if_pos he]
    refine (vGet_bad b n w s.usages hf he).mono ?_
    rintro r w' ⟨rfl, hb⟩
    exact ⟨rfl, s.later hb, s.gk hb⟩
theorem vHasA (n : NameT) (hf : FitN n) : Calls Tryz.prog 33 #[.pointer (some ⟨b, 0, none⟩), nameV n] w (QMP w0 b M (seenA V n) G w (.bool (gotA V n).2)) := by
  unfold seenA gotA
  by_cases he : checkE n = 0
  · rw [if_neg (not_not_intro he), if_neg (not_not_intro he)]
    exact qmVHas s n (nameOk_of hf he)
  · rw [if_pos he, if_pos he]
    refine (vHas_bad b n w s.usages hf he).mono ?_
    rintro r w' ⟨rfl, hb⟩
    exact ⟨rfl, s.later hb, s.gk hb⟩
theorem vSetA (n : NameT) (hf : FitN n) (x : ByteArray) (hx : x.size ≤ 65536) (hlen : V.calls.length < 1000000) : Calls Tryz.prog 31 #[.pointer (some ⟨b, 0, none⟩), nameV n, .string x] w (QMP w0 b M (putA V ⟨n, x, false⟩).1 G w (.int .i64 (putA V ⟨n, x, false⟩).2)) := by
  unfold putA
  by_cases he : checkE n = 0
  · rw [if_neg (not_not_intro he)]
    exact qmVSet s n (nameOk_of hf he) x hx hlen
  · rw [if_pos he]
    refine (vSet_bad b n w s.usages hf he x).mono ?_
    rintro r w' ⟨rfl, hb⟩
    exact ⟨rfl, s.later hb, s.gk hb⟩
theorem vDelA (n : NameT) (hf : FitN n) (hlen : V.calls.length < 1000000) : Calls Tryz.prog 41 #[.pointer (some ⟨b, 0, none⟩), nameV n] w (QMP w0 b M (putA V ⟨n, ⟨#[]⟩, true⟩).1 G w (.int .i64 (putA V ⟨n, ⟨#[]⟩, true⟩).2)) := by
  unfold putA
  by_cases he : checkE n = 0
  · rw [if_neg (not_not_intro he)]
    exact qmVDel s n (nameOk_of hf he) hlen
  · rw [if_pos he]
    refine (vDel_bad b n w s.usages hf he).mono ?_
    rintro r w' ⟨rfl, hb⟩
    exact ⟨rfl, s.later hb, s.gk hb⟩
theorem vRolA (m : Int) : Calls Tryz.prog 34 #[.pointer (some ⟨b, 0, none⟩), .int .i64 m] w (QMP w0 b M (rolA V m).1 G w (.int .i64 (rolA V m).2)) := by
  unfold rolA
  obtain ⟨⟨h, hv, -, hb, -⟩, -⟩ := id s
  subst hb
  by_cases h0 : m < 0
  · rw [if_pos (.inl h0)]
    refine (rol_neg h V m w hv h0).mono ?_
    rintro r w' ⟨rfl, hb⟩
    exact ⟨rfl, s.later hb, s.gk hb⟩
  by_cases h1 : (V.calls.length : Int) < m
  · rw [if_pos (.inr h1)]
    refine (rol_high h V m w hv h0 h1).mono ?_
    rintro r w' ⟨rfl, hb⟩
    exact ⟨rfl, s.later hb, s.gk hb⟩
  rw [if_neg (by omega)]
  obtain ⟨k, rfl⟩ := Int.eq_ofNat_of_zero_le (Int.not_lt.1 h0)
  rw [Int.toNat_natCast]
  exact qmRollback s (by omega)
end
/-- Reference 24's Get, whatever the name. -/
theorem rGet24_any (w : World) (ab ar ac : Option Addr) (nb nr nc kb kr kc : Nat) (l : List (NameT × ByteArray)) (rs : List NameT) (cs : List ChangeT) (hb : RowK kE w (.slice ab nb kb) l) (hr : RowK kN w (.slice ar nr kr) rs) (hc : RowK kC w (.slice ac nc kc) cs) (b1 : Int) (b2 : ByteArray) (b3 b4 : Int) (b5 : ByteArray) (hf : FitN ⟨b1, b2, b3, b4, b5⟩) (hl1 : l.length ≤ 1000000) (hl2 : rs.length ≤ 100000) (hl3 : cs.length ≤ 1000000) (hs : SortL cmpN l) (hfe : ∀ e ∈ l, FitN e.1) :
    Calls Tryz.prog 39 #[.agg #[.slice ab nb kb, .slice ar nr kr, .slice ac nc kc], .agg #[.int .i64 b1, .string b2, .int .i64 b3, .int .i64 b4, .string b5]] w (RGetPost l rs cs ⟨b1, b2, b3, b4, b5⟩ (.slice ab nb kb) (.slice ar nr kr) (.slice ac nc kc) w) := by
  by_cases hq : checkE ⟨b1, b2, b3, b4, b5⟩ = 0
  · cases hlast : lastCall cs ⟨b1, b2, b3, b4, b5⟩ with
    | none => exact rg_new w ab ar ac nb nr nc kb kr kc l rs cs hr hc hb b1 b2 b3 b4 b5 hf hq hlast hl3 hl2 hl1 hs hfe
    | some c =>
      obtain ⟨⟨c1, c2, c3, c4, c5⟩, c6, c7⟩ := c
      cases c7 with
      | true => exact rg_absent w ab ar ac nb nr nc kb kr kc l rs cs hr hc b1 b2 b3 b4 b5 hf hq c1 c2 c3 c4 c5 c6 hlast hl3
      | false => exact rg_there w ab ar ac nb nr nc kb kr kc l rs cs hr hc b1 b2 b3 b4 b5 hf hq c1 c2 c3 c4 c5 c6 hlast hl3
  · exact rg_bad w ab ar ac nb nr nc kb kr kc l rs cs hr b1 b2 b3 b4 b5 hf hq
theorem RowK.kept {α : Type} {K : KindK α} {w w' : World} {v : Value} {xs : List α} (h : RowK K w v xs) (hk : ∀ k, v.ownBlock = some k → w'.heap[k]? = w.heap[k]?) : RowK K w' v xs := by
  rcases h with h | ⟨g, off, c, rfl, hc, h⟩
  · exact .inl h
  · exact .inr ⟨g, off, c, rfl, hc, fun j x hx i u hu => (World.cell?_of_block (a := ⟨g, off + j * K.S + i, none⟩) (hk g rfl)).trans (h j x hx i u hu)⟩
end Go.Proofs.YthghfhnicdoebaaGreatDoor

namespace Go.Proofs.YthghfhnicdoebaaGreatDoor
open Go.RowKit

structure OpV where
  kd : Nat
  c : ChangeT
  n : Int
instance : Inhabited OpV := ⟨⟨0, ⟨⟨0, ⟨#[]⟩, 0, 0, ⟨#[]⟩⟩, ⟨#[]⟩, false⟩, 0⟩⟩
def shortO (o : OpV) : OpV := ⟨o.kd, shortC o.c, o.n⟩
def stepA (V : AV) (o : OpV) : AV :=
  if o.kd % 8 ≤ 2 then seenA V o.c.name
  else if o.kd % 8 ≤ 4 then (putA V ⟨o.c.name, o.c.value, false⟩).1
  else if o.kd % 8 = 5 then (putA V ⟨o.c.name, ⟨#[]⟩, true⟩).1
  else if o.kd % 8 = 6 then (rolA V o.n).1
  else V
def stepR (l : List (NameT × ByteArray)) (rs : List NameT) (cs : List ChangeT) (o : OpV) : List NameT × List ChangeT :=
  if o.kd % 8 ≤ 2 then ((getR l rs cs o.c.name).1, cs)
  else if o.kd % 8 ≤ 4 then (rs, (callR cs ⟨o.c.name, o.c.value, false⟩).1)
  else if o.kd % 8 = 5 then (rs, (callR cs ⟨o.c.name, o.c.value, true⟩).1)
  else if o.kd % 8 = 6 then (rs, (rolR cs o.n).1)
  else (rs, cs)
def rdc (l : List (NameT × ByteArray)) (n : NameT) : ChangeT := ⟨n, (getL cmpN l n).getD ⟨#[]⟩, (getL cmpN l n).isNone⟩
def rd (l : List (NameT × ByteArray)) (rs : List NameT) : List (NameT × ChangeT) := rs.foldl (fun m n => aSet m n (rdc l n)) []
def VOf (l : List (NameT × ByteArray)) (rs : List NameT) (cs : List ChangeT) : AV := ⟨getL cmpN l, rd l rs, cs⟩
theorem put_call (V : AV) (c : ChangeT) : (putA V c).2 = (callR V.calls c).2 := by
  unfold putA callR
  split
  · rfl
  · split <;> rfl
theorem rol_rol (V : AV) (m : Int) : (rolA V m).2 = (rolR V.calls m).2 := by
  unfold rolA rolR
  split <;> rfl
theorem seenA_calls (V : AV) (n : NameT) : (seenA V n).calls = V.calls := by
  unfold seenA avSeen
  split
  · rfl
  · split <;> rfl
theorem last_mem {cs : List ChangeT} {n : NameT} {c : ChangeT} (h : lastCall cs n = some c) : c ∈ cs := by
  induction cs with
  | nil => cases h
  | cons d cs ih =>
    unfold lastCall at h
    split at h
    · rename_i x hx
      cases h
      exact List.mem_cons_of_mem _ (ih hx)
    · split at h
      · cases h; exact List.mem_cons_self
      · cases h
theorem got_of {l : List (NameT × ByteArray)} {rs : List NameT} {cs : List ChangeT} (h : ∀ c ∈ cs, c.absent = true → c.value = ⟨#[]⟩) (n : NameT) : gotA (VOf l rs cs) n = (getR l rs cs n).2 := by
  unfold gotA getR
  split
  · rfl
  · unfold avGet
    cases hl : lastCall cs n with
    | none => simp only [VOf, hl]
    | some c =>
      simp only [VOf, hl]
      have := h c (last_mem hl)
      obtain ⟨cn, cv, ca⟩ := c
      cases ca with
      | true => rw [this rfl]; rfl
      | false => rfl
theorem seen_of {l : List (NameT × ByteArray)} {rs : List NameT} {cs : List ChangeT} (n : NameT) : seenA (VOf l rs cs) n = VOf l (getR l rs cs n).1 cs := by
  unfold seenA getR
  split
  · rfl
  · unfold avSeen
    cases hl : lastCall cs n with
    | none => simp only [VOf, hl, rd, List.foldl_append, List.foldl_cons, List.foldl_nil, rdc]
    | some c =>
      simp only [VOf, hl]
      split <;> rfl
theorem rol_of {l : List (NameT × ByteArray)} {rs : List NameT} {cs : List ChangeT} (m : Int) : rolA (VOf l rs cs) m = (VOf l rs (rolR cs m).1, (rolR cs m).2) := by
  unfold rolA rolR
  by_cases h : m < 0 ∨ (cs.length : Int) < m
  · rw [if_pos (show m < 0 ∨ ((VOf l rs cs).calls.length : Int) < m from h), if_pos h]
  · rw [if_neg (show ¬ (m < 0 ∨ ((VOf l rs cs).calls.length : Int) < m) from h), if_neg h]
    rfl
theorem step_of {l : List (NameT × ByteArray)} {rs : List NameT} {cs : List ChangeT} (o : OpV) : stepA (VOf l rs cs) o = VOf l (stepR l rs cs o).1 (stepR l rs cs o).2 := by
  unfold stepA stepR
  split
  · exact seen_of _
  split
  · unfold putA callR
    split <;> rfl
  split
  · unfold putA callR
    split <;> rfl
  split
  · exact congrArg Prod.fst (rol_of _)
  · rfl
/-- What stands of the reads and the calls after k operations. -/
structure PInv (rs : List NameT) (cs : List ChangeT) (k : Nat) : Prop where
  rl : rs.length ≤ k
  cl : cs.length ≤ k
  cf : ∀ c ∈ cs, (c.absent = true → c.value = ⟨#[]⟩) ∧ FitN c.name ∧ checkE c.name = 0 ∧ c.value.size ≤ 70
  rf : ∀ n ∈ rs, FitN n ∧ checkE n = 0
theorem PInv.nil (k : Nat) : PInv [] [] k := ⟨Nat.zero_le _, Nat.zero_le _, (fun _ h => nomatch h), (fun _ h => nomatch h)⟩
theorem PInv.more {rs : List NameT} {cs : List ChangeT} {k m : Nat} (h : PInv rs cs k) (hk : k ≤ m) : PInv rs cs m := ⟨Nat.le_trans h.rl hk, Nat.le_trans h.cl hk, h.cf, h.rf⟩
theorem PInv.abs {rs : List NameT} {cs : List ChangeT} {k : Nat} (h : PInv rs cs k) : ∀ c ∈ cs, c.absent = true → c.value = ⟨#[]⟩ := fun c hc => (h.cf c hc).1
theorem PInv.put {rs : List NameT} {cs : List ChangeT} {k : Nat} (h : PInv rs cs k) {c : ChangeT} (hf : FitN c.name) (hx : c.value.size ≤ 70) : PInv rs (callR cs c).1 (k + 1) := by
  unfold callR
  split
  · exact h.more (Nat.le_succ _)
  rename_i he
  have he : checkE c.name = 0 := Decidable.of_not_not he
  have aux : ∀ d : ChangeT, d.name = c.name → (d.absent = true → d.value = ⟨#[]⟩) → d.value.size ≤ 70 → PInv rs (cs ++ [d]) (k + 1) := fun d h1 h2 h3 =>
    ⟨Nat.le_succ_of_le h.rl, by rw [List.length_append]; exact Nat.succ_le_succ h.cl, fun x hx => by
      rcases List.mem_append.1 hx with hx | hx
      · exact h.cf x hx
      · rw [List.mem_singleton.1 hx, h1]
        exact ⟨h2, hf, he, h3⟩, h.rf⟩
  split
  · exact aux ⟨c.name, ⟨#[]⟩, true⟩ rfl (fun _ => rfl) (by show (0 : Nat) ≤ 70; omega)
  · rename_i ha
    exact aux c rfl (fun e => absurd e ha) hx
theorem PInv.step {l : List (NameT × ByteArray)} {rs : List NameT} {cs : List ChangeT} {k : Nat} (h : PInv rs cs k) {o : OpV} (hf : FitN o.c.name) (hx : o.c.value.size ≤ 70) : PInv (stepR l rs cs o).1 (stepR l rs cs o).2 (k + 1) := by
  unfold stepR
  split
  · dsimp only
    unfold getR
    split
    · exact h.more (Nat.le_succ _)
    rename_i he
    have he : checkE o.c.name = 0 := Decidable.of_not_not he
    split
    · split <;> exact h.more (Nat.le_succ _)
    · exact ⟨by rw [List.length_append]; exact Nat.succ_le_succ h.rl, Nat.le_succ_of_le h.cl, h.cf, fun n hn => by
        rcases List.mem_append.1 hn with hn | hn
        · exact h.rf n hn
        · rw [List.mem_singleton.1 hn]; exact ⟨hf, he⟩⟩
  split
  · exact h.put hf hx
  split
  · exact h.put hf hx
  split
  · dsimp only
    unfold rolR
    split
    · exact h.more (Nat.le_succ _)
    · exact ⟨Nat.le_succ_of_le h.rl, by rw [List.length_take]; exact Nat.le_trans (Nat.min_le_right _ _) (Nat.le_succ_of_le h.cl), fun c hc => h.cf c (List.mem_of_mem_take hc), h.rf⟩
  · exact h.more (Nat.le_succ _)
/-- What short leaves fits. -/
theorem short_size (c : ChangeT) : (shortC c).value.size ≤ 70 := cutB_size _ _
end Go.Proofs.YthghfhnicdoebaaGreatDoor
