/- Comparisons of names, changes and results; Reads and Writes of one change. -/
import Derived.Test.YtemmeopaihmlcaaGreatDoorFraA
import Derived.Test.YtemmeopaihmlcaaGreatDoorSmeA
namespace Go.Proofs.YtemmeopaihmlcaaGreatDoor
open Go.RowKit

def neqNB (a b : NameT) : Bool := !decide (a = b)
theorem run_neq_name (w : World) (a1 : Int) (a2 : ByteArray) (a3 a4 : Int) (a5 : ByteArray) (b1 : Int) (b2 : ByteArray) (b3 b4 : Int) (b5 : ByteArray) : (binOp .neq 31 (.agg #[.int .i64 a1, .string a2, .int .i64 a3, .int .i64 a4, .string a5]) (.agg #[.int .i64 b1, .string b2, .int .i64 b3, .int .i64 b4, .string b5])).run Tryz.prog w = .ok (.bool (neqNB ⟨a1, a2, a3, a4, a5⟩ ⟨b1, b2, b3, b4, b5⟩)) w := by
  have h := run_equal_name w ⟨a1, a2, a3, a4, a5⟩ ⟨b1, b2, b3, b4, b5⟩
  simp only [nameV] at h
  simp only [binOp]
  simp [h, neqNB]
theorem neqNB_self (a : NameT) : neqNB a a = false := by simp [neqNB]
set_option maxRecDepth 100000 in
theorem run_equal_change (w : World) (a b : ChangeT) : (Op.equal 55 (changeV a) (changeV b)).run Tryz.prog w = .ok (decide (a = b)) w := by
  have hu : Tryz.prog.underlying 55 = some (.struct (Tryz.prog.fieldsOf 55)) := by kernel_rfl
  have hst : Tryz.prog.stoodInHeld 55 = false := by kernel_rfl
  simp only [Op.equal, Op.maxDepth, changeV]
  rw [run_equalIn_struct w 9999 _ _ _ hu hst]
  simp [go_sem, Tryz.underlying31, Tryz.underlying3, Tryz.underlying9, Tryz.underlying29, Tryz.underlying4]
  have hb : ∀ x y : ByteArray, x.toList = y.toList ↔ x = y := fun x y => by have := str_beq x y; rw [Bool.eq_iff_iff] at this; simpa using this
  obtain ⟨⟨a1, a2, a3, a4, a5⟩, a6, a7⟩ := a
  obtain ⟨⟨b1, b2, b3, b4, b5⟩, b6, b7⟩ := b
  simp only [hb, ChangeT.mk.injEq, NameT.mk.injEq]
  by_cases h1 : a1 = b1
  case neg => simp [h1]
  by_cases h2 : a2 = b2
  case neg => simp [h2]
  by_cases h3 : a3 = b3
  case neg => simp [h3]
  by_cases h4 : a4 = b4
  case neg => simp [h4]
  by_cases h5 : a5 = b5
  case neg => simp [h5]
  by_cases h6 : a6 = b6
  case neg => simp [h6]
  by_cases h7 : a7 = b7
  case neg => simp [h7]
  simp [h1, h2, h3, h4, h5, h6, h7]
def neqCB (a b : ChangeT) : Bool := !decide (a = b)
theorem run_neq_change (w : World) (a1 : Int) (a2 : ByteArray) (a3 a4 : Int) (a5 a6 : ByteArray) (a7 : Bool) (b1 : Int) (b2 : ByteArray) (b3 b4 : Int) (b5 b6 : ByteArray) (b7 : Bool) : (binOp .neq 55 (.agg #[.int .i64 a1, .string a2, .int .i64 a3, .int .i64 a4, .string a5, .string a6, .bool a7]) (.agg #[.int .i64 b1, .string b2, .int .i64 b3, .int .i64 b4, .string b5, .string b6, .bool b7])).run Tryz.prog w = .ok (.bool (neqCB ⟨⟨a1, a2, a3, a4, a5⟩, a6, a7⟩ ⟨⟨b1, b2, b3, b4, b5⟩, b6, b7⟩)) w := by
  have h := run_equal_change w ⟨⟨a1, a2, a3, a4, a5⟩, a6, a7⟩ ⟨⟨b1, b2, b3, b4, b5⟩, b6, b7⟩
  simp only [changeV] at h
  simp only [binOp]
  simp [h, neqCB]
theorem neqCB_self (a : ChangeT) : neqCB a a = false := by simp [neqCB]
def neqRB (a b : Int × Int × ByteArray × Int × Int × Int × ByteArray) : Bool := !decide (a = b)
theorem run_neq_res (w : World) (a0 a1 : Int) (a2 : ByteArray) (a3 a4 a5 : Int) (a6 : ByteArray) (b0 b1 : Int) (b2 : ByteArray) (b3 b4 b5 : Int) (b6 : ByteArray) : (binOp .neq 83 (.agg #[.int .i64 a0, .int .i64 a1, .string a2, .int .i64 a3, .int .i64 a4, .int .i64 a5, .string a6]) (.agg #[.int .i64 b0, .int .i64 b1, .string b2, .int .i64 b3, .int .i64 b4, .int .i64 b5, .string b6])).run Tryz.prog w = .ok (.bool (neqRB (a0, a1, a2, a3, a4, a5, a6) (b0, b1, b2, b3, b4, b5, b6))) w := by
  have h := run_equal_res w a0 a1 a2 a3 a4 a5 a6 b0 b1 b2 b3 b4 b5 b6
  simp only [binOp]
  simp [h, neqRB]
theorem neqRB_self (a : Int × Int × ByteArray × Int × Int × Int × ByteArray) : neqRB a a = false := by simp [neqRB]

/-- A slice of no change or of one. -/
def Sl1 (W : World) (a : Option Addr) (R : List ChangeT) : Prop := ∀ c, R = [c] → ∃ g, a = some ⟨g, 0, none⟩ ∧ W.cell? ⟨g, 0, none⟩ = some (.int .i64 c.name.kind) ∧ W.cell? ⟨g, 1, none⟩ = some (.string c.name.owner) ∧ W.cell? ⟨g, 2, none⟩ = some (.int .i64 c.name.number) ∧ W.cell? ⟨g, 3, none⟩ = some (.int .i64 c.name.index) ∧ W.cell? ⟨g, 4, none⟩ = some (.string c.name.text) ∧ W.cell? ⟨g, 5, none⟩ = some (.string c.value) ∧ W.cell? ⟨g, 6, none⟩ = some (.bool c.absent)
theorem Sl1.of {W : World} {v : Value} {R : List ChangeT} (h : RowC W v R) : ∃ a cap, v = .slice a R.length cap ∧ Sl1 W a R := by
  obtain ⟨a, cap, rfl, hc⟩ := h
  refine ⟨a, cap, rfl, fun c hR => ?_⟩
  subst hR
  obtain ⟨g, rfl, hg⟩ := hc 0 c rfl
  have h0 := fun j u hu => hg j u hu
  simp only [Nat.zero_mul, Nat.zero_add] at h0
  exact ⟨g, rfl, h0 0 _ rfl, h0 1 _ rfl, h0 2 _ rfl, h0 3 _ rfl, h0 4 _ rfl, h0 5 _ rfl, h0 6 _ rfl⟩
theorem Sl1.later {W W' : World} {a : Option Addr} {R : List ChangeT} (h : Sl1 W a R) (hb : Below W.heap.size W W') : Sl1 W' a R := fun c hR => by
  obtain ⟨g, rfl, h0, h1, h2, h3, h4, h5, h6⟩ := h c hR
  have hlt := World.block_lt_of_cell? W ⟨g, _, none⟩ h0
  exact ⟨g, rfl, ((bcell hb).1 g _ hlt).trans h0, ((bcell hb).1 g _ hlt).trans h1, ((bcell hb).1 g _ hlt).trans h2, ((bcell hb).1 g _ hlt).trans h3, ((bcell hb).1 g _ hlt).trans h4, ((bcell hb).1 g _ hlt).trans h5, ((bcell hb).1 g _ hlt).trans h6⟩
section
variable {w0 w : World} {b M : Nat} {V : AV} {G : Nat → Prop} (s : QM w0 w b M V G)
include s
theorem qmReads1 {R : List ChangeT} (hR : V.reads.map Prod.snd = R) (h1 : R.length ≤ 1) : Calls Tryz.prog 24 #[.pointer (some ⟨b, 0, none⟩)] w fun r w' => ∃ a cap, r = .returned (.slice a R.length cap) ∧ RowC w' (.slice a R.length cap) R ∧ Sl1 w' a R ∧ Below w.heap.size w w' ∧ QM w0 w' b M V G := by
  have hl : V.reads.length ≤ 1 := by rw [← hR, List.length_map] at h1; exact h1
  refine (qmReads s (by omega)).mono ?_
  rintro r w' ⟨v, cs, rfl, hr, hp, hs, hb, hq⟩
  rw [hR] at hp
  have hcs := perm_one hp h1
  subst hcs
  obtain ⟨a, cap, rfl, h⟩ := Sl1.of hr
  exact ⟨a, cap, rfl, hr, h, hb, hq⟩
theorem qmWrites1 {R : List ChangeT} (hR : writesU V.calls = R) (h1 : R.length ≤ 1) : Calls Tryz.prog 20 #[.pointer (some ⟨b, 0, none⟩)] w fun r w' => ∃ a cap, r = .returned (.slice a R.length cap) ∧ Sl1 w' a R ∧ Below w.heap.size w w' ∧ QM w0 w' b M V G := by
  refine (qmWrites s).mono ?_
  rintro r w' ⟨v, cs, rfl, hr, hp, hs, hb, hq⟩
  rw [hR] at hp
  have hcs := perm_one hp h1
  subst hcs
  obtain ⟨a, cap, rfl, h⟩ := Sl1.of hr
  exact ⟨a, cap, rfl, h, hb, hq⟩
end
/-- The case that do makes: what it reads and writes. -/
theorem doV_rw (f : NameT → Option ByteArray) (kd : Nat) (e n : Int) (s : ByteArray) (x : Bool) : ∃ R W, (doV ⟨f, [], []⟩ kd e n s x).1.reads.map Prod.snd = R ∧ writesU (doV ⟨f, [], []⟩ kd e n s x).1.calls = W ∧ (R = [] ∨ R = [seenOne f]) ∧ (W = [] ∨ ∃ v a, W = [⟨ofPipe oneM 2, v, a⟩]) ∧ ((doV ⟨f, [], []⟩ kd e n s x).2.err ≠ 0 → W = []) ∧
    (∀ g, (R = [] ∨ g (ofPipe oneM 2) = f (ofPipe oneM 2)) → (doV ⟨g, [], []⟩ kd e n s x).2 = (doV ⟨f, [], []⟩ kd e n s x).2 ∧ (doV ⟨g, [], []⟩ kd e n s x).1.reads.map Prod.snd = R ∧ writesU (doV ⟨g, [], []⟩ kd e n s x).1.calls = W) := by
  by_cases he : pEpochB e = true
  · have h := doV_seen he f kd n s x
    refine ⟨_, _, rfl, rfl, .inr (by rw [h.reads]; rfl), ?_, ?_, fun g hg => ?_⟩
    · rcases h.calls with h1 | ⟨_, v, a, h1⟩
      · exact .inl (by rw [h1]; rfl)
      · exact .inr ⟨v, a, by rw [h1]; rfl⟩
    · intro hq
      rcases h.calls with h1 | ⟨h0, _⟩
      · rw [h1]; rfl
      · exact absurd h0 hq
    · have hg' : g (ofPipe oneM 2) = f (ofPipe oneM 2) := hg.resolve_left (by rw [h.reads]; simp)
      rw [doV_dep hg']
      exact ⟨rfl, rfl, rfl⟩
  · have he' : pEpochB e = false := by simpa using he
    refine ⟨[], [], by rw [doV_bad he']; rfl, by rw [doV_bad he']; rfl, .inl rfl, .inl rfl, fun _ => rfl, fun g _ => ?_⟩
    rw [doV_bad he', doV_bad he']
    exact ⟨rfl, rfl, rfl⟩
end Go.Proofs.YtemmeopaihmlcaaGreatDoor
