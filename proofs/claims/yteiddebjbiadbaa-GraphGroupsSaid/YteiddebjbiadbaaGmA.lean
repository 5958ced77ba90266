/- Graphs in memory: the kinds of rows; a graph; has; the reference's Same. -/
import Derived.Test.YteiddebjbiadbaaKnl
import Derived.Test.YteiddebjbiadbaaGrG
import Derived.Lib.Hide
import Derived.WalkLawsBesides
import Derived.WalkSpells
import Derived.Deep.DrawnRows
import Derived.Deep.LoopGhost
import Derived.Deep.Cut
import Derived.Deep.CutRange
import Derived.Deep.CutBlock
import Derived.Deep.RegionHeld3
import Derived.Deep.RegionWith
import Derived.Laws.EntriesVeiled
import Derived.Deep.Quiet
import Derived.Deep.QuietTactic
namespace Go.Proofs.Yteiddebjbiadbaa
open Go.RowKit Gr
attribute [local go_sem ↓] Go.wp_at_zero Go.wp_at_succ

/-- Numbers. -/
def kInt : KindK Int where
  cells x := [.int .i64 x]
  S := 1
  T := 3
  sl := 30
  z := .int .i64 0
  B := 8
  len _ := rfl
  pos := by decide
  one x u hu := by simp at hu; rcases hu with rfl; rfl
  und := Try.underlying30
  info := by kernel_rfl
  zs := rfl
  hB := by decide
/-- Nodes. -/
def kNat : KindK Nat where
  cells x := [.int .i64 x]
  S := 1
  T := 3
  sl := 30
  z := .int .i64 0
  B := 8
  len _ := rfl
  pos := by decide
  one x u hu := by simp at hu; rcases hu with rfl; rfl
  und := Try.underlying30
  info := by kernel_rfl
  zs := rfl
  hB := by decide
/-- Edges. -/
def kEdge : KindK (Int × Int) where
  cells e := [.int .i64 e.1, .int .i64 e.2]
  S := 2
  T := 60
  sl := 45
  z := .agg #[.int .i64 0, .int .i64 0]
  B := 16
  len _ := rfl
  pos := by decide
  one x u hu := by simp at hu; rcases hu with rfl | rfl <;> rfl
  und := Try.underlying45
  info := by kernel_rfl
  zs := rfl
  hB := by decide
/-- Edges of the reference. -/
def kE : KindK (Int × Int) where
  cells e := [.int .i64 e.1, .int .i64 e.2]
  S := 2
  T := 71
  sl := 22
  z := .agg #[.int .i64 0, .int .i64 0]
  B := 16
  len _ := rfl
  pos := by decide
  one x u hu := by simp at hu; rcases hu with rfl | rfl <;> rfl
  und := Try.underlying22
  info := by kernel_rfl
  zs := rfl
  hB := by decide
/-- Rows of rows of numbers: address, length, capacity. -/
def kRow : KindK (Option Addr × Nat × Nat) where
  cells e := [.slice e.1 e.2.1 e.2.2]
  S := 1
  T := 30
  sl := 53
  z := .slice none 0 0
  B := 24
  len _ := rfl
  pos := by decide
  one x u hu := by simp at hu; rcases hu with rfl; rfl
  und := Try.underlying53
  info := by kernel_rfl
  zs := rfl
  hB := by decide
def ints (l : List Nat) : List Int := l.map (fun x : Nat => (x : Int))
theorem row_ints {w : World} {v : Value} {l : List Nat} : RowK kNat w v l ↔ RowK kInt w v (ints l) := by
  unfold RowK ints
  constructor
  · rintro (⟨h, rfl⟩ | ⟨g, off, c, h, hc, hx⟩)
    · exact .inl ⟨h, rfl⟩
    · refine .inr ⟨g, off, c, by rw [List.length_map]; exact h, by rw [List.length_map]; exact hc, fun j x hj i u hu => ?_⟩
      rw [List.getElem?_map] at hj
      obtain ⟨y, hy, rfl⟩ := Option.map_eq_some_iff.1 hj
      exact hx j y hy i u hu
  · rintro (⟨h, h2⟩ | ⟨g, off, c, h, hc, hx⟩)
    · exact .inl ⟨h, List.map_eq_nil_iff.1 h2⟩
    · rw [List.length_map] at h hc
      refine .inr ⟨g, off, c, h, hc, fun j x hj i u hu => hx j x (by rw [List.getElem?_map, hj]; rfl) i u hu⟩
/-- A row of numbers, element by element. -/
theorem RowK.int {w : World} {v : Value} {l : List Int} (h : RowK kInt w v l) : (v = .slice none 0 0 ∧ l = []) ∨ ∃ g off c, v = .slice (some ⟨g, off, none⟩) l.length c ∧ l.length ≤ c ∧ ∀ j x, l[j]? = some x → w.cell? ⟨g, off + j, none⟩ = some (.int .i64 x) := by
  rcases h with h | ⟨g, off, c, h, hc, hx⟩
  · exact .inl h
  · exact .inr ⟨g, off, c, h, hc, fun j x hj => by have := hx j x hj 0 _ rfl; simpa [kInt] using this⟩
/-- The rows behind a block. -/
def RowsAt (w : World) (g n : Nat) (A : Nat → List Nat) : Prop := ∀ i, i < n → ∃ v, w.cell? ⟨g, i, none⟩ = some v ∧ RowK kNat w v (A i)
theorem RowsAt.later {w w' : World} {g n : Nat} {A : Nat → List Nat} (h : RowsAt w g n A) (hb : Below w.heap.size w w') : RowsAt w' g n A := fun i hi => by
  obtain ⟨v, h1, h2⟩ := h i hi
  exact ⟨v, ((bcell hb).1 _ _ (World.block_lt_of_cell? w _ h1)).trans h1, h2.later hb⟩
/-- A graph at p: n nodes, the nodes behind and ahead of each. -/
structure GAt (w : World) (p n : Nat) (A B : Nat → List Nat) : Prop where
  le : n ≤ 4096
  at_ : ∃ ga gb, w.cell? ⟨p, 0, none⟩ = some (.slice (some ⟨ga, 0, none⟩) n n) ∧ w.cell? ⟨p, 1, none⟩ = some (.slice (some ⟨gb, 0, none⟩) n n) ∧ RowsAt w ga n A ∧ RowsAt w gb n B
theorem GAt.later {w w' : World} {p n : Nat} {A B : Nat → List Nat} (h : GAt w p n A B) (hb : Below w.heap.size w w') : GAt w' p n A B := by
  obtain ⟨h0, ga, gb, h1, h2, h3, h4⟩ := h
  exact ⟨h0, ga, gb, ((bcell hb).1 _ _ (World.block_lt_of_cell? w _ h1)).trans h1, ((bcell hb).1 _ _ (World.block_lt_of_cell? w _ h2)).trans h2, h3.later hb, h4.later hb⟩
theorem made_row (w : World) (z : Value) (n : Nat) (T : TypeId) : RowIs (w.alloc (.cells (madeCells #[z] n) T)) w.heap.size T (List.replicate n z) := by
  unfold RowIs
  rw [heap_alloc_new]
  have : madeCells #[z] n = (List.replicate n z).toArray := by rw [← toList_madeCells_one]
  rw [this]
theorem below_alloc {B : Nat} {w w1 : World} (h : Below B w w1) (hB : B ≤ w1.heap.size) (o : Obj) : Below B w (w1.alloc o) := h.alloc hB o
/-- A number is a node. -/
def nodeB (n : Nat) (x : Int) : Bool := decide (0 ≤ x) && decide (x < n)
theorem has_any {w : World} {p n : Nat} {A B : Nat → List Nat} (h : GAt w p n A B) (x : Int) :
    Calls Try.prog 37 #[.pointer (some ⟨p, 0, none⟩), .int .i64 x] w fun r w' => r = .returned (.bool (nodeB n x)) ∧ w' = w := by
  obtain ⟨-, ga, gb, hc, -⟩ := h
  go_enter Try.func37, Try.ntmps37
  unfold nodeB
  by_cases h0 : 0 ≤ x
  · rw [decide_eq_true h0]
    go_wp2
    go_ret
    simp
  · rw [decide_eq_false h0]
    go_wp2
    go_ret
    simp
theorem has_nil (w : World) (x : Int) : Calls Try.prog 37 #[.pointer none, .int .i64 x] w fun r w' => r = .returned (.bool false) ∧ w' = w := by
  go_enter Try.func37, Try.ntmps37
  go_wp2
  go_ret
  simp
theorem Below.dn {B : Nat} {w w1 : World} (h : Below B w w1) (k : Nat) : Below B w (w1.drewN k) := ⟨h.os, h.tape, h.output, h.size, h.block⟩
theorem list_eq_at {la lb : List Int} (hl : la.length = lb.length) (h : ∀ j, j < la.length → la[j]? = lb[j]?) : la = lb := by
  apply List.ext_getElem? 
  intro j
  by_cases hj : j < la.length
  · exact h j hj
  · rw [List.getElem?_eq_none (by omega), List.getElem?_eq_none (by omega)]
/-- The reference's Same. -/
theorem same_any {w : World} {va vb : Value} {la lb : List Int} (ha : RowK kInt w va la) (hb : RowK kInt w vb lb) (hs : la.length ≤ 1000000) :
    Calls Try.prog 15 #[va, vb] w fun r w' => r = .returned (.bool (decide (la = lb))) ∧ Below w.heap.size w w' := by
  obtain ⟨aa, ca, rfl, -⟩ := ha.form
  obtain ⟨ab, cb, rfl, -⟩ := hb.form
  have Ha := Lib.hid ha
  have Hb := Lib.hid hb
  clear ha hb
  go_enter Try.func15, Try.ntmps15
  by_cases hl : la.length = lb.length
  · have Hl := Lib.hid hl
    have hli : ((la.length : Int) = (lb.length : Int)) := by omega
    clear hl
    go_wp2
    go_loopg [5] la.length (fun gk iv wr => ∃ k : Nat, k + gk = la.length ∧ iv = .int .i64 k ∧ Below w.heap.size w wr ∧ Hid (∀ j, j < k → la[j]? = lb[j]?))
    case atStart => exact ⟨0, by omega, rfl, Below.refl _ _, fun j hj => absurd hj (by omega)⟩
    case round =>
      obtain ⟨k, hk, rfl, hw, hj⟩ := hrel
      by_cases hlt : k < la.length
      · obtain ⟨x, hx⟩ : ∃ x, la[k]? = some x := ⟨_, List.getElem?_eq_getElem hlt⟩
        obtain ⟨y, hy⟩ : ∃ y, lb[k]? = some y := ⟨_, List.getElem?_eq_getElem (by have := Hl.out; omega)⟩
        obtain ⟨ga, oa, rfl, hca⟩ := ((Ha.out.later hw).at_ hx)
        obtain ⟨gb, ob, rfl, hcb⟩ := ((Hb.out.later hw).at_ hy)
        have c1 := hca 0 _ rfl
        have c2 := hcb 0 _ rfl
        simp only [kInt, Nat.mul_one, Nat.add_zero] at c1 c2
        have hlb : (k : Int) < (lb.length : Int) := by have := Hl.out; omega
        have hla : (k : Int) < (la.length : Int) := by omega
        have Hlt := Lib.hid hlt
        have Hk := Lib.hid hk
        go_upto_region 6 with fail
        go_quiet (fail)
        by_cases hxy : x = y
        · go_wp2
          go_roundg (la.length - (k + 1))
          case measure => have := Hlt.out; have := Hk.out; omega
          case rel => exact ⟨k + 1, by have := Hlt.out; have := Hk.out; have := Hl.out; omega, by go_num, Below.dn hw _, fun j hj2 => by
            rcases (by omega : j < k ∨ j = k) with q | q
            · exact hj.out j q
            · rw [q, hx, hy, hxy]⟩
        · have hne : decide (la = lb) = false := decide_eq_false (fun e => hxy (by rw [e, hy] at hx; exact (Option.some.inj hx).symm))
          go_wp2
          go_ret
          rw [hne]
          exact ⟨rfl, Below.dn hw _⟩
      · have he : la = lb := list_eq_at Hl.out (fun j hj2 => hj.out j (by omega))
        have heq : decide (la = lb) = true := decide_eq_true he
        go_wp2
        go_ret
        rw [heq]
        exact ⟨rfl, hw⟩
  · have hli : ¬ ((la.length : Int) = (lb.length : Int)) := by omega
    have hne : decide (la = lb) = false := decide_eq_false (fun e => hl (by rw [e]))
    rw [hne]
    go_wp2
    go_ret
    exact ⟨rfl, Below.refl _ _⟩
end Go.Proofs.Yteiddebjbiadbaa
