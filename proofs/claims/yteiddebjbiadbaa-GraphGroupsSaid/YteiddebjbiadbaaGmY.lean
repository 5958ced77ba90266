/- graph: Components: the groups. -/
import Derived.Test.YteiddebjbiadbaaGmX
import Derived.Test.YteiddebjbiadbaaGmP
namespace Go.Proofs.Yteiddebjbiadbaa
open Go.RowKit Go.Shelf Gr
attribute [local go_sem] Oper.semAt_some

def gst (B : Nat → List Nat) (n : Nat) (l : List Nat) : List Nat × Nat := l.foldl (groupStep B n) (List.replicate n 0, 0)
theorem gst_snoc (B : Nat → List Nat) (n : Nat) (l : List Nat) (x : Nat) : gst B n (l ++ [x]) = groupStep B n (gst B n l) x := by unfold gst; rw [List.foldl_append]; rfl
theorem step_le (B : Nat → List Nat) (n : Nat) (st : List Nat × Nat) (x : Nat) : (groupStep B n st x).2 ≤ st.2 + 1 := by unfold groupStep; split <;> simp
theorem gst_le (B : Nat → List Nat) (n : Nat) (l : List Nat) : (gst B n l).2 ≤ l.length := by
  have : ∀ (l : List Nat) (st : List Nat × Nat), (l.foldl (groupStep B n) st).2 ≤ st.2 + l.length := by
    intro l
    induction l with
    | nil => intro st; exact Nat.le_refl _
    | cons x l ih =>
      intro st
      rw [List.foldl_cons, List.length_cons]
      have h1 := ih (groupStep B n st x)
      have h2 := step_le B n st x
      omega
  have h := this l (List.replicate n 0, 0)
  unfold gst
  simpa using h
/-- Components under way: the boxes of g, of the marks and of their number. -/
structure CmAt (w W : World) (s bm mg bc p n : Nat) (g : List Nat) (c : Nat) : Prop where
  low : Below w.heap.size w W
  gr : RowIs W s 25 [.pointer (some ⟨p, 0, none⟩)]
  m : RowIs W bm 30 [.slice (some ⟨mg, 0, none⟩) n n]
  row : MarkRow W mg g
  c : RowIs W bc 3 [.int .i64 (c : Int)]
  len : g.length = n
theorem CmAt.grown {w W W' : World} {s bm mg bc p n : Nat} {g : List Nat} {c : Nat} (h : CmAt w W s bm mg bc p n g c) {row : Option Nat} (hg : W.grownBy W' row) (hr : ∀ k, row = some k → w.heap.size ≤ k ∧ k ≠ s ∧ k ≠ bm ∧ k ≠ mg ∧ k ≠ bc) : CmAt w W' s bm mg bc p n g c :=
  ⟨below_grow h.low hg (Nat.le_refl _) (fun k hk => (hr k hk).1), RowIs.kept h.gr (hg.block s h.gr.lt (fun e => (hr s e.symm).2.1 rfl)), RowIs.kept h.m (hg.block bm h.m.lt (fun e => (hr bm e.symm).2.2.1 rfl)), RowIs.kept h.row (hg.block mg (RowIs.lt h.row) (fun e => (hr mg e.symm).2.2.2.1 rfl)), RowIs.kept h.c (hg.block bc h.c.lt (fun e => (hr bc e.symm).2.2.2.2 rfl)), h.len⟩
theorem CmAt.later {w W W' : World} {s bm mg bc p n : Nat} {g : List Nat} {c : Nat} (h : CmAt w W s bm mg bc p n g c) (hb : Below W.heap.size W W') : CmAt w W' s bm mg bc p n g c :=
  h.grown (grown_of_below hb none) (fun k e => by cases e)
end Go.Proofs.Yteiddebjbiadbaa
