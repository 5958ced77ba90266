/- Plain: orders as Go's comparing functions give them. -/
namespace Go.Proofs.YtemmeopaihmlcaaGreatDoor

structure CmpOk {α : Type} (c : α → α → Int) : Prop where
  refl : ∀ a, c a a = 0
  eq : ∀ a b, c a b = 0 → a = b
  anti : ∀ a b, c b a = - c a b
  trans : ∀ a b d, c a b < 0 → c b d < 0 → c a d < 0

def cmpI (x y : Int) : Int := if x < y then -1 else if y < x then 1 else 0
theorem cmpI_ok : CmpOk cmpI where
  refl a := by simp [cmpI]
  eq a b h := by unfold cmpI at h; split at h; cases h; split at h; cases h; omega
  anti a b := by unfold cmpI; repeat' split <;> omega
  trans a b d h1 h2 := by unfold cmpI at *; repeat' split at * <;> omega

/-- First by one, then by another one. -/
def cmpL {α β : Type} (c : α → α → Int) (d : β → β → Int) (x y : α × β) : Int := if c x.1 y.1 ≠ 0 then c x.1 y.1 else d x.2 y.2
theorem cmpL_ok {α β : Type} {c : α → α → Int} {d : β → β → Int} (hc : CmpOk c) (hd : CmpOk d) : CmpOk (cmpL c d) where
  refl a := by simp [cmpL, hc.refl, hd.refl]
  eq a b h := by
    unfold cmpL at h
    by_cases h1 : c a.1 b.1 ≠ 0
    · rw [if_pos h1] at h; exact absurd h h1
    · rw [if_neg h1] at h
      exact Prod.ext (hc.eq _ _ (by omega)) (hd.eq _ _ h)
  anti a b := by
    unfold cmpL
    have h1 := hc.anti a.1 b.1
    have h2 := hd.anti a.2 b.2
    by_cases h : c a.1 b.1 = 0
    · rw [if_neg (by omega), if_neg (by omega)]; exact h2
    · rw [if_pos (by omega), if_pos h]; exact h1
  trans a b e h1 h2 := by
    unfold cmpL at *
    by_cases x1 : c a.1 b.1 = 0
    · rw [if_neg (by omega)] at h1
      have := hc.eq _ _ x1
      by_cases x2 : c b.1 e.1 = 0
      · rw [if_neg (by omega)] at h2
        have h3 := hc.eq _ _ x2
        rw [this, h3, hc.refl, if_neg (by omega)]
        exact hd.trans _ _ _ h1 h2
      · rw [if_pos x2] at h2
        rw [this, if_pos x2]; exact h2
    · rw [if_pos x1] at h1
      by_cases x2 : c b.1 e.1 = 0
      · have h3 := hc.eq _ _ x2
        rw [← h3, if_pos x1]; exact h1
      · rw [if_pos x2] at h2
        have := hc.trans _ _ _ h1 h2
        rw [if_pos (by omega)]; exact this
theorem cmpOn_ok {α β : Type} {c : β → β → Int} (f : α → β) (hf : ∀ a b, f a = f b → a = b) (hc : CmpOk c) : CmpOk (fun a b => c (f a) (f b)) where
  refl _ := hc.refl _
  eq _ _ h := hf _ _ (hc.eq _ _ h)
  anti _ _ := hc.anti _ _
  trans _ _ _ := hc.trans _ _ _

/-- Lists, element by element. -/
def cmpIL : List Int → List Int → Int
  | [], [] => 0
  | [], _ :: _ => -1
  | _ :: _, [] => 1
  | a :: s, b :: t => if a < b then -1 else if b < a then 1 else cmpIL s t
theorem cmpIL_ok : CmpOk cmpIL where
  refl a := by induction a with
    | nil => rfl
    | cons x s ih => simp [cmpIL, ih]
  eq a b h := by
    induction a generalizing b with
    | nil => cases b with
      | nil => rfl
      | cons y t => simp [cmpIL] at h
    | cons x s ih => cases b with
      | nil => simp [cmpIL] at h
      | cons y t =>
        simp only [cmpIL] at h
        split at h
        · cases h
        · split at h
          · cases h
          · rw [ih t h, show x = y by omega]
  anti a b := by
    induction a generalizing b with
    | nil => cases b <;> simp [cmpIL]
    | cons x s ih => cases b with
      | nil => simp [cmpIL]
      | cons y t =>
        simp only [cmpIL]
        have := ih t
        repeat' split <;> omega
  trans a b d h1 h2 := by
    induction a generalizing b d with
    | nil => cases b with
      | nil => simp [cmpIL] at h1
      | cons y t => cases d with
        | nil => simp [cmpIL] at h2
        | cons z u => simp [cmpIL]
    | cons x s ih => cases b with
      | nil => simp [cmpIL] at h1
      | cons y t => cases d with
        | nil => simp [cmpIL] at h2
        | cons z u =>
          simp only [cmpIL] at *
          have := ih t u
          repeat' split at * <;> first | omega | (exact this h1 h2)
theorem CmpOk.lt {α : Type} {c : α → α → Int} (h : CmpOk c) {a b : α} : 0 < c a b ↔ c b a < 0 := by have := h.anti a b; omega
theorem CmpOk.ne {α : Type} {c : α → α → Int} (h : CmpOk c) {a b : α} (hl : c a b < 0) : a ≠ b := fun e => by rw [e, h.refl] at hl; omega
theorem CmpOk.zero {α : Type} {c : α → α → Int} (h : CmpOk c) {a b : α} : c a b = 0 ↔ a = b := ⟨h.eq a b, fun e => by rw [e, h.refl]⟩
end Go.Proofs.YtemmeopaihmlcaaGreatDoor
