/- Plain: orders as Go's comparing functions give them. Plain: sorted lists of entries, and balanced trees that hold them. -/
namespace Go.Proofs.YtfchfjipkggnkaaGreatDoor

structure CmpOk {α : Type} (c : α → α → Int) : Prop where
  refl : ∀ a, c a a = 0
  eq : ∀ a b, c a b = 0 → a = b
  anti : ∀ a b, c b a = - c a b
  trans : ∀ a b d, c a b < 0 → c b d < 0 → c a d < 0

def cmpI (x y : Int) : Int := if x < y then -1 else if y < x then 1 else 0
theorem cmpI_ok : CmpOk cmpI where
  refl a := by simp [cmpI]
  eq a b h := by unfold cmpI at h; split at h; cases h; split at h; cases h; omega
  anti a b := by unfold cmpI; repeat' split <;> omega
  trans a b d h1 h2 := by unfold cmpI at *; repeat' split at * <;> omega

/-- First by one, then by another one. -/
def cmpL {α β : Type} (c : α → α → Int) (d : β → β → Int) (x y : α × β) : Int := if c x.1 y.1 ≠ 0 then c x.1 y.1 else d x.2 y.2
theorem cmpL_ok {α β : Type} {c : α → α → Int} {d : β → β → Int} (hc : CmpOk c) (hd : CmpOk d) : CmpOk (cmpL c d) where
  refl a := by simp [cmpL, hc.refl, hd.refl]
  eq a b h := by
    unfold cmpL at h
    by_cases h1 : c a.1 b.1 ≠ 0
    · rw [if_pos h1] at h; exact absurd h h1
    · rw [if_neg h1] at h
      exact Prod.ext (hc.eq _ _ (by omega)) (hd.eq _ _ h)
  anti a b := by
    unfold cmpL
    have h1 := hc.anti a.1 b.1
    have h2 := hd.anti a.2 b.2
    by_cases h : c a.1 b.1 = 0
    · rw [if_neg (by omega), if_neg (by omega)]; exact h2
    · rw [if_pos (by omega), if_pos h]; exact h1
  trans a b e h1 h2 := by
    unfold cmpL at *
    by_cases x1 : c a.1 b.1 = 0
    · rw [if_neg (by omega)] at h1
      have := hc.eq _ _ x1
      by_cases x2 : c b.1 e.1 = 0
      · rw [if_neg (by omega)] at h2
        have h3 := hc.eq _ _ x2
        rw [this, h3, hc.refl, if_neg (by omega)]
        exact hd.trans _ _ _ h1 h2
      · rw [if_pos x2] at h2
        rw [this, if_pos x2]; exact h2
    · rw [if_pos x1] at h1
      by_cases x2 : c b.1 e.1 = 0
      · have h3 := hc.eq _ _ x2
        rw [← h3, if_pos x1]; exact h1
      · rw [if_pos x2] at h2
        have := hc.trans _ _ _ h1 h2
        rw [if_pos (by omega)]; exact this
theorem cmpOn_ok {α β : Type} {c : β → β → Int} (f : α → β) (hf : ∀ a b, f a = f b → a = b) (hc : CmpOk c) : CmpOk (fun a b => c (f a) (f b)) where
  refl _ := hc.refl _
  eq _ _ h := hf _ _ (hc.eq _ _ h)
  anti _ _ := hc.anti _ _
  trans _ _ _ := hc.trans _ _ _

/-- Lists, element by element. -/
def cmpIL : List Int → List Int → Int
  | [], [] => 0
  | [], _ :: _ => -1
  | _ :: _, [] => 1
  | a :: s, b :: t => if a < b then -1 else if b < a then 1 else cmpIL s t
theorem cmpIL_ok : CmpOk cmpIL where
  refl a := by induction a with
    | nil => rfl
    | cons x s ih => simp [cmpIL, ih]
  eq a b h := by
    induction a generalizing b with
    | nil => cases b with
      | nil => rfl
      | cons y t => simp [cmpIL] at h
    | cons x s ih => cases b with
      | nil => simp [cmpIL] at h
      | cons y t =>
        simp only [cmpIL] at h
        split at h
        · cases h
        · split at h
          · cases h
          · rw [ih t h, show x = y by omega]
  anti a b := by
    induction a generalizing b with
    | nil => cases b <;> simp [cmpIL]
    | cons x s ih => cases b with
      | nil => simp [cmpIL]
      | cons y t =>
        simp only [cmpIL]
        have := ih t
        repeat' split <;> omega
  trans a b d h1 h2 := by
    induction a generalizing b d with
    | nil => cases b with
      | nil => simp [cmpIL] at h1
      | cons y t => cases d with
        | nil => simp [cmpIL] at h2
        | cons z u => simp [cmpIL]
    | cons x s ih => cases b with
      | nil => simp [cmpIL] at h1
      | cons y t => cases d with
        | nil => simp [cmpIL] at h2
        | cons z u =>
          simp only [cmpIL] at *
          have := ih t u
          repeat' split at * <;> first | omega | (exact this h1 h2)
theorem CmpOk.lt {α : Type} {c : α → α → Int} (h : CmpOk c) {a b : α} : 0 < c a b ↔ c b a < 0 := by have := h.anti a b; omega
theorem CmpOk.zero {α : Type} {c : α → α → Int} (h : CmpOk c) {a b : α} : c a b = 0 ↔ a = b := ⟨h.eq a b, fun e => by rw [e, h.refl]⟩
end Go.Proofs.YtfchfjipkggnkaaGreatDoor

namespace Go.Proofs.YtfchfjipkggnkaaGreatDoor
section
variable {K V : Type} (c : K → K → Int)

def getL (l : List (K × V)) (n : K) : Option V := match l with
  | [] => none
  | e :: r => if c n e.1 = 0 then some e.2 else getL r n
def putL (l : List (K × V)) (n : K) (v : V) : List (K × V) := match l with
  | [] => [(n, v)]
  | e :: r => if c n e.1 < 0 then (n, v) :: e :: r else if c n e.1 = 0 then (n, v) :: r else e :: putL r n v
def delL (l : List (K × V)) (n : K) : List (K × V) := l.filter fun e => decide (c n e.1 ≠ 0)
def SortL (l : List (K × V)) : Prop := l.Pairwise fun a b => c a.1 b.1 < 0

variable {c} (hc : CmpOk c)
include hc

omit hc in
theorem getL_lo {l : List (K × V)} {n : K} (h : ∀ e ∈ l, c n e.1 < 0) : getL c l n = none := by
  induction l with
  | nil => rfl
  | cons e r ih => rw [getL, if_neg (by have := h e (by simp); omega), ih fun x hx => h x (List.mem_cons_of_mem _ hx)]
theorem getL_hi {l : List (K × V)} {n : K} (h : ∀ e ∈ l, c e.1 n < 0) : getL c l n = none := by
  induction l with
  | nil => rfl
  | cons e r ih => rw [getL, if_neg (by have := h e (by simp); have := hc.anti e.1 n; omega), ih fun x hx => h x (List.mem_cons_of_mem _ hx)]
omit hc in
theorem getL_app {l r : List (K × V)} {n : K} : getL c (l ++ r) n = (getL c l n).or (getL c r n) := by
  induction l with
  | nil => rfl
  | cons e l ih =>
    rw [List.cons_append, getL, getL]
    by_cases h : c n e.1 = 0
    · rw [if_pos h, if_pos h]; rfl
    · rw [if_neg h, if_neg h, ih]
omit hc in
theorem sort_mid {a b : List (K × V)} {m : K × V} (h : SortL c (a ++ m :: b)) : SortL c a ∧ SortL c b ∧ (∀ e ∈ a, c e.1 m.1 < 0) ∧ (∀ e ∈ b, c m.1 e.1 < 0) := by
  have h' := List.pairwise_append.1 h
  have h2 := List.pairwise_cons.1 h'.2.1
  exact ⟨h'.1, h2.2, fun e he => h'.2.2 e he m (by simp), fun e he => h2.1 e he⟩
theorem getL_mid {a b : List (K × V)} {m : K × V} (h : SortL c (a ++ m :: b)) (n : K) :
    getL c (a ++ m :: b) n = if c n m.1 = 0 then some m.2 else if c n m.1 < 0 then getL c a n else getL c b n := by
  obtain ⟨_, _, h3, h4⟩ := sort_mid h
  rw [getL_app, getL]
  by_cases e : c n m.1 = 0
  · rw [if_pos e, if_pos e]
    have := hc.eq _ _ e
    subst this
    rw [getL_hi hc h3]; rfl
  · rw [if_neg e, if_neg e]
    by_cases l : c n m.1 < 0
    · rw [if_pos l, getL_lo (l := b) fun x hx => hc.trans _ _ _ l (h4 x hx)]; cases getL c a n <;> rfl
    · rw [if_neg l, getL_hi hc (l := a) fun x hx => hc.trans _ _ _ (h3 x hx) (by have := hc.anti n m.1; omega)]; rfl
omit hc in
theorem putL_lo {a b : List (K × V)} {m : K × V} {n : K} {v : V} (l : c n m.1 < 0) : putL c (a ++ m :: b) n v = putL c a n v ++ m :: b := by
  induction a with
  | nil => simp only [List.nil_append, putL]; rw [if_pos l]; rfl
  | cons e a ih =>
    simp only [List.cons_append, putL]
    rw [ih]
    split
    · rfl
    · split <;> rfl
theorem putL_past {a r : List (K × V)} {n : K} {v : V} (h : ∀ e ∈ a, c e.1 n < 0) : putL c (a ++ r) n v = a ++ putL c r n v := by
  induction a with
  | nil => rfl
  | cons e a ih =>
    have h1 := h e (by simp)
    have h2 := hc.anti e.1 n
    rw [List.cons_append, putL, if_neg (by omega), if_neg (by omega), ih fun x hx => h x (List.mem_cons_of_mem _ hx)]; rfl
theorem putL_eq {a b : List (K × V)} {m : K × V} {n : K} {v : V} (h : SortL c (a ++ m :: b)) (e : c n m.1 = 0) : putL c (a ++ m :: b) n v = a ++ (n, v) :: b := by
  obtain ⟨_, _, h3, h4⟩ := sort_mid h
  have := hc.eq _ _ e
  subst this
  rw [putL_past hc h3, putL, if_neg (by omega), if_pos e]
theorem putL_hi {a b : List (K × V)} {m : K × V} {n : K} {v : V} (h : SortL c (a ++ m :: b)) (l : 0 < c n m.1) : putL c (a ++ m :: b) n v = a ++ m :: putL c b n v := by
  obtain ⟨_, _, h3, h4⟩ := sort_mid h
  have l' := hc.lt.1 l
  rw [putL_past hc fun x hx => hc.trans _ _ _ (h3 x hx) l', putL, if_neg (by omega), if_neg (by omega)]
omit hc in
theorem putL_mem {l : List (K × V)} {n : K} {v : V} {e : K × V} (h : e ∈ putL c l n v) : e = (n, v) ∨ e ∈ l := by
  induction l with
  | nil => simp only [putL] at h; simp at h; exact .inl h
  | cons x l ih =>
    simp only [putL] at h
    split at h
    · simp at h ⊢; rcases h with h | h | h <;> simp [h]
    · split at h
      · simp at h ⊢; rcases h with h | h <;> simp [h]
      · simp at h ⊢; rcases h with h | h
        · simp [h]
        · rcases ih h with h | h <;> simp [h]
theorem sort_put {l : List (K × V)} (h : SortL c l) (n : K) (v : V) : SortL c (putL c l n v) := by
  induction l with
  | nil => exact List.pairwise_singleton _ _
  | cons x l ih =>
    obtain ⟨h1, h2⟩ := List.pairwise_cons.1 h
    simp only [putL]
    split
    · refine List.pairwise_cons.2 ⟨fun e he => ?_, h⟩
      rcases List.mem_cons.1 he with rfl | he
      · assumption
      · exact hc.trans _ _ _ (by assumption) (h1 e he)
    · split
      · have e1 := hc.eq n x.1 (by assumption)
        exact List.pairwise_cons.2 ⟨fun e he => by dsimp only; rw [e1]; exact h1 e he, h2⟩
      · refine List.pairwise_cons.2 ⟨fun e he => ?_, ih h2⟩
        rcases putL_mem he with rfl | he
        · exact hc.lt.1 (by dsimp only; omega)
        · exact h1 e he
theorem get_put {l : List (K × V)} (h : SortL c l) (n : K) (v : V) (k : K) : getL c (putL c l n v) k = if c k n = 0 then some v else getL c l k := by
  induction l with
  | nil => simp only [putL, getL]
  | cons x l ih =>
    obtain ⟨h1, h2⟩ := List.pairwise_cons.1 h
    simp only [putL]
    split
    · simp only [getL]
    · split
      · have e1 := hc.eq n x.1 (by assumption)
        simp only [getL]
        by_cases e : c k n = 0
        · rw [if_pos e, if_pos e]
        · rw [if_neg e, if_neg e, if_neg (by rw [← e1]; exact e)]
      · simp only [getL]
        rw [ih h2]
        by_cases e : c k x.1 = 0
        · have := hc.eq _ _ e
          rw [if_pos e, if_pos e, if_neg]
          intro e2
          have := hc.eq _ _ e2
          subst this
          contradiction
        · rw [if_neg e, if_neg e]
omit hc in
theorem put_length {l : List (K × V)} (n : K) (v : V) : (putL c l n v).length ≤ l.length + 1 := by
  induction l with
  | nil => simp [putL]
  | cons x l ih =>
    simp only [putL]
    split
    · simp
    · split <;> simp; exact ih
omit hc in
omit hc in
theorem sort_del {l : List (K × V)} (h : SortL c l) (n : K) : SortL c (delL c l n) := List.Pairwise.filter _ h
theorem get_del {l : List (K × V)} (n k : K) : getL c (delL c l n) k = if c k n = 0 then none else getL c l k := by
  unfold delL
  induction l with
  | nil => simp [getL]
  | cons x l ih =>
    simp only [List.filter_cons]
    by_cases e : c n x.1 = 0
    · have := hc.eq _ _ e
      subst this
      simp only [e, ne_eq, not_true, decide_false, Bool.false_eq_true, if_false, ih, getL]
      by_cases e2 : c k x.1 = 0
      · rw [if_pos e2, if_pos e2]
      · rw [if_neg e2, if_neg e2, if_neg e2]
    · simp only [e, ne_eq, not_false_eq_true, decide_true, if_true, getL, ih]
      by_cases e2 : c k x.1 = 0
      · have := hc.eq _ _ e2
        subst this
        rw [if_pos e2, if_neg (by have := hc.anti n x.1; omega), if_pos e2]
      · rw [if_neg e2, if_neg e2]
omit hc in
theorem del_none {l : List (K × V)} {n : K} (h : ∀ e ∈ l, c n e.1 ≠ 0) : delL c l n = l := by
  unfold delL
  exact List.filter_eq_self.2 fun e he => by simpa using h e he
omit hc in
theorem del_app (a b : List (K × V)) (n : K) : delL c (a ++ b) n = delL c a n ++ delL c b n := by simp [delL]
theorem del_lo {a b : List (K × V)} {m : K × V} {n : K} (h : SortL c (a ++ m :: b)) (l : c n m.1 < 0) : delL c (a ++ m :: b) n = delL c a n ++ m :: b := by
  obtain ⟨_, _, h3, h4⟩ := sort_mid h
  rw [del_app, del_none (l := m :: b)]
  intro e he
  rcases List.mem_cons.1 he with rfl | he
  · omega
  · have := hc.trans _ _ _ l (h4 e he); omega
theorem del_hi {a b : List (K × V)} {m : K × V} {n : K} (h : SortL c (a ++ m :: b)) (l : 0 < c n m.1) : delL c (a ++ m :: b) n = a ++ m :: delL c b n := by
  obtain ⟨_, _, h3, h4⟩ := sort_mid h
  have l' := hc.lt.1 l
  rw [del_app, del_none (l := a)]
  · unfold delL
    rw [List.filter_cons, if_pos (by simp; omega)]
  · intro e he
    have h5 := hc.trans _ _ _ (h3 e he) l'
    have := hc.anti e.1 n
    omega
theorem del_eq {a b : List (K × V)} {m : K × V} {n : K} (h : SortL c (a ++ m :: b)) (e : c n m.1 = 0) : delL c (a ++ m :: b) n = a ++ b := by
  obtain ⟨_, _, h3, h4⟩ := sort_mid h
  have := hc.eq _ _ e
  subst this
  rw [del_app, del_none (l := a)]
  · unfold delL
    rw [List.filter_cons, if_neg (by simp [e])]
    rw [List.filter_eq_self.2]
    intro x hx
    have := h4 x hx
    simp
    omega
  · intro x hx
    have h5 := h3 x hx
    have := hc.anti x.1 m.1
    omega
end

/-- A tree as it lies: the block of each node, its left part, its entry, its right part. -/
inductive Tr (K V : Type) where
  | nil : Tr K V
  | node (p : Nat) (l : Tr K V) (n : K) (v : V) (r : Tr K V) : Tr K V
variable {K V : Type}
def Tr.ht : Tr K V → Nat
  | .nil => 0
  | .node _ l _ _ r => 1 + max l.ht r.ht
def Tr.sz : Tr K V → Nat
  | .nil => 0
  | .node _ l _ _ r => 1 + l.sz + r.sz
def Tr.by_ (f : V → Nat) : Tr K V → Nat
  | .nil => 0
  | .node _ l _ v r => f v + l.by_ f + r.by_ f
def Tr.ents : Tr K V → List (K × V)
  | .nil => []
  | .node _ l n v r => l.ents ++ (n, v) :: r.ents
def Tr.avl : Tr K V → Prop
  | .nil => True
  | .node _ l _ _ r => l.avl ∧ r.avl ∧ l.ht ≤ r.ht + 1 ∧ r.ht ≤ l.ht + 1
def Tr.all (P : Nat → Prop) : Tr K V → Prop
  | .nil => True
  | .node p l _ _ r => P p ∧ l.all P ∧ r.all P

theorem Tr.sz_ents (t : Tr K V) : t.sz = t.ents.length := by
  induction t with
  | nil => rfl
  | node p l n v r h1 h2 => simp [Tr.sz, Tr.ents, h1, h2]; omega
theorem Tr.ht_sz (t : Tr K V) : t.ht ≤ t.sz := by
  induction t with
  | nil => exact Nat.le_refl _
  | node p l n v r h1 h2 => simp only [Tr.ht, Tr.sz]; omega
theorem Tr.by_le (f : V → Nat) (t : Tr K V) (B : Nat) (h : ∀ e ∈ t.ents, f e.2 ≤ B) : t.by_ f ≤ B * t.sz := by
  induction t with
  | nil => exact Nat.zero_le _
  | node p l n v r h1 h2 =>
    have a1 := h1 fun e he => h e (by simp [Tr.ents, he])
    have a2 := h2 fun e he => h e (by simp [Tr.ents, he])
    have a3 := h (n, v) (by simp [Tr.ents])
    simp only [Tr.by_, Tr.sz, Nat.mul_add, Nat.mul_one]
    dsimp only at a3
    omega

/-- What balance makes of two parts and an entry. -/
structure Bal (l : Tr K V) (n : K) (v : V) (r t : Tr K V) : Prop where
  avl : t.avl
  ents : t.ents = l.ents ++ (n, v) :: r.ents
  lo : max l.ht r.ht ≤ t.ht
  hi : t.ht ≤ 1 + max l.ht r.ht
  near : l.ht ≤ r.ht + 1 → r.ht ≤ l.ht + 1 → t.ht = 1 + max l.ht r.ht

theorem bal_join (p : Nat) {l r : Tr K V} (n : K) (v : V) (hl : l.avl) (hr : r.avl) (h1 : l.ht ≤ r.ht + 1) (h2 : r.ht ≤ l.ht + 1) : Bal l n v r (.node p l n v r) :=
  ⟨⟨hl, hr, h1, h2⟩, rfl, by simp only [Tr.ht]; omega, by simp only [Tr.ht]; omega, fun _ _ => rfl⟩
theorem bal_ll (p q b : Nat) {ll lr r : Tr K V} (m n : K) (u v : V) (hl : (Tr.node b ll m u lr).avl) (hr : r.avl) (h1 : (Tr.node b ll m u lr).ht = r.ht + 2) (h2 : lr.ht ≤ ll.ht) :
    Bal (.node b ll m u lr) n v r (.node p ll m u (.node q lr n v r)) := by
  obtain ⟨a1, a2, a3, a4⟩ := hl
  simp only [Tr.ht] at h1
  refine ⟨⟨a1, ⟨a2, hr, by omega, by omega⟩, ?_, ?_⟩, by simp [Tr.ents], ?_, ?_, ?_⟩ <;> simp only [Tr.ht] <;> omega
theorem bal_lr (p q s b d : Nat) {ll il ir r : Tr K V} (m i n : K) (u x v : V) (hl : (Tr.node b ll m u (.node d il i x ir)).avl) (hr : r.avl) (h1 : (Tr.node b ll m u (.node d il i x ir)).ht = r.ht + 2) (h2 : ll.ht < (Tr.node d il i x ir).ht) :
    Bal (.node b ll m u (.node d il i x ir)) n v r (.node p (.node q ll m u il) i x (.node s ir n v r)) := by
  obtain ⟨a1, ⟨b1, b2, b3, b4⟩, a3, a4⟩ := hl
  simp only [Tr.ht] at h1 h2 a3 a4
  refine ⟨⟨⟨a1, b1, by omega, by omega⟩, ⟨b2, hr, by omega, by omega⟩, ?_, ?_⟩, by simp [Tr.ents], ?_, ?_, ?_⟩ <;> simp only [Tr.ht] <;> omega
theorem bal_rr (p q b : Nat) {rl rr l : Tr K V} (m n : K) (u v : V) (hr : (Tr.node b rl m u rr).avl) (hl : l.avl) (h1 : (Tr.node b rl m u rr).ht = l.ht + 2) (h2 : rl.ht ≤ rr.ht) :
    Bal l n v (.node b rl m u rr) (.node p (.node q l n v rl) m u rr) := by
  obtain ⟨a1, a2, a3, a4⟩ := hr
  simp only [Tr.ht] at h1
  refine ⟨⟨⟨hl, a1, by omega, by omega⟩, a2, ?_, ?_⟩, by simp [Tr.ents], ?_, ?_, ?_⟩ <;> simp only [Tr.ht] <;> omega
theorem bal_rl (p q s b d : Nat) {rr il ir l : Tr K V} (m i n : K) (u x v : V) (hr : (Tr.node b (.node d il i x ir) m u rr).avl) (hl : l.avl) (h1 : (Tr.node b (.node d il i x ir) m u rr).ht = l.ht + 2) (h2 : rr.ht < (Tr.node d il i x ir).ht) :
    Bal l n v (.node b (.node d il i x ir) m u rr) (.node p (.node q l n v il) i x (.node s ir m u rr)) := by
  obtain ⟨⟨b1, b2, b3, b4⟩, a2, a3, a4⟩ := hr
  simp only [Tr.ht] at h1 h2 a3 a4
  refine ⟨⟨⟨hl, b1, by omega, by omega⟩, ⟨b2, a2, by omega, by omega⟩, ?_, ?_⟩, by simp [Tr.ents], ?_, ?_, ?_⟩ <;> simp only [Tr.ht] <;> omega

/-- What with makes of a tree. -/
structure Put (c : K → K → Int) (t : Tr K V) (n : K) (v : V) (t' : Tr K V) : Prop where
  avl : t'.avl
  ents : t'.ents = putL c t.ents n v
  lo : t.ht ≤ t'.ht
  hi : t'.ht ≤ t.ht + 1
theorem put_nil (c : K → K → Int) (p : Nat) (n : K) (v : V) : Put c .nil n v (.node p .nil n v .nil) := ⟨⟨trivial, trivial, Nat.zero_le _, Nat.zero_le _⟩, rfl, by simp [Tr.ht], by simp [Tr.ht]⟩
theorem put_eq {c : K → K → Int} (hc : CmpOk c) (p b : Nat) {l r : Tr K V} {m n : K} {u v : V} (hs : SortL c (Tr.node b l m u r).ents) (ha : (Tr.node b l m u r).avl) (he : c n m = 0) : Put c (.node b l m u r) n v (.node p l n v r) :=
  ⟨ha, (putL_eq hc hs he).symm, Nat.le_refl _, Nat.le_succ _⟩
theorem put_lo {c : K → K → Int} (b : Nat) {l r l' t' : Tr K V} {m n : K} {u v : V} (ha : (Tr.node b l m u r).avl) (he : c n m < 0) (hp : Put c l n v l') (hb : Bal l' m u r t') : Put c (.node b l m u r) n v t' := by
  obtain ⟨a1, a2, a3, a4⟩ := ha
  refine ⟨hb.avl, ?_, ?_, ?_⟩
  · rw [hb.ents, hp.ents, Tr.ents, putL_lo (m := (m, u)) he]
  all_goals
    have h1 := hp.lo; have h2 := hp.hi; have h3 := hb.lo; have h4 := hb.hi; have h5 := hb.near
    simp only [Tr.ht]
    by_cases x : l'.ht ≤ r.ht + 1
    · have := h5 x (by omega); omega
    · omega
theorem put_hi {c : K → K → Int} (hc : CmpOk c) (b : Nat) {l r r' t' : Tr K V} {m n : K} {u v : V} (hs : SortL c (Tr.node b l m u r).ents) (ha : (Tr.node b l m u r).avl) (he : 0 < c n m) (hp : Put c r n v r') (hb : Bal l m u r' t') : Put c (.node b l m u r) n v t' := by
  obtain ⟨a1, a2, a3, a4⟩ := ha
  refine ⟨hb.avl, ?_, ?_, ?_⟩
  · rw [hb.ents, hp.ents, Tr.ents, putL_hi (m := (m, u)) hc hs he]
  all_goals
    have h1 := hp.lo; have h2 := hp.hi; have h3 := hb.lo; have h4 := hb.hi; have h5 := hb.near
    simp only [Tr.ht]
    by_cases x : r'.ht ≤ l.ht + 1
    · have := h5 (by omega) x; omega
    · omega
/-- The parts of a tree from with's recursion lie near each other. -/
theorem put_near_lo {c : K → K → Int} {b : Nat} {l r l' : Tr K V} {m n : K} {u v : V} (ha : (Tr.node b l m u r).avl) (hp : Put c l n v l') : l'.ht ≤ r.ht + 2 ∧ r.ht ≤ l'.ht + 2 := by
  obtain ⟨a1, a2, a3, a4⟩ := ha
  have h1 := hp.lo; have h2 := hp.hi
  omega
theorem put_near_hi {c : K → K → Int} {b : Nat} {l r r' : Tr K V} {m n : K} {u v : V} (ha : (Tr.node b l m u r).avl) (hp : Put c r n v r') : l.ht ≤ r'.ht + 2 ∧ r'.ht ≤ l.ht + 2 := by
  obtain ⟨a1, a2, a3, a4⟩ := ha
  have h1 := hp.lo; have h2 := hp.hi
  omega

/-- What without makes of a tree. -/
structure Del (c : K → K → Int) (t : Tr K V) (n : K) (t' : Tr K V) : Prop where
  avl : t'.avl
  ents : t'.ents = delL c t.ents n
  lo : t'.ht ≤ t.ht
  hi : t.ht ≤ t'.ht + 1
theorem del_lo_t {c : K → K → Int} (hc : CmpOk c) (b : Nat) {l r l' t' : Tr K V} {m n : K} {u : V} (hs : SortL c (Tr.node b l m u r).ents) (ha : (Tr.node b l m u r).avl) (he : c n m < 0) (hp : Del c l n l') (hb : Bal l' m u r t') : Del c (.node b l m u r) n t' := by
  obtain ⟨a1, a2, a3, a4⟩ := ha
  refine ⟨hb.avl, ?_, ?_, ?_⟩
  · rw [hb.ents, hp.ents, Tr.ents, del_lo (m := (m, u)) hc hs he]
  all_goals
    have h1 := hp.lo; have h2 := hp.hi; have h3 := hb.lo; have h4 := hb.hi; have h5 := hb.near
    simp only [Tr.ht]
    by_cases x : r.ht ≤ l'.ht + 1
    · have := h5 (by omega) x; omega
    · omega
theorem del_hi_t {c : K → K → Int} (hc : CmpOk c) (b : Nat) {l r r' t' : Tr K V} {m n : K} {u : V} (hs : SortL c (Tr.node b l m u r).ents) (ha : (Tr.node b l m u r).avl) (he : 0 < c n m) (hp : Del c r n r') (hb : Bal l m u r' t') : Del c (.node b l m u r) n t' := by
  obtain ⟨a1, a2, a3, a4⟩ := ha
  refine ⟨hb.avl, ?_, ?_, ?_⟩
  · rw [hb.ents, hp.ents, Tr.ents, del_hi (m := (m, u)) hc hs he]
  all_goals
    have h1 := hp.lo; have h2 := hp.hi; have h3 := hb.lo; have h4 := hb.hi; have h5 := hb.near
    simp only [Tr.ht]
    by_cases x : l.ht ≤ r'.ht + 1
    · have := h5 x (by omega); omega
    · omega
theorem del_last {c : K → K → Int} (hc : CmpOk c) (b : Nat) {l : Tr K V} {m n : K} {u : V} (hs : SortL c (Tr.node b l m u .nil).ents) (ha : (Tr.node b l m u .nil).avl) (he : c n m = 0) : Del c (.node b l m u .nil) n l := by
  obtain ⟨a1, a2, a3, a4⟩ := ha
  refine ⟨a1, ?_, ?_, ?_⟩
  · rw [Tr.ents, del_eq (m := (m, u)) hc hs he]; simp [Tr.ents]
  all_goals simp only [Tr.ht] at *; omega
theorem del_mid {c : K → K → Int} (hc : CmpOk c) (b : Nat) {l r r' t' : Tr K V} {m n k : K} {u x : V} {es : List (K × V)} (hs : SortL c (Tr.node b l m u r).ents) (ha : (Tr.node b l m u r).avl) (he : c n m = 0) (hk : r.ents = (k, x) :: es) (hp : Del c r k r') (hb : Bal l k x r' t') : Del c (.node b l m u r) n t' := by
  obtain ⟨a1, a2, a3, a4⟩ := ha
  have hs' := sort_mid (m := (m, u)) hs
  refine ⟨hb.avl, ?_, ?_, ?_⟩
  · rw [hb.ents, hp.ents, Tr.ents, del_eq (m := (m, u)) hc hs he]
    have h2 : SortL c ([] ++ (k, x) :: es) := by rw [List.nil_append, ← hk]; exact hs'.2.1
    have := del_eq hc (m := (k, x)) (n := k) h2 (hc.refl _)
    rw [List.nil_append, ← hk] at this
    rw [this, hk]; rfl
  all_goals
    have h1 := hp.lo; have h2 := hp.hi; have h3 := hb.lo; have h4 := hb.hi; have h5 := hb.near
    simp only [Tr.ht]
    by_cases x : l.ht ≤ r'.ht + 1
    · have := h5 x (by omega); omega
    · omega
theorem del_near_lo {c : K → K → Int} {b : Nat} {l r l' : Tr K V} {m n : K} {u : V} (ha : (Tr.node b l m u r).avl) (hp : Del c l n l') : l'.ht ≤ r.ht + 2 ∧ r.ht ≤ l'.ht + 2 := by
  obtain ⟨a1, a2, a3, a4⟩ := ha
  have h1 := hp.lo; have h2 := hp.hi
  omega
theorem del_near_hi {c : K → K → Int} {b : Nat} {l r r' : Tr K V} {m n : K} {u : V} (ha : (Tr.node b l m u r).avl) (hp : Del c r n r') : l.ht ≤ r'.ht + 2 ∧ r'.ht ≤ l.ht + 2 := by
  obtain ⟨a1, a2, a3, a4⟩ := ha
  have h1 := hp.lo; have h2 := hp.hi
  omega
end Go.Proofs.YtfchfjipkggnkaaGreatDoor
