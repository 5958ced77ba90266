/- Plain: the order of names of processes: a name that is valid is known by its ordinals. -/
import Derived.Test.YtfchfjipkggnkaaGreatDoorTree
import Derived.Test.YtfchfjipkggnkaaGreatDoorLinV
namespace Go.Proofs.YtfchfjipkggnkaaGreatDoor

theorem digCount_dig (m : Nat) (l : List UInt8) : ∀ b ∈ l.take (digCount m l), isDig b = true := by
  induction m generalizing l with
  | zero => simp [digCount]
  | succ m ih =>
    cases l with
    | nil => simp [digCount]
    | cons b r =>
      simp only [digCount]
      split
      · intro x hx
        rw [List.take_succ_cons] at hx
        rcases List.mem_cons.1 hx with rfl | hx
        · assumption
        · exact ih r x hx
      · simp
theorem digCount_le (m : Nat) (l : List UInt8) : digCount m l ≤ l.length := by
  induction m generalizing l with
  | zero => simp [digCount]
  | succ m ih =>
    cases l with
    | nil => simp [digCount]
    | cons b r => simp only [digCount]; split <;> simp; exact ih r
theorem decVal_pos {l : List UInt8} (hd : ∀ b ∈ l, isDig b = true) (h0 : l ≠ []) (h1 : ∀ b, l.head? = some b → b.toNat ≠ 48) : 0 < decVal l := by
  have h : ∀ (l : List UInt8) (a : Nat), 0 < a → 0 < l.foldl (fun a b => a * 10 + (b.toNat - 48)) a := by
    intro l
    induction l with
    | nil => intro a h; exact h
    | cons b l ih => intro a h; exact ih (a * 10 + (b.toNat - 48)) (by omega)
  cases l with
  | nil => exact absurd rfl h0
  | cons b l =>
    have hb := (isDig_iff b).1 (hd b (by simp))
    have := h1 b rfl
    exact h l (0 * 10 + (b.toNat - 48)) (by omega)
theorem decVal_inj {l : List UInt8} : ∀ {m : List UInt8}, (∀ b ∈ l, isDig b = true) → (∀ b ∈ m, isDig b = true) → (∀ b, l.head? = some b → b.toNat ≠ 48) → (∀ b, m.head? = some b → b.toNat ≠ 48) → decVal l = decVal m → l = m := by
  have hrev : ∀ (n : Nat) (l m : List UInt8), l.length = n → (∀ b ∈ l, isDig b = true) → (∀ b ∈ m, isDig b = true) → (∀ b, l.head? = some b → b.toNat ≠ 48) → (∀ b, m.head? = some b → b.toNat ≠ 48) → decVal l = decVal m → l = m := by
    intro n
    induction n with
    | zero =>
      intro l m hl hd1 hd2 h1 h2 he
      have : l = [] := List.eq_nil_of_length_eq_zero hl
      subst this
      by_cases hm : m = []
      · exact hm.symm
      · have := decVal_pos hd2 hm h2
        simp [decVal] at he this
        omega
    | succ n ih =>
      intro l m hl hd1 hd2 h1 h2 he
      by_cases hm : m = []
      · subst hm
        have := decVal_pos hd1 (fun e => by rw [e] at hl; cases hl) h1
        have h0 : decVal [] = 0 := rfl
        omega
      · obtain ⟨p, b, rfl⟩ : ∃ p b, l = p ++ [b] := ⟨l.dropLast, l.getLast (fun e => by rw [e] at hl; cases hl), (List.dropLast_concat_getLast _).symm⟩
        obtain ⟨q, d, rfl⟩ : ∃ p b, m = p ++ [b] := ⟨m.dropLast, m.getLast hm, (List.dropLast_concat_getLast _).symm⟩
        rw [decVal_snoc, decVal_snoc] at he
        have hb := (isDig_iff b).1 (hd1 b (by simp))
        have hd := (isDig_iff d).1 (hd2 d (by simp))
        have e1 : b = d := UInt8.toNat_inj.1 (by omega)
        have e2 : decVal p = decVal q := by omega
        rw [ih p q (by simpa using hl) (fun x hx => hd1 x (by simp [hx])) (fun x hx => hd2 x (by simp [hx])) (fun x hx => h1 x (by rw [List.head?_append, hx]; rfl)) (fun x hx => h2 x (by rw [List.head?_append, hx]; rfl)) e2, e1]
  intro m a1 a2 a3 a4 a5
  exact hrev _ l m rfl a1 a2 a3 a4 a5

/-- The digits of the first part of what is left. -/
theorem firstP_digits {bs : List UInt8} {pos count : Nat} (h : (firstP bs pos count).1.err = 0) :
    ∃ k, 0 < k ∧ (firstP bs pos count).2 = pos + k ∧ pos + k ≤ bs.length ∧ (firstP bs pos count).1.ord = decVal ((bs.drop pos).take k) ∧ (∀ b ∈ (bs.drop pos).take k, isDig b = true) ∧ (∀ b, ((bs.drop pos).take k).head? = some b → b.toNat ≠ 48) := by
  have hf : firstErr bs pos count = 0 := by
    unfold firstP at h
    by_cases h1 : firstErr bs pos count ≠ 0
    · rw [if_pos h1] at h; exact h
    · simpa using h1
  have hp : firstP bs pos count = (⟨decVal ((bs.drop pos).take (digCount 7 (bs.drop pos))), pos, 0⟩, pos + digCount 7 (bs.drop pos)) := by
    unfold firstP
    rw [if_neg (by rw [hf]; simp)]
  rw [hp]
  unfold firstErr at hf
  by_cases a1 : count = 8
  · rw [if_pos a1] at hf; cases hf
  rw [if_neg a1] at hf
  by_cases a2 : pos = bs.length
  · rw [if_pos a2] at hf; cases hf
  rw [if_neg a2] at hf
  by_cases a3 : digCount 7 (bs.drop pos) = 0
  · rw [if_pos a3] at hf; cases hf
  rw [if_neg a3] at hf
  by_cases a4 : (bs.getD pos 0).toNat = 48
  · rw [if_pos a4] at hf; cases hf
  have hle := digCount_le 7 (bs.drop pos)
  rw [List.length_drop] at hle
  refine ⟨_, by omega, rfl, by omega, rfl, digCount_dig 7 _, fun b hb => ?_⟩
  intro e
  apply a4
  rw [List.head?_take, if_neg a3, List.head?_drop] at hb
  rw [List.getD_eq_getElem?_getD, hb]
  exact e

theorem partsL_ne (bs : List UInt8) (f pos count : Nat) (h : 0 < f) : partsL bs f pos count ≠ [] := by
  cases f with
  | zero => omega
  | succ f => simp only [partsL]; split; simp; split <;> simp
theorem partsL_inj (bs ds : List UInt8) : ∀ (f g p q c d : Nat), 0 < f → 0 < g → f + c = 9 → g + d = 9 → (∀ x ∈ partsL bs f p c, x.err = 0) → (∀ x ∈ partsL ds g q d, x.err = 0) →
    (partsL bs f p c).map PartT.ord = (partsL ds g q d).map PartT.ord → bs.drop p = ds.drop q := by
  intro f
  induction f with
  | zero => intro g p q c d h; omega
  | succ f ih =>
    intro g p q c d _ hg hfc hgd h1 h2 he
    obtain ⟨g, rfl⟩ : ∃ g', g = g' + 1 := ⟨g - 1, by omega⟩
    have a0 : (firstP bs p c).1.err = 0 := by
      apply h1
      simp only [partsL]
      split
      · simp
      · split <;> simp
    have b0 : (firstP ds q d).1.err = 0 := by
      apply h2
      simp only [partsL]
      split
      · simp
      · split <;> simp
    obtain ⟨k, k0, k1, k2, k3, k4, k5⟩ := firstP_digits a0
    obtain ⟨m, m0, m1, m2, m3, m4, m5⟩ := firstP_digits b0
    have hc9 := (firstP_ok a0).1
    have hd9 := (firstP_ok b0).1
    simp only [partsL, a0, b0, k1, m1, ne_eq, not_true, false_or] at h1 h2 he
    have heads : (firstP bs p c).1.ord = (firstP ds q d).1.ord := by
      by_cases x1 : p + k = bs.length <;> by_cases x2 : q + m = ds.length
      · rw [if_pos x1, if_pos x2] at he; simpa using he
      · rw [if_pos x1, if_neg x2] at he
        by_cases y2 : ¬ (ds.getD (q + m) 0).toNat = 46
        · rw [if_pos y2] at he; simp at he
        · rw [if_neg y2] at he; simp at he; exact he.1
      · rw [if_neg x1, if_pos x2] at he
        by_cases y2 : ¬ (bs.getD (p + k) 0).toNat = 46
        · rw [if_pos y2] at he; simp at he
        · rw [if_neg y2] at he; simp at he; exact he.1
      · rw [if_neg x1, if_neg x2] at he
        by_cases y1 : ¬ (bs.getD (p + k) 0).toNat = 46 <;> by_cases y2 : ¬ (ds.getD (q + m) 0).toNat = 46
        · rw [if_pos y1, if_pos y2] at he; simp at he; exact he
        · rw [if_pos y1, if_neg y2] at he; simp at he; exact he.1
        · rw [if_neg y1, if_pos y2] at he; simp at he; exact he.1
        · rw [if_neg y1, if_neg y2] at he; simp at he; exact he.1
    have hdig : (bs.drop p).take k = (ds.drop q).take m := decVal_inj k4 m4 k5 m5 (by rw [← k3, ← m3, heads])
    have hkm : k = m := by
      have := congrArg List.length hdig
      rw [List.length_take, List.length_take, List.length_drop, List.length_drop] at this
      omega
    subst hkm
    have split1 : bs.drop p = (bs.drop p).take k ++ bs.drop (p + k) := by rw [← List.drop_drop, List.take_append_drop]
    have split2 : ds.drop q = (ds.drop q).take k ++ ds.drop (q + k) := by rw [← List.drop_drop, List.take_append_drop]
    rw [split1, split2, hdig]
    congr 1
    by_cases x1 : p + k = bs.length <;> by_cases x2 : q + k = ds.length
    · rw [List.drop_eq_nil_of_le (by omega), List.drop_eq_nil_of_le (by omega)]
    · rw [if_pos x1, if_neg x2] at he
      rw [if_neg x2] at h2
      by_cases y2 : ¬ (ds.getD (q + k) 0).toNat = 46
      · rw [if_pos y2] at h2; have := h2 ⟨0, q + k, 6⟩ (by simp); cases this
      · rw [if_neg y2] at he
        simp at he
        exact absurd he.2.symm (by have := partsL_ne ds g (q + k + 1) (d + 1) (by omega); simpa using this)
    · rw [if_neg x1, if_pos x2] at he
      rw [if_neg x1] at h1
      by_cases y2 : ¬ (bs.getD (p + k) 0).toNat = 46
      · rw [if_pos y2] at h1; have := h1 ⟨0, p + k, 6⟩ (by simp); cases this
      · rw [if_neg y2] at he
        simp at he
        exact absurd he.2 (by have := partsL_ne bs f (p + k + 1) (c + 1) (by omega); simpa using this)
    · rw [if_neg x1, if_neg x2] at he
      rw [if_neg x1] at h1
      rw [if_neg x2] at h2
      by_cases y1 : ¬ (bs.getD (p + k) 0).toNat = 46
      · rw [if_pos y1] at h1; have := h1 ⟨0, p + k, 6⟩ (by simp); cases this
      by_cases y2 : ¬ (ds.getD (q + k) 0).toNat = 46
      · rw [if_pos y2] at h2; have := h2 ⟨0, q + k, 6⟩ (by simp); cases this
      rw [if_neg y1] at h1 he
      rw [if_neg y2] at h2 he
      have he' : (partsL bs f (p + k + 1) (c + 1)).map PartT.ord = (partsL ds g (q + k + 1) (d + 1)).map PartT.ord := by
        have := congrArg List.tail he
        simpa using this
      have hr := ih g (p + k + 1) (q + k + 1) (c + 1) (d + 1) (by omega) (by omega) (by omega) (by omega) (fun x hx => h1 x (List.mem_cons_of_mem _ hx)) (fun x hx => h2 x (List.mem_cons_of_mem _ hx)) he'
      have d1 : bs.drop (p + k) = bs.getD (p + k) 0 :: bs.drop (p + k + 1) := by
        rw [List.drop_eq_getElem_cons (by omega), List.getD_eq_getElem?_getD, List.getElem?_eq_getElem (by omega)]; rfl
      have d2 : ds.drop (q + k) = ds.getD (q + k) 0 :: ds.drop (q + k + 1) := by
        rw [List.drop_eq_getElem_cons (by omega), List.getD_eq_getElem?_getD, List.getElem?_eq_getElem (by omega)]; rfl
      rw [d1, d2, hr]
      congr 1
      exact UInt8.toNat_inj.1 (by omega)

/-- The ordinals of a name. -/
def ordsB (s : ByteArray) : List Int := (partsOf s.data.toList).map fun p => (p.ord : Int)
theorem valid_parts {s : ByteArray} (h : validB s = true) : ∀ p ∈ partsOf s.data.toList, p.err = 0 := by
  have hl : lineErr s.data.toList = 0 := by simpa [validB] using h
  intro p hp
  unfold lineErr at hl
  cases hf : (partsOf s.data.toList).find? (fun p => decide (p.err ≠ 0)) with
  | none =>
    have := List.find?_eq_none.1 hf p hp
    simpa using this
  | some q =>
    rw [hf] at hl
    have := List.find?_some hf
    simp at this hl
    exact absurd hl this
theorem bytes_of_list {a b : ByteArray} (h : a.data.toList = b.data.toList) : a = b := ByteArray.ext (Array.toList_inj.1 h)
theorem ords_inj {a b : ByteArray} (ha : validB a = true) (hb : validB b = true) (h : ordsB a = ordsB b) : a = b := by
  have pa := valid_parts ha
  have pb := valid_parts hb
  have h' : (partsOf a.data.toList).map PartT.ord = (partsOf b.data.toList).map PartT.ord := by
    unfold ordsB at h
    have e : ∀ l : List PartT, l.map (fun p => (p.ord : Int)) = (l.map PartT.ord).map (fun n : Nat => (n : Int)) := fun l => by simp
    rw [e, e] at h
    exact (List.map_inj_right (fun x y hxy => by omega)).1 h
  unfold partsOf at pa pb h'
  apply bytes_of_list
  by_cases ea : a.data.toList = []
  · by_cases eb : b.data.toList = []
    · rw [ea, eb]
    · rw [if_pos ea, if_neg eb] at h'
      exact absurd h'.symm (by have := partsL_ne b.data.toList 9 0 0 (by decide); simpa using this)
  · by_cases eb : b.data.toList = []
    · rw [if_neg ea, if_pos eb] at h'
      exact absurd h' (by have := partsL_ne a.data.toList 9 0 0 (by decide); simpa using this)
    · rw [if_neg ea] at pa h'
      rw [if_neg eb] at pb h'
      simpa using partsL_inj a.data.toList b.data.toList 9 9 0 0 0 0 (by decide) (by decide) rfl rfl pa pb h'

/-- Strings, byte by byte. -/
def bytesI (s : ByteArray) : List Int := s.data.toList.map fun b => (b.toNat : Int)
theorem bytesI_inj (a b : ByteArray) (h : bytesI a = bytesI b) : a = b := by
  apply bytes_of_list
  exact (List.map_inj_right (fun x y hxy => UInt8.toNat_inj.1 (by omega))).1 h
def cmpS (a b : ByteArray) : Int := cmpIL (bytesI a) (bytesI b)
theorem cmpS_ok : CmpOk cmpS := cmpOn_ok bytesI bytesI_inj cmpIL_ok

/-- lineage.Compare. -/
def lcmp (a b : ByteArray) : Int :=
  if a = b then 0 else if validB a = true ∧ validB b = true then cmpIL (ordsB a) (ordsB b) else if validB a = true then -1 else if validB b = true then 1 else cmpS a b
def lkey (a : ByteArray) : List Int := if validB a = true then 0 :: ordsB a else 1 :: bytesI a
theorem lkey_inj (a b : ByteArray) (h : lkey a = lkey b) : a = b := by
  unfold lkey at h
  by_cases h1 : validB a = true <;> by_cases h2 : validB b = true
  · rw [if_pos h1, if_pos h2] at h; exact ords_inj h1 h2 (by simpa using h)
  · rw [if_pos h1, if_neg h2] at h; simp at h
  · rw [if_neg h1, if_pos h2] at h; simp at h
  · rw [if_neg h1, if_neg h2] at h; exact bytesI_inj _ _ (by simpa using h)
theorem lcmp_key (a b : ByteArray) : lcmp a b = cmpIL (lkey a) (lkey b) := by
  unfold lcmp
  by_cases h0 : a = b
  · rw [if_pos h0, h0, cmpIL_ok.refl]
  · rw [if_neg h0]
    unfold lkey
    by_cases h1 : validB a = true <;> by_cases h2 : validB b = true
    · rw [if_pos ⟨h1, h2⟩, if_pos h1, if_pos h2]; simp [cmpIL]
    · rw [if_neg (fun h => h2 h.2), if_pos h1, if_pos h1, if_neg h2]; simp [cmpIL]
    · rw [if_neg (fun h => h1 h.1), if_neg h1, if_pos h2, if_neg h1, if_pos h2]; simp [cmpIL]
    · rw [if_neg (fun h => h1 h.1), if_neg h1, if_neg h2, if_neg h1, if_neg h2]; simp [cmpIL, cmpS]
theorem lcmp_ok : CmpOk lcmp := by
  have : lcmp = fun a b => cmpIL (lkey a) (lkey b) := funext fun a => funext fun b => lcmp_key a b
  rw [this]
  exact cmpOn_ok lkey lkey_inj cmpIL_ok
end Go.Proofs.YtfchfjipkggnkaaGreatDoor
