/- Plain: one name lies within another exactly if the ordinals of the second begin those of the first. Reference 03: Within. Reference 36: ReadLine. (printed by wip/gen_ree.py) -/
import Derived.Test.YtfobmfenjdiimaaGreatDoorOrdN
import Derived.Test.YtfobmfenjdiimaaGreatDoorLinD
import Derived.Test.YtfobmfenjdiimaaGreatDoorReC
namespace Go.Proofs.YtfobmfenjdiimaaGreatDoor

theorem digits_apart {A : List UInt8} : ∀ {B x y : List UInt8}, (∀ b ∈ A, isDig b = true) → (∀ b ∈ B, isDig b = true) → (∀ b, x.head? = some b → isDig b = false) → (∀ b, y.head? = some b → isDig b = false) → A ++ x = B ++ y → A = B ∧ x = y := by
  induction A with
  | nil =>
    intro B x y _ hB hx _ h
    cases B with
    | nil => exact ⟨rfl, h⟩
    | cons d B =>
      have h1 := hx d (by rw [List.nil_append] at h; rw [h]; rfl)
      rw [hB d (by simp)] at h1
      cases h1
  | cons c A ih =>
    intro B x y hA hB hx hy h
    cases B with
    | nil =>
      have h1 := hy c (by rw [List.nil_append] at h; rw [← h]; rfl)
      rw [hA c (by simp)] at h1
      cases h1
    | cons d B =>
      rw [List.cons_append, List.cons_append] at h
      injection h with h1 h2
      obtain ⟨h3, h4⟩ := ih (fun b hb => hA b (by simp [hb])) (fun b hb => hB b (by simp [hb])) hx hy h2
      exact ⟨by rw [h1, h3], h4⟩
theorem digits_apart2 {A B x y : List UInt8} (hA : ∀ b ∈ A, isDig b = true) (hB : ∀ b ∈ B, isDig b = true) (hx : ∀ b, x.head? = some b → isDig b = false) (hy : ∀ b, y.head? = some b → isDig b = false) : (A ++ x ++ [46]) <+: (B ++ y) ↔ A = B ∧ (x ++ [46]) <+: y := by
  constructor
  · rintro ⟨t, h⟩
    have h' : A ++ (x ++ 46 :: t) = B ++ y := by simpa using h
    obtain ⟨h1, h2⟩ := digits_apart hA hB (fun b hb => by
      cases x with
      | nil => simp at hb; subst hb; decide
      | cons z x => exact hx b (by simpa using hb)) hy h'
    exact ⟨h1, t, by simpa using h2⟩
  · rintro ⟨rfl, t, rfl⟩
    exact ⟨t, by simp⟩
theorem dot_not_dig {b : UInt8} (h : b.toNat = 46) : isDig b = false := by
  have h1 : b = 46 := UInt8.toNat_inj.1 h
  subst h1
  decide
theorem parts_form {bs : List UInt8} {f p c : Nat} (hfc : f + 1 + c = 9) (h : ∀ x ∈ partsL bs (f + 1) p c, x.err = 0) : ∃ (A x : List UInt8) (o : Nat) (l : List Nat), bs.drop p = A ++ x ∧ (∀ b ∈ A, isDig b = true) ∧ (∀ b, A.head? = some b → b.toNat ≠ 48) ∧ A ≠ [] ∧ o = decVal A ∧ (partsL bs (f + 1) p c).map PartT.ord = o :: l ∧
    ((x = [] ∧ l = []) ∨ ∃ p', x = 46 :: bs.drop p' ∧ l = (partsL bs f p' (c + 1)).map PartT.ord ∧ 0 < f ∧ (∀ x ∈ partsL bs f p' (c + 1), x.err = 0)) := by
  have a0 : (firstP bs p c).1.err = 0 := by
    apply h
    simp only [partsL]
    split
    · simp
    · split <;> simp
  obtain ⟨k, k0, k1, k2, k3, k4, k5⟩ := firstP_digits a0
  have hc9 := (firstP_ok a0).1
  have split1 : bs.drop p = (bs.drop p).take k ++ bs.drop (p + k) := by rw [← List.drop_drop, List.take_append_drop]
  have hne : (bs.drop p).take k ≠ [] := fun e => by
    have := congrArg List.length e
    rw [List.length_take, List.length_drop] at this
    simp at this
    omega
  simp only [partsL, a0, k1, ne_eq, not_true, false_or] at h ⊢
  by_cases x1 : p + k = bs.length
  · rw [if_pos x1] at h ⊢
    exact ⟨_, [], _, [], by rw [List.append_nil]; rw [List.drop_eq_nil_of_le (i := p + k) (by omega), List.append_nil] at split1; exact split1, k4, k5, hne, k3, by simp, .inl ⟨rfl, rfl⟩⟩
  · rw [if_neg x1] at h ⊢
    by_cases y1 : ¬ (bs.getD (p + k) 0).toNat = 46
    · rw [if_pos y1] at h; have := h ⟨0, p + k, 6⟩ (by simp); cases this
    rw [if_neg y1] at h ⊢
    have d1 : bs.drop (p + k) = bs.getD (p + k) 0 :: bs.drop (p + k + 1) := by
      rw [List.drop_eq_getElem_cons (by omega), List.getD_eq_getElem?_getD, List.getElem?_eq_getElem (by omega)]; rfl
    have d2 : bs.getD (p + k) 0 = 46 := UInt8.toNat_inj.1 (by simpa using y1)
    refine ⟨_, bs.drop (p + k), _, (partsL bs f (p + k + 1) (c + 1)).map PartT.ord, split1, k4, k5, hne, k3, by simp, .inr ⟨p + k + 1, ?_, rfl, by omega, fun x hx => h x (List.mem_cons_of_mem _ hx)⟩⟩
    rw [d1, d2]
theorem partsL_pfx (bs ds : List UInt8) : ∀ (f g p q c d : Nat), 0 < f → 0 < g → f + c = 9 → g + d = 9 → (∀ x ∈ partsL bs f p c, x.err = 0) → (∀ x ∈ partsL ds g q d, x.err = 0) →
    (((partsL bs f p c).map PartT.ord <+: (partsL ds g q d).map PartT.ord) ↔ (bs.drop p = ds.drop q ∨ (bs.drop p ++ [46]) <+: ds.drop q)) := by
  intro f
  induction f with
  | zero => intro g p q c d h; omega
  | succ f ih =>
    intro g p q c d _ hg hfc hgd h1 h2
    obtain ⟨g, rfl⟩ : ∃ g', g = g' + 1 := ⟨g - 1, by omega⟩
    obtain ⟨A, x, o, l, e1, a1, a2, a3, a4, a5, a6⟩ := parts_form hfc h1
    obtain ⟨B, y, o', l', e2, b1, b2, b3, b4, b5, b6⟩ := parts_form hgd h2
    rw [a5, b5, e1, e2, List.cons_prefix_cons, a4, b4]
    have hx : ∀ b, x.head? = some b → isDig b = false := fun b hb => by
      rcases a6 with ⟨rfl, -⟩ | ⟨p', rfl, -⟩
      · cases hb
      · simp at hb; subst hb; decide
    have hy : ∀ b, y.head? = some b → isDig b = false := fun b hb => by
      rcases b6 with ⟨rfl, -⟩ | ⟨p', rfl, -⟩
      · cases hb
      · simp at hb; subst hb; decide
    rw [digits_apart2 a1 b1 hx hy]
    have hAB : decVal A = decVal B ↔ A = B := ⟨fun h => decVal_inj a1 b1 a2 b2 h, fun h => by rw [h]⟩
    have hEq : A ++ x = B ++ y ↔ A = B ∧ x = y := ⟨digits_apart a1 b1 hx hy, fun h => by rw [h.1, h.2]⟩
    rw [hAB, hEq, ← and_or_left]
    refine and_congr_right fun _ => ?_
    rcases a6 with ⟨rfl, rfl⟩ | ⟨p', rfl, rfl, hf0, hp'⟩ <;> rcases b6 with ⟨rfl, rfl⟩ | ⟨q', rfl, rfl, hg0, hq'⟩
    · simp
    · simp
    · have := partsL_ne bs f p' (c + 1) hf0
      simp [this]
    · rw [ih g p' q' (c + 1) (d + 1) hf0 hg0 (by omega) (by omega) hp' hq']
      simp
theorem within_ords {n a : ByteArray} (hn : validB n = true) (ha : validB a = true) : withinB n a = (ordsB a).isPrefixOf (ordsB n) := by
  have pa := valid_parts ha
  have pn := valid_parts hn
  rw [Bool.eq_iff_iff, List.isPrefixOf_iff_prefix]
  have hm : (ordsB a <+: ordsB n) ↔ ((partsOf a.data.toList).map PartT.ord <+: (partsOf n.data.toList).map PartT.ord) := by
    have e : ∀ l : List PartT, l.map (fun p => (p.ord : Int)) = (l.map PartT.ord).map (fun n : Nat => (n : Int)) := fun l => by simp
    unfold ordsB
    rw [e, e]
    constructor
    · rintro ⟨t, h⟩
      have hlen := congrArg List.length h
      refine ⟨((partsOf n.data.toList).map PartT.ord).drop (partsOf a.data.toList).length, ?_⟩
      have hk := congrArg (List.take (partsOf a.data.toList).length) h
      rw [List.take_left' (by simp), ← List.map_take] at hk
      have hk' := (List.map_inj_right (fun (x y : Nat) hxy => by omega)).1 hk
      rw [hk', List.take_append_drop]
    · rintro ⟨t, h⟩
      exact ⟨t.map fun n : Nat => (n : Int), by rw [← List.map_append, h]⟩
  rw [hm]
  unfold withinB
  simp only [hn, ha, Bool.true_and, Bool.or_eq_true, beq_iff_eq, List.isPrefixOf_iff_prefix, List.isEmpty_iff]
  unfold partsOf at pa pn ⊢
  by_cases ea : a.data.toList = []
  · simp [ea]
  · by_cases en : n.data.toList = []
    · rw [if_neg ea, if_pos en, en]
      have := partsL_ne a.data.toList 9 0 0 (by decide)
      simp [this, ea]
    · rw [if_neg ea] at pa ⊢
      rw [if_neg en] at pn ⊢
      have := partsL_pfx a.data.toList n.data.toList 9 9 0 0 0 0 (by decide) (by decide) rfl rfl pa pn
      rw [List.drop_zero, List.drop_zero] at this
      rw [this]
      constructor
      · rintro ((h | h) | h)
        · exact .inl h.symm
        · exact absurd h ea
        · exact .inr h
      · rintro (h | h)
        · exact .inl (.inl h.symm)
        · exact .inr h
end Go.Proofs.YtfobmfenjdiimaaGreatDoor

namespace Go.Proofs.YtfobmfenjdiimaaGreatDoor
open Go.RowKit
attribute [local go_sem ↓] Go.wp_at_zero Go.wp_at_succ

theorem pfx_step {ys xs : List Int} {k : Nat} (h1 : k < ys.length) (h2 : k < xs.length) : (ys.drop k).isPrefixOf (xs.drop k) = (decide (ys.getD k 0 = xs.getD k 0) && (ys.drop (k + 1)).isPrefixOf (xs.drop (k + 1))) := by
  rw [List.drop_eq_getElem_cons h1, List.drop_eq_getElem_cons h2, List.isPrefixOf, List.getD_eq_getElem?_getD, List.getD_eq_getElem?_getD, List.getElem?_eq_getElem h1, List.getElem?_eq_getElem h2]
  rfl
theorem pfx_end {ys xs : List Int} {k : Nat} (h1 : ys.length ≤ k) : (ys.drop k).isPrefixOf (xs.drop k) = true := by
  rw [List.drop_eq_nil_of_le h1]
  rfl
theorem pfx_long {ys xs : List Int} (h : xs.length < ys.length) : ys.isPrefixOf xs = false := by
  cases hp : ys.isPrefixOf xs with
  | false => rfl
  | true => exact absurd (List.isPrefixOf_iff_prefix.1 hp).length_le (by omega)
theorem retB {a b : Bool} (h : a = b) : Ending.returned (.bool a) = .returned (.bool b) := by rw [h]
set_option maxRecDepth 100000 in
set_option maxHeartbeats 1600000 in
theorem rWithin_any (a b : ByteArray) (ha : a.size ≤ 70368744177664) (hb : b.size ≤ 70368744177664) (w : World) : Calls Tryz.prog 114 #[.string a, .string b] w fun r w' => r = .returned (.bool (withinB a b)) ∧ Below w.heap.size w w' := by
  go_enter Tryz.func114, Tryz.ntmps114
  go_wp2_with fail
  refine (rParse_any a ha _).mono ?_
  rintro r w1 ⟨v1, p1, e1, rfl, he1, hb1⟩
  go_wp2_with fail
  refine (rParse_any b hb _).mono ?_
  rintro r w2 ⟨v2, p2, e2, rfl, he2, hb2⟩
  have HB : Hid (Below w.heap.size w w2) := hb1.trans (hb2.mono hb1.size)
  cases va : validB a with
  | true =>
    rw [if_pos va] at he1
    obtain ⟨rfl, hr1⟩ := he1
    cases vb : validB b with
    | false =>
      have HR : Hid (withinB a b = false) := by show _ = _; simp [withinB, vb]
      rw [if_neg (by simp [vb])] at he2
      obtain ⟨h1, h2⟩ := ne_bool he2
      clear he2 hr1 hb1 hb2 va vb
      go_wp2
      go_ret
      exact ⟨retB HR.out.symm, HB.out⟩
    | true =>
      have HR := Lib.hid (within_ords va vb)
      rw [if_pos vb] at he2
      obtain ⟨rfl, hr2⟩ := he2
      have hr1' := hr1.below hb2
      clear hr1 hb1 hb2 va vb
      have hxl := ords_length a
      have hyl := ords_length b
      generalize ordsB a = xs at *
      generalize ordsB b = ys at *
      obtain ⟨a1, c1, rfl, h1⟩ := hr1'
      obtain ⟨a2, c2, rfl, h2⟩ := hr2
      have H1 := Lib.hid h1
      have H2 := Lib.hid h2
      clear h1 h2
      by_cases hlong : xs.length < ys.length
      · have HL := Lib.hid (pfx_long hlong)
        go_wp2
        go_ret
        exact ⟨retB (HR.out.trans HL.out).symm, HB.out⟩
      go_wp2_with fail
      go_loopg [11] ys.length (fun gk iv wr => ∃ k : Nat, k + gk = ys.length ∧ iv = .int .i64 k ∧ Hid (ys.isPrefixOf xs = (ys.drop k).isPrefixOf (xs.drop k)) ∧ Hid (Below w2.heap.size w2 wr))
      case atStart => exact ⟨0, by omega, rfl, rfl, Below.refl _ _⟩
      case round =>
        obtain ⟨k, hg, rfl, Hc, HBr⟩ := hrel
        have Hg := Lib.hid hg
        have hk : k ≤ ys.length := by omega
        clear hg
        have HF : Hid (Below w.heap.size w wr) := HB.out.trans (HBr.out.mono HB.out.size)
        by_cases hlt2 : k < ys.length
        · have hlt : k < xs.length := by omega
          have Hlt2 := Lib.hid hlt2
          obtain ⟨g1, rfl, q1⟩ := H1.out k hlt
          obtain ⟨g2, rfl, q2⟩ := H2.out k hlt2
          have q1' : wr.cell? ⟨g1, k, none⟩ = some (.int .i64 (xs.getD k 0)) := ((bcell HBr.out).1 _ _ (World.block_lt_of_cell? w2 _ q1)).trans q1
          have q2' : wr.cell? ⟨g2, k, none⟩ = some (.int .i64 (ys.getD k 0)) := ((bcell HBr.out).1 _ _ (World.block_lt_of_cell? w2 _ q2)).trans q2
          have hst := pfx_step hlt2 hlt
          generalize xs.getD k 0 = x at *
          generalize ys.getD k 0 = y at *
          clear q1 q2
          by_cases hxy : x = y
          · rw [decide_eq_true hxy.symm, Bool.true_and] at hst
            have Hst := Lib.hid hst; clear hst
            subst hxy
            go_upto_region 8 with fail
            go_region
            go_wp2
            go_roundg (ys.length - (k + 1))
            case measure => have := Hg.out; omega
            case rel => exact ⟨k + 1, by have := Hlt2.out; omega, by go_num, Hc.out.trans Hst.out, HBr.out.drew⟩
          · have hyx : ¬ y = x := fun h => hxy h.symm
            rw [decide_eq_false hyx, Bool.false_and] at hst
            have Hst := Lib.hid hst; clear hst
            go_upto_region 8 with fail
            go_region
            go_wp2
            go_ret
            exact ⟨retB ((HR.out.trans (Hc.out.trans Hst.out)).symm), HF.out.drew⟩
        · have Hst : Hid _ := pfx_end (ys := ys) (xs := xs) (k := k) (by omega)
          go_wp2
          go_ret
          exact ⟨retB ((HR.out.trans (Hc.out.trans Hst.out)).symm), HF.out⟩
  | false =>
    have HR : Hid (withinB a b = false) := by show _ = _; simp [withinB, va]
    rw [if_neg (by simp [va])] at he1
    obtain ⟨n1, n2⟩ := ne_bool he1
    clear he1 he2 hb1 hb2 va
    go_wp2
    go_ret
    exact ⟨retB HR.out.symm, HB.out⟩
theorem rWithin_is (a b : ByteArray) (v : Bool) (h : withinB a b = v) (ha : a.size ≤ 70368744177664) (hb : b.size ≤ 70368744177664) (w : World) : Calls Tryz.prog 114 #[.string a, .string b] w fun r w' => r = .returned (.bool v) ∧ Below w.heap.size w w' := by
  subst h; exact rWithin_any a b ha hb w
end Go.Proofs.YtfobmfenjdiimaaGreatDoor

namespace Go.Proofs.YtfobmfenjdiimaaGreatDoor
open Go.RowKit
attribute [local go_sem ↓] Go.wp_at_zero Go.wp_at_succ

/-- What ReadLine of the reference leaves. -/
def RefPost3 (w : World) (v : Value) (p : TermT × Nat) (line : ByteArray) (r : Ending) (w' : World) : Prop :=
  ∃ a n c, r = .returned (.tuple #[.agg #[.int .i64 p.1.epoch, .string p.1.session, .slice a n c, .string p.1.screen], .string line, .int .i64 p.2]) ∧ RowK kStr w' (.slice a n c) p.1.typed ∧ (∀ k, (Value.slice a n c).ownBlock = some k → v.ownBlock = some k ∨ (w.heap.size ≤ k ∧ k < w'.heap.size)) ∧ Below w.heap.size w w'
theorem readL_bad {l : ByteArray} {t t' : TermT} {e : Nat} (hp : opTake l t = (t', e)) (he : e ≠ 0) : readL l t = ⟨#[]⟩ := by unfold readL; rw [if_neg (by rw [hp]; exact he)]
theorem ref_new3 {w w' : World} {v v' : Value} {e : Nat} {ep : Int} {se sc line : ByteArray} {ls : List ByteArray} {p : TermT × Nat} (hp : p = (⟨ep, se, ls, sc⟩, e)) (hs : RowK kStr w v' ls) (hv : ∀ k, v'.ownBlock = some k → v.ownBlock = some k) {l : ByteArray} (hl : l = line) (hb : Below w.heap.size w w') : RefPost3 w v p l (.returned (.tuple #[.agg #[.int .i64 ep, .string se, v', .string sc], .string line, .int .i64 e])) w' := by
  subst hp hl
  obtain ⟨a, c, rfl, _, _⟩ := hs.form
  exact ⟨a, ls.length, c, rfl, hs.later hb, fun k hk => .inl (hv k hk), hb⟩
theorem ref_same3 {w w' : World} {a : Option Addr} {n c e : Nat} {ep : Int} {se sc line : ByteArray} {ls : List ByteArray} {p : TermT × Nat} (hp : p = (⟨ep, se, ls, sc⟩, e)) (hl : line = ⟨#[]⟩) (hs : RowK kStr w (.slice a n c) ls) (hb : Below w.heap.size w w') : RefPost3 w (.slice a n c) p line (.returned (.tuple #[.agg #[.int .i64 ep, .string se, .slice a n c, .string sc], .string ⟨#[]⟩, .int .i64 e])) w' := by
  subst hp hl
  exact ⟨a, n, c, rfl, hs.later hb, fun k hk => .inl hk, hb⟩
set_option maxRecDepth 100000 in
set_option maxHeartbeats 1600000 in
theorem read36_any (ep : Int) (se sc : ByteArray) (a : Option Addr) (n c : Nat) (ls : List ByteArray) (l : ByteArray) (w : World) (hs : RowK kStr w (.slice a n c) ls) (hl : l.size ≤ 70368744177664) (hse : se.size ≤ 70368744177664) :
    Calls Tryz.prog 77 #[.agg #[.int .i64 ep, .string se, .slice a n c, .string sc], .string l] w (RefPost3 w (.slice a n c) (opTake l ⟨ep, se, ls, sc⟩) (readL l ⟨ep, se, ls, sc⟩)) := by
  have HB : Hid (∀ o1 o2, Below w.heap.size w ((w.alloc o1).alloc o2)) := fun o1 o2 => ((Below.refl _ _).alloc (Nat.le_refl _) o1).alloc (by simp) o2
  by_cases h0 : se.size = 0
  · have hp : opTake l ⟨ep, se, ls, sc⟩ = (⟨ep, se, ls, sc⟩, 10) := if_pos (.inl h0)
    have hli : readL l ⟨ep, se, ls, sc⟩ = ⟨#[]⟩ := readL_bad hp (by decide)
    have he := empty_of h0
    clear h0
    go_enter Tryz.func77, Tryz.ntmps77
    go_wp2
    refine bodyPost_ret (v := .tuple #[.agg #[.int .i64 ep, .string se, .slice a n c, .string sc], .string ⟨#[]⟩, .int .i64 10]) (by simp [results, Tryz.results77, go_sem]) rfl ?_
    refine ref_same3 hp hli hs ?_
    first | exact HB.out _ _ | exact below_grow36 (HB.out _ _) (grown_set4 _ _ _ _ _ _) (by first | exact Nat.le_refl _ | omega)
  have he := nonempty_of h0
  have HX : Hid (∀ o1 o2 : Obj, ((w.alloc o1).alloc o2).heap[w.heap.size]? = some o1 ∧ ((w.alloc o1).alloc o2).heap[w.heap.size + 1]? = some o2) := fun o1 o2 => ⟨(Below.heap_alloc _ _ _ (by simp)).trans (World.alloc_heap_new w _), by have := World.alloc_heap_new (w.alloc o1) o2; rw [World.size_alloc] at this; exact this⟩
  have HS := Lib.hid hs
  clear hs
  cases hv : withinB l se
  case false =>
    have hp : opTake l ⟨ep, se, ls, sc⟩ = (⟨ep, se, ls, sc⟩, 10) := if_pos (.inr hv)
    have hli : readL l ⟨ep, se, ls, sc⟩ = ⟨#[]⟩ := readL_bad hp (by decide)
    go_enter Tryz.func77, Tryz.ntmps77
    go_wp2_with fail
    refine (rWithin_is l se _ hv hl hse _).mono ?_
    rintro r w1 ⟨rfl, hb⟩
    have HB1 : Hid (Below w.heap.size w w1) := (HB.out _ _).trans (hb.mono (HB.out _ _).size)
    have hX1 := (hb.block _ (lt_of_heap (HX.out _ _).1)).trans (HX.out _ _).1
    have hX2 := (hb.block _ (lt_of_heap (HX.out _ _).2)).trans (HX.out _ _).2
    have t0 : w1.cell? ⟨w.heap.size, 0, none⟩ = some (.int .i64 ep) := cell_of_heap hX1 0
    have t1 : w1.cell? ⟨w.heap.size, 1, none⟩ = some (.string se) := cell_of_heap hX1 1
    have t2 : w1.cell? ⟨w.heap.size, 2, none⟩ = some (.slice a n c) := cell_of_heap hX1 2
    have t3 : w1.cell? ⟨w.heap.size, 3, none⟩ = some (.string sc) := cell_of_heap hX1 3
    have yf := frozen_of_heap hX1 2
    have r0 : w1.cell? ⟨w.heap.size + 1, 0, none⟩ = some (.int .i64 0) := cell_of_heap hX2 0
    have r1 : w1.cell? ⟨w.heap.size + 1, 1, none⟩ = some (.string ⟨#[]⟩) := cell_of_heap hX2 1
    have r2 : w1.cell? ⟨w.heap.size + 1, 2, none⟩ = some (.slice none 0 0) := cell_of_heap hX2 2
    have r3 : w1.cell? ⟨w.heap.size + 1, 3, none⟩ = some (.string ⟨#[]⟩) := cell_of_heap hX2 3
    have g0 := frozen_of_heap hX2 0
    have g1 := frozen_of_heap hX2 1
    have g2 := frozen_of_heap hX2 2
    have g3 := frozen_of_heap hX2 3
    clear hb HX HB
    clear hX1 hX2
    go_wp2
    refine bodyPost_ret (v := .tuple #[.agg #[.int .i64 ep, .string se, .slice a n c, .string sc], .string ⟨#[]⟩, .int .i64 10]) (by simp [results, Tryz.results77, go_sem, r0, r1, r2, r3]) rfl ?_
    refine ref_same3 hp hli HS.out ?_
    exact below_grow36 HB1.out (grown_set4 _ _ _ _ _ _) (by omega)
  case true =>
    go_enter Tryz.func77, Tryz.ntmps77
    go_wp2_with fail
    refine (rWithin_is l se _ hv hl hse _).mono ?_
    rintro r w1 ⟨rfl, hb⟩
    have HB1 : Hid (Below w.heap.size w w1) := (HB.out _ _).trans (hb.mono (HB.out _ _).size)
    have hX1 := (hb.block _ (lt_of_heap (HX.out _ _).1)).trans (HX.out _ _).1
    have hX2 := (hb.block _ (lt_of_heap (HX.out _ _).2)).trans (HX.out _ _).2
    have t0 : w1.cell? ⟨w.heap.size, 0, none⟩ = some (.int .i64 ep) := cell_of_heap hX1 0
    have t1 : w1.cell? ⟨w.heap.size, 1, none⟩ = some (.string se) := cell_of_heap hX1 1
    have t2 : w1.cell? ⟨w.heap.size, 2, none⟩ = some (.slice a n c) := cell_of_heap hX1 2
    have t3 : w1.cell? ⟨w.heap.size, 3, none⟩ = some (.string sc) := cell_of_heap hX1 3
    have yf := frozen_of_heap hX1 2
    have r0 : w1.cell? ⟨w.heap.size + 1, 0, none⟩ = some (.int .i64 0) := cell_of_heap hX2 0
    have r1 : w1.cell? ⟨w.heap.size + 1, 1, none⟩ = some (.string ⟨#[]⟩) := cell_of_heap hX2 1
    have r2 : w1.cell? ⟨w.heap.size + 1, 2, none⟩ = some (.slice none 0 0) := cell_of_heap hX2 2
    have r3 : w1.cell? ⟨w.heap.size + 1, 3, none⟩ = some (.string ⟨#[]⟩) := cell_of_heap hX2 3
    have g0 := frozen_of_heap hX2 0
    have g1 := frozen_of_heap hX2 1
    have g2 := frozen_of_heap hX2 2
    have g3 := frozen_of_heap hX2 3
    clear hb HX HB
    cases ls with
    | nil =>
      have hn : n = 0 := HS.out.len.symm
      subst hn
      have hp : opTake l ⟨ep, se, [], sc⟩ = (⟨ep, se, [], sc⟩, 19) := (if_neg (by rw [hv]; exact fun h => h.elim h0 (fun h => nomatch h))).trans (if_pos rfl)
      have hli : readL l ⟨ep, se, [], sc⟩ = ⟨#[]⟩ := readL_bad hp (by decide)
      clear hX1 hX2 h0
      go_wp2
      refine bodyPost_ret (v := .tuple #[.agg #[.int .i64 ep, .string se, .slice a 0 c, .string sc], .string ⟨#[]⟩, .int .i64 19]) (by simp [results, Tryz.results77, go_sem, r0, r1, r2, r3]) rfl ?_
      refine ref_same3 hp hli HS.out ?_
      exact below_grow36 HB1.out (grown_set4 _ _ _ _ _ _) (by omega)
    | cons x ls =>
      have hn : ls.length + 1 = n := HS.out.len
      have hp : opTake l ⟨ep, se, x :: ls, sc⟩ = (⟨ep, se, ls, sc⟩, 0) := (if_neg (by rw [hv]; exact fun h => h.elim h0 (fun h => nomatch h))).trans (if_neg (Nat.succ_ne_zero _))
      have hli : readL l ⟨ep, se, x :: ls, sc⟩ = x := by unfold readL; rw [if_pos (by rw [hp])]; rfl
      obtain ⟨g, off, rfl, hc0⟩ := HS.out.at_ (j := 0) (x := x) rfl
      have hc : w.cell? ⟨g, off, none⟩ = some (.string x) := by
        have := hc0 0 _ rfl
        rwa [show off + 0 * kStr.S + 0 = off by omega] at this
      have hg := World.block_lt_of_cell? w _ hc
      have hgl : g < w.heap.size := hg
      have hgne : g ≠ w.heap.size := by omega
      have hx1 : w1.cell? ⟨g, off, none⟩ = some (.string x) := ((bcell HB1.out).1 _ _ hg).trans hc
      have hnc : n ≤ c := by
        obtain ⟨a', c', e, h1, -⟩ := HS.out.form
        cases e
        have h2 : (x :: ls).length = ls.length + 1 := rfl
        omega
      have HD : Hid (RowK kStr w (.slice (some ⟨g, off + 1, none⟩) (n - 1) (c - 1)) ls) := by
        have := HS.out.drop (k := 1) (by omega)
        rwa [show off + 1 * kStr.S = off + 1 by rfl] at this
      have hz : ((ls.length : Int) + 1 == 0) = false := beq_eq_false_iff_ne.2 (by omega)
      have hn1 : (1 : Nat) ≤ n := by omega
      have hc1 : (1 : Nat) ≤ c := by omega
      clear hc hc0 hg h0
      subst hn
      by_cases hc2 : c = 1
      · subst hc2
        have hls : ls = [] := List.length_eq_zero_iff.1 (by omega)
        subst hls
        go_wp2
        refine bodyPost_ret (v := .tuple #[.agg #[.int .i64 ep, .string se, .slice (some ⟨g, off, none⟩) 0 0, .string sc], .string x, .int .i64 0]) (by simp [results, Tryz.results77, go_sem, r0, r1, r2, r3]) rfl ?_
        refine ref_new3 hp (RowK.empty (g := g) (off := off) (c := 0)) (fun k hk => hk) hli ?_
        exact below_grow36 (below_grow36 HB1.out (grown_setCell _ _ _ _) (Nat.le_refl _)) (grown_set4 _ _ _ _ _ _) (by omega)
      · go_wp2
        refine bodyPost_ret (v := .tuple #[.agg #[.int .i64 ep, .string se, .slice (some ⟨g, off + 1, none⟩) ls.length (c - 1), .string sc], .string x, .int .i64 0]) (by simp [results, Tryz.results77, go_sem, r0, r1, r2, r3]) rfl ?_
        refine ref_new3 hp (v' := .slice (some ⟨g, off + 1, none⟩) ls.length (c - 1)) HD.out (fun k hk => hk) hli ?_
        exact below_grow36 (below_grow36 HB1.out (grown_setCell _ _ _ _) (Nat.le_refl _)) (grown_set4 _ _ _ _ _ _) (by omega)
end Go.Proofs.YtfobmfenjdiimaaGreatDoor
