/- law 08: the reference's Path. (printed by wip/gen_gmrp.py) -/
import Derived.Test.YteiddebjbiadbaaGmLs
import Derived.Test.YteiddebjbiadbaaGmQb
import Derived.Test.YteiddebjbiadbaaGmQc
namespace Go.Proofs.Yteiddebjbiadbaa
open Go.RowKit Gr
attribute [local go_sem ↓] Go.wp_at_zero Go.wp_at_succ

def RPathPost (w : World) (n : Nat) (es : List Ed) (f t : Int) (r : Ending) (w' : World) : Prop :=
  Below w.heap.size w w' ∧ ((nodeB n f && nodeB n t) = false ∧ r = .returned nilT ∨ ∃ a b : Nat, f = a ∧ t = b ∧ a < n ∧ b < n ∧ (at_ (farF es n b) a < 0 ∧ r = .returned nilT
    ∨ 0 ≤ at_ (farF es n b) a ∧ ∃ v, r = .returned (.tuple #[v, .bool true]) ∧ OwnK kNat w.heap.size w' v (pathF (aft es) (farF es n b) b (at_ (farF es n b) a).toNat a)))
set_option linter.unusedSimpArgs false in
set_option maxHeartbeats 3200000 in
theorem rPath_any {w : World} {n : Nat} {v : Value} {es : List Ed} (h : RowK kE w v (es.map ofEd)) (hl : es.length ≤ 65536) (hin : Ins n es) (hn : n ≤ 4096) (f t : Int) :
    Calls Try.prog 14 #[.agg #[.int .i64 (n : Int), v], .int .i64 f, .int .i64 t] w (RPathPost w n es f t) := by
  obtain ⟨av, cv, rfl, -⟩ := h.form
  rw [List.length_map] at h ⊢
  obtain ⟨w1, hw1⟩ : ∃ w1, w.alloc (.cells #[.int .i64 (n : Int), .slice av es.length cv] 27) = w1 := ⟨_, rfl⟩
  have hb1 : Below w.heap.size w w1 := by rw [← hw1]; exact (Below.refl _ _).alloc (Nat.le_refl _) _
  have hr1 : RowIs w1 w.heap.size 27 [.int .i64 (n : Int), .slice av es.length cv] := by rw [← hw1]; exact new_row _ _ _
  have H := Lib.hid (h.later hb1)
  have HG := Lib.hid hr1
  have HB1 := Lib.hid hb1
  have Hl := Lib.hid hl
  have Hn := Lib.hid hn
  have Hin := Lib.hid hin
  have hrv : ∀ c0 : Int, Below w.heap.size w w1 := fun _ => hb1
  clear h hr1 hb1 hin hrv
  go_enter Try.func14, Try.ntmps14
  go_upto_region 1 with fail
  clear hw1
  have c0 := HG.out.cell (i := 0) rfl
  have c1 := HG.out.cell (i := 1) rfl
  obtain ⟨s, hs⟩ : ∃ s, w.heap.size = s := ⟨_, rfl⟩
  rw [hs] at HG c0 c1 ⊢
  clear hs
  by_cases hnb : (nodeB n f && nodeB n t) = false
  · have HF : Hid (RPathPost w n es f t (.returned nilT) w1) := ⟨HB1.out, .inl ⟨hnb, rfl⟩⟩
    have hor : f < 0 ∨ (¬ f < 0 ∧ (n : Int) ≤ f) ∨ (¬ f < 0 ∧ ¬ (n : Int) ≤ f ∧ t < 0) ∨ (¬ f < 0 ∧ ¬ (n : Int) ≤ f ∧ ¬ t < 0 ∧ (n : Int) ≤ t) := by
      refine Classical.byContradiction (fun q => ?_)
      have h1 : nodeB n f = true := nodeB_iff.2 (by omega)
      have h2 : nodeB n t = true := nodeB_iff.2 (by omega)
      rw [h1, h2] at hnb
      cases hnb
    clear hnb
    rcases hor with h1 | ⟨h1, h2⟩ | ⟨h1, h2, h3⟩ | ⟨h1, h2, h3, h4⟩
    all_goals
      go_wp2
      refine bodyPost_ret (v := nilT) (by simp [results, nilT, Try.results14, go_sem]) rfl ?_
      exact HF.out
  have hnb1 : nodeB n f = true ∧ nodeB n t = true := by
    rw [← Bool.and_eq_true]
    cases e : (nodeB n f && nodeB n t) with
    | true => rfl
    | false => exact absurd e hnb
  obtain ⟨hf0, hfn⟩ := nodeB_iff.1 hnb1.1
  obtain ⟨ht0, htn⟩ := nodeB_iff.1 hnb1.2
  obtain ⟨a, rfl⟩ := Int.eq_ofNat_of_zero_le hf0
  obtain ⟨b, rfl⟩ := Int.eq_ofNat_of_zero_le ht0
  have Hab : Hid (a < n ∧ b < n) := ⟨by omega, by omega⟩
  have HD : Hid (Dist es n b (farF es n b)) := far_ok Hin.out Hab.out.2
  have HF := Lib.hid (far_any (n := n) (t := b) H.out (by have := Hl.out; omega) Hin.out Hn.out Hab.out.2)
  clear hnb hnb1 hf0 ht0
  go_wp2_with fail
  refine HF.out.mono ?_
  rintro r x2 ⟨lg, rfl, hrow, -, hb2⟩
  obtain ⟨L, hL⟩ : ∃ L, farF es n b = L := ⟨_, rfl⟩
  rw [hL] at HD hrow
  have HL := Lib.hid hL
  have HB2 : Hid (Below w.heap.size w x2) := HB1.out.trans (hb2.mono HB1.out.size)
  have HX : Hid (RowK kE x2 (.slice av es.length cv) (es.map ofEd)) := H.out.later hb2
  have HG2 := Lib.hid (HG.out.later hb2)
  have HR := Lib.hid hrow
  have e0 := numRow_at hrow (i := a) (by rw [HD.out.len]; exact Hab.out.1)
  clear hrow hb2 HF H HG c0 c1 hL
  by_cases hd : at_ L a < 0
  · have HF : Hid (RPathPost w n es (a : Int) (b : Int) (.returned nilT) x2) := ⟨HB2.out, .inr ⟨a, b, rfl, rfl, Hab.out.1, Hab.out.2, .inl ⟨by rw [HL.out]; exact hd, rfl⟩⟩⟩
    go_wp2
    refine bodyPost_ret (v := nilT) (by simp [results, nilT, Try.results14, go_sem]) rfl ?_
    exact HF.out
  obtain ⟨ka, hka⟩ := Int.eq_ofNat_of_zero_le (by omega : 0 ≤ at_ L a)
  have Hka := Lib.hid hka
  have Hkn : Hid (ka < n) := HD.out.lt hka
  go_upto_region 7 with fail
  obtain ⟨x3, hx3⟩ : ∃ y, x2.alloc (.cells #[.int .i64 (a : Int)] 3) = y := ⟨_, rfl⟩
  have HB3 : Hid (Below x2.heap.size x2 x3) := by rw [← hx3]; exact (Below.refl _ _).alloc (Nat.le_refl _) _
  have HO3 : Hid (OwnK kNat x2.heap.size x3 (.slice (some ⟨x2.heap.size, 0, none⟩) 1 1) ([] ++ [a])) := by
    rw [← hx3]; exact OwnK.sole (heap_alloc_new x2 _) rfl (Nat.le_refl _)
  rw [hx3]
  clear hx3 hd hka e0
  go_wp2
  go_loopg [9, 10] ka (fun gk pv nv wr => ∃ (cur : Nat) (pre : List Nat), nv = .int .i64 (cur : Int) ∧ Hid (at_ L cur = gk) ∧ Hid (cur < n) ∧ Hid (pathF (aft es) L b ka a = pre ++ pathF (aft es) L b gk cur) ∧ Hid (OwnK kNat x2.heap.size wr pv (pre ++ [cur])) ∧ Hid (pre.length + gk ≤ 4096) ∧ Hid (Below x2.heap.size x2 wr))
  case atStart => exact ⟨a, [], rfl, Hka.out, Hab.out.1, rfl, HO3.out, by have := Hkn.out; have := Hn.out; show 0 + ka ≤ 4096; omega, HB3.out⟩
  case round =>
    clear HO3 HB3
    obtain ⟨cur, pre, rfl, Hat, Hcn, Hpa, HO, Hlen, HB⟩ := hrel
    by_cases hcb : cur = b
    · obtain rfl : gk = 0 := by
        have h1 := Hat.out; rw [hcb] at h1
        have := HD.out.zero; omega
      have hcbi : (cur : Int) = (b : Int) := by omega
      have HF : Hid (∀ u, OwnK kNat w.heap.size wr u (pre ++ [cur]) → RPathPost w n es (a : Int) (b : Int) (.returned (.tuple #[u, .bool true])) wr) := fun u hu =>
        ⟨HB2.out.trans (HB.out.mono HB2.out.size), .inr ⟨a, b, rfl, rfl, Hab.out.1, Hab.out.2, .inr ⟨by rw [HL.out, Hka.out]; omega, u, rfl, by
          rw [HL.out, Hka.out, Int.toNat_natCast, Hpa.out]
          exact hu⟩⟩⟩
      have HO2 := Lib.hid (HO.out.mono HB2.out.size)
      have hbb : (b : Int) = (b : Int) := rfl
      subst hcb
      clear HO Hpa Hat Hlen hcbi hbb
      go_wp2
      refine bodyPost_ret (v := .tuple #[u9, .bool true]) (by simp [results, Try.results14, go_sem]) rfl ?_
      exact HF.out _ HO2.out
    · have hcbi : ¬ (cur : Int) = (b : Int) := by omega
      obtain ⟨i0, j, h1, h2, h3, h4⟩ := find_near HD.out hcb (by have := Hat.out; omega)
      obtain ⟨k, rfl⟩ : ∃ k, gk = k + 1 := by
        have := (HD.out.near cur hcb (by have := Hat.out; omega)).1
        have := Hat.out
        exact ⟨gk - 1, by omega⟩
      have Hi0 := Lib.hid h1
      have Hjd := Lib.hid h2
      have Hbf := Lib.hid h3
      have Hjn : Hid (j < n) := (Hin.out _ (mem_aft.1 (List.mem_of_getElem? h1))).2
      have hpj : pathF (aft es) L b (k + 1) cur = cur :: pathF (aft es) L b k j := by
        show cur :: (if cur = b then [] else _) = _
        rw [if_neg hcb, h4]
      have Hpj := Lib.hid hpj
      have HA := Lib.hid (rAfter_any (n := (n : Int)) (HX.out.later HB.out) (by rw [List.length_map]; have := Hl.out; omega) (cur : Int))
      rw [aftI_ints] at HA
      have c0 := (HG2.out.later HB.out).cell (i := 0) rfl
      have c1 := (HG2.out.later HB.out).cell (i := 1) rfl
      clear h1 h2 h3 h4 hpj hcb
      go_wp2_with fail
      refine HA.out.mono ?_
      rintro r w3 ⟨v3, rfl, ho3, hb3⟩
      have HB3 : Hid (Below x2.heap.size x2 w3) := HB.out.trans (hb3.mono HB.out.size)
      have HOp := Lib.hid (HO.out.later hb3)
      have HRow := Lib.hid ho3.row
      have hil := (List.getElem?_eq_some_iff.1 Hi0.out).1
      have Hil : Hid (i0 < (aft es cur).length ∧ (aft es cur).length ≤ 65536) := ⟨hil, by unfold aft; rw [List.length_map]; exact Nat.le_trans (List.length_filter_le _ _) Hl.out⟩
      obtain ⟨a3, c3, e3, -⟩ := ho3.row.form
      have hlen3 : (ints (aft es cur)).length = (aft es cur).length := by unfold ints; rw [List.length_map]
      rw [hlen3] at e3
      subst e3
      clear HA HO hb3 ho3 hil hlen3 HB
      go_wp2
      go_loopg [12] i0 (fun gi iv wr => ∃ i : Nat, Hid (i + gi = i0) ∧ iv = .int .i64 i ∧ Hid (Below w3.heap.size w3 wr))
      case atStart => exact ⟨0, Nat.zero_add _, rfl, Below.refl _ _⟩
      case round =>
        obtain ⟨i, Hi, rfl, HBi⟩ := hrel
        obtain ⟨x, hx⟩ : ∃ x, (aft es cur)[i]? = some x := ⟨_, List.getElem?_eq_getElem (by have := Hi.out; have := Hil.out; omega)⟩
        have hxn : x < n := (Hin.out _ (mem_aft.1 (List.mem_of_getElem? hx))).2
        obtain ⟨g, off, rfl, hca⟩ := (row_ints.2 (RowK.later HRow.out HBi.out)).at_ hx
        have d1 := hca 0 _ rfl
        simp only [kNat, Nat.mul_one, Nat.add_zero] at d1
        have HBx : Hid (Below x2.heap.size x2 wr) := HB3.out.trans (HBi.out.mono HB3.out.size)
        have d2 := numRow_at (HR.out.later HBx.out) (i := x) (by rw [HD.out.len]; exact hxn)
        have d3 := numRow_at (HR.out.later HBx.out) (i := cur) (by rw [HD.out.len]; exact Hcn.out)
        have hii : (i : Int) < ((aft es cur).length : Int) := by have := Hi.out; have := Hil.out; omega
        have his : i ≤ 65536 := by have := Hi.out; have := Hil.out; omega
        have hxi : (x : Int) < (n : Int) := by omega
        have hci : (cur : Int) < (n : Int) := by have := Hcn.out; omega
        obtain ⟨ex, hex⟩ : ∃ e, at_ L x = e := ⟨_, rfl⟩
        obtain ⟨ec, hec⟩ : ∃ e, at_ L cur = e := ⟨_, rfl⟩
        rw [hex] at d2
        rw [hec] at d3
        have hec2 : (-1 ≤ ec) ∧ ec ≤ 5000 := by have := Hat.out; rw [hec] at this; have := Hlen.out; omega
        obtain ⟨hec3, hec4⟩ := hec2
        have Hex := Lib.hid hex
        have Hec := Lib.hid hec
        have Hx := Lib.hid hx
        clear hex hec hx hca
        by_cases hlt : i < i0
        · have hne : ¬ ex = ec - 1 := by rw [← Hex.out, ← Hec.out]; exact Hbf.out i x hlt Hx.out
          have Hlt := Lib.hid hlt
          clear hlt
          go_upto_region 11 with fail
          go_quiet (fail)
          go_wp2
          go_roundg (i0 - (i + 1))
          case measure => have := Hi.out; have := Hlt.out; omega
          case rel => exact ⟨i + 1, by have := Hi.out; have := Hlt.out; show _ = _; omega, by go_num, Below.dn HBi.out _⟩
        · obtain rfl : i = i0 := by have := Hi.out; omega
          obtain rfl : x = j := Option.some.inj (Hx.out.symm.trans Hi0.out)
          have heq : ex = ec - 1 := by rw [← Hex.out, ← Hec.out]; exact Hjd.out
          subst heq
          have HLt : Hid (∀ q, Below x2.heap.size x2 (wr.drewN q)) := fun q => Below.dn HBx.out q
          have HOt : Hid (∀ q, OwnK kNat x2.heap.size (wr.drewN q) u9 (pre ++ [cur])) := fun q => HOp.out.later (Below.dn HBi.out q)
          have Hln : Hid ((pre ++ [cur]).length + 1 ≤ 1000000) := by show _ ≤ _; rw [List.length_append, List.length_singleton]; have := Hlen.out; omega
          clear hlt HOp
          go_upto_region 11 with fail
          go_quiet (fail)
          go_upto_region 14 with fail
          go_wp2_with (first
            | (at_builtin; refine wpList_append_one (K := kNat) rfl _ _ rfl x2.heap.size u9 (pre ++ [cur]) rfl (HOt.out _) x _ _ rfl rfl Hln.out (HLt.out _).size ?_; intro v9 w9 ho9 hg9 _; have HO9 := Lib.hid ho9; have HB9 : Hid (Below x2.heap.size x2 w9) := OwnK.below (HOt.out _) hg9 (HLt.out _) (Nat.le_refl _); clear ho9 hg9)
            | go_in)
          go_roundg k
          case measure => omega
          case rel =>
            refine ⟨x, pre ++ [cur], rfl, ?_, Hjn, ?_, HO9, ?_, HB9⟩
            · have h1 := Hjd.out; have h2 := Hat.out; show at_ L x = (k : Int); rw [h1, h2]; push_cast; omega
            · show _ = _; rw [Hpa.out, Hpj.out, List.append_assoc]; rfl
            · have := Hlen.out; show _ ≤ _; rw [List.length_append, List.length_singleton]; omega
end Go.Proofs.Yteiddebjbiadbaa
