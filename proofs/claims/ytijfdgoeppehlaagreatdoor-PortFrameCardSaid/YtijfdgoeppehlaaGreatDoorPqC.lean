/- Law 37: disturb, changes, PortFrame. (printed by wip/gen_pqc.py) -/
import Derived.Test.YtijfdgoeppehlaaGreatDoorToA
import Derived.Test.YtijfdgoeppehlaaGreatDoorErrA
import Derived.Test.YtijfdgoeppehlaaGreatDoorNeqC
import Derived.Test.YtijfdgoeppehlaaGreatDoorPqA
import Derived.BigQuiet
import Derived.Deep.LoopGhost
import Derived.Deep.RegionHeld3
namespace Go.Proofs.YtijfdgoeppehlaaGreatDoor
open Go.RowKit
attribute [local go_sem ↓] Go.wp_at_zero Go.wp_at_succ
attribute [local go_sem ↓] run_neq_name

/-- A state with at most N objects that agrees with f at the names of some changes. -/
def AgreeN (N : Nat) (w : World) (sp : Nat) (f : NameT → Option ByteArray) (cs : List ChangeT) : Prop := ∃ g, BaseN N w.heap.size w sp g ∧ ∀ c ∈ cs, g c.name = f c.name
theorem AgreeN.later {N : Nat} {w w' : World} {sp : Nat} {f : NameT → Option ByteArray} {cs : List ChangeT} (h : AgreeN N w sp f cs) (hb : Below w.heap.size w w') : AgreeN N w' sp f cs := by
  obtain ⟨g, h1, h2⟩ := h
  exact ⟨g, (h1.later hb).up hb.size, h2⟩
theorem AgreeN.more {N N' : Nat} {w : World} {sp : Nat} {f : NameT → Option ByteArray} {cs : List ChangeT} (h : AgreeN N w sp f cs) (hn : N ≤ N') : AgreeN N' w sp f cs := by
  obtain ⟨g, h1, h2⟩ := h
  exact ⟨g, h1.more hn, h2⟩
/-- None of the first k changes bears the name. -/
def freeK (cs : List ChangeT) (n : NameT) (k : Nat) : Bool := (cs.take k).all fun c => neqNB c.name n
theorem freeK_succ {cs : List ChangeT} {n : NameT} {k : Nat} {c : ChangeT} (h : cs[k]? = some c) : freeK cs n (k + 1) = (freeK cs n k && neqNB c.name n) := by
  unfold freeK
  rw [List.take_add_one, h]
  simp
theorem free_apply {cs : List ChangeT} {d : ChangeT} (h : freeK cs d.name cs.length = true) (g : NameT → Option ByteArray) : ∀ c ∈ cs, applyC g d c.name = g c.name := fun c hc => by
  unfold freeK at h
  rw [List.take_length, List.all_eq_true] at h
  have hne : c.name ≠ d.name := by
    have := h c hc
    simpa [neqNB] using this
  unfold applyC setF delF
  split <;> simp [hne]
def DisPost (N : Nat) (w : World) (f : NameT → Option ByteArray) (cs : List ChangeT) (r : Ending) (w' : World) : Prop :=
  ∃ sp', r = .returned (.pointer (some ⟨sp', 0, none⟩)) ∧ Below w.heap.size w w' ∧ AgreeN (N + 8) w' sp' f cs
/-- The fields of a change in a row of changes. -/
theorem RowC.at7 {w : World} {a : Option Addr} {n cap : Nat} {cs : List ChangeT} (h : RowC w (.slice a n cap) cs) {i : Nat} {c : ChangeT} (hi : cs[i]? = some c) : ∃ g, a = some ⟨g, 0, none⟩ ∧ n = cs.length ∧
    w.cell? ⟨g, i * 7, none⟩ = some (.int .i64 c.name.kind) ∧ w.cell? ⟨g, i * 7 + 1, none⟩ = some (.string c.name.owner) ∧ w.cell? ⟨g, i * 7 + 2, none⟩ = some (.int .i64 c.name.number) ∧ w.cell? ⟨g, i * 7 + 3, none⟩ = some (.int .i64 c.name.index) ∧ w.cell? ⟨g, i * 7 + 4, none⟩ = some (.string c.name.text) ∧ w.cell? ⟨g, i * 7 + 5, none⟩ = some (.string c.value) ∧ w.cell? ⟨g, i * 7 + 6, none⟩ = some (.bool c.absent) := by
  obtain ⟨a', cap', hv, hc⟩ := h
  cases hv
  obtain ⟨g, rfl, hg⟩ := hc i c hi
  exact ⟨g, rfl, rfl, hg 0 _ rfl, hg 1 _ rfl, hg 2 _ rfl, hg 3 _ rfl, hg 4 _ rfl, hg 5 _ rfl, hg 6 _ rfl⟩
theorem row_one {w : World} (c : ChangeT) (T : TypeId) : RowC (w.alloc (.cells #[.int .i64 c.name.kind, .string c.name.owner, .int .i64 c.name.number, .int .i64 c.name.index, .string c.name.text, .string c.value, .bool c.absent] T)) (.slice (some ⟨w.heap.size, 0, none⟩) 1 1) [c] := by
  refine ⟨some ⟨w.heap.size, 0, none⟩, 1, rfl, fun i d hi => ⟨w.heap.size, rfl, fun j u hj => ?_⟩⟩
  have hi0 : i = 0 := by
    have := (List.getElem?_eq_some_iff.1 hi).1
    simp at this
    exact this
  subst hi0
  have hd : d = c := by simpa using hi.symm
  subst hd
  rw [cell_of_heap (heap_alloc_new w _), ← Array.getElem?_toList]
  rw [show 0 * 7 + j = j by omega]
  exact hj
theorem agree_apply {N : Nat} {w : World} {p : Nat} {f g : NameT → Option ByteArray} {cs : List ChangeT} {d : ChangeT} (hb : BaseN (N + 1) w.heap.size w p (applyC g d)) (hg : ∀ c ∈ cs, g c.name = f c.name) (hf : freeK cs d.name cs.length = true) : AgreeN (N + 1) w p f cs :=
  ⟨_, hb, fun c hc => (free_apply hf g c hc).trans (hg c hc)⟩

set_option maxRecDepth 100000 in
set_option maxHeartbeats 1600000 in
theorem disturb_any {N : Nat} (sp : Nat) (f : NameT → Option ByteArray) (ra : Option Addr) (rn rc : Nat) (csR : List ChangeT) (a : Option Addr) (n c : Nat) (fo : Nat → ChangeT) (w : World) (hu : Usages w) (hb : BaseN N w.heap.size w sp f) (hN : N < 50000) (hrn : csR.length = rn) (hr : RowC w (.slice ra rn rc) csR) (hRl : rn ≤ 1000000) (hn : n ≤ 9223372036854775807) (hl : C05Sl w a n fo) :
    Calls Tryz.prog 13 #[.pointer (some ⟨sp, 0, none⟩), .slice ra rn rc, .slice a n c] w (DisPost N w f csR) := by
  have Hl := Lib.hid hl; clear hl
  have Hu := Lib.hid hu; clear hu
  have Hr := Lib.hid hr; clear hr
  have Hrn := Lib.hid hrn; clear hrn
  have HA : Hid (AgreeN N w sp f csR) := ⟨f, hb, fun _ _ => rfl⟩
  clear hb
  go_enter Tryz.func13, Tryz.ntmps13
  go_wp2_with fail
  refine (to05_any a n c fo w hn Hl.out).mono ?_
  rintro r w1 ⟨v1, v2, cs, rfl, hb1, hcl, hcf, ho1⟩
  obtain ⟨a1, cap1, rfl, hr1⟩ := ho1.row
  have Hb1 := Lib.hid hb1
  have Hcf := Lib.hid hcf
  have Hr1 : Hid (RowC w1 (.slice a1 cs.length cap1) cs) := ⟨a1, cap1, rfl, hr1⟩
  generalize hnl : cs.length = nl at *
  have Hnl := Lib.hid hnl
  have HI0 : Hid (Below w1.heap.size w1 w1 ∧ AgreeN (N + 0) w1 sp f csR) := ⟨Below.refl _ _, HA.out.later hb1⟩
  clear hnl hb1 hcf ho1 hr1 HA
  go_wp2_with fail
  go_loopg [0, 9] nl (fun gk sv iv wr => ∃ (k p : Nat), k + gk = nl ∧ sv = .pointer (some ⟨p, 0, none⟩) ∧ iv = .int .i64 k ∧ k ≤ 8 ∧ Hid (Below w1.heap.size w1 wr ∧ AgreeN (N + k) wr p f csR))
  case atStart => exact ⟨0, sp, by omega, rfl, rfl, by omega, HI0⟩
  case round =>
    clear HI0
    obtain ⟨k, p, hk, rfl, rfl, hk8, HI⟩ := hrel
    have Hk := Lib.hid hk; clear hk
    by_cases hlt : k < nl ∧ k < 8
    · obtain ⟨hlt, hlt8⟩ := hlt
      obtain ⟨d, hd⟩ : ∃ d, cs[k]? = some d := ⟨cs[k]'(by rw [Hnl.out]; exact hlt), List.getElem?_eq_getElem _⟩
      obtain ⟨g1, rfl, -, -⟩ := Hr1.out.at7 hd
      have Hd := Lib.hid hd; clear hd
      have Hdf : Hid (FitC d) := Hcf.out d (List.mem_of_getElem? Hd.out)
      have Hd7 : Hid (∀ W, Below w1.heap.size w1 W → _) := fun W hW => (Hr1.out.later hW).at7 Hd.out
      obtain ⟨⟨d1, d2, d3, d4, d5⟩, dv, db⟩ := d
      dsimp only at *
      have HBk : Hid (∀ W, Below wr.heap.size wr W → Below w1.heap.size w1 W) := fun W hW => HI.out.1.trans (hW.mono HI.out.1.size)
      have Hd7k : Hid (∀ W, Below wr.heap.size wr W → W.cell? ⟨g1, k * 7, none⟩ = some (.int .i64 d1) ∧ W.cell? ⟨g1, k * 7 + 1, none⟩ = some (.string d2) ∧ W.cell? ⟨g1, k * 7 + 2, none⟩ = some (.int .i64 d3) ∧ W.cell? ⟨g1, k * 7 + 3, none⟩ = some (.int .i64 d4) ∧ W.cell? ⟨g1, k * 7 + 4, none⟩ = some (.string d5) ∧ W.cell? ⟨g1, k * 7 + 5, none⟩ = some (.string dv) ∧ W.cell? ⟨g1, k * 7 + 6, none⟩ = some (.bool db)) := fun W hW => by
        obtain ⟨g', hg, -, h⟩ := Hd7.out W (HBk.out W hW)
        cases hg
        exact h
      clear Hd7
      have hd8 : decide ((k : Int) < 8) = true := decide_eq_true (by omega)
      obtain ⟨wo, hwo⟩ : ∃ wo, wo = wr := ⟨_, rfl⟩
      subst hwo
      go_wp2_with fail
      go_loopg [10, 11] rn (fun gk fv jv wx => ∃ (j : Nat), j + gk = rn ∧ fv = .bool (freeK csR ⟨d1, d2, d3, d4, d5⟩ j) ∧ jv = .int .i64 j ∧ Hid (Below wo.heap.size wo wx))
      case atStart => exact ⟨0, by omega, by simp [freeK], rfl, Below.refl _ _⟩
      case round =>
        obtain ⟨j, hj, rfl, rfl, HX⟩ := hrel
        have Hj := Lib.hid hj; clear hj
        by_cases hlj : j < rn
        · obtain ⟨l0, l1, l2, l3, l4, -, -⟩ := Hd7k.out _ HX.out
          obtain ⟨e, he⟩ : ∃ e, csR[j]? = some e := ⟨csR[j]'(by rw [Hrn.out]; exact hlj), List.getElem?_eq_getElem _⟩
          obtain ⟨g2, rfl, -, r0, r1, r2, r3, r4, -, -⟩ := (Hr.out.later (Hb1.out.trans ((HBk.out _ HX.out).mono Hb1.out.size))).at7 he
          have Hfs := Lib.hid (freeK_succ (n := ⟨d1, d2, d3, d4, d5⟩) he)
          obtain ⟨⟨n1, n2, n3, n4, n5⟩, ev, eb⟩ := e
          dsimp only at r0 r1 r2 r3 r4
          clear he
          have HXd : Hid (∀ m, Below wo.heap.size wo (wr.drewN m)) := fun m => HX.out.trans ⟨rfl, rfl, rfl, Nat.le_refl _, fun _ _ => rfl⟩
          cases hfr : freeK csR ⟨d1, d2, d3, d4, d5⟩ j with
          | false =>
            have Hfr := Lib.hid hfr; clear hfr
            go_wp2_with fail
            go_quiet (fail)
            go_wp2
            go_roundg (rn - (j + 1))
            case measure => have := Hj.out; omega
            case rel => exact ⟨j + 1, by have := Hj.out; omega, by rw [Hfs.out, Hfr.out]; rfl, by go_num, HXd.out _⟩
          | true =>
            have Hfr := Lib.hid hfr; clear hfr
            cases hq : neqNB ⟨n1, n2, n3, n4, n5⟩ ⟨d1, d2, d3, d4, d5⟩ with
            | false =>
              go_wp2_with fail
              go_quiet (fail)
              go_wp2
              go_roundg (rn - (j + 1))
              case measure => have := Hj.out; omega
              case rel => exact ⟨j + 1, by have := Hj.out; omega, by rw [Hfs.out, Hfr.out, hq]; rfl, by go_num, HXd.out _⟩
            | true =>
              go_wp2_with fail
              go_quiet (fail)
              go_wp2
              go_roundg (rn - (j + 1))
              case measure => have := Hj.out; omega
              case rel => exact ⟨j + 1, by have := Hj.out; omega, by rw [Hfs.out, Hfr.out, hq]; rfl, by go_num, HXd.out _⟩
        · obtain rfl : j = rn := by have := Hj.out; omega
          obtain ⟨e0, e1, e2, e3, e4, e5, e6⟩ := Hd7k.out _ HX.out
          have HBx := Lib.hid (HBk.out _ HX.out)
          have Hux : Hid (Usages wr) := Hu.out.below (Hb1.out.trans (HBx.out.mono Hb1.out.size)) Hu.out.pos
          obtain ⟨g, hg, hga⟩ := HI.out.2.later HX.out
          have Hg := Lib.hid hg
          have Hga := Lib.hid hga
          clear hg hga
          have HNa : Hid (∀ o, Below wr.heap.size wr (wr.alloc o)) := fun o => (Below.refl _ _).alloc (Nat.le_refl _) _
          have HRo : Hid (∀ T, RowC (wr.alloc (.cells #[.int .i64 d1, .string d2, .int .i64 d3, .int .i64 d4, .string d5, .string dv, .bool db] T)) (.slice (some ⟨wr.heap.size, 0, none⟩) 1 1) [⟨⟨d1, d2, d3, d4, d5⟩, dv, db⟩]) := fun T => row_one ⟨⟨d1, d2, d3, d4, d5⟩, dv, db⟩ T
          have Hfl : Hid (freeK csR ⟨d1, d2, d3, d4, d5⟩ csR.length = freeK csR ⟨d1, d2, d3, d4, d5⟩ j) := by show _ = _; rw [Hrn.out]
          go_wp2_with fail
          refine (apply_one (N := N + k) (Hux.out.below (HNa.out _) Hux.out.pos) (Hg.out.later (HNa.out _)) (HNa.out _).size (by omega) (HRo.out _) Hdf.out.1 (Nat.le_trans Hdf.out.2 (by decide))).mono ?_
          rintro r w2 ⟨q, sp2, e, rfl, hb2, -, hres⟩
          have HB2 : Hid (Below w1.heap.size w1 w2) := HBx.out.trans (((HNa.out _).trans (hb2.mono (HNa.out _).size)).mono HBx.out.size)
          have HG2 : Hid (AgreeN (N + (k + 1)) w2 p f csR) := by
            refine AgreeN.more (N := N + k) ⟨g, ?_, Hga.out⟩ (by omega)
            exact ((Hg.out.later (HNa.out _)).later (hb2.mono (by simp))).up (Nat.le_trans (by simp) hb2.size)
          clear hb2
          rcases hres with ⟨rfl, rfl⟩ | ⟨rfl, p2, rfl, hbn⟩
          · cases hfr : freeK csR ⟨d1, d2, d3, d4, d5⟩ j
            all_goals
              clear hfr
              go_wp2
              go_roundg (nl - (k + 1))
              case measure => have := Hk.out; omega
              case rel => exact ⟨k + 1, p, by have := Hk.out; omega, rfl, by go_num, by omega, HB2.out, HG2.out⟩
          · cases hfr : freeK csR ⟨d1, d2, d3, d4, d5⟩ j
            · clear hfr
              go_wp2
              go_roundg (nl - (k + 1))
              case measure => have := Hk.out; omega
              case rel => exact ⟨k + 1, p, by have := Hk.out; omega, rfl, by go_num, by omega, HB2.out, HG2.out⟩
            · have HGn : Hid (AgreeN (N + (k + 1)) w2 p2 f csR) := agree_apply (N := N + k) hbn Hga.out (Hfl.out.trans hfr)
              clear hfr hbn
              go_wp2
              go_roundg (nl - (k + 1))
              case measure => have := Hk.out; omega
              case rel => exact ⟨k + 1, p2, by have := Hk.out; omega, rfl, by go_num, by omega, HB2.out, HGn.out⟩
    · have hways : ¬ k < nl ∨ (k < nl ∧ ¬ k < 8) := by omega
      clear hlt
      have HP : Hid (DisPost N w f csR (.returned (.pointer (some ⟨p, 0, none⟩))) wr) := ⟨p, rfl, Hb1.out.trans (HI.out.1.mono Hb1.out.size), HI.out.2.more (by omega)⟩
      rcases hways with h5 | ⟨h5, h5'⟩
      all_goals
        go_wp2_with fail
        go_ret
        exact HP.out
end Go.Proofs.YtijfdgoeppehlaaGreatDoor

namespace Go.Proofs.YtijfdgoeppehlaaGreatDoor
open Go.RowKit
attribute [local go_sem ↓] Go.wp_at_zero Go.wp_at_succ
attribute [local go_sem ↓] run_neq_change

theorem perm_le_one {α : Type} {l l' : List α} (h : l.Perm l') (hl : l'.length ≤ 1) : l = l' := by
  match l', hl, h with
  | [], _, h => exact List.Perm.eq_nil h
  | [x], _, h => exact List.perm_singleton.1 h
  | _ :: _ :: _, hl, _ => simp at hl
/-- Sorted lists of the same changes, one for each name, are equal. -/
theorem sorted_eq {a b l : List ChangeT} (ha : a.Perm l) (hb : b.Perm l) (sa : SortedC a) (sb : SortedC b) (hl : (l.map (·.name)).Nodup) : a = b := by
  have hinj : ∀ x ∈ l, ∀ y ∈ l, x.name = y.name → x = y := by
    clear ha hb sa sb
    induction l with
    | nil => intro x hx; cases hx
    | cons c l ih =>
      simp only [List.map_cons, List.nodup_cons] at hl
      intro x hx y hy h
      rcases List.mem_cons.1 hx with hx1 | hx
      · rcases List.mem_cons.1 hy with hy1 | hy
        · rw [hx1, hy1]
        · exact absurd (List.mem_map.2 ⟨y, hy, by rw [← h, hx1]⟩) hl.1
      · rcases List.mem_cons.1 hy with hy1 | hy
        · exact absurd (List.mem_map.2 ⟨x, hx, by rw [h, hy1]⟩) hl.1
        · exact ih hl.2 x hx y hy h
  refine List.Perm.eq_of_pairwise (le := fun x y : ChangeT => cmpN x.name y.name ≤ 0) (fun x y hx hy h1 h2 => ?_) sa sb (ha.trans hb.symm)
  have h3 := cmpN_ok.anti x.name y.name
  exact hinj x (ha.mem_iff.1 hx) y (hb.mem_iff.1 hy) (cmpN_ok.eq _ _ (by omega))
theorem reads_names {rs : List (NameT × ChangeT)} (h : ReadsOk rs) : ((rs.map Prod.snd).map (·.name)).Nodup := by
  have : (rs.map Prod.snd).map (·.name) = rs.map Prod.fst := by
    rw [List.map_map]
    exact List.map_congr_left (fun p hp => (h.2 p hp).1)
  rw [this]
  exact h.1
theorem agree_reads {f g : NameT → Option ByteArray} {rs : List (NameT × ChangeT)} {cs : List ChangeT} (hr : ReadsOk rs) (hp : cs.Perm (rs.map Prod.snd)) (h : ∀ c ∈ cs, g c.name = f c.name) : ∀ n ∈ rs.map Prod.fst, g n = f n := fun n hn => by
  obtain ⟨p, hpm, rfl⟩ := List.mem_map.1 hn
  have h1 := h p.2 (hp.mem_iff.2 (List.mem_map.2 ⟨p, hpm, rfl⟩))
  rw [(hr.2 p hpm).1] at h1
  exact h1

set_option maxRecDepth 100000 in
set_option maxHeartbeats 1600000 in
/-- changes of two rows with the same changes. -/
theorem changes37_any (a1 a2 : Option Addr) (n c1 c2 : Nat) (cs : List ChangeT) (w : World) (hn : cs.length = n) (hn2 : n ≤ 1000000) (h1 : RowC w (.slice a1 n c1) cs) (h2 : RowC w (.slice a2 n c2) cs) :
    Calls Tryz.prog 15 #[.slice a1 n c1, .slice a2 n c2] w fun r w' => r = .returned (.bool true) ∧ Below w.heap.size w w' := by
  have H1 := Lib.hid h1; clear h1
  have H2 := Lib.hid h2; clear h2
  have Hn := Lib.hid hn; clear hn
  go_enter Tryz.func15, Tryz.ntmps15
  go_wp2_with fail
  go_loopg [5] n (fun gk iv wr => ∃ (k : Nat), k + gk = n ∧ iv = .int .i64 k ∧ Hid (Below w.heap.size w wr))
  case atStart => exact ⟨0, by omega, rfl, Below.refl _ _⟩
  case round =>
    obtain ⟨k, hk, rfl, HI⟩ := hrel
    have Hk := Lib.hid hk; clear hk
    by_cases hlt : k < n
    · obtain ⟨e, he⟩ : ∃ e, cs[k]? = some e := ⟨cs[k]'(by rw [Hn.out]; exact hlt), List.getElem?_eq_getElem _⟩
      obtain ⟨g1, rfl, -, r0, r1, r2, r3, r4, r5, r6⟩ := (H1.out.later HI.out).at7 he
      obtain ⟨g2, rfl, -, l0, l1, l2, l3, l4, l5, l6⟩ := (H2.out.later HI.out).at7 he
      obtain ⟨⟨n1, n2, n3, n4, n5⟩, ev, eb⟩ := e
      dsimp only at r0 r1 r2 r3 r4 r5 r6 l0 l1 l2 l3 l4 l5 l6
      have hq := neqCB_self ⟨⟨n1, n2, n3, n4, n5⟩, ev, eb⟩
      have HXd : Hid (∀ m, Below w.heap.size w (wr.drewN m)) := fun m => HI.out.trans ⟨rfl, rfl, rfl, Nat.le_refl _, fun _ _ => rfl⟩
      clear he
      go_wp2_with fail
      go_quiet (fail)
      go_wp2
      go_roundg (n - (k + 1))
      case measure => have := Hk.out; omega
      case rel => exact ⟨k + 1, by have := Hk.out; omega, by go_num, HXd.out _⟩
    · go_wp2
      go_ret
      exact ⟨rfl, HI.out⟩
/-- Equal results are equal. -/
theorem run_eql_res37 (w : World) (x1 x2 x3 : ByteArray) (x4 : Int) : (binOp .eql 42 (.agg #[.string x1, .string x2, .string x3, .int .i64 x4]) (.agg #[.string x1, .string x2, .string x3, .int .i64 x4])).run Tryz.prog w = .ok (.bool true) w := by
  have hu : Tryz.prog.underlying 42 = some (.struct (Tryz.prog.fieldsOf 42)) := by kernel_rfl
  have hst : Tryz.prog.stoodInHeld 42 = false := by kernel_rfl
  have h : (Op.equal 42 (.agg #[.string x1, .string x2, .string x3, .int .i64 x4]) (.agg #[.string x1, .string x2, .string x3, .int .i64 x4])).run Tryz.prog w = .ok true w := by
    simp only [Op.equal, Op.maxDepth]
    rw [run_equalIn_struct w 9999 _ _ _ hu hst]
    simp [go_sem, Tryz.underlying33, Tryz.underlying9, Tryz.underlying40]
  simp only [binOp]
  simp [h]
end Go.Proofs.YtijfdgoeppehlaaGreatDoor

namespace Go.Proofs.YtijfdgoeppehlaaGreatDoor
open Go.RowKit
attribute [local go_sem ↓] Go.wp_at_zero Go.wp_at_succ
attribute [local go_sem ↓] run_eql_res37

set_option maxRecDepth 100000 in
set_option maxHeartbeats 1600000 in
theorem frame37_any (a : Option Addr) (n c : Nat) (fo : Nat → OpP) (kd wh us : Nat) (nu ep : Int) (sr by_ : ByteArray) (hwh : wh ≤ 255) (hsr : sr.size ≤ 9223372036854775807) (hby : by_.size ≤ 9223372036854775807) (ao : Option Addr) (no co : Nat) (fc : Nat → ChangeT) (w : World) (hu : Usages w) (hn : n ≤ 9223372036854775807) (hl : OpSlP w a n fo) (hno : no ≤ 9223372036854775807) (hlo : C05Sl w ao no fc) :
    Calls Tryz.prog 4 #[.slice a n c, .agg #[.int .u8 kd, .int .u8 wh, .int .u8 us, .int .i64 nu, .int .i64 ep, .string sr, .string by_], .slice ao no co] w (TruePost w) := by
  have HLo := Lib.hid hlo; clear hlo
  have HO := Lib.hid hl
  have Hu := Lib.hid hu
  have Hwh := Lib.hid hwh
  have Hsr := Lib.hid hsr
  have Hby := Lib.hid hby
  clear hl hu hwh hsr hby
  have HB0 : Hid (∀ o, Below w.heap.size w (w.alloc o)) := fun o => (Below.refl _ _).alloc (Nat.le_refl _) _
  have HX0 : Hid (∀ o, (w.alloc o).heap[w.heap.size]? = some o) := fun o => heap_alloc_new w o
  go_enter Tryz.func4, Tryz.ntmps4
  go_wp2_with fail
  have HBa := Lib.hid (HB0.out (.cells #[.int .u8 kd, .int .u8 wh, .int .u8 us, .int .i64 nu, .int .i64 ep, .string sr, .string by_] 35))
  have HXa := Lib.hid (HX0.out (.cells #[.int .u8 kd, .int .u8 wh, .int .u8 us, .int .i64 nu, .int .i64 ep, .string sr, .string by_] 35))
  clear HB0 HX0
  generalize w.alloc (.cells #[.int .u8 kd, .int .u8 wh, .int .u8 us, .int .i64 nu, .int .i64 ep, .string sr, .string by_] 35) = wa at *
  refine (qKnown_any _ (Hu.out.below HBa.out Hu.out.pos)).mono ?_
  rintro r w1 ⟨rfl, hb1⟩
  have HB1 := Lib.hid (HBa.out.trans (hb1.mono HBa.out.size))
  have HX1 := Lib.hid ((hb1.block w.heap.size (lt_of_heap HXa.out)).trans HXa.out)
  clear hb1 HBa HXa
  go_wp2_with fail
  refine (base37_any a n c fo w1 (Hu.out.below HB1.out Hu.out.pos) hn (HO.out.later HB1.out)).mono ?_
  rintro r w2 ⟨sp, f, rfl, hb2, hbn⟩
  have HB2 := Lib.hid (HB1.out.trans (hb2.mono HB1.out.size))
  have HX2 := Lib.hid ((hb2.block w.heap.size (lt_of_heap HX1.out)).trans HX1.out)
  have Hbn := Lib.hid hbn
  clear hb2 hbn HB1 HX1
  go_wp2_with fail
  refine (qmNew (w0 := w2) (Hu.out.below HB2.out Hu.out.pos) (Below.refl _ _) Hbn.out).mono ?_
  rintro r w3 ⟨rfl, s3, -⟩
  have S3 := Lib.hid s3
  clear s3
  generalize w2.heap.size + 2 = b at *
  have hx3 := (S3.out.below.block w.heap.size (lt_of_heap HX2.out)).trans HX2.out
  have x0 := cell_of_heap hx3 0
  have x1 := cell_of_heap hx3 1
  have x2 := cell_of_heap hx3 2
  have x3 := cell_of_heap hx3 3
  have x4 := cell_of_heap hx3 4
  have x5 := cell_of_heap hx3 5
  have x6 := cell_of_heap hx3 6
  have HX3 := Lib.hid hx3
  clear hx3
  go_wp2_with fail
  have HN : Hid ((⟨f, [], []⟩ : AV).calls.length < 1000000) := by show 0 < 1000000; decide
  have HP := Lib.hid (@qapart_names f kd wh us nu ep sr by_)
  have HFp := Lib.hid (fun g => @pframe_plain 20 28 f g kd wh us nu ep sr by_)
  have Htw := Lib.hid (qapart_plain f kd wh us nu ep sr by_)
  refine (pCall_any (N := ⟨20, ⟨f, [], []⟩⟩) S3.out HN.out kd wh us nu ep sr by_ Hwh.out Hsr.out Hby.out).mono ?_
  rintro r w4 ⟨rfl, s4, -⟩
  have HX4 := Lib.hid ((s4.below.block w.heap.size (lt_of_heap HX2.out)).trans HX2.out)
  clear x0 x1 x2 x3 x4 x5 x6 S3 HX3
  have HR4 := Lib.hid s4.rdk
  generalize (pCallN ⟨20, ⟨f, [], []⟩⟩ kd wh us nu ep sr by_).1.V = V1 at *
  obtain ⟨rs, hrs⟩ : ∃ rs, (pCallN ⟨20, ⟨f, [], []⟩⟩ kd wh us nu ep sr by_).2 = rs := ⟨_, rfl⟩
  rw [hrs] at HP Htw ⊢
  simp only [hrs] at HFp
  clear hrs
  obtain ⟨⟨rsr, rby⟩, rt, re⟩ := rs
  dsimp only [presCells] at *
  have S4 : Hid (∀ o, QM w2 (w4.alloc o) b 20 V1 (fun _ => False)) := fun o => s4.later ((Below.refl _ _).alloc (Nat.le_refl _) _)
  have HXb : Hid (∀ o, (w4.alloc o).heap[w.heap.size]? = some (.cells #[.int .u8 kd, .int .u8 wh, .int .u8 us, .int .i64 nu, .int .i64 ep, .string sr, .string by_] 35 (0, 0))) := fun o => (Below.heap_alloc w4 o w.heap.size (lt_of_heap HX4.out)).trans HX4.out
  clear s4 HX4
  have HRb : Hid (∀ o, (w4.alloc o).heap[w4.heap.size]? = some o) := fun o => heap_alloc_new w4 o
  go_upto_region 6 with fail
  have S5 := Lib.hid (S4.out (.cells #[.string rsr, .string rby, .string rt, .int .i64 re] 42))
  have HX5 := Lib.hid (HXb.out (.cells #[.string rsr, .string rby, .string rt, .int .i64 re] 42))
  have HR5 := Lib.hid (HRb.out (.cells #[.string rsr, .string rby, .string rt, .int .i64 re] 42))
  clear S4 HXb HRb
  generalize w4.alloc (.cells #[.string rsr, .string rby, .string rt, .int .i64 re] 42) = w5 at *
  have HL : Hid (V1.reads.length ≤ 1000000) := by
    show _ ≤ _
    have h2 := two_names (x := ofPortN nu) (y := ofPortN nu) HR4.out.1 (fun m hm => by
      obtain ⟨p, hp, rfl⟩ := List.mem_map.1 hm
      exact .inl (Htw.out.1 p hp))
    rw [List.length_map] at h2
    omega
  have Hw1 : Hid ((writesU V1.calls).length ≤ 1) := by
    show _ ≤ _
    match hq : V1.calls, Htw.out.2.2.2 with
    | [], _ => simp [writesU, lastOf, lastFrom]
    | [c], _ => exact Nat.le_refl 1
    | _ :: _ :: _, h => simp at h
  clear Htw
  go_wp2_with fail
  refine (qmReads S5.out HL.out).mono ?_
  rintro r w6 ⟨v1, cs1, rfl, hr1, hp1, hs1, hb6, s6⟩
  have HX6 := Lib.hid ((hb6.block w.heap.size (lt_of_heap HX5.out)).trans HX5.out)
  have HR6 := Lib.hid ((hb6.block w4.heap.size (lt_of_heap HR5.out)).trans HR5.out)
  have S6 := Lib.hid s6
  have Hr1 := Lib.hid hr1
  have Hp1 := Lib.hid hp1
  have HB6 : Hid (Below w.heap.size w w6) := HB2.out.trans (s6.below.mono HB2.out.size)
  have Hbn6 : Hid (BaseN 20 w6.heap.size w6 sp f) := (Hbn.out.later s6.below).up s6.below.size
  clear hr1 hp1 hs1 hb6 s6 S5 HX5 HR5 Hbn
  obtain ⟨a1, cap1, rfl, -⟩ := id Hr1.out
  go_wp2_with fail
  have Hc1 : Hid (cs1.length ≤ 1000000) := by
    show _ ≤ _
    rw [Hp1.out.length_eq, List.length_map]
    exact HL.out
  generalize hcl : cs1.length = cl at *
  have Hcl := Lib.hid hcl; clear hcl
  refine (disturb_any (N := 20) sp f a1 cl cap1 cs1 ao no co fc w6 (Hu.out.below HB6.out Hu.out.pos) Hbn6.out (by decide) Hcl.out Hr1.out Hc1.out hno (HLo.out.later HB6.out)).mono ?_
  rintro r w7 ⟨sp', rfl, hb7, g, hg, hga⟩
  have HB7 : Hid (Below w.heap.size w w7) := HB6.out.trans (hb7.mono HB6.out.size)
  have HX7 := Lib.hid ((hb7.block w.heap.size (lt_of_heap HX6.out)).trans HX6.out)
  have HR7 := Lib.hid ((hb7.block w4.heap.size (lt_of_heap HR6.out)).trans HR6.out)
  have S7 := Lib.hid (S6.out.later hb7)
  have Hg := Lib.hid hg
  obtain ⟨f1, f2, f3⟩ := HFp.out g (agree_reads HR4.out Hp1.out hga)
  have F1 := Lib.hid f1
  have F2 := Lib.hid f2
  have F3 := Lib.hid f3
  clear hb7 hg hga f1 f2 f3 HX6 HR6 S6 Hr1 Hp1 Hbn6 HB6 HFp Hc1 Hcl
  go_wp2_with fail
  refine (qmNew (w0 := w7) (Hu.out.below HB7.out Hu.out.pos) (Below.refl _ _) Hg.out).mono ?_
  rintro r w8 ⟨rfl, s8, -⟩
  have S8 := Lib.hid s8
  clear s8 Hg
  generalize w7.heap.size + 2 = b2 at *
  have hx8 := (S8.out.below.block w.heap.size (lt_of_heap HX7.out)).trans HX7.out
  have x0 := cell_of_heap hx8 0
  have x1 := cell_of_heap hx8 1
  have x2 := cell_of_heap hx8 2
  have x3 := cell_of_heap hx8 3
  have x4 := cell_of_heap hx8 4
  have x5 := cell_of_heap hx8 5
  have x6 := cell_of_heap hx8 6
  clear hx8
  go_wp2_with fail
  have HN2 : Hid ((⟨g, [], []⟩ : AV).calls.length < 1000000) := by show 0 < 1000000; decide
  refine (pCall_any (N := ⟨28, ⟨g, [], []⟩⟩) S8.out HN2.out kd wh us nu ep sr by_ Hwh.out Hsr.out Hby.out).mono ?_
  rintro r w9 ⟨rfl, s9, -⟩
  clear x0 x1 x2 x3 x4 x5 x6 S8
  rw [F1.out]
  generalize (pCallN ⟨28, ⟨g, [], []⟩⟩ kd wh us nu ep sr by_).1.V = V2 at *
  clear F1
  dsimp only [presCells]
  have T1 : Hid (∀ o, QM w2 (w9.alloc o) b 20 V1 (fun _ => False)) := fun o => (S7.out.later s9.below).later ((Below.refl _ _).alloc (Nat.le_refl _) _)
  have T2 : Hid (∀ o, QM w7 (w9.alloc o) b2 28 V2 (fun _ => False)) := fun o => s9.later ((Below.refl _ _).alloc (Nat.le_refl _) _)
  have HRa : Hid (∀ o, (w9.alloc o).heap[w4.heap.size]? = some (.cells #[.string rsr, .string rby, .string rt, .int .i64 re] 42 (0, 0))) := fun o => (Below.heap_alloc w9 o _ (Nat.lt_of_lt_of_le (lt_of_heap HR7.out) s9.below.size)).trans ((s9.below.block _ (lt_of_heap HR7.out)).trans HR7.out)
  have HRc : Hid (∀ o, (w9.alloc o).heap[w9.heap.size]? = some o) := fun o => heap_alloc_new w9 o
  clear s9 S7 HR7 HX7
  go_upto_region 9 with fail
  have U1 := Lib.hid (T1.out (.cells #[.string rsr, .string rby, .string rt, .int .i64 re] 42))
  have U2 := Lib.hid (T2.out (.cells #[.string rsr, .string rby, .string rt, .int .i64 re] 42))
  have hra := HRa.out (.cells #[.string rsr, .string rby, .string rt, .int .i64 re] 42)
  have hrc := HRc.out (.cells #[.string rsr, .string rby, .string rt, .int .i64 re] 42)
  clear T1 T2 HRa HRc
  generalize w9.alloc (.cells #[.string rsr, .string rby, .string rt, .int .i64 re] 42) = wa at *
  have p0 : wa.cell? ⟨w4.heap.size, 0, none⟩ = some (.string rsr) := cell_of_heap hra 0
  have q0 : wa.cell? ⟨w9.heap.size, 0, none⟩ = some (.string rsr) := cell_of_heap hrc 0
  have p1 : wa.cell? ⟨w4.heap.size, 1, none⟩ = some (.string rby) := cell_of_heap hra 1
  have q1 : wa.cell? ⟨w9.heap.size, 1, none⟩ = some (.string rby) := cell_of_heap hrc 1
  have p2 : wa.cell? ⟨w4.heap.size, 2, none⟩ = some (.string rt) := cell_of_heap hra 2
  have q2 : wa.cell? ⟨w9.heap.size, 2, none⟩ = some (.string rt) := cell_of_heap hrc 2
  have p3 : wa.cell? ⟨w4.heap.size, 3, none⟩ = some (.int .i64 re) := cell_of_heap hra 3
  have q3 : wa.cell? ⟨w9.heap.size, 3, none⟩ = some (.int .i64 re) := cell_of_heap hrc 3
  clear hra hrc
  have HLb : Hid (V2.reads.length ≤ 1000000) := by show _ ≤ _; rw [F2.out]; exact HL.out
  go_wp2_with fail
  clear p0 p1 p2 p3 q0 q1 q2 q3
  refine (qmReads U1.out HL.out).mono ?_
  rintro r wb ⟨v3, c3, rfl, hr3, hp3, hs3, hbb, ub⟩
  have U3 := Lib.hid ub
  have U4 := Lib.hid (U2.out.later hbb)
  have Hr3 := Lib.hid hr3
  have Hp3 := Lib.hid hp3
  have Hs3 := Lib.hid hs3
  clear hr3 hp3 hs3 hbb ub U1 U2
  obtain ⟨a3, cap3, rfl, -⟩ := id Hr3.out
  go_wp2_with fail
  refine (qmReads U4.out HLb.out).mono ?_
  rintro r wc ⟨v4, c4, rfl, hr4, hp4, hs4, hbc, uc⟩
  have U5 := Lib.hid (U3.out.later hbc)
  have U6 := Lib.hid uc
  rw [F2.out] at hp4
  obtain rfl : c3 = c4 := sorted_eq Hp3.out hp4 Hs3.out hs4 (reads_names HR4.out)
  have Hr5 := Lib.hid (Hr3.out.later hbc)
  have Hr6 := Lib.hid hr4
  have Hl3 : Hid (c3.length ≤ 1000000) := by
    show _ ≤ _
    rw [Hp3.out.length_eq, List.length_map]
    exact HL.out
  clear hr4 hp4 hs4 hbc uc U3 U4 Hr3 Hp3 Hs3
  obtain ⟨a4, cap4, rfl, -⟩ := id Hr6.out
  generalize hcl : c3.length = cl3 at *
  have Hcl := Lib.hid hcl; clear hcl
  go_wp2_with fail
  refine (changes37_any a3 a4 cl3 cap3 cap4 c3 wc Hcl.out Hl3.out Hr5.out Hr6.out).mono ?_
  rintro r wd ⟨rfl, hbd⟩
  have U7 := Lib.hid (U5.out.later hbd)
  have U8 := Lib.hid (U6.out.later hbd)
  clear hbd U5 U6 Hr5 Hr6 Hl3 Hcl
  go_wp2_with fail
  refine (qmWrites U7.out).mono ?_
  rintro r we ⟨v5, c5, rfl, hr5, hp5, -, hbe, ue⟩
  have U9 := Lib.hid ue
  have Ua := Lib.hid (U8.out.later hbe)
  have Hr7 := Lib.hid hr5
  have Hp5 := Lib.hid hp5
  clear hr5 hp5 hbe ue U7 U8
  obtain ⟨a5, cap5, rfl, -⟩ := id Hr7.out
  go_wp2_with fail
  refine (qmWrites Ua.out).mono ?_
  rintro r wf ⟨v6, c6, rfl, hr6, hp6, -, hbf, uf⟩
  rw [F3.out] at hp6
  have hc6 : (writesU V1.calls).length ≤ 1 := Hw1.out
  obtain rfl : c5 = c6 := (perm_le_one Hp5.out hc6).trans (perm_le_one hp6 hc6).symm
  have Hl5 : Hid (c5.length ≤ 1000000) := by show _ ≤ _; rw [Hp5.out.length_eq]; omega
  have Hr8 := Lib.hid (Hr7.out.later hbf)
  have Hr9 := Lib.hid hr6
  have HBf : Hid (Below w.heap.size w wf) := HB7.out.trans (uf.below.mono HB7.out.size)
  clear hr6 hp6 hbf uf U9 Ua Hr7 Hp5 hc6
  obtain ⟨a6, cap6, rfl, -⟩ := id Hr9.out
  generalize hcl : c5.length = cl5 at *
  have Hcl := Lib.hid hcl; clear hcl
  go_wp2_with fail
  refine (changes37_any a5 a6 cl5 cap5 cap6 c5 wf Hcl.out Hl5.out Hr8.out Hr9.out).mono ?_
  rintro r wg ⟨rfl, hbg⟩
  have HBg : Hid (Below w.heap.size w wg) := HBf.out.trans (hbg.mono HBf.out.size)
  clear hbg
  go_wp2
  go_ret
  exact ⟨rfl, HBg.out⟩
end Go.Proofs.YtijfdgoeppehlaaGreatDoor
