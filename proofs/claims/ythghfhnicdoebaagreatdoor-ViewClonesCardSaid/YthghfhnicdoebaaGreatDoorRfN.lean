/- Reference 04: Sort. (printed by wip/gen_rs.py) Reference 24: Reads, Writes. (printed by wip/gen_vp.py) -/
import Derived.Test.YthghfhnicdoebaaGreatDoorRfL
import Derived.Test.YthghfhnicdoebaaGreatDoorVplA
import Derived.BigQuiet
import Derived.Deep.LoopGhost
import Derived.Deep.RegionHeld3
import Derived.Deep.CutBlock
import Derived.Deep.DeepCutAuto
namespace Go.Proofs.YthghfhnicdoebaaGreatDoor
open Go.RowKit

/-- The different names in order, as a list of objects without bytes. -/
def sortE (rs : List NameT) : List (NameT × ByteArray) := rs.foldl (fun l n => putL cmpN l n ⟨#[]⟩) []
def sortR (rs : List NameT) : List NameT := (sortE rs).map Prod.fst
theorem sortE_snoc (rs : List NameT) (n : NameT) : sortE (rs ++ [n]) = putL cmpN (sortE rs) n ⟨#[]⟩ := by
  unfold sortE
  rw [List.foldl_append]
  rfl
theorem rev_ind {α : Type} {P : List α → Prop} (h0 : P []) (h : ∀ l x, P l → P (l ++ [x])) (l : List α) : P l := by
  have aux : ∀ l : List α, P l.reverse := fun l => by
    induction l with
    | nil => exact h0
    | cons x l ih => rw [List.reverse_cons]; exact h _ _ ih
  have := aux l.reverse
  rwa [List.reverse_reverse] at this
theorem sortE_ok (rs : List NameT) : SortL cmpN (sortE rs) ∧ (∀ e ∈ sortE rs, e.2 = ⟨#[]⟩ ∧ e.1 ∈ rs) ∧ (sortE rs).length ≤ rs.length := by
  induction rs using rev_ind with
  | h0 => exact ⟨List.Pairwise.nil, (fun _ h => nomatch h), Nat.le_refl _⟩
  | h l x ih =>
    rw [sortE_snoc]
    refine ⟨sort_put cmpN_ok ih.1 _ _, fun e he => ?_, ?_⟩
    · rcases putL_mem he with rfl | he
      · exact ⟨rfl, by simp⟩
      · exact ⟨(ih.2.1 e he).1, List.mem_append_left _ (ih.2.1 e he).2⟩
    · rw [List.length_append]
      exact Nat.le_trans (put_length _ _) (Nat.succ_le_succ ih.2.2)
theorem sortR_mem {rs : List NameT} {n : NameT} (h : n ∈ sortR rs) : n ∈ rs := by
  obtain ⟨e, he, rfl⟩ := List.mem_map.1 h
  exact ((sortE_ok rs).2.1 e he).2
theorem sortR_len (rs : List NameT) : (sortR rs).length ≤ rs.length := by
  unfold sortR
  rw [List.length_map]
  exact (sortE_ok rs).2.2
/-- j is the place of x in a list that is in order. -/
def LowAt (L : List NameT) (x : NameT) (j : Nat) : Prop := (∀ i y, i < j → L[i]? = some y → cmpN y x < 0) ∧ ∀ y, L[j]? = some y → ¬ cmpN y x < 0
theorem low_map {es : List (NameT × ByteArray)} {x : NameT} {j : Nat} (hj : j ≤ es.length) (h : LowAt (es.map Prod.fst) x j) : lowK es x = j :=
  lowK_eq hj (fun i e hi he => h.1 i e.1 hi (by rw [List.getElem?_map, he]; rfl)) (fun e he => h.2 e.1 (by rw [List.getElem?_map, he]; rfl))
theorem sort_found {rs : List NameT} {x : NameT} {k j : Nat} (hx : rs[k]? = some x) (h : LowAt (sortR (rs.take k)) x j) (hf : (sortR (rs.take k))[j]? = some x) : sortR (rs.take (k + 1)) = sortR (rs.take k) := by
  obtain ⟨hs, hn, -⟩ := sortE_ok (rs.take k)
  rw [take_snoc hx]
  unfold sortR at *
  rw [sortE_snoc]
  generalize sortE (rs.take k) = es at *
  have hjl : j < es.length := by have := (List.getElem?_eq_some_iff.1 hf).1; rwa [List.length_map] at this
  have hk := low_map (Nat.le_of_lt hjl) h
  rcases low_ways (n := x) hs with ⟨-, v, h2, -, -, hput⟩ | ⟨h1, -, -⟩
  · rw [hput ⟨#[]⟩, hk]
    rw [hk] at h2
    have hv : v = ⟨#[]⟩ := (hn _ (List.mem_of_getElem? h2)).1
    subst hv
    obtain ⟨hlt, he⟩ := List.getElem?_eq_some_iff.1 h2
    conv => rhs; rw [← List.take_append_drop j es, List.drop_eq_getElem_cons hlt, he]
    simp
  · exfalso
    unfold isAt at h1
    rw [hk] at h1
    rw [List.getElem?_map] at hf
    cases he : es[j]? with
    | none => rw [he] at hf; cases hf
    | some e =>
      rw [he] at hf h1
      have hf : e.1 = x := Option.some.inj hf
      have h1 : eqNB e.1 x = false := h1
      rw [hf] at h1
      simp [eqNB] at h1
theorem sort_new {rs : List NameT} {x : NameT} {k j : Nat} (hx : rs[k]? = some x) (hj : j ≤ (sortR (rs.take k)).length) (h : LowAt (sortR (rs.take k)) x j) (hf : (sortR (rs.take k))[j]? ≠ some x) : sortR (rs.take (k + 1)) = (sortR (rs.take k)).take j ++ [x] ++ (sortR (rs.take k)).drop j := by
  obtain ⟨hs, hn, -⟩ := sortE_ok (rs.take k)
  rw [take_snoc hx]
  unfold sortR at *
  rw [sortE_snoc]
  generalize sortE (rs.take k) = es at *
  rw [List.length_map] at hj
  have hk := low_map hj h
  rcases low_ways (n := x) hs with ⟨-, v, h2, -⟩ | ⟨-, -, hput⟩
  · rw [hk] at h2
    exact absurd (by rw [List.getElem?_map, h2]; rfl) hf
  · rw [hput ⟨#[]⟩, hk]
    simp [List.map_take, List.map_drop]
end Go.Proofs.YthghfhnicdoebaaGreatDoor

namespace Go.Proofs.YthghfhnicdoebaaGreatDoor
open Go.RowKit
attribute [local go_sem ↓] run_eql_N
attribute [local go_sem ↓] Go.wp_at_zero Go.wp_at_succ

set_option maxRecDepth 100000 in
set_option maxHeartbeats 3200000 in
theorem rSort_any (w : World) (v : Value) (rs : List NameT) (hl : RowK kN w v rs) (hf : ∀ n ∈ rs, FitN n) (hlen : rs.length ≤ 10000) :
    Calls Tryz.prog 49 #[v] w fun r w' => ∃ v', r = .returned v' ∧ RowK kN w' v' (sortR rs) ∧ Below w.heap.size w w' := by
  obtain ⟨ax, cx, rfl, hcx, -⟩ := hl.form
  have HX := Lib.hid hl
  have HFr := Lib.hid hf
  have HT : Hid (rs.take rs.length = rs) := List.take_length
  generalize hnn : rs.length = n at *
  have Hnn := Lib.hid hnn
  clear hnn hl hf
  go_enter Tryz.func49, Tryz.ntmps49
  go_wp2_with fail
  go_loopg [3, 4] n (fun gk ov iv wr => ∃ k : Nat, k + gk = n ∧ iv = .int .i64 k ∧ Hid (RowK kN wr ov (sortR (rs.take k))) ∧ Hid (ov = .slice none 0 0 ∨ sortR (rs.take k) ≠ []) ∧ Hid (Below w.heap.size w wr))
  case atStart => exact ⟨0, by omega, rfl, RowK.nil _, .inl rfl, Below.refl _ _⟩
  case round =>
    obtain ⟨k, hk, rfl, HRow, HNe, HBw⟩ := hrel
    obtain ⟨wo, hwo⟩ : ∃ x, x = wr := ⟨_, rfl⟩
    subst hwo
    have Hk := Lib.hid hk
    have hkn : k ≤ n := by omega
    clear hk
    by_cases hlt : k < n
    · have hkl : k < rs.length := by rw [Hnn.out]; exact hlt
      have hx : rs[k]? = some rs[k] := List.getElem?_eq_getElem hkl
      have HFx := Lib.hid (HFr.out _ (List.getElem_mem hkl))
      generalize rs[k] = x at *
      have Hxk := Lib.hid hx
      have HFound : Hid (∀ j, LowAt (sortR (rs.take k)) x j → (sortR (rs.take k))[j]? = some x → sortR (rs.take (k + 1)) = sortR (rs.take k)) := fun j h1 h2 => sort_found hx h1 h2
      have HNewF : Hid (∀ j, j ≤ (sortR (rs.take k)).length → LowAt (sortR (rs.take k)) x j → (sortR (rs.take k))[j]? ≠ some x → sortR (rs.take (k + 1)) = (sortR (rs.take k)).take j ++ [x] ++ (sortR (rs.take k)).drop j) := fun j h0 h1 h2 => sort_new hx h0 h1 h2
      have HFl : Hid (∀ y ∈ sortR (rs.take k), FitN y) := fun y hy => HFr.out y (List.mem_of_mem_take (sortR_mem hy))
      have HLb : Hid ((sortR (rs.take k)).length ≤ 10000) := Nat.le_trans (sortR_len _) (by rw [List.length_take]; have := Hnn.out; omega)
      generalize sortR (rs.take k) = L at *
      obtain ⟨gx, ox, ea, -⟩ := HX.out.at_ hx
      subst ea
      obtain ⟨b1, b2, b3, b4, b5⟩ := x
      clear hx
      rcases HRow.out with ⟨rfl, hL0⟩ | ⟨go, oo, co, rfl, hco, -⟩
      · have HL0 := Lib.hid hL0
        have HLn : Hid (L.length = 0) := by show _ = _; rw [hL0]; rfl
        clear hL0
        go_upto_block 2 with fail
        go_cut [5] (fun at_ wx => at_ = .int .i64 0 ∧ Hid (LowAt L ⟨b1, b2, b3, b4, b5⟩ 0) ∧ Hid (Below wo.heap.size wo wx))
        case first =>
          go_wp2_with fail
          go_loopg [5] 0 (fun gk jv wi => jv = .int .i64 0 ∧ Hid (Below wo.heap.size wo wi))
          case atStart => exact ⟨rfl, Below.refl _ _⟩
          case round =>
            obtain ⟨rfl, HBi⟩ := hrel
            have HLow : Hid (LowAt L ⟨b1, b2, b3, b4, b5⟩ 0) := ⟨fun i y h => absurd h (Nat.not_lt_zero _), fun y hy => by have h1 := (List.getElem?_eq_some_iff.1 hy).1; have h2 := HLn.out; omega⟩
            go_upto_region 6 with fail
            go_quiet (fail)
            go_wp2
            go_meet
            exact ⟨rfl, HLow, below_toDrewN3 HBi.out _⟩
        case rest =>
          obtain ⟨rfl, HLw, HBx⟩ := hcut
          have HB1 : Hid (Below w.heap.size w wc) := HBw.out.trans (HBx.out.mono HBw.out.size)
          obtain ⟨g', off', eg, hcx⟩ := (HX.out.later HB1.out).at_ Hxk.out
          cases eg
          have d0 : wc.cell? ⟨gx, ox + k * 5, none⟩ = some (.int .i64 b1) := hcx 0 _ rfl
          have d1 : wc.cell? ⟨gx, ox + k * 5 + 1, none⟩ = some (.string b2) := hcx 1 _ rfl
          have d2 : wc.cell? ⟨gx, ox + k * 5 + 2, none⟩ = some (.int .i64 b3) := hcx 2 _ rfl
          have d3 : wc.cell? ⟨gx, ox + k * 5 + 3, none⟩ = some (.int .i64 b4) := hcx 3 _ rfl
          have d4 : wc.cell? ⟨gx, ox + k * 5 + 4, none⟩ = some (.string b5) := hcx 4 _ rfl
          clear hcx
          by_cases hfo : L[0]? = some ⟨b1, b2, b3, b4, b5⟩
          · exact absurd hfo (by rw [HL0.out]; simp)
          · have HNew : Hid (sortR (rs.take (k + 1)) = L.take 0 ++ [⟨b1, b2, b3, b4, b5⟩] ++ L.drop 0) := HNewF.out 0 (by have h2 := HLn.out; omega) HLw.out hfo
            go_upto_region 8 with fail
            go_cut [45] (fun tv wx => tv = .bool false ∧ Hid (Below wc.heap.size wc wx))
            case first =>
              clear hfo
              go_quiet (fail)
              go_wp2
              go_meet
              exact ⟨rfl, below_toDrewN3 (Below.refl _ _) _⟩
            case rest =>
              rename_i wc0
              obtain ⟨rfl, HBy⟩ := hcut
              clear d0 d1 d2 d3 d4 hfo
              have HB2 : Hid (Below w.heap.size w wc) := HB1.out.trans (HBy.out.mono HB1.out.size)
              have HBz : Hid (Below wo.heap.size wo wc) := HBx.out.trans (HBy.out.mono HBx.out.size)
              obtain ⟨g', off', eg, hcx⟩ := (HX.out.later HB2.out).at_ Hxk.out
              cases eg
              have d0 : wc.cell? ⟨gx, ox + k * 5, none⟩ = some (.int .i64 b1) := hcx 0 _ rfl
              have d1 : wc.cell? ⟨gx, ox + k * 5 + 1, none⟩ = some (.string b2) := hcx 1 _ rfl
              have d2 : wc.cell? ⟨gx, ox + k * 5 + 2, none⟩ = some (.int .i64 b3) := hcx 2 _ rfl
              have d3 : wc.cell? ⟨gx, ox + k * 5 + 3, none⟩ = some (.int .i64 b4) := hcx 3 _ rfl
              have d4 : wc.cell? ⟨gx, ox + k * 5 + 4, none⟩ = some (.string b5) := hcx 4 _ rfl
              have hgx : gx < wc.heap.size := World.block_lt_of_cell? wc _ d0
              clear hcx HBy
              have HTk : Hid (RowK kN wc (.slice none 0 0) (L.take 0)) := by show RowK _ _ _ _; rw [HL0.out, List.take_nil]; exact RowK.nil _
              have HA0 : Hid (Below w.heap.size w (wc.alloc (.cells #[] 38))) := HB2.out.alloc HB2.out.size _
              have HC0 : Hid (Below wc.heap.size wc (wc.alloc (.cells #[] 38))) := (Below.refl _ _).alloc (Nat.le_refl _) _
              have HO0 : Hid (OwnK kN wc.heap.size (wc.alloc (.cells #[] 38)) (.slice (some ⟨wc.heap.size, 0, none⟩) 0 0) []) := OwnK.empty (heap_alloc_new wc _) (Nat.le_refl _)
              have HLj : Hid ((L.take 0).length ≤ 10000 ∧ (L.drop 0).length ≤ 10000) := by
                have h1 := HLn.out
                have h2 := HLb.out
                exact ⟨by rw [List.length_take]; omega, by rw [List.length_drop]; omega⟩
              go_upto_region 11 with (first
                | (at_builtin; refine wpList_append_K (K := kN) rfl _ _ rfl wc.heap.size (.slice (some ⟨wc.heap.size, 0, none⟩) 0 0) [] rfl HO0.out (.slice none 0 0) (L.take 0) rfl (HTk.out.later HC0.out) (by have := HLj.out.1; simp only [List.length_nil]; omega) HC0.out.size ?_; intro v1 w1 hrow1 hg1 hat1; have HR1 : Hid (OwnK kN wc.heap.size w1 v1 (L.take 0)) := hrow1; have HC1 : Hid (Below wc.heap.size wc w1) := OwnK.below HO0.out hg1 HC0.out (Nat.le_refl _); obtain ⟨p0, p1, p2, p3, p4⟩ : w1.cell? ⟨gx, ox + k * 5, none⟩ = some (.int .i64 b1) ∧ w1.cell? ⟨gx, ox + k * 5 + 1, none⟩ = some (.string b2) ∧ w1.cell? ⟨gx, ox + k * 5 + 2, none⟩ = some (.int .i64 b3) ∧ w1.cell? ⟨gx, ox + k * 5 + 3, none⟩ = some (.int .i64 b4) ∧ w1.cell? ⟨gx, ox + k * 5 + 4, none⟩ = some (.string b5) := ⟨((bcell HC1.out).1 _ _ hgx).trans d0, ((bcell HC1.out).1 _ _ hgx).trans d1, ((bcell HC1.out).1 _ _ hgx).trans d2, ((bcell HC1.out).1 _ _ hgx).trans d3, ((bcell HC1.out).1 _ _ hgx).trans d4⟩; clear hrow1 hg1 hat1)
                | (at_builtin; refine wpList_append_K (K := kN) rfl _ _ rfl wc.heap.size v1 (L.take 0) rfl (HR1.out.later ((Below.refl _ _).alloc (Nat.le_refl _) _)) (.slice (some ⟨w1.heap.size, 0, none⟩) 1 1) [⟨b1, b2, b3, b4, b5⟩] rfl (RowK.one (heap_alloc_new w1 _) rfl) (by have := HLj.out.1; simp only [List.length_cons, List.length_nil]; omega) (HC1.out.alloc HC1.out.size _).size ?_; intro v2 w2 hrow2 hg2 hat2; have HR2 : Hid (OwnK kN wc.heap.size w2 v2 (L.take 0 ++ [⟨b1, b2, b3, b4, b5⟩])) := hrow2; have HC2 : Hid (Below wc.heap.size wc w2) := OwnK.below (HR1.out.later ((Below.refl _ _).alloc (Nat.le_refl _) _)) hg2 (HC1.out.alloc HC1.out.size _) (Nat.le_refl _); clear hrow2 hg2 hat2 p0 p1 p2 p3 p4 HR1)
                | go_in)
              have HTd : Hid (RowK kN wc (.slice none 0 0) (L.drop 0)) := by show RowK _ _ _ _; rw [HL0.out, List.drop_nil]; exact RowK.nil _
              go_wp2_with (first
                | (at_builtin; refine wpList_append_K (K := kN) rfl _ _ rfl wc.heap.size v2 (L.take 0 ++ [⟨b1, b2, b3, b4, b5⟩]) rfl HR2.out (.slice none 0 0) (L.drop 0) rfl (HTd.out.later HC2.out) (by have := HLj.out; simp only [List.length_append, List.length_cons, List.length_nil]; omega) HC2.out.size ?_; intro v3 w3 hrow3 hg3 hat3; have HR3 : Hid (OwnK kN wc.heap.size w3 v3 (L.take 0 ++ [⟨b1, b2, b3, b4, b5⟩] ++ L.drop 0)) := hrow3; have HC3 : Hid (Below wc.heap.size wc w3) := OwnK.below HR2.out hg3 HC2.out (Nat.le_refl _); clear hrow3 hg3 hat3)
                | go_in)
              go_wp2
              go_roundg (n - (k + 1))
              case measure => have := Hk.out; omega
              case rel => exact ⟨k + 1, by have := Hk.out; omega, by go_num, by show RowK _ _ _ _; rw [HNew.out]; exact HR3.out.row, .inr (by rw [HNew.out]; simp), HB2.out.trans (HC3.out.mono HB2.out.size)⟩

      · generalize hno : L.length = no at *
        have HLn := Lib.hid hno
        have hno0 : 0 < no := by
          rcases HNe.out with h | h
          · cases h
          · have := List.length_pos_iff.2 h; omega
        have hnob : no ≤ 10000 := by have := HLb.out; omega
        have hco0 : 0 < co := by omega
        have hco1 : ¬ co = 0 := by omega
        clear hno
        go_upto_block 2 with fail
        go_cut [5] (fun at_ wx => ∃ j : Nat, j ≤ no ∧ at_ = .int .i64 j ∧ Hid (LowAt L ⟨b1, b2, b3, b4, b5⟩ j) ∧ Hid (Below wo.heap.size wo wx))
        case first =>
          go_wp2_with fail
          go_loopg [5] no (fun gk jv wi => ∃ j : Nat, j + gk = no ∧ jv = .int .i64 j ∧ Hid (∀ i y, i < j → L[i]? = some y → cmpN y ⟨b1, b2, b3, b4, b5⟩ < 0) ∧ Hid (Below wo.heap.size wo wi))
          case atStart => exact ⟨0, by omega, rfl, fun i y h => absurd h (Nat.not_lt_zero _), Below.refl _ _⟩
          case round =>
            obtain ⟨j, hg, rfl, HP, HBi⟩ := hrel
            have Hg := Lib.hid hg
            have hj : j ≤ no := by omega
            clear hg
            by_cases hlt : j < no
            · have hjl : j < L.length := by rw [HLn.out]; exact hlt
              have hy : L[j]? = some L[j] := List.getElem?_eq_getElem hjl
              have hmem : L[j] ∈ L := List.getElem_mem hjl
              have HFy := Lib.hid (HFl.out _ hmem)
              generalize L[j] = y at *
              have Hy := Lib.hid hy
              obtain ⟨g', off', eg, hcy⟩ := (HRow.out.later HBi.out).at_ hy
              cases eg
              obtain ⟨g', off', eg, hcx⟩ := (HX.out.later (HBw.out.trans (HBi.out.mono HBw.out.size))).at_ Hxk.out
              cases eg
              obtain ⟨a1, a2, a3, a4, a5⟩ := y
              clear hy hmem
              have c0 : wr.cell? ⟨go, oo + j * 5, none⟩ = some (.int .i64 a1) := hcy 0 _ rfl
              have c1 : wr.cell? ⟨go, oo + j * 5 + 1, none⟩ = some (.string a2) := hcy 1 _ rfl
              have c2 : wr.cell? ⟨go, oo + j * 5 + 2, none⟩ = some (.int .i64 a3) := hcy 2 _ rfl
              have c3 : wr.cell? ⟨go, oo + j * 5 + 3, none⟩ = some (.int .i64 a4) := hcy 3 _ rfl
              have c4 : wr.cell? ⟨go, oo + j * 5 + 4, none⟩ = some (.string a5) := hcy 4 _ rfl
              have d0 : wr.cell? ⟨gx, ox + k * 5, none⟩ = some (.int .i64 b1) := hcx 0 _ rfl
              have d1 : wr.cell? ⟨gx, ox + k * 5 + 1, none⟩ = some (.string b2) := hcx 1 _ rfl
              have d2 : wr.cell? ⟨gx, ox + k * 5 + 2, none⟩ = some (.int .i64 b3) := hcx 2 _ rfl
              have d3 : wr.cell? ⟨gx, ox + k * 5 + 3, none⟩ = some (.int .i64 b4) := hcx 3 _ rfl
              have d4 : wr.cell? ⟨gx, ox + k * 5 + 4, none⟩ = some (.string b5) := hcx 4 _ rfl
              clear hcy hcx
              obtain ⟨r0, hr0⟩ : ∃ r, cmpN ⟨a1, a2, a3, a4, a5⟩ ⟨b1, b2, b3, b4, b5⟩ = r := ⟨_, rfl⟩
              have HR0 := Lib.hid hr0
              by_cases hlow : r0 < 0
              · have HLo : Hid (cmpN ⟨a1, a2, a3, a4, a5⟩ ⟨b1, b2, b3, b4, b5⟩ < 0) := hr0 ▸ hlow
                clear hr0
                go_upto_region 6 with fail
                go_region_held3 (fun W => W.cell? ⟨go, oo + j * 5, none⟩ = some (.int .i64 a1) ∧ W.cell? ⟨go, oo + j * 5 + 1, none⟩ = some (.string a2) ∧ W.cell? ⟨go, oo + j * 5 + 2, none⟩ = some (.int .i64 a3) ∧ W.cell? ⟨go, oo + j * 5 + 3, none⟩ = some (.int .i64 a4) ∧ W.cell? ⟨go, oo + j * 5 + 4, none⟩ = some (.string a5) ∧ W.cell? ⟨gx, ox + k * 5, none⟩ = some (.int .i64 b1) ∧ W.cell? ⟨gx, ox + k * 5 + 1, none⟩ = some (.string b2) ∧ W.cell? ⟨gx, ox + k * 5 + 2, none⟩ = some (.int .i64 b3) ∧ W.cell? ⟨gx, ox + k * 5 + 3, none⟩ = some (.int .i64 b4) ∧ W.cell? ⟨gx, ox + k * 5 + 4, none⟩ = some (.string b5)) (first | with_reducible exact S1.out | with_reducible exact ⟨c0, c1, c2, c3, c4, d0, d1, d2, d3, d4⟩ | go_keep)
                  (first
                    | (go_at_call 76; refine (nCmp_is ⟨a1, a2, a3, a4, a5⟩ ⟨b1, b2, b3, b4, b5⟩ r0 HR0.out HFy.out HFx.out _).mono ?_; rintro r w9 ⟨rfl, hb9⟩; have HB9 : Hid (Below wo.heap.size wo w9) := HBi.out.trans ((((Below.refl _ _).drew).trans hb9).mono HBi.out.size); have S1 : Hid (w9.cell? ⟨go, oo + j * 5, none⟩ = some (.int .i64 a1) ∧ w9.cell? ⟨go, oo + j * 5 + 1, none⟩ = some (.string a2) ∧ w9.cell? ⟨go, oo + j * 5 + 2, none⟩ = some (.int .i64 a3) ∧ w9.cell? ⟨go, oo + j * 5 + 3, none⟩ = some (.int .i64 a4) ∧ w9.cell? ⟨go, oo + j * 5 + 4, none⟩ = some (.string a5) ∧ w9.cell? ⟨gx, ox + k * 5, none⟩ = some (.int .i64 b1) ∧ w9.cell? ⟨gx, ox + k * 5 + 1, none⟩ = some (.string b2) ∧ w9.cell? ⟨gx, ox + k * 5 + 2, none⟩ = some (.int .i64 b3) ∧ w9.cell? ⟨gx, ox + k * 5 + 3, none⟩ = some (.int .i64 b4) ∧ w9.cell? ⟨gx, ox + k * 5 + 4, none⟩ = some (.string b5)) := ⟨((bcell hb9).1 _ _ (World.block_lt_of_cell? wr _ c0)).trans c0, ((bcell hb9).1 _ _ (World.block_lt_of_cell? wr _ c1)).trans c1, ((bcell hb9).1 _ _ (World.block_lt_of_cell? wr _ c2)).trans c2, ((bcell hb9).1 _ _ (World.block_lt_of_cell? wr _ c3)).trans c3, ((bcell hb9).1 _ _ (World.block_lt_of_cell? wr _ c4)).trans c4, ((bcell hb9).1 _ _ (World.block_lt_of_cell? wr _ d0)).trans d0, ((bcell hb9).1 _ _ (World.block_lt_of_cell? wr _ d1)).trans d1, ((bcell hb9).1 _ _ (World.block_lt_of_cell? wr _ d2)).trans d2, ((bcell hb9).1 _ _ (World.block_lt_of_cell? wr _ d3)).trans d3, ((bcell hb9).1 _ _ (World.block_lt_of_cell? wr _ d4)).trans d4⟩; clear hb9)
                    | fail)
                go_wp2
                go_roundg (no - (j + 1))
                case measure => have := Hg.out; omega
                case rel =>
                  refine ⟨j + 1, by omega, by go_num, fun i y hi hy => ?_, HB9.out⟩
                  by_cases hij : i = j
                  · subst hij
                    rw [Hy.out] at hy
                    cases hy
                    exact HLo.out
                  · exact HP.out i y (by omega) hy
              · have HLow : Hid (LowAt L ⟨b1, b2, b3, b4, b5⟩ j) := ⟨HP.out, fun y hy => by rw [Hy.out] at hy; cases hy; rw [hr0]; exact hlow⟩
                clear hr0
                go_upto_region 6 with fail
                go_region_held3 (fun W => W.cell? ⟨go, oo + j * 5, none⟩ = some (.int .i64 a1) ∧ W.cell? ⟨go, oo + j * 5 + 1, none⟩ = some (.string a2) ∧ W.cell? ⟨go, oo + j * 5 + 2, none⟩ = some (.int .i64 a3) ∧ W.cell? ⟨go, oo + j * 5 + 3, none⟩ = some (.int .i64 a4) ∧ W.cell? ⟨go, oo + j * 5 + 4, none⟩ = some (.string a5) ∧ W.cell? ⟨gx, ox + k * 5, none⟩ = some (.int .i64 b1) ∧ W.cell? ⟨gx, ox + k * 5 + 1, none⟩ = some (.string b2) ∧ W.cell? ⟨gx, ox + k * 5 + 2, none⟩ = some (.int .i64 b3) ∧ W.cell? ⟨gx, ox + k * 5 + 3, none⟩ = some (.int .i64 b4) ∧ W.cell? ⟨gx, ox + k * 5 + 4, none⟩ = some (.string b5)) (first | with_reducible exact S1.out | with_reducible exact ⟨c0, c1, c2, c3, c4, d0, d1, d2, d3, d4⟩ | go_keep)
                  (first
                    | (go_at_call 76; refine (nCmp_is ⟨a1, a2, a3, a4, a5⟩ ⟨b1, b2, b3, b4, b5⟩ r0 HR0.out HFy.out HFx.out _).mono ?_; rintro r w9 ⟨rfl, hb9⟩; have HB9 : Hid (Below wo.heap.size wo w9) := HBi.out.trans ((((Below.refl _ _).drew).trans hb9).mono HBi.out.size); have S1 : Hid (w9.cell? ⟨go, oo + j * 5, none⟩ = some (.int .i64 a1) ∧ w9.cell? ⟨go, oo + j * 5 + 1, none⟩ = some (.string a2) ∧ w9.cell? ⟨go, oo + j * 5 + 2, none⟩ = some (.int .i64 a3) ∧ w9.cell? ⟨go, oo + j * 5 + 3, none⟩ = some (.int .i64 a4) ∧ w9.cell? ⟨go, oo + j * 5 + 4, none⟩ = some (.string a5) ∧ w9.cell? ⟨gx, ox + k * 5, none⟩ = some (.int .i64 b1) ∧ w9.cell? ⟨gx, ox + k * 5 + 1, none⟩ = some (.string b2) ∧ w9.cell? ⟨gx, ox + k * 5 + 2, none⟩ = some (.int .i64 b3) ∧ w9.cell? ⟨gx, ox + k * 5 + 3, none⟩ = some (.int .i64 b4) ∧ w9.cell? ⟨gx, ox + k * 5 + 4, none⟩ = some (.string b5)) := ⟨((bcell hb9).1 _ _ (World.block_lt_of_cell? wr _ c0)).trans c0, ((bcell hb9).1 _ _ (World.block_lt_of_cell? wr _ c1)).trans c1, ((bcell hb9).1 _ _ (World.block_lt_of_cell? wr _ c2)).trans c2, ((bcell hb9).1 _ _ (World.block_lt_of_cell? wr _ c3)).trans c3, ((bcell hb9).1 _ _ (World.block_lt_of_cell? wr _ c4)).trans c4, ((bcell hb9).1 _ _ (World.block_lt_of_cell? wr _ d0)).trans d0, ((bcell hb9).1 _ _ (World.block_lt_of_cell? wr _ d1)).trans d1, ((bcell hb9).1 _ _ (World.block_lt_of_cell? wr _ d2)).trans d2, ((bcell hb9).1 _ _ (World.block_lt_of_cell? wr _ d3)).trans d3, ((bcell hb9).1 _ _ (World.block_lt_of_cell? wr _ d4)).trans d4⟩; clear hb9)
                    | fail)
                go_wp2
                go_meet
                exact ⟨j, by omega, rfl, HLow.out, HB9.out⟩
            · have hjn : j = no := by omega
              have HLow : Hid (LowAt L ⟨b1, b2, b3, b4, b5⟩ j) := ⟨HP.out, fun y hy => by have h1 := (List.getElem?_eq_some_iff.1 hy).1; have h2 := HLn.out; omega⟩
              go_upto_region 6 with fail
              go_quiet (fail)
              go_wp2
              go_meet
              exact ⟨j, by omega, rfl, HLow, below_toDrewN3 HBi.out _⟩
        case rest =>
          obtain ⟨j, hj, rfl, HLw, HBx⟩ := hcut
          have HB1 : Hid (Below w.heap.size w wc) := HBw.out.trans (HBx.out.mono HBw.out.size)
          obtain ⟨g', off', eg, hcx⟩ := (HX.out.later HB1.out).at_ Hxk.out
          cases eg
          have d0 : wc.cell? ⟨gx, ox + k * 5, none⟩ = some (.int .i64 b1) := hcx 0 _ rfl
          have d1 : wc.cell? ⟨gx, ox + k * 5 + 1, none⟩ = some (.string b2) := hcx 1 _ rfl
          have d2 : wc.cell? ⟨gx, ox + k * 5 + 2, none⟩ = some (.int .i64 b3) := hcx 2 _ rfl
          have d3 : wc.cell? ⟨gx, ox + k * 5 + 3, none⟩ = some (.int .i64 b4) := hcx 3 _ rfl
          have d4 : wc.cell? ⟨gx, ox + k * 5 + 4, none⟩ = some (.string b5) := hcx 4 _ rfl
          clear hcx
          by_cases hfo : L[j]? = some ⟨b1, b2, b3, b4, b5⟩
          · have HSame : Hid (sortR (rs.take (k + 1)) = L) := HFound.out j HLw.out hfo
            have hlt : j < no := by have h1 := (List.getElem?_eq_some_iff.1 hfo).1; have h2 := HLn.out; omega
            obtain ⟨g', off', eg, hcy⟩ := (HRow.out.later HBx.out).at_ hfo
            cases eg
            have c0 : wc.cell? ⟨go, oo + j * 5, none⟩ = some (.int .i64 b1) := hcy 0 _ rfl
            have c1 : wc.cell? ⟨go, oo + j * 5 + 1, none⟩ = some (.string b2) := hcy 1 _ rfl
            have c2 : wc.cell? ⟨go, oo + j * 5 + 2, none⟩ = some (.int .i64 b3) := hcy 2 _ rfl
            have c3 : wc.cell? ⟨go, oo + j * 5 + 3, none⟩ = some (.int .i64 b4) := hcy 3 _ rfl
            have c4 : wc.cell? ⟨go, oo + j * 5 + 4, none⟩ = some (.string b5) := hcy 4 _ rfl
            clear hcy hfo
            have hqq : eqNB ⟨b1, b2, b3, b4, b5⟩ ⟨b1, b2, b3, b4, b5⟩ = true := decide_eq_true rfl
            go_upto_region 8 with fail
            go_quiet (fail)
            go_wp2
            go_roundg (n - (k + 1))
            case measure => have := Hk.out; omega
            case rel => exact ⟨k + 1, by have := Hk.out; omega, by go_num, by show RowK _ _ _ _; rw [HSame.out]; exact (HRow.out.later HBx.out).later (below_toDrewN3 (Below.refl _ _) _), by show _ ∨ _; rw [HSame.out]; exact HNe.out, below_toDrewN3 HB1.out _⟩
          · have HNew : Hid (sortR (rs.take (k + 1)) = L.take j ++ [⟨b1, b2, b3, b4, b5⟩] ++ L.drop j) := HNewF.out j (by have h2 := HLn.out; omega) HLw.out hfo
            go_upto_region 8 with fail
            go_cut [45] (fun tv wx => tv = .bool false ∧ Hid (Below wc.heap.size wc wx))
            case first =>
              by_cases hlt : j < no
              · have hjl : j < L.length := by rw [HLn.out]; exact hlt
                have hy : L[j]? = some L[j] := List.getElem?_eq_getElem hjl
                rw [hy] at hfo
                generalize L[j] = y at *
                obtain ⟨g', off', eg, hcy⟩ := (HRow.out.later HBx.out).at_ hy
                cases eg
                obtain ⟨a1, a2, a3, a4, a5⟩ := y
                clear hy
                have hqq : eqNB ⟨a1, a2, a3, a4, a5⟩ ⟨b1, b2, b3, b4, b5⟩ = false := decide_eq_false (fun e => hfo (by rw [e]))
                have c0 : wc.cell? ⟨go, oo + j * 5, none⟩ = some (.int .i64 a1) := hcy 0 _ rfl
                have c1 : wc.cell? ⟨go, oo + j * 5 + 1, none⟩ = some (.string a2) := hcy 1 _ rfl
                have c2 : wc.cell? ⟨go, oo + j * 5 + 2, none⟩ = some (.int .i64 a3) := hcy 2 _ rfl
                have c3 : wc.cell? ⟨go, oo + j * 5 + 3, none⟩ = some (.int .i64 a4) := hcy 3 _ rfl
                have c4 : wc.cell? ⟨go, oo + j * 5 + 4, none⟩ = some (.string a5) := hcy 4 _ rfl
                clear hcy hfo
                go_quiet (fail)
                go_wp2
                go_meet
                exact ⟨rfl, below_toDrewN3 (Below.refl _ _) _⟩
              · clear hfo
                go_quiet (fail)
                go_wp2
                go_meet
                exact ⟨rfl, below_toDrewN3 (Below.refl _ _) _⟩
            case rest =>
              rename_i wc0
              obtain ⟨rfl, HBy⟩ := hcut
              clear d0 d1 d2 d3 d4 hfo
              have HB2 : Hid (Below w.heap.size w wc) := HB1.out.trans (HBy.out.mono HB1.out.size)
              have HBz : Hid (Below wo.heap.size wo wc) := HBx.out.trans (HBy.out.mono HBx.out.size)
              obtain ⟨g', off', eg, hcx⟩ := (HX.out.later HB2.out).at_ Hxk.out
              cases eg
              have d0 : wc.cell? ⟨gx, ox + k * 5, none⟩ = some (.int .i64 b1) := hcx 0 _ rfl
              have d1 : wc.cell? ⟨gx, ox + k * 5 + 1, none⟩ = some (.string b2) := hcx 1 _ rfl
              have d2 : wc.cell? ⟨gx, ox + k * 5 + 2, none⟩ = some (.int .i64 b3) := hcx 2 _ rfl
              have d3 : wc.cell? ⟨gx, ox + k * 5 + 3, none⟩ = some (.int .i64 b4) := hcx 3 _ rfl
              have d4 : wc.cell? ⟨gx, ox + k * 5 + 4, none⟩ = some (.string b5) := hcx 4 _ rfl
              have hgx : gx < wc.heap.size := World.block_lt_of_cell? wc _ d0
              clear hcx HBy
              have hjc : j ≤ co := by omega
              have HTk : Hid (RowK kN wc (.slice (some ⟨go, oo, none⟩) j co) (L.take j)) := (HRow.out.later HBz.out).take hj
              have HA0 : Hid (Below w.heap.size w (wc.alloc (.cells #[] 38))) := HB2.out.alloc HB2.out.size _
              have HC0 : Hid (Below wc.heap.size wc (wc.alloc (.cells #[] 38))) := (Below.refl _ _).alloc (Nat.le_refl _) _
              have HO0 : Hid (OwnK kN wc.heap.size (wc.alloc (.cells #[] 38)) (.slice (some ⟨wc.heap.size, 0, none⟩) 0 0) []) := OwnK.empty (heap_alloc_new wc _) (Nat.le_refl _)
              have HLj : Hid ((L.take j).length ≤ 10000 ∧ (L.drop j).length ≤ 10000) := by
                have h1 := HLn.out
                have h2 := HLb.out
                exact ⟨by rw [List.length_take]; omega, by rw [List.length_drop]; omega⟩
              go_upto_region 11 with (first
                | (at_builtin; refine wpList_append_K (K := kN) rfl _ _ rfl wc.heap.size (.slice (some ⟨wc.heap.size, 0, none⟩) 0 0) [] rfl HO0.out (.slice (some ⟨go, oo, none⟩) j co) (L.take j) rfl (HTk.out.later HC0.out) (by have := HLj.out.1; simp only [List.length_nil]; omega) HC0.out.size ?_; intro v1 w1 hrow1 hg1 hat1; have HR1 : Hid (OwnK kN wc.heap.size w1 v1 (L.take j)) := hrow1; have HC1 : Hid (Below wc.heap.size wc w1) := OwnK.below HO0.out hg1 HC0.out (Nat.le_refl _); obtain ⟨p0, p1, p2, p3, p4⟩ : w1.cell? ⟨gx, ox + k * 5, none⟩ = some (.int .i64 b1) ∧ w1.cell? ⟨gx, ox + k * 5 + 1, none⟩ = some (.string b2) ∧ w1.cell? ⟨gx, ox + k * 5 + 2, none⟩ = some (.int .i64 b3) ∧ w1.cell? ⟨gx, ox + k * 5 + 3, none⟩ = some (.int .i64 b4) ∧ w1.cell? ⟨gx, ox + k * 5 + 4, none⟩ = some (.string b5) := ⟨((bcell HC1.out).1 _ _ hgx).trans d0, ((bcell HC1.out).1 _ _ hgx).trans d1, ((bcell HC1.out).1 _ _ hgx).trans d2, ((bcell HC1.out).1 _ _ hgx).trans d3, ((bcell HC1.out).1 _ _ hgx).trans d4⟩; clear hrow1 hg1 hat1)
                | (at_builtin; refine wpList_append_K (K := kN) rfl _ _ rfl wc.heap.size v1 (L.take j) rfl (HR1.out.later ((Below.refl _ _).alloc (Nat.le_refl _) _)) (.slice (some ⟨w1.heap.size, 0, none⟩) 1 1) [⟨b1, b2, b3, b4, b5⟩] rfl (RowK.one (heap_alloc_new w1 _) rfl) (by have := HLj.out.1; simp only [List.length_cons, List.length_nil]; omega) (HC1.out.alloc HC1.out.size _).size ?_; intro v2 w2 hrow2 hg2 hat2; have HR2 : Hid (OwnK kN wc.heap.size w2 v2 (L.take j ++ [⟨b1, b2, b3, b4, b5⟩])) := hrow2; have HC2 : Hid (Below wc.heap.size wc w2) := OwnK.below (HR1.out.later ((Below.refl _ _).alloc (Nat.le_refl _) _)) hg2 (HC1.out.alloc HC1.out.size _) (Nat.le_refl _); clear hrow2 hg2 hat2 p0 p1 p2 p3 p4 HR1)
                | go_in)
              by_cases hcap : j = co
              · have hjn : j = no := by omega
                have HTd : Hid (RowK kN wc (.slice (some ⟨go, oo, none⟩) 0 0) (L.drop j)) := by have e0 : L.drop j = [] := List.drop_eq_nil_of_le (by have := HLn.out; omega); show RowK _ _ _ _; rw [e0]; exact RowK.empty
                go_wp2_with (first
                  | (at_builtin; refine wpList_append_K (K := kN) rfl _ _ rfl wc.heap.size v2 (L.take j ++ [⟨b1, b2, b3, b4, b5⟩]) rfl HR2.out (.slice (some ⟨go, oo, none⟩) 0 0) (L.drop j) rfl (HTd.out.later HC2.out) (by have := HLj.out; simp only [List.length_append, List.length_cons, List.length_nil]; omega) HC2.out.size ?_; intro v3 w3 hrow3 hg3 hat3; have HR3 : Hid (OwnK kN wc.heap.size w3 v3 (L.take j ++ [⟨b1, b2, b3, b4, b5⟩] ++ L.drop j)) := hrow3; have HC3 : Hid (Below wc.heap.size wc w3) := OwnK.below HR2.out hg3 HC2.out (Nat.le_refl _); clear hrow3 hg3 hat3)
                  | go_in)
                go_wp2
                go_roundg (n - (k + 1))
                case measure => have := Hk.out; omega
                case rel => exact ⟨k + 1, by have := Hk.out; omega, by go_num, by show RowK _ _ _ _; rw [HNew.out]; exact HR3.out.row, .inr (by rw [HNew.out]; simp), HB2.out.trans (HC3.out.mono HB2.out.size)⟩
              · have hjc' : j < co := by omega
                have HTd : Hid (RowK kN wc (.slice (some ⟨go, oo + j * 5, none⟩) (no - j) (co - j)) (L.drop j)) := (HRow.out.later HBz.out).drop hj
                go_wp2_with (first
                  | (at_builtin; refine wpList_append_K (K := kN) rfl _ _ rfl wc.heap.size v2 (L.take j ++ [⟨b1, b2, b3, b4, b5⟩]) rfl HR2.out (.slice (some ⟨go, oo + j * 5, none⟩) (no - j) (co - j)) (L.drop j) rfl (HTd.out.later HC2.out) (by have := HLj.out; simp only [List.length_append, List.length_cons, List.length_nil]; omega) HC2.out.size ?_; intro v3 w3 hrow3 hg3 hat3; have HR3 : Hid (OwnK kN wc.heap.size w3 v3 (L.take j ++ [⟨b1, b2, b3, b4, b5⟩] ++ L.drop j)) := hrow3; have HC3 : Hid (Below wc.heap.size wc w3) := OwnK.below HR2.out hg3 HC2.out (Nat.le_refl _); clear hrow3 hg3 hat3)
                  | go_in)
                go_wp2
                go_roundg (n - (k + 1))
                case measure => have := Hk.out; omega
                case rel => exact ⟨k + 1, by have := Hk.out; omega, by go_num, by show RowK _ _ _ _; rw [HNew.out]; exact HR3.out.row, .inr (by rw [HNew.out]; simp), HB2.out.trans (HC3.out.mono HB2.out.size)⟩

    · have hkn' : k = n := by omega
      have HF : Hid (RowK kN wo u3 (sortR rs)) := by show RowK _ _ _ _; rw [← HT.out, ← hkn']; exact HRow.out
      clear hkn'
      go_wp2
      go_ret
      exact ⟨_, rfl, HF.out, HBw.out⟩
end Go.Proofs.YthghfhnicdoebaaGreatDoor

namespace Go.Proofs.YthghfhnicdoebaaGreatDoor
open Go.RowKit
attribute [local go_sem ↓] Go.wp_at_zero Go.wp_at_succ

theorem box_facts (w : World) (o : Obj) : Below w.heap.size w (w.alloc o) ∧ (w.alloc o).heap[w.heap.size]? = some o := ⟨(Below.refl _ _).alloc (Nat.le_refl _) _, heap_alloc_new w o⟩
set_option maxRecDepth 100000 in
set_option maxHeartbeats 3200000 in
theorem rReads_any (w : World) (ab ar ac : Option Addr) (nb nr nc kb kr kc : Nat) (l : List (NameT × ByteArray)) (rs : List NameT) (hb : RowK kE w (.slice ab nb kb) l) (hr : RowK kN w (.slice ar nr kr) rs) (hf : ∀ n ∈ rs, FitN n) (hfe : ∀ e ∈ l, FitN e.1) (hs : SortL cmpN l) (hl1 : l.length ≤ 1000000) (hl2 : rs.length ≤ 10000) :
    Calls Tryz.prog 25 #[.agg #[.slice ab nb kb, .slice ar nr kr, .slice ac nc kc]] w fun r w' => ∃ v, r = .returned v ∧ RowK kC w' v ((sortR rs).map (rdc l)) ∧ Below w.heap.size w w' := by
  have HGet : Hid (∀ n, n ∈ rs → ∀ W, Below w.heap.size w W → Calls Tryz.prog 62 #[.slice ab nb kb, nameV n] W fun r w' => r = .returned (.tuple #[.string ((getL cmpN l n).getD ⟨#[]⟩), .bool (getL cmpN l n).isSome]) ∧ Below W.heap.size W w') := fun n hn W hW => rGet_any W _ l (hb.later hW) n (hf n hn) hfe hl1 hs
  have HSort : Hid (∀ W, Below w.heap.size w W → Calls Tryz.prog 49 #[.slice ar nr kr] W fun r w' => ∃ v', r = .returned v' ∧ RowK kN w' v' (sortR rs) ∧ Below W.heap.size W w') := fun W hW => rSort_any W _ rs (hr.later hW) hf hl2
  have HIn : Hid (∀ x, x ∈ sortR rs → x ∈ rs) := fun x h => sortR_mem h
  have HLb : Hid ((sortR rs).length ≤ 10000) := Nat.le_trans (sortR_len _) hl2
  have HTl : Hid ((sortR rs).take (sortR rs).length = sortR rs) := List.take_length
  clear hb hr hf hfe hs hl1 hl2
  generalize sortR rs = L at *
  have Bw := Lib.hid (box_facts w)
  go_enter Tryz.func25, Tryz.ntmps25
  go_wp2_with fail
  have HB0 := Lib.hid (Bw.out (.cells #[.slice ab nb kb, .slice ar nr kr, .slice ac nc kc] 33)).1
  have HX0 := Lib.hid (Bw.out (.cells #[.slice ab nb kb, .slice ar nr kr, .slice ac nc kc] 33)).2
  clear Bw
  generalize w.alloc (.cells #[.slice ab nb kb, .slice ar nr kr, .slice ac nc kc] 33) = w1 at *
  have v0 : w1.cell? ⟨w.heap.size, 1, none⟩ = some (.slice ar nr kr) := cell_of_heap HX0.out 1
  go_wp2_with fail
  refine (HSort.out w1 HB0.out).mono ?_
  rintro r w2 ⟨vs, rfl, hrow, hb2⟩
  have HB2 : Hid (Below w.heap.size w w2) := HB0.out.trans (hb2.mono HB0.out.size)
  have HX2 := Lib.hid ((hb2.block _ (lt_of_heap HX0.out)).trans HX0.out)
  obtain ⟨al, cl, rfl, -, -⟩ := hrow.form
  have HRow := Lib.hid hrow
  clear hrow hb2 v0 HX0 HB0 HSort
  generalize hno : L.length = no at *
  have HLn := Lib.hid hno
  have hnob : no ≤ 10000 := by have := HLb.out; omega
  clear hno
  go_wp2_with fail
  go_loopg [4, 5] no (fun gk ov iv wr => ∃ k : Nat, k + gk = no ∧ iv = .int .i64 k ∧ Hid (OwnK kC w2.heap.size wr ov ((L.take k).map (rdc l))) ∧ Hid (Below w2.heap.size w2 wr))
  case atStart => exact ⟨0, by omega, rfl, OwnK.nil _ _, Below.refl _ _⟩
  case round =>
    obtain ⟨k, hk, rfl, HOw, HBr⟩ := hrel
    have Hk := Lib.hid hk
    have hkn : k ≤ no := by omega
    clear hk
    have HBw : Hid (Below w.heap.size w wr) := HB2.out.trans (HBr.out.mono HB2.out.size)
    by_cases hlt : k < no
    · have hkl : k < L.length := by rw [HLn.out]; exact hlt
      have hx : L[k]? = some L[k] := List.getElem?_eq_getElem hkl
      have HGx := Lib.hid (HGet.out _ (HIn.out _ (List.getElem_mem hkl)))
      generalize L[k] = x at *
      have HTk : Hid ((L.take (k + 1)).map (rdc l) = (L.take k).map (rdc l) ++ [rdc l x]) := by show _ = _; rw [take_snoc hx, List.map_append]; rfl
      have Hxk := Lib.hid hx
      have HRd : Hid (rdc l x = ⟨x, (getL cmpN l x).getD ⟨#[]⟩, !(getL cmpN l x).isSome⟩) := by show _ = _; unfold rdc; cases getL cmpN l x <;> rfl
      generalize (getL cmpN l x).getD ⟨#[]⟩ = gx0 at *
      generalize (getL cmpN l x).isSome = gi at *
      obtain ⟨gx, ox, ea, hcx⟩ := (HRow.out.later HBr.out).at_ hx
      subst ea
      obtain ⟨b1, b2, b3, b4, b5⟩ := x
      have HG0 : Hid (∀ W, Below w.heap.size w W → Calls Tryz.prog 62 #[.slice ab nb kb, .agg #[.int .i64 b1, .string b2, .int .i64 b3, .int .i64 b4, .string b5]] W fun r w' => r = .returned (.tuple #[.string gx0, .bool gi]) ∧ Below W.heap.size W w') := HGx.out
      have d0 : wr.cell? ⟨gx, ox + k * 5, none⟩ = some (.int .i64 b1) := hcx 0 _ rfl
      have d1 : wr.cell? ⟨gx, ox + k * 5 + 1, none⟩ = some (.string b2) := hcx 1 _ rfl
      have d2 : wr.cell? ⟨gx, ox + k * 5 + 2, none⟩ = some (.int .i64 b3) := hcx 2 _ rfl
      have d3 : wr.cell? ⟨gx, ox + k * 5 + 3, none⟩ = some (.int .i64 b4) := hcx 3 _ rfl
      have d4 : wr.cell? ⟨gx, ox + k * 5 + 4, none⟩ = some (.string b5) := hcx 4 _ rfl
      have v0 : wr.cell? ⟨w.heap.size, 0, none⟩ = some (.slice ab nb kb) := (cell_of_heap ((HBr.out.block _ (lt_of_heap HX2.out)).trans HX2.out) 0)
      clear hx hcx HGx
      go_upto_region 6 with fail
      go_region_held3 (fun W => W.cell? ⟨w.heap.size, 0, none⟩ = some (.slice ab nb kb) ∧ W.cell? ⟨gx, ox + k * 5, none⟩ = some (.int .i64 b1) ∧ W.cell? ⟨gx, ox + k * 5 + 1, none⟩ = some (.string b2) ∧ W.cell? ⟨gx, ox + k * 5 + 2, none⟩ = some (.int .i64 b3) ∧ W.cell? ⟨gx, ox + k * 5 + 3, none⟩ = some (.int .i64 b4) ∧ W.cell? ⟨gx, ox + k * 5 + 4, none⟩ = some (.string b5)) (first | with_reducible exact S1.out | with_reducible exact ⟨v0, d0, d1, d2, d3, d4⟩ | go_keep)
        (first
          | (go_at_call 62; refine (HG0.out _ (by first | exact HBw.out.drew | exact HBw.out)).mono ?_; rintro r w9 ⟨rfl, hb9⟩; have HB9 : Hid (Below wr.heap.size wr w9) := (((Below.refl _ _).drew).trans hb9); have S1 : Hid (w9.cell? ⟨w.heap.size, 0, none⟩ = some (.slice ab nb kb) ∧ w9.cell? ⟨gx, ox + k * 5, none⟩ = some (.int .i64 b1) ∧ w9.cell? ⟨gx, ox + k * 5 + 1, none⟩ = some (.string b2) ∧ w9.cell? ⟨gx, ox + k * 5 + 2, none⟩ = some (.int .i64 b3) ∧ w9.cell? ⟨gx, ox + k * 5 + 3, none⟩ = some (.int .i64 b4) ∧ w9.cell? ⟨gx, ox + k * 5 + 4, none⟩ = some (.string b5)) := ⟨((bcell HB9.out).1 _ _ (World.block_lt_of_cell? wr _ v0)).trans v0, ((bcell HB9.out).1 _ _ (World.block_lt_of_cell? wr _ d0)).trans d0, ((bcell HB9.out).1 _ _ (World.block_lt_of_cell? wr _ d1)).trans d1, ((bcell HB9.out).1 _ _ (World.block_lt_of_cell? wr _ d2)).trans d2, ((bcell HB9.out).1 _ _ (World.block_lt_of_cell? wr _ d3)).trans d3, ((bcell HB9.out).1 _ _ (World.block_lt_of_cell? wr _ d4)).trans d4⟩; clear hb9)
          | fail)
      have HC9 : Hid (Below w2.heap.size w2 w9) := HBr.out.trans (HB9.out.mono HBr.out.size)
      obtain ⟨v0, d0, d1, d2, d3, d4⟩ := id S1.out
      have HOw9 : Hid (OwnK kC w2.heap.size w9 u4 ((L.take k).map (rdc l))) := HOw.out.later HB9.out
      go_wp2_with (first
        | (at_builtin; refine wpList_append_K (K := kC) rfl _ _ rfl w2.heap.size u4 ((L.take k).map (rdc l)) rfl (HOw9.out.later ((Below.refl _ _).alloc (Nat.le_refl _) _)) (.slice (some ⟨w9.heap.size, 0, none⟩) 1 1) [⟨⟨b1, b2, b3, b4, b5⟩, gx0, !gi⟩] rfl (RowK.one (heap_alloc_new w9 _) rfl) (by have h1 := HLn.out; have h2 := HLb.out; simp only [List.length_map, List.length_take, List.length_cons, List.length_nil]; omega) (HC9.out.alloc HC9.out.size _).size ?_; intro v1 w10 hrow1 hg1 hat1; have HR1 : Hid (OwnK kC w2.heap.size w10 v1 ((L.take k).map (rdc l) ++ [⟨⟨b1, b2, b3, b4, b5⟩, gx0, !gi⟩])) := hrow1; have HC1 : Hid (Below w2.heap.size w2 w10) := OwnK.below (HOw9.out.later ((Below.refl _ _).alloc (Nat.le_refl _) _)) hg1 (HC9.out.alloc HC9.out.size _) (Nat.le_refl _); clear hrow1 hg1 hat1)
        | go_in)
      go_wp2
      go_roundg (no - (k + 1))
      case measure => have := Hk.out; omega
      case rel => exact ⟨k + 1, by have := Hk.out; omega, by go_num, by show OwnK _ _ _ _ _; rw [HTk.out, HRd.out]; exact HR1.out, HC1.out⟩
    · have hkn' : k = no := by omega
      have HF : Hid (RowK kC wr u4 (L.map (rdc l))) := by show RowK _ _ _ _; rw [← HTl.out, ← hkn']; exact HOw.out.row
      clear hkn'
      go_wp2
      go_ret
      exact ⟨_, rfl, HF.out, HBw.out⟩

theorem grown_set7 (w : World) (R : Nat) (a0 a1 a2 a3 a4 a5 a6 : Value) : w.grownBy (((((((w.setCell ⟨R, 0, none⟩ a0).setCell ⟨R, 1, none⟩ a1).setCell ⟨R, 2, none⟩ a2).setCell ⟨R, 3, none⟩ a3).setCell ⟨R, 4, none⟩ a4).setCell ⟨R, 5, none⟩ a5).setCell ⟨R, 6, none⟩ a6) (some R) :=
  grown_trans (grown_trans (grown_trans (grown_trans (grown_trans (grown_trans (grown_setCell _ _ _ _) (grown_setCell _ _ _ _)) (grown_setCell _ _ _ _)) (grown_setCell _ _ _ _)) (grown_setCell _ _ _ _)) (grown_setCell _ _ _ _)) (grown_setCell _ _ _ _)
theorem set7 {w : World} {R : Nat} {T : TypeId} {cc : Array Value} (hR : w.heap[R]? = some (.cells cc T (0, 0))) (hc : cc.size = 7) (a0 a1 a2 a3 a4 a5 a6 : Value) :
    (((((((w.setCell ⟨R, 0, none⟩ a0).setCell ⟨R, 1, none⟩ a1).setCell ⟨R, 2, none⟩ a2).setCell ⟨R, 3, none⟩ a3).setCell ⟨R, 4, none⟩ a4).setCell ⟨R, 5, none⟩ a5).setCell ⟨R, 6, none⟩ a6).heap[R]? = some (.cells #[a0, a1, a2, a3, a4, a5, a6] T (0, 0)) := by
  obtain ⟨l⟩ := cc
  match l, hc with
  | [p0, p1, p2, p3, p4, p5, p6], _ =>
    have h0 : (w.setCell ⟨R, 0, none⟩ a0).heap[R]? = some (.cells #[a0, p1, p2, p3, p4, p5, p6] T (0, 0)) := heap_setCell_same hR 0 a0
    generalize w.setCell ⟨R, 0, none⟩ a0 = w at *
    have h1 : (w.setCell ⟨R, 1, none⟩ a1).heap[R]? = some (.cells #[a0, a1, p2, p3, p4, p5, p6] T (0, 0)) := heap_setCell_same h0 1 a1
    generalize w.setCell ⟨R, 1, none⟩ a1 = w at *
    have h2 : (w.setCell ⟨R, 2, none⟩ a2).heap[R]? = some (.cells #[a0, a1, a2, p3, p4, p5, p6] T (0, 0)) := heap_setCell_same h1 2 a2
    generalize w.setCell ⟨R, 2, none⟩ a2 = w at *
    have h3 : (w.setCell ⟨R, 3, none⟩ a3).heap[R]? = some (.cells #[a0, a1, a2, a3, p4, p5, p6] T (0, 0)) := heap_setCell_same h2 3 a3
    generalize w.setCell ⟨R, 3, none⟩ a3 = w at *
    have h4 : (w.setCell ⟨R, 4, none⟩ a4).heap[R]? = some (.cells #[a0, a1, a2, a3, a4, p5, p6] T (0, 0)) := heap_setCell_same h3 4 a4
    generalize w.setCell ⟨R, 4, none⟩ a4 = w at *
    have h5 : (w.setCell ⟨R, 5, none⟩ a5).heap[R]? = some (.cells #[a0, a1, a2, a3, a4, a5, p6] T (0, 0)) := heap_setCell_same h4 5 a5
    generalize w.setCell ⟨R, 5, none⟩ a5 = w at *
    exact heap_setCell_same h5 6 a6
theorem chCells_eta (c : ChangeT) : chCells c = #[.int .i64 c.name.kind, .string c.name.owner, .int .i64 c.name.number, .int .i64 c.name.index, .string c.name.text, .string c.value, .bool c.absent] := rfl
/-- The writes of the calls, by the reference. -/
def wrR (cs : List ChangeT) : List ChangeT := (sortR (cs.map (·.name))).map fun n => (lastCall cs n).getD zeroC
set_option maxRecDepth 100000 in
set_option maxHeartbeats 3200000 in
theorem rWrites_any (w : World) (ab ar ac : Option Addr) (nb nr nc kb kr kc : Nat) (cs : List ChangeT) (hc : RowK kC w (.slice ac nc kc) cs) (hf : ∀ c ∈ cs, FitN c.name) (hl3 : cs.length ≤ 10000) :
    Calls Tryz.prog 19 #[.agg #[.slice ab nb kb, .slice ar nr kr, .slice ac nc kc]] w fun r w' => ∃ v, r = .returned v ∧ RowK kC w' v (wrR cs) ∧ Below w.heap.size w w' := by
  have HC := Lib.hid hc
  have HCl : Hid (cs.length = nc) := hc.len
  have HLb3 : Hid (cs.length ≤ 10000) := hl3
  have hncb : nc ≤ 10000 := by have := HCl.out; omega
  have HSort : Hid (∀ W v, RowK kN W v (cs.map (·.name)) → Calls Tryz.prog 49 #[v] W fun r w' => ∃ v', r = .returned v' ∧ RowK kN w' v' (sortR (cs.map (·.name))) ∧ Below W.heap.size W w') := fun W v h => rSort_any W v _ h (fun n hn => by obtain ⟨c, hc, rfl⟩ := List.mem_map.1 hn; exact hf c hc) (by rw [List.length_map]; exact hl3)
  have HLast : Hid (∀ n W, Below w.heap.size w W → Calls Tryz.prog 50 #[.slice ac nc kc, nameV n] W fun r w' => r = .returned (.tuple #[.agg (chCells ((lastCall cs n).getD zeroC)), .bool (lastCall cs n).isSome]) ∧ Below W.heap.size W w') := fun n W hW => rLast_any W _ cs (hc.later hW) n (by omega)
  have HLb : Hid ((sortR (cs.map (·.name))).length ≤ 10000) := Nat.le_trans (sortR_len _) (by rw [List.length_map]; exact hl3)
  have HTl : Hid ((sortR (cs.map (·.name))).take (sortR (cs.map (·.name))).length = sortR (cs.map (·.name))) := List.take_length
  have HTc : Hid (cs.take cs.length = cs) := List.take_length
  have HWr : Hid (wrR cs = (sortR (cs.map (·.name))).map fun n => (lastCall cs n).getD zeroC) := rfl
  clear hc hf hl3
  generalize sortR (cs.map (·.name)) = L at *
  generalize wrR cs = R at *
  have Bw := Lib.hid (box_facts w)
  go_enter Tryz.func19, Tryz.ntmps19
  go_wp2_with fail
  have HB0 := Lib.hid (Bw.out (.cells #[.slice ab nb kb, .slice ar nr kr, .slice ac nc kc] 33)).1
  have HX0 := Lib.hid (Bw.out (.cells #[.slice ab nb kb, .slice ar nr kr, .slice ac nc kc] 33)).2
  clear Bw
  generalize w.alloc (.cells #[.slice ab nb kb, .slice ar nr kr, .slice ac nc kc] 33) = w1 at *
  go_loopg [3, 4] nc (fun gk ov iv wr => ∃ k : Nat, k + gk = nc ∧ iv = .int .i64 k ∧ Hid (OwnK kN w1.heap.size wr ov ((cs.take k).map (·.name))) ∧ Hid (Below w1.heap.size w1 wr))
  case atStart => exact ⟨0, by omega, rfl, OwnK.nil _ _, Below.refl _ _⟩
  case round =>
    obtain ⟨k, hk, rfl, HOw, HBr⟩ := hrel
    have Hk := Lib.hid hk
    have hkn : k ≤ nc := by omega
    clear hk
    have HXr := Lib.hid ((HBr.out.block _ (lt_of_heap HX0.out)).trans HX0.out)
    have v0 : wr.cell? ⟨w.heap.size, 2, none⟩ = some (.slice ac nc kc) := cell_of_heap HXr.out 2
    by_cases hlt : k < nc
    · have hkl : k < cs.length := by rw [HCl.out]; exact hlt
      have hx : cs[k]? = some cs[k] := List.getElem?_eq_getElem hkl
      generalize cs[k] = x at *
      have HTk : Hid ((cs.take (k + 1)).map (·.name) = (cs.take k).map (·.name) ++ [x.name]) := by show _ = _; rw [take_snoc hx, List.map_append]; rfl
      obtain ⟨gx, ox, ea, hcx⟩ := (HC.out.later (HB0.out.trans (HBr.out.mono HB0.out.size))).at_ hx
      subst ea
      obtain ⟨⟨b1, b2, b3, b4, b5⟩, b6, b7⟩ := x
      have d0 : wr.cell? ⟨gx, ox + k * 7, none⟩ = some (.int .i64 b1) := hcx 0 _ rfl
      have d1 : wr.cell? ⟨gx, ox + k * 7 + 1, none⟩ = some (.string b2) := hcx 1 _ rfl
      have d2 : wr.cell? ⟨gx, ox + k * 7 + 2, none⟩ = some (.int .i64 b3) := hcx 2 _ rfl
      have d3 : wr.cell? ⟨gx, ox + k * 7 + 3, none⟩ = some (.int .i64 b4) := hcx 3 _ rfl
      have d4 : wr.cell? ⟨gx, ox + k * 7 + 4, none⟩ = some (.string b5) := hcx 4 _ rfl
      clear hx hcx
      go_wp2_with (first
        | (at_builtin; refine wpList_append_K (K := kN) rfl _ _ rfl w1.heap.size u3 ((cs.take k).map (·.name)) rfl (HOw.out.later ((Below.refl _ _).alloc (Nat.le_refl _) _)) (.slice (some ⟨wr.heap.size, 0, none⟩) 1 1) [⟨b1, b2, b3, b4, b5⟩] rfl (RowK.one (heap_alloc_new wr _) rfl) (by have h1 := HLb3.out; simp only [List.length_map, List.length_take, List.length_cons, List.length_nil]; omega) (HBr.out.alloc HBr.out.size _).size ?_; intro v1 w10 hrow1 hg1 hat1; have HR1 : Hid (OwnK kN w1.heap.size w10 v1 ((cs.take k).map (·.name) ++ [⟨b1, b2, b3, b4, b5⟩])) := hrow1; have HC1 : Hid (Below w1.heap.size w1 w10) := OwnK.below (HOw.out.later ((Below.refl _ _).alloc (Nat.le_refl _) _)) hg1 (HBr.out.alloc HBr.out.size _) (Nat.le_refl _); clear hrow1 hg1 hat1)
        | go_in)
      go_wp2
      go_roundg (nc - (k + 1))
      case measure => have := Hk.out; omega
      case rel => exact ⟨k + 1, by have := Hk.out; omega, by go_num, by show OwnK _ _ _ _ _; rw [HTk.out]; exact HR1.out, HC1.out⟩
    · have hkn' : k = nc := by omega
      have HNm : Hid (RowK kN wr u3 (cs.map (·.name))) := by show RowK _ _ _ _; rw [← HTc.out, HCl.out, ← hkn']; exact HOw.out.row
      have HBw : Hid (Below w.heap.size w wr) := HB0.out.trans (HBr.out.mono HB0.out.size)
      clear hkn' HOw HX0
      go_wp2_with fail
      refine (HSort.out wr _ HNm.out).mono ?_
      rintro r w2 ⟨vs, rfl, hrow, hb2⟩
      have HB2 : Hid (Below w.heap.size w w2) := HBw.out.trans (hb2.mono HBw.out.size)
      have HX2 := Lib.hid ((hb2.block _ (lt_of_heap HXr.out)).trans HXr.out)
      obtain ⟨al, cl, rfl, -, -⟩ := hrow.form
      have HRow := Lib.hid hrow
      clear hrow hb2 v0 HXr HSort HBr HNm
      generalize hno : L.length = no at *
      have HLn := Lib.hid hno
      have hnob : no ≤ 10000 := by have := HLb.out; omega
      clear hno
      go_wp2_with fail
      go_loopg [5, 6] no (fun gk ov iv wi => ∃ k : Nat, k + gk = no ∧ iv = .int .i64 k ∧ Hid (OwnK kC w2.heap.size wi ov ((L.take k).map fun n => (lastCall cs n).getD zeroC)) ∧ Hid (Below w2.heap.size w2 wi))
      case atStart => exact ⟨0, by omega, rfl, OwnK.nil _ _, Below.refl _ _⟩
      case round =>
        obtain ⟨k, hk, rfl, HOw, HBr⟩ := hrel
        have Hk := Lib.hid hk
        have hkn : k ≤ no := by omega
        clear hk
        have HBi : Hid (Below w.heap.size w wr) := HB2.out.trans (HBr.out.mono HB2.out.size)
        by_cases hlt : k < no
        · have hkl : k < L.length := by rw [HLn.out]; exact hlt
          have hx : L[k]? = some L[k] := List.getElem?_eq_getElem hkl
          generalize L[k] = x at *
          have HTk : Hid ((L.take (k + 1)).map (fun n => (lastCall cs n).getD zeroC) = (L.take k).map (fun n => (lastCall cs n).getD zeroC) ++ [(lastCall cs x).getD zeroC]) := by show _ = _; rw [take_snoc hx, List.map_append]; rfl
          have HLx := Lib.hid (HLast.out x)
          generalize (lastCall cs x).getD zeroC = y at *
          generalize (lastCall cs x).isSome = gi at *
          obtain ⟨gx, ox, ea, hcx⟩ := (HRow.out.later HBr.out).at_ hx
          subst ea
          obtain ⟨b1, b2, b3, b4, b5⟩ := x
          obtain ⟨⟨c1, c2, c3, c4, c5⟩, c6, c7⟩ := y
          have HL0 : Hid (∀ W, Below w.heap.size w W → Calls Tryz.prog 50 #[.slice ac nc kc, .agg #[.int .i64 b1, .string b2, .int .i64 b3, .int .i64 b4, .string b5]] W fun r w' => r = .returned (.tuple #[.agg #[.int .i64 c1, .string c2, .int .i64 c3, .int .i64 c4, .string c5, .string c6, .bool c7], .bool gi]) ∧ Below W.heap.size W w') := HLx.out
          have d0 : wr.cell? ⟨gx, ox + k * 5, none⟩ = some (.int .i64 b1) := hcx 0 _ rfl
          have d1 : wr.cell? ⟨gx, ox + k * 5 + 1, none⟩ = some (.string b2) := hcx 1 _ rfl
          have d2 : wr.cell? ⟨gx, ox + k * 5 + 2, none⟩ = some (.int .i64 b3) := hcx 2 _ rfl
          have d3 : wr.cell? ⟨gx, ox + k * 5 + 3, none⟩ = some (.int .i64 b4) := hcx 3 _ rfl
          have d4 : wr.cell? ⟨gx, ox + k * 5 + 4, none⟩ = some (.string b5) := hcx 4 _ rfl
          have v0 : wr.cell? ⟨w.heap.size, 2, none⟩ = some (.slice ac nc kc) := (cell_of_heap ((HBr.out.block _ (lt_of_heap HX2.out)).trans HX2.out) 2)
          clear hx hcx HLx
          have hgl : gx < wr.heap.size := World.block_lt_of_cell? wr _ d0
          have hwl : w.heap.size < wr.heap.size := World.block_lt_of_cell? wr _ v0
          have hgn : ¬ gx = wr.heap.size := by omega
          have hwn : ¬ w.heap.size = wr.heap.size := by omega
          go_upto_region 11 with fail
          go_cut [7] (fun cv wx => ∃ B, cv = .pointer (some ⟨B, 0, none⟩) ∧ Hid (wx.heap[B]? = some (.cells #[.int .i64 c1, .string c2, .int .i64 c3, .int .i64 c4, .string c5, .string c6, .bool c7] 40 (0, 0)) ∧ Below wr.heap.size wr wx))
          case first =>
            go_region_held3 (fun W => W.cell? ⟨w.heap.size, 2, none⟩ = some (.slice ac nc kc) ∧ W.cell? ⟨gx, ox + k * 5, none⟩ = some (.int .i64 b1) ∧ W.cell? ⟨gx, ox + k * 5 + 1, none⟩ = some (.string b2) ∧ W.cell? ⟨gx, ox + k * 5 + 2, none⟩ = some (.int .i64 b3) ∧ W.cell? ⟨gx, ox + k * 5 + 3, none⟩ = some (.int .i64 b4) ∧ W.cell? ⟨gx, ox + k * 5 + 4, none⟩ = some (.string b5)) (first | with_reducible exact S1.out | with_reducible exact S3.out | with_reducible exact ⟨v0, d0, d1, d2, d3, d4⟩ | go_keep)
              (first
                | (go_at_call 50; refine (HL0.out _ HBi.out.drew).mono ?_; rintro r w9 ⟨rfl, hb9⟩; have HB9 : Hid (Below wr.heap.size wr w9) := (((Below.refl _ _).drew).trans hb9); have S1 : Hid (w9.cell? ⟨w.heap.size, 2, none⟩ = some (.slice ac nc kc) ∧ w9.cell? ⟨gx, ox + k * 5, none⟩ = some (.int .i64 b1) ∧ w9.cell? ⟨gx, ox + k * 5 + 1, none⟩ = some (.string b2) ∧ w9.cell? ⟨gx, ox + k * 5 + 2, none⟩ = some (.int .i64 b3) ∧ w9.cell? ⟨gx, ox + k * 5 + 3, none⟩ = some (.int .i64 b4) ∧ w9.cell? ⟨gx, ox + k * 5 + 4, none⟩ = some (.string b5)) := ⟨((bcell HB9.out).1 _ _ (World.block_lt_of_cell? wr _ v0)).trans v0, ((bcell HB9.out).1 _ _ (World.block_lt_of_cell? wr _ d0)).trans d0, ((bcell HB9.out).1 _ _ (World.block_lt_of_cell? wr _ d1)).trans d1, ((bcell HB9.out).1 _ _ (World.block_lt_of_cell? wr _ d2)).trans d2, ((bcell HB9.out).1 _ _ (World.block_lt_of_cell? wr _ d3)).trans d3, ((bcell HB9.out).1 _ _ (World.block_lt_of_cell? wr _ d4)).trans d4⟩; obtain ⟨p0, p1, p2, p3, p4, p5⟩ := id S1.out; have hgl9 : gx < w9.heap.size := Nat.lt_of_lt_of_le hgl HB9.out.size; have hwl9 : w.heap.size < w9.heap.size := Nat.lt_of_lt_of_le hwl HB9.out.size; have hgn9 : ¬ gx = w9.heap.size := Nat.ne_of_lt hgl9; have hwn9 : ¬ w.heap.size = w9.heap.size := Nat.ne_of_lt hwl9; clear hb9)
                | (go_at_call 50; refine (HL0.out _ (HBi.out.alloc HBi.out.size _).drew).mono ?_; rintro r w9 ⟨rfl, hb9⟩; have HB9 : Hid (Below wr.heap.size wr w9) := ((((Below.refl _ _).alloc (Nat.le_refl _) _).drew).trans (hb9.mono (by simp))); have S1 : Hid (w9.cell? ⟨w.heap.size, 2, none⟩ = some (.slice ac nc kc) ∧ w9.cell? ⟨gx, ox + k * 5, none⟩ = some (.int .i64 b1) ∧ w9.cell? ⟨gx, ox + k * 5 + 1, none⟩ = some (.string b2) ∧ w9.cell? ⟨gx, ox + k * 5 + 2, none⟩ = some (.int .i64 b3) ∧ w9.cell? ⟨gx, ox + k * 5 + 3, none⟩ = some (.int .i64 b4) ∧ w9.cell? ⟨gx, ox + k * 5 + 4, none⟩ = some (.string b5)) := ⟨((bcell HB9.out).1 _ _ (World.block_lt_of_cell? wr _ v0)).trans v0, ((bcell HB9.out).1 _ _ (World.block_lt_of_cell? wr _ d0)).trans d0, ((bcell HB9.out).1 _ _ (World.block_lt_of_cell? wr _ d1)).trans d1, ((bcell HB9.out).1 _ _ (World.block_lt_of_cell? wr _ d2)).trans d2, ((bcell HB9.out).1 _ _ (World.block_lt_of_cell? wr _ d3)).trans d3, ((bcell HB9.out).1 _ _ (World.block_lt_of_cell? wr _ d4)).trans d4⟩; obtain ⟨p0, p1, p2, p3, p4, p5⟩ := id S1.out; have HX9 : Hid (w9.heap[wr.heap.size]? = some (.cells #[.int .i64 0, .string ⟨#[]⟩, .int .i64 0, .int .i64 0, .string ⟨#[]⟩, .string ⟨#[]⟩, .bool false] 40 (0, 0))) := (hb9.block _ (by simp)).trans (heap_alloc_new wr _); have nf : ∀ i, w9.frozen? ⟨wr.heap.size, i, none⟩ = false := (fun i => frozen_of_heap HX9.out i); have z0 := cell_of_heap HX9.out 0; have z1 := cell_of_heap HX9.out 1; have z2 := cell_of_heap HX9.out 2; have z3 := cell_of_heap HX9.out 3; have z4 := cell_of_heap HX9.out 4; have z5 := cell_of_heap HX9.out 5; have z6 := cell_of_heap HX9.out 6; have S3 : Hid ((((((((w9.setCell ⟨wr.heap.size, 0, none⟩ (.int .i64 c1)).setCell ⟨wr.heap.size, 1, none⟩ (.string c2)).setCell ⟨wr.heap.size, 2, none⟩ (.int .i64 c3)).setCell ⟨wr.heap.size, 3, none⟩ (.int .i64 c4)).setCell ⟨wr.heap.size, 4, none⟩ (.string c5)).setCell ⟨wr.heap.size, 5, none⟩ (.string c6)).setCell ⟨wr.heap.size, 6, none⟩ (.bool c7)).cell? ⟨w.heap.size, 2, none⟩ = some (.slice ac nc kc) ∧ (((((((w9.setCell ⟨wr.heap.size, 0, none⟩ (.int .i64 c1)).setCell ⟨wr.heap.size, 1, none⟩ (.string c2)).setCell ⟨wr.heap.size, 2, none⟩ (.int .i64 c3)).setCell ⟨wr.heap.size, 3, none⟩ (.int .i64 c4)).setCell ⟨wr.heap.size, 4, none⟩ (.string c5)).setCell ⟨wr.heap.size, 5, none⟩ (.string c6)).setCell ⟨wr.heap.size, 6, none⟩ (.bool c7)).cell? ⟨gx, ox + k * 5, none⟩ = some (.int .i64 b1) ∧ (((((((w9.setCell ⟨wr.heap.size, 0, none⟩ (.int .i64 c1)).setCell ⟨wr.heap.size, 1, none⟩ (.string c2)).setCell ⟨wr.heap.size, 2, none⟩ (.int .i64 c3)).setCell ⟨wr.heap.size, 3, none⟩ (.int .i64 c4)).setCell ⟨wr.heap.size, 4, none⟩ (.string c5)).setCell ⟨wr.heap.size, 5, none⟩ (.string c6)).setCell ⟨wr.heap.size, 6, none⟩ (.bool c7)).cell? ⟨gx, ox + k * 5 + 1, none⟩ = some (.string b2) ∧ (((((((w9.setCell ⟨wr.heap.size, 0, none⟩ (.int .i64 c1)).setCell ⟨wr.heap.size, 1, none⟩ (.string c2)).setCell ⟨wr.heap.size, 2, none⟩ (.int .i64 c3)).setCell ⟨wr.heap.size, 3, none⟩ (.int .i64 c4)).setCell ⟨wr.heap.size, 4, none⟩ (.string c5)).setCell ⟨wr.heap.size, 5, none⟩ (.string c6)).setCell ⟨wr.heap.size, 6, none⟩ (.bool c7)).cell? ⟨gx, ox + k * 5 + 2, none⟩ = some (.int .i64 b3) ∧ (((((((w9.setCell ⟨wr.heap.size, 0, none⟩ (.int .i64 c1)).setCell ⟨wr.heap.size, 1, none⟩ (.string c2)).setCell ⟨wr.heap.size, 2, none⟩ (.int .i64 c3)).setCell ⟨wr.heap.size, 3, none⟩ (.int .i64 c4)).setCell ⟨wr.heap.size, 4, none⟩ (.string c5)).setCell ⟨wr.heap.size, 5, none⟩ (.string c6)).setCell ⟨wr.heap.size, 6, none⟩ (.bool c7)).cell? ⟨gx, ox + k * 5 + 3, none⟩ = some (.int .i64 b4) ∧ (((((((w9.setCell ⟨wr.heap.size, 0, none⟩ (.int .i64 c1)).setCell ⟨wr.heap.size, 1, none⟩ (.string c2)).setCell ⟨wr.heap.size, 2, none⟩ (.int .i64 c3)).setCell ⟨wr.heap.size, 3, none⟩ (.int .i64 c4)).setCell ⟨wr.heap.size, 4, none⟩ (.string c5)).setCell ⟨wr.heap.size, 5, none⟩ (.string c6)).setCell ⟨wr.heap.size, 6, none⟩ (.bool c7)).cell? ⟨gx, ox + k * 5 + 4, none⟩ = some (.string b5)) := ⟨(grown_set7 w9 wr.heap.size (.int .i64 c1) (.string c2) (.int .i64 c3) (.int .i64 c4) (.string c5) (.string c6) (.bool c7)).cell p0 (fun e => hwn (Option.some.inj e)), (grown_set7 w9 wr.heap.size (.int .i64 c1) (.string c2) (.int .i64 c3) (.int .i64 c4) (.string c5) (.string c6) (.bool c7)).cell p1 (fun e => hgn (Option.some.inj e)), (grown_set7 w9 wr.heap.size (.int .i64 c1) (.string c2) (.int .i64 c3) (.int .i64 c4) (.string c5) (.string c6) (.bool c7)).cell p2 (fun e => hgn (Option.some.inj e)), (grown_set7 w9 wr.heap.size (.int .i64 c1) (.string c2) (.int .i64 c3) (.int .i64 c4) (.string c5) (.string c6) (.bool c7)).cell p3 (fun e => hgn (Option.some.inj e)), (grown_set7 w9 wr.heap.size (.int .i64 c1) (.string c2) (.int .i64 c3) (.int .i64 c4) (.string c5) (.string c6) (.bool c7)).cell p4 (fun e => hgn (Option.some.inj e)), (grown_set7 w9 wr.heap.size (.int .i64 c1) (.string c2) (.int .i64 c3) (.int .i64 c4) (.string c5) (.string c6) (.bool c7)).cell p5 (fun e => hgn (Option.some.inj e))⟩; clear hb9)
                | fail)
            all_goals
              go_wp2
              go_meet
              first
                | exact ⟨_, rfl, set7 HX9.out rfl _ _ _ _ _ _ _, below_grow HB9.out (grown_set7 _ _ _ _ _ _ _ _ _) (Nat.le_refl _) (fun k hk => by cases hk; exact Nat.le_refl _)⟩
                | exact ⟨_, rfl, heap_alloc_new w9 _, HB9.out.alloc HB9.out.size _⟩
          case rest =>
            obtain ⟨B, rfl, hcut⟩ := hcut
            have HX9 := Lib.hid hcut.out.1
            have HB9 := Lib.hid hcut.out.2
            clear hcut v0 d0 d1 d2 d3 d4
            have HC9 : Hid (Below w2.heap.size w2 wc) := HBr.out.trans (HB9.out.mono HBr.out.size)
            have HOw9 : Hid (OwnK kC w2.heap.size wc u5 ((L.take k).map fun n => (lastCall cs n).getD zeroC)) := HOw.out.later HB9.out
            have y0 : wc.cell? ⟨B, 0, none⟩ = some (.int .i64 c1) := cell_of_heap HX9.out 0
            have y1 : wc.cell? ⟨B, 1, none⟩ = some (.string c2) := cell_of_heap HX9.out 1
            have y2 : wc.cell? ⟨B, 2, none⟩ = some (.int .i64 c3) := cell_of_heap HX9.out 2
            have y3 : wc.cell? ⟨B, 3, none⟩ = some (.int .i64 c4) := cell_of_heap HX9.out 3
            have y4 : wc.cell? ⟨B, 4, none⟩ = some (.string c5) := cell_of_heap HX9.out 4
            have y5 : wc.cell? ⟨B, 5, none⟩ = some (.string c6) := cell_of_heap HX9.out 5
            have y6 : wc.cell? ⟨B, 6, none⟩ = some (.bool c7) := cell_of_heap HX9.out 6
            go_wp2_with (first
              | (at_builtin; refine wpList_append_K (K := kC) rfl _ _ rfl w2.heap.size u5 ((L.take k).map fun n => (lastCall cs n).getD zeroC) rfl (HOw9.out.later ((Below.refl _ _).alloc (Nat.le_refl _) _)) (.slice (some ⟨wc.heap.size, 0, none⟩) 1 1) [⟨⟨c1, c2, c3, c4, c5⟩, c6, c7⟩] rfl (RowK.one (heap_alloc_new wc _) rfl) (by have h1 := HLn.out; have h2 := HLb.out; simp only [List.length_map, List.length_take, List.length_cons, List.length_nil]; omega) (HC9.out.alloc HC9.out.size _).size ?_; intro v1 w10 hrow1 hg1 hat1; have HR1 : Hid (OwnK kC w2.heap.size w10 v1 (((L.take k).map fun n => (lastCall cs n).getD zeroC) ++ [⟨⟨c1, c2, c3, c4, c5⟩, c6, c7⟩])) := hrow1; have HC1 : Hid (Below w2.heap.size w2 w10) := OwnK.below (HOw9.out.later ((Below.refl _ _).alloc (Nat.le_refl _) _)) hg1 (HC9.out.alloc HC9.out.size _) (Nat.le_refl _); clear hrow1 hg1 hat1)
              | go_in)
            go_wp2
            go_roundg (no - (k + 1))
            case measure => have := Hk.out; omega
            case rel => exact ⟨k + 1, by have := Hk.out; omega, by go_num, by show OwnK _ _ _ _ _; rw [HTk.out]; exact HR1.out, HC1.out⟩
        · have hkn' : k = no := by omega
          have HF : Hid (RowK kC wr u5 R) := by show RowK _ _ _ _; rw [HWr.out, ← HTl.out, ← hkn']; exact HOw.out.row
          clear hkn'
          go_wp2
          go_ret
          exact ⟨_, rfl, HF.out, HBi.out⟩
end Go.Proofs.YthghfhnicdoebaaGreatDoor
