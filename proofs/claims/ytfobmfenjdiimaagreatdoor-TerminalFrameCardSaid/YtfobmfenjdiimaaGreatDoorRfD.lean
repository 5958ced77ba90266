/- Reference 03: Parse, Valid. Reference 03: Valid, Compare. Reference 04: order, Compare. (printed by wip/gen_rf.py) Reference 04: order, Compare. (printed by wip/gen_rf.py) Reference 04: Owned, Numbered, Most, Texted, Word. (printed by wip/gen_rf.py) -/
import Derived.Test.YtfobmfenjdiimaaGreatDoorCmpD
import Derived.Test.YtfobmfenjdiimaaGreatDoorChkA
import Derived.BigQuiet
import Derived.Deep.LoopGhost
import Derived.Deep.AppendLies
namespace Go.Proofs.YtfobmfenjdiimaaGreatDoor
open Go.RowKit

/-- A row of numbers of the call's own. -/
def IntO (base : Nat) (w : World) (v : Value) (xs : List Int) : Prop := w.ownsRow base 3 1 v xs.length (xs.map (Value.int .i64))
theorem Tryz.infoIntO : (Tryz.prog.info? 3).map (fun i => (i.zero, i.size, i.bytes)) = some (some (.int .i64 0), 1, 8) := by kernel_rfl
theorem IntO.row {base : Nat} {w : World} {v : Value} {xs : List Int} (h : IntO base w v xs) : RowI w v xs := rowI_of_owns h rfl
theorem IntO.nil (base : Nat) (w : World) : IntO base w (.slice none 0 0) [] := World.ownsRow_nil _ _ _ _
theorem wpList_append_int {ops : Array Oper} {rest : List Oper} {o : Oper} {a : Act} {Q : Exit → Act → World → Prop} (hgd : o.guard = none) (s x : Operand)
    (ho : o.op = .call { callee := .builtin .append, args := #[s, x], argTypes := #[186, 186] }) {w : World} (base : Nat) (v : Value) (es : List Int) (hs : a.eval s = v) (hrow : IntO base w v es)
    (e : Int) (B : Nat) (hx : a.eval x = .slice (some ⟨B, 0, none⟩) 1 1) (hB : w.heap[B]? = some (.cells #[.int .i64 e] 3 (0, 0))) (hlen : es.length ≤ 1000000) (hbase : base ≤ w.heap.size)
    (h : ∀ g n cap w', IntO base w' (.slice (some ⟨g, 0, none⟩) n cap) (es ++ [e]) → n = es.length + 1 → w.grownBy w' v.ownBlock → (v.ownBlock = some g ∨ g = w.heap.size) → wpList Tryz.prog ops Q rest (a.put o.dst (.slice (some ⟨g, 0, none⟩) n cap)) w') :
    wpList Tryz.prog ops Q (o :: rest) a w := by
  obtain ⟨i0, hi, hz0, hz1, hz2⟩ := info_parts Tryz.infoIntO
  refine wpList_append_lies _ hgd s x 186 ho base 3 i0 (.int .i64 0) 1 8 Tryz.underlying186 hi hz0 hz1 hz2 rfl (by decide) v es.length (es.map (Value.int .i64)) hs hrow ⟨B, 0, none⟩ 1 1 [.int .i64 e] hx rfl
    (World.news_of_block hB) (by simp [Value.oneCell']) (by decide) (by unfold maxLen; omega) (by omega) hbase w.heap.size rfl ?_
  intro g cap w' h2 h3 h4 _
  refine h g _ cap w' ?_ rfl h3 h4
  unfold IntO
  simpa using h2

theorem valid_of {s : ByteArray} (h : ∀ p ∈ partsOf s.data.toList, p.err = 0) : validB s = true := by
  unfold validB
  rw [lineErr_ok h]
  rfl
theorem invalid_of {s : ByteArray} {p : PartT} (hp : p ∈ partsOf s.data.toList) (h : p.err ≠ 0) : validB s = false := by
  cases hv : validB s with
  | false => rfl
  | true => exact absurd (valid_parts hv p hp) h
theorem below_grow {B : Nat} {w w1 w2 : World} {row : Option Nat} (h : Below B w w1) (hg : w1.grownBy w2 row) (hB : B ≤ w.heap.size) (hr : ∀ k, row = some k → B ≤ k) : Below B w w2 :=
  ⟨hg.os.trans h.os, hg.tape.trans h.tape, hg.output.trans h.output, Nat.le_trans h.size hg.size, fun k hk => (hg.block k (by have := h.size; omega) (fun e => by have := hr k e.symm; omega)).trans (h.block k hk)⟩
/-- In the midst of Parse. -/
structure RP (s : ByteArray) (pre : List PartT) (os : List Int) (pos : Nat) : Prop where
  ne : s.data.toList ≠ []
  le : os.length ≤ 8
  ok : ∀ p ∈ pre, p.err = 0
  eo : pre.map (fun p => (p.ord : Int)) = os
  rest : pre ++ partsL s.data.toList (9 - os.length) pos os.length = partsOf s.data.toList
theorem RP.start {s : ByteArray} (h : s.size ≠ 0) : RP s [] [] 0 := by
  have hne : s.data.toList ≠ [] := fun e => h (by rw [← size_toList, e]; rfl)
  refine ⟨hne, Nat.zero_le _, (fun p hp => nomatch hp), rfl, ?_⟩
  unfold partsOf
  rw [if_neg hne]
  rfl
theorem RP.bad {s : ByteArray} {pre : List PartT} {os : List Int} {pos : Nat} (h : RP s pre os pos) (he : (firstP s.data.toList pos os.length).1.err ≠ 0) : validB s = false := by
  have h1 := h.rest
  obtain ⟨f, hf⟩ : ∃ f, 9 - os.length = f + 1 := ⟨8 - os.length, by have := h.le; omega⟩
  rw [hf, partsL, if_pos (.inl he)] at h1
  exact invalid_of (p := (firstP s.data.toList pos os.length).1) (by rw [← h1]; simp) he
theorem RP.step {s : ByteArray} {pre : List PartT} {os : List Int} {pos v to : Nat} (h : RP s pre os pos) (h8 : os.length < 8) (he : firstP s.data.toList pos os.length = (⟨v, pos, 0⟩, to)) :
    (to = s.size → validB s = true ∧ ordsB s = os ++ [(v : Int)]) ∧ (to ≠ s.size → (s.data.toList.getD to 0).toNat ≠ 46 → validB s = false) ∧ (to ≠ s.size → (s.data.toList.getD to 0).toNat = 46 → RP s (pre ++ [⟨v, pos, 0⟩]) (os ++ [(v : Int)]) (to + 1)) := by
  have h1 := h.rest
  have hsz := size_toList s
  obtain ⟨f, hf⟩ : ∃ f, 9 - os.length = f + 1 := ⟨8 - os.length, by omega⟩
  rw [hf, partsL, he] at h1
  dsimp only at h1
  refine ⟨fun h2 => ?_, fun h2 h3 => ?_, fun h2 h3 => ?_⟩
  · rw [if_pos (.inr (h2.trans hsz.symm))] at h1
    have hall : ∀ p ∈ partsOf s.data.toList, p.err = 0 := fun p hp => by
      rw [← h1] at hp
      rcases List.mem_append.1 hp with h4 | h4
      · exact h.ok p h4
      · rw [List.mem_singleton.1 h4]
    refine ⟨valid_of hall, ?_⟩
    unfold ordsB
    rw [← h1, List.map_append, h.eo]
    rfl
  · rw [if_neg (by intro h4; rcases h4 with h4 | h4; exact h4 rfl; exact h2 (h4.trans hsz)), if_pos h3] at h1
    exact invalid_of (p := ⟨0, to, 6⟩) (by rw [← h1]; simp) (by simp)
  · rw [if_neg (by intro h4; rcases h4 with h4 | h4; exact h4 rfl; exact h2 (h4.trans hsz)), if_neg (by omega)] at h1
    refine ⟨h.ne, by simp; omega, fun p hp => ?_, by rw [List.map_append, h.eo]; rfl, ?_⟩
    · rcases List.mem_append.1 hp with h4 | h4
      · exact h.ok p h4
      · rw [List.mem_singleton.1 h4]
    · rw [← h1, List.append_assoc, List.length_append]
      have hf2 : 9 - (os.length + [(v : Int)].length) = f := by simp; omega
      rw [hf2]
      rfl
/-- What Parse leaves. -/
def ParsePost (s : ByteArray) (w : World) (r : Ending) (w' : World) : Prop := ∃ (v : Value) (p e : Int), r = .returned (.tuple #[v, .int .i64 p, .int .i64 e]) ∧ (if validB s = true then e = 0 ∧ RowI w' v (ordsB s) else e ≠ 0) ∧ Below w.heap.size w w'
theorem ParsePost.bad {s : ByteArray} {w w' : World} {p e : Int} (hv : validB s = false) (he : e ≠ 0) (hb : Below w.heap.size w w') : ParsePost s w (.returned (.tuple #[.slice none 0 0, .int .i64 p, .int .i64 e])) w' :=
  ⟨_, _, _, rfl, by rw [if_neg (by simp [hv])]; exact he, hb⟩

set_option maxRecDepth 100000 in
set_option maxHeartbeats 3200000 in
theorem rParse_any (s : ByteArray) (hs : s.size ≤ 70368744177664) (w : World) : Calls Tryz.prog 128 #[.string s] w (ParsePost s w) := by
  by_cases h0 : s.size = 0
  · have he : s.toList.isEmpty = true := by rw [toList_empty]; exact decide_eq_true h0
    have hl : s.data.toList = [] := List.length_eq_zero_iff.1 ((size_toList s).trans h0)
    have hp : partsOf s.data.toList = [] := by unfold partsOf; rw [if_pos hl]
    have hv : validB s = true := valid_of (fun p h => by rw [hp] at h; cases h)
    have ho : ordsB s = [] := by unfold ordsB; rw [hp]; rfl
    have HV := Lib.hid hv
    have HO := Lib.hid ho
    clear hl hp hv ho h0
    go_enter Tryz.func128, Tryz.ntmps128
    go_wp2
    refine bodyPost_ret (v := .tuple #[.slice none 0 0, .int .i64 0, .int .i64 0]) (by simp [results, Tryz.results128, go_sem]) rfl ?_
    exact ⟨_, _, _, rfl, by rw [if_pos HV.out, HO.out]; exact ⟨rfl, (IntO.nil 0 w).row⟩, Below.refl _ _⟩
  have he : s.toList.isEmpty = false := by rw [toList_empty]; exact decide_eq_false h0
  have HR := Lib.hid (RP.start h0)
  have hs0 : 0 < s.size := Nat.pos_of_ne_zero h0
  clear h0
  go_enter Tryz.func128, Tryz.ntmps128
  go_wp2_with fail
  go_loopg [5, 6] s.size (fun gk ov av wr => ∃ (pos n c : Nat) (a : Option Addr) (os : List Int) (pre : List PartT), pos + gk = s.size ∧ av = .int .i64 pos ∧ ov = .slice a n c ∧ n ≤ 8 ∧ Hid (os.length = n ∧ RP s pre os pos ∧ IntO w.heap.size wr (.slice a n c) os ∧ Below w.heap.size w wr))
  case atStart => exact ⟨0, 0, 0, none, [], [], by omega, rfl, rfl, by omega, rfl, HR.out, IntO.nil _ _, Below.refl _ _⟩
  case round =>
    clear HR
    obtain ⟨pos, n, c, a, os, pre, hg, rfl, rfl, hn8, HI⟩ := hrel
    have Hg := Lib.hid hg
    have hps : pos ≤ s.size := by omega
    clear hg
    have HB : Hid (Below w.heap.size w wr) := HI.out.2.2.2
    have Hbad : Hid ((firstP s.data.toList pos n).1.err ≠ 0 → validB s = false) := fun h => HI.out.2.1.bad (by rw [HI.out.1]; exact h)
    by_cases h8 : n = 8
    · subst h8
      go_wp2
      refine bodyPost_ret (v := .tuple #[.slice none 0 0, .int .i64 pos, .int .i64 9]) (by simp [results, Tryz.results128, go_sem]) rfl ?_
      exact ParsePost.bad (Hbad.out (by rw [first_err8]; decide)) (by decide) HB.out
    by_cases hp : pos = s.size
    · subst hp
      go_wp2
      refine bodyPost_ret (v := .tuple #[.slice none 0 0, .int .i64 s.size, .int .i64 4]) (by simp [results, Tryz.results128, go_sem]) rfl ?_
      exact ParsePost.bad (Hbad.out (by unfold firstP firstErr; rw [if_neg h8, if_pos (size_toList s).symm]; simp)) (by decide) HB.out
    have hlt : pos < s.size := by omega
    have hb := at_byte s pos hlt
    have hdl : (s.data.toList.drop pos) = s[pos] :: s.data.toList.drop (pos + 1) := by
      have hl : pos < s.data.toList.length := by rw [size_toList]; exact hlt
      rw [List.drop_eq_getElem_cons hl]
      congr 1
    have h8' : n < 8 := by omega
    have hne8 : ((n : Int) == 8) = false := beq_eq_false_iff_ne.2 (by omega)
    have hnep : ((pos : Int) == (s.size : Int)) = false := beq_eq_false_iff_ne.2 (by omega)
    have HE : Hid (firstErr s.data.toList pos n = if digCount 7 (s.data.toList.drop pos) = 0 then 6 else if s[pos].toNat = 48 then 3 else if 6 < digCount 7 (s.data.toList.drop pos) then 2 else 0) := by
      show _ = _
      unfold firstErr
      rw [if_neg h8, if_neg (by rw [size_toList]; exact hp), hb]
    have HD0 : Hid (isDig s[pos] = false → digCount 7 (s.data.toList.drop pos) = 0) := fun h => by rw [hdl, digCount, h]; rfl
    have HD1 : Hid (isDig s[pos] = true → digCount 7 (s.data.toList.drop pos) ≠ 0) := fun h => by rw [hdl, digCount, h]; simp
    clear hb hdl
    by_cases hb1 : s[pos].toNat < 48
    · go_wp2
      refine bodyPost_ret (v := .tuple #[.slice none 0 0, .int .i64 pos, .int .i64 6]) (by simp [results, Tryz.results128, go_sem]) rfl ?_
      exact ParsePost.bad (Hbad.out (by unfold firstP; rw [HE.out, HD0.out (by simp [isDig]; omega)]; simp)) (by decide) HB.out
    by_cases hb2 : 57 < s[pos].toNat
    · go_wp2
      refine bodyPost_ret (v := .tuple #[.slice none 0 0, .int .i64 pos, .int .i64 6]) (by simp [results, Tryz.results128, go_sem]) rfl ?_
      exact ParsePost.bad (Hbad.out (by unfold firstP; rw [HE.out, HD0.out (by simp [isDig]; omega)]; simp)) (by decide) HB.out
    have hdig : isDig s[pos] = true := by simp [isDig]; omega
    by_cases hb3 : s[pos].toNat = 48
    · have hb4 : ((s[pos].toNat : Int) == 48) = true := by rw [beq_iff_eq]; omega
      have HX := Lib.hid (HE.out.trans (by rw [if_neg (HD1.out hdig), if_pos hb3] : _ = 3))
      go_wp2
      refine bodyPost_ret (v := .tuple #[.slice none 0 0, .int .i64 pos, .int .i64 3]) (by simp [results, Tryz.results128, go_sem]) rfl ?_
      exact ParsePost.bad (Hbad.out (by unfold firstP; rw [HX.out]; simp)) (by decide) HB.out
    have hb4 : ((s[pos].toNat : Int) == 48) = false := by rw [beq_eq_false_iff_ne]; omega
    have HK0 : Hid (digCount 7 (s.data.toList.drop pos) ≠ 0) := HD1.out hdig
    have hnat : ∀ h : pos < s.size, (s[pos]'h).toNat ≠ 48 := fun _ => hb3
    have Hnat := Lib.hid hnat
    clear hdig HD0 HD1 HE hnat hb3
    go_wp2_with fail
    go_loop [7, 8] (fun o i => ∃ (k v : Nat), k ≤ 7 ∧ pos + k ≤ s.size ∧ i = .int .i64 ((pos : Int) + k) ∧ o = .int .i64 v ∧ v < 10 ^ k ∧ Hid (v = decVal ((s.data.toList.drop pos).take k)) ∧ Hid (∀ j, j < k → isDig ((s.data.toList.drop pos).getD j 0) = true)) (fun _ i => s.size - (intOf i).toNat)
    case atStart => exact ⟨0, 0, by omega, by omega, by go_num, rfl, by simp, rfl, fun j hj => by omega⟩
    case round =>
      clear hb1 hb2 hb4
      obtain ⟨k, v, hk7, hks, rfl, rfl, hv, Hv, Hd⟩ := hrel
      have Hvb := Lib.hid hv; clear hv
      have hv7 : v < 10000000 := Nat.lt_of_lt_of_le Hvb.out (Nat.le_trans (Nat.pow_le_pow_right (by decide) hk7) (by decide))
      by_cases h1 : pos + k < s.size
      · have hgb := at_byte s (pos + k) h1
        have hdigx := isDig_iff (s[pos + k]'h1)
        by_cases h3 : 48 ≤ (s[pos + k]'h1).toNat ∧ (s[pos + k]'h1).toNat ≤ 57
        · obtain ⟨h3a, h3b⟩ := h3
          by_cases h2 : k < 7
          · have H3 := Lib.hid (hdigx.2 ⟨h3a, h3b⟩)
            have Hgb := Lib.hid hgb
            clear hgb hdigx
            go_wp2
            go_round
            case rel =>
              refine ⟨k + 1, v * 10 + (s[pos + k].toNat - 48), by omega, by omega, by go_num, ?_, ?_, ?_, ?_⟩
              · have e : ((v * 10 + (s[pos + k].toNat - 48) : Nat) : Int) = 10 * (v : Int) + (s[pos + k].toNat : Int) - 48 := by omega
                rw [e]
              · have h := Hvb.out
                rw [Nat.pow_succ]
                omega
              · show _ = _
                have hl : k < (s.data.toList.drop pos).length := by rw [List.length_drop, size_toList]; omega
                have hg : (s.data.toList.drop pos)[k] = s[pos + k] := by
                  rw [Hgb.out, ← getD_drop, List.getD_eq_getElem?_getD, List.getElem?_eq_getElem hl]; rfl
                rw [List.take_succ_eq_append_getElem hl, decVal_snoc, ← Hv.out, hg]
              · intro j hj
                by_cases hjk : j = k
                · subst hjk; rw [getD_drop, ← Hgb.out]; exact H3.out
                · exact Hd.out j (by omega)
            case measure => simp [intOf]; omega
          · clear hdigx
            have hsz := size_toList s
            have hdc : digCount 7 (s.data.toList.drop pos) = k := digCount_eq 7 k _ hk7 (by rw [List.length_drop]; omega) Hd.out (.inl (by omega))
            have hk0 : 0 < k := by have := HK0.out; omega
            have hways := first_ways s pos n k hk7 hks hps hn8 hdc (fun _ h => by omega) Hd.out
            clear hsz hdc
            rcases hways with ⟨ha, hf⟩ | ⟨ha, hb, hf⟩ | ⟨ha, hb, hd, hf⟩ | ⟨ha, hb, ⟨hl, hd⟩, hf⟩ | ⟨ha, hb, ⟨hl, hd⟩, hf⟩ | ⟨ha, hb, hd, ⟨hl, he⟩, hf⟩
            · omega
            · omega
            · omega
            · exact absurd (by rw [beq_iff_eq] at hd; omega) (Hnat.out hl)
            · obtain rfl : k = 7 := by omega
              have hbd := Lib.hid (Hbad.out (by rw [hf.out]; simp))
              clear hd hf
              go_wp2
              all_goals
                refine bodyPost_ret (v := .tuple #[.slice none 0 0, .int .i64 pos, .int .i64 2]) (by simp [results, Tryz.results128, go_sem]) rfl ?_
                exact ParsePost.bad hbd.out (by decide) HB.out
            · omega
        · have hnd : isDig (s.data.toList.getD (pos + k) 0) = false := by rw [← hgb]; simp [isDig]; omega
          have hsz := size_toList s
          have hdc : digCount 7 (s.data.toList.drop pos) = k := digCount_eq 7 k _ hk7 (by rw [List.length_drop]; omega) Hd.out (.inr (.inr (by rw [getD_drop]; exact hnd)))
          have hk0 : 0 < k := by have := HK0.out; omega
          have hways := first_ways s pos n k hk7 hks hps hn8 hdc (fun _ _ => hnd) Hd.out
          clear hsz hdc
          rcases hways with ⟨ha, hf⟩ | ⟨ha, hb, hf⟩ | ⟨ha, hb, hd, hf⟩ | ⟨ha, hb, ⟨hl, hd⟩, hf⟩ | ⟨ha, hb, ⟨hl, hd⟩, hf⟩ | ⟨ha, hb, hd, ⟨hl, he⟩, hf⟩
          · omega
          · omega
          · omega
          · exact absurd (by rw [beq_iff_eq] at hd; omega) (Hnat.out hl)
          · have hww : (s[pos + k]'h1).toNat < 48 ∨ (48 ≤ (s[pos + k]'h1).toNat ∧ 57 < (s[pos + k]'h1).toNat) := by omega
            clear h3 hdigx hnd hgb
            rcases hww with h4 | ⟨h4, h5⟩
            · obtain rfl : k = 7 := by omega
              have hbd := Lib.hid (Hbad.out (by rw [hf.out]; simp))
              clear hd hf
              go_wp2
              all_goals
                refine bodyPost_ret (v := .tuple #[.slice none 0 0, .int .i64 pos, .int .i64 2]) (by simp [results, Tryz.results128, go_sem]) rfl ?_
                exact ParsePost.bad hbd.out (by decide) HB.out
            · obtain rfl : k = 7 := by omega
              have hbd := Lib.hid (Hbad.out (by rw [hf.out]; simp))
              clear hd hf
              go_wp2
              all_goals
                refine bodyPost_ret (v := .tuple #[.slice none 0 0, .int .i64 pos, .int .i64 2]) (by simp [results, Tryz.results128, go_sem]) rfl ?_
                exact ParsePost.bad hbd.out (by decide) HB.out
          · have HS := Lib.hid (HI.out.2.1.step (v := v) (to := pos + k) (by have := HI.out.1; omega) (by rw [HI.out.1, Hv.out]; exact hf.out))
            clear he hf
            have hww : ((s[pos + k]'h1).toNat < 48 ∧ (s[pos + k]'h1).toNat = 46) ∨ ((s[pos + k]'h1).toNat < 48 ∧ (s[pos + k]'h1).toNat ≠ 46) ∨ (48 ≤ (s[pos + k]'h1).toNat ∧ 57 < (s[pos + k]'h1).toNat) := by omega
            rw [← hgb] at HS
            clear h3 hdigx hnd hgb
            rcases hww with ⟨h4, h5⟩ | ⟨h4, h5⟩ | ⟨h4, h5⟩
            · have h6 : (((s[pos + k]'h1).toNat : Int) != 46) = false := by rw [bne_eq_false_iff_eq]; omega
              have HV6 := Lib.hid (HS.out.2.2 (by omega) h5)
              have hpk : pos + k + 1 ≤ s.size := by omega
              go_wp2_with (first
          | (at_builtin; go_loud (refine wpList_append_int rfl _ _ rfl w.heap.size (.slice a n c) os rfl (World.ownsRow.alloc HI.out.2.2.1 _) (v : Int) wr.heap.size rfl (heap_alloc_new wr _) (by have := HI.out.1; omega) (by have := HB.out.size; simp; omega) ?_; intro g n9 cap wd hrow hn9 hgd hat; have HRow := Lib.hid hrow; have HBd : Hid (Below w.heap.size w wd) := below_grow (HB.out.alloc HB.out.size _) hgd (Nat.le_refl _) (fun k hk => (World.ownsRow.lt HI.out.2.2.1 k hk).1); have Hn9 : Hid (n9 = n + 1) := (by show _ = _; rw [hn9, HI.out.1]); clear hrow hn9 hgd hat))
          | go_in)
              go_wp2
              go_roundg (s.size - (pos + k + 1))
              case measure => have := Hg.out; omega
              case rel => exact ⟨pos + k + 1, n9, cap, some ⟨g, 0, none⟩, os ++ [(v : Int)], pre ++ [⟨v, pos, 0⟩], by omega, by go_num, rfl, by have := Hn9.out; omega, by rw [List.length_append, HI.out.1, Hn9.out]; rfl, HV6.out, HRow.out, HBd.out⟩
            · have h6 : (((s[pos + k]'h1).toNat : Int) != 46) = true := by rw [bne_iff_ne]; omega
              have HV6 := Lib.hid (HS.out.2.1 (by omega) h5)
              go_wp2_with (first
          | (at_builtin; go_loud (refine wpList_append_int rfl _ _ rfl w.heap.size (.slice a n c) os rfl (World.ownsRow.alloc HI.out.2.2.1 _) (v : Int) wr.heap.size rfl (heap_alloc_new wr _) (by have := HI.out.1; omega) (by have := HB.out.size; simp; omega) ?_; intro g n9 cap wd hrow hn9 hgd hat; have HRow := Lib.hid hrow; have HBd : Hid (Below w.heap.size w wd) := below_grow (HB.out.alloc HB.out.size _) hgd (Nat.le_refl _) (fun k hk => (World.ownsRow.lt HI.out.2.2.1 k hk).1); have Hn9 : Hid (n9 = n + 1) := (by show _ = _; rw [hn9, HI.out.1]); clear hrow hn9 hgd hat))
          | go_in)
              go_wp2
              all_goals
                refine bodyPost_ret (v := .tuple #[.slice none 0 0, .int .i64 ((pos : Int) + k), .int .i64 6]) (by simp [results, Tryz.results128, go_sem]) rfl ?_
                exact ParsePost.bad HV6.out (by decide) HBd.out
            · have h6 : (((s[pos + k]'h1).toNat : Int) != 46) = true := by rw [bne_iff_ne]; omega
              have HV6 := Lib.hid (HS.out.2.1 (by omega) (by omega))
              go_wp2_with (first
          | (at_builtin; go_loud (refine wpList_append_int rfl _ _ rfl w.heap.size (.slice a n c) os rfl (World.ownsRow.alloc HI.out.2.2.1 _) (v : Int) wr.heap.size rfl (heap_alloc_new wr _) (by have := HI.out.1; omega) (by have := HB.out.size; simp; omega) ?_; intro g n9 cap wd hrow hn9 hgd hat; have HRow := Lib.hid hrow; have HBd : Hid (Below w.heap.size w wd) := below_grow (HB.out.alloc HB.out.size _) hgd (Nat.le_refl _) (fun k hk => (World.ownsRow.lt HI.out.2.2.1 k hk).1); have Hn9 : Hid (n9 = n + 1) := (by show _ = _; rw [hn9, HI.out.1]); clear hrow hn9 hgd hat))
          | go_in)
              go_wp2
              all_goals
                refine bodyPost_ret (v := .tuple #[.slice none 0 0, .int .i64 ((pos : Int) + k), .int .i64 6]) (by simp [results, Tryz.results128, go_sem]) rfl ?_
                exact ParsePost.bad HV6.out (by decide) HBd.out
      · have hend : pos + k = s.size := by omega
        have hsz := size_toList s
        have hdc : digCount 7 (s.data.toList.drop pos) = k := digCount_eq 7 k _ hk7 (by rw [List.length_drop]; omega) Hd.out (.inr (.inl (by rw [List.length_drop]; omega)))
        have hk0 : 0 < k := by have := HK0.out; omega
        have hways := first_ways s pos n k hk7 hks hps hn8 hdc (fun h _ => by omega) Hd.out
        clear hsz hdc
        rcases hways with ⟨ha, hf⟩ | ⟨ha, hb, hf⟩ | ⟨ha, hb, hd, hf⟩ | ⟨ha, hb, ⟨hl, hd⟩, hf⟩ | ⟨ha, hb, ⟨hl, hd⟩, hf⟩ | ⟨ha, hb, hd, ⟨hl, he⟩, hf⟩
        · omega
        · omega
        · omega
        · exact absurd (by rw [beq_iff_eq] at hd; omega) (Hnat.out hl)
        · obtain rfl : k = 7 := by omega
          have hbd := Lib.hid (Hbad.out (by rw [hf.out]; simp))
          clear hd hf
          go_wp2
          all_goals
            refine bodyPost_ret (v := .tuple #[.slice none 0 0, .int .i64 pos, .int .i64 2]) (by simp [results, Tryz.results128, go_sem]) rfl ?_
            exact ParsePost.bad hbd.out (by decide) HB.out
        · have HS := Lib.hid (HI.out.2.1.step (v := v) (to := pos + k) (by have := HI.out.1; omega) (by rw [HI.out.1, Hv.out]; exact hf.out))
          clear he hf
          go_wp2_with (first
          | (at_builtin; go_loud (refine wpList_append_int rfl _ _ rfl w.heap.size (.slice a n c) os rfl (World.ownsRow.alloc HI.out.2.2.1 _) (v : Int) wr.heap.size rfl (heap_alloc_new wr _) (by have := HI.out.1; omega) (by have := HB.out.size; simp; omega) ?_; intro g n9 cap wd hrow hn9 hgd hat; have HRow := Lib.hid hrow; have HBd : Hid (Below w.heap.size w wd) := below_grow (HB.out.alloc HB.out.size _) hgd (Nat.le_refl _) (fun k hk => (World.ownsRow.lt HI.out.2.2.1 k hk).1); have Hn9 : Hid (n9 = n + 1) := (by show _ = _; rw [hn9, HI.out.1]); clear hrow hn9 hgd hat))
          | go_in)
          go_wp2
          all_goals
            refine bodyPost_ret (v := .tuple #[.slice (some ⟨g, 0, none⟩) n9 cap, .int .i64 0, .int .i64 0]) (by simp [results, Tryz.results128, go_sem]) rfl ?_
            obtain ⟨h5, h6⟩ := HS.out.1 (by omega)
            exact ⟨_, _, _, rfl, by rw [if_pos h5, h6]; exact ⟨rfl, IntO.row (by have h := HRow.out; rwa [Hn9.out] at h ⊢)⟩, HBd.out⟩
end Go.Proofs.YtfobmfenjdiimaaGreatDoor

namespace Go.Proofs.YtfobmfenjdiimaaGreatDoor
open Go.RowKit

set_option maxHeartbeats 800000 in
theorem rValid_any (s : ByteArray) (hs : s.size ≤ 70368744177664) (w : World) : Calls Tryz.prog 101 #[.string s] w fun r w' => r = .returned (.bool (validB s)) ∧ Below w.heap.size w w' := by
  go_enter Tryz.func101, Tryz.ntmps101
  go_wp2_with fail
  refine (rParse_any s hs _).mono ?_
  rintro r w1 ⟨v, p, e, rfl, he, hb⟩
  cases hv : validB s with
  | true =>
    rw [if_pos hv] at he
    obtain ⟨rfl, -⟩ := he
    have HV := Lib.hid hv
    clear hv
    go_wp2
    go_ret
    rw [HV.out]
    exact ⟨rfl, hb⟩
  | false =>
    rw [if_neg (by simp [hv])] at he
    have h1 : (e == 0) = false := beq_eq_false_iff_ne.2 he
    have HV := Lib.hid hv
    clear he hv
    go_wp2
    go_ret
    rw [HV.out]
    exact ⟨rfl, hb⟩
theorem rValid_is (s : ByteArray) (b : Bool) (h : validB s = b) (hs : s.size ≤ 70368744177664) (w : World) : Calls Tryz.prog 101 #[.string s] w fun r w' => r = .returned (.bool b) ∧ Below w.heap.size w w' := by
  subst h; exact rValid_any s hs w

theorem lcmp_both {a b : ByteArray} (ha : validB a = true) (hb : validB b = true) : lcmp a b = cmpIL (ordsB a) (ordsB b) := by
  unfold lcmp
  by_cases h : a = b
  · rw [if_pos h, h, cmpIL_ok.refl]
  · rw [if_neg h, if_pos ⟨ha, hb⟩]
theorem lcmp_left {a b : ByteArray} (ha : validB a = true) (hb : validB b = false) : lcmp a b = -1 := by
  have hne : a ≠ b := fun h => by rw [h, hb] at ha; cases ha
  unfold lcmp
  rw [if_neg hne, if_neg (by simp [hb]), if_pos ha]
theorem lcmp_right {a b : ByteArray} (ha : validB a = false) (hb : validB b = true) : lcmp a b = 1 := by
  have hne : a ≠ b := fun h => by rw [h, hb] at ha; cases ha
  unfold lcmp
  rw [if_neg hne, if_neg (by simp [ha]), if_neg (by simp [ha]), if_pos hb]
theorem lcmp_none {a b : ByteArray} (ha : validB a = false) (hb : validB b = false) : lcmp a b = cmpS a b := by
  unfold lcmp
  by_cases h : a = b
  · rw [if_pos h, h, cmpS_ok.refl]
  · rw [if_neg h, if_neg (by simp [ha]), if_neg (by simp [ha]), if_neg (by simp [hb])]
theorem ne_bool {e : Int} (h : e ≠ 0) : (e == 0) = false ∧ (e != 0) = true := ⟨beq_eq_false_iff_ne.2 h, bne_iff_ne.2 h⟩

end Go.Proofs.YtfobmfenjdiimaaGreatDoor

namespace Go.Proofs.YtfobmfenjdiimaaGreatDoor
open Go.RowKit

theorem cmpI_zero {x y : Int} : cmpI x y = 0 ↔ x = y := by
  unfold cmpI
  repeat' split
  all_goals omega

theorem ne_int {x y : Int} (h : x ≠ y) : (x == y) = false ∧ (x != y) = true := ⟨beq_eq_false_iff_ne.2 h, bne_iff_ne.2 h⟩

end Go.Proofs.YtfobmfenjdiimaaGreatDoor

namespace Go.Proofs.YtfobmfenjdiimaaGreatDoor
open Go.RowKit

end Go.Proofs.YtfobmfenjdiimaaGreatDoor
