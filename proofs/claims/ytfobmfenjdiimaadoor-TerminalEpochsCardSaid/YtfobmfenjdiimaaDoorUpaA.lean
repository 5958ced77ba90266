/- Law 36: TerminalPlays. (printed by wip/gen_upa.py) -/
import Derived.Test.YtfobmfenjdiimaaDoorPluA
import Derived.Test.YtfobmfenjdiimaaDoorKnown
namespace Go.Proofs.YtfobmfenjdiimaaDoor
open Go.RowKit
attribute [local go_sem ↓] Go.wp_at_zero Go.wp_at_succ

/-- A new view of the empty state. -/
theorem qmEmpty36 (w : World) (hu : Usages w) :
    Calls Tryd.prog 20 #[] w fun r w1 => r = .returned (.pointer (some ⟨w.heap.size, 0, none⟩)) ∧ Calls Tryd.prog 19 #[.pointer (some ⟨w.heap.size, 0, none⟩)] w1 fun r w2 => r = .returned (.pointer (some ⟨w.heap.size + 3, 0, none⟩)) ∧ QM w w2 (w.heap.size + 3) 0 ⟨fun _ => none, [], []⟩ (fun _ => False) := by
  refine (stateNew_any w).mono ?_
  rintro r w1 ⟨rfl, rfl⟩
  refine ⟨rfl, ?_⟩
  have hb1 : Below w.heap.size w (w.alloc (.cells #[.pointer none] 97)) := (Below.refl _ _).alloc (Nat.le_refl _) _
  have hbn := baseN_empty w
  have hsz : (w.alloc (.cells #[.pointer none] 97)).heap.size = w.heap.size + 1 := by simp
  refine (qmNew (w0 := w) (hu.below hb1 hu.pos) hb1 hbn).mono ?_
  rintro r w2 ⟨rfl, s, -⟩
  rw [hsz] at s
  exact ⟨by rw [hsz], s⟩
theorem avSeen_calls36 (V : AV) (n : NameT) : (avSeen V n).calls = V.calls := by
  unfold avSeen
  split <;> rfl
theorem RelU.seen {V : AV} {f : Int → Option TermT} {k : Nat} (h : RelU V f k) (n : NameT) : RelU (avSeen V n) f k :=
  ⟨fun m => hasT_same (fun j => avGet_seen V n (ofTerm j)) (h.has m), by rw [avSeen_calls36]; exact h.len⟩
/-- A block that is new beside play's. -/
theorem PU.new {w0 w W W' : World} {b M mp : Nat} {V : AV} {G : Nat → Prop} {l : List (Int × TRow)} (d : PU w0 w W b M V G mp l) (hb : Below W.heap.size W W') {P : Nat} (h1 : W.heap.size ≤ P) (h2 : P < W'.heap.size) : QM w0 W' b M V (fun k => GP G mp l k ∨ k = P) :=
  d.s.fresh hb (fun k hk => hk.imp id fun h => by subst h; exact ⟨h1, h2⟩)
theorem PU.seen {w0 w W W' : World} {b M mp P : Nat} {V V' : AV} {G : Nat → Prop} {l : List (Int × TRow)} (d : PU w0 w W b M V G mp l) (s : QM w0 W' b M V' (fun k => GP G mp l k ∨ k = P)) (hk : ∀ k, GP G mp l k → W'.heap[k]? = W.heap[k]?) : PU w0 w W' b M V' G mp l :=
  d.step (s.fresh (Below.refl _ _) (fun _ h => .inl (.inl h))) hk
set_option maxRecDepth 100000 in
set_option maxHeartbeats 6400000 in
theorem tplays_any (a : Option Addr) (n c : Nat) (f : Nat → OpU) (w : World) (hu : Usages w) (hops : OpSlU w a n f) :
    Calls Tryd.prog 4 #[.slice a n c] w fun r w' => r = .returned (.bool true) ∧ Below w.heap.size w w' := by
  have HU : Hid (∀ W, Below w.heap.size w W → Usages W) := fun W hW => hu.below hW hu.pos
  have HO : Hid (∀ W, Below w.heap.size w W → OpSlU W a n f) := fun W hW => hops.later hW
  clear hu hops
  go_enter Tryd.func4, Tryd.ntmps4
  go_wp2_with fail
  refine (known_any w (HU.out w (Below.refl _ _))).mono ?_
  rintro r w1 ⟨rfl, hb⟩
  have HB1 : Hid (Below w.heap.size w w1) := hb
  clear hb
  go_wp2_with fail
  refine (qmEmpty36 w1 (HU.out w1 HB1.out)).mono ?_
  rintro r w2 ⟨rfl, hnew⟩
  have HNew := Lib.hid hnew
  clear hnew
  go_wp2_with fail
  refine HNew.out.mono ?_
  rintro r w3 ⟨rfl, s3⟩
  have HS3 := Lib.hid s3
  clear s3 HNew
  go_wp2_with fail
  refine (play36_any HS3.out relU_empty a n c f (fun W hW => HO.out W (HB1.out.trans (hW.mono HB1.out.size)))).mono ?_
  rintro r w4 ⟨V, l, rfl, hp, hr⟩
  have HI0 : Hid (PU w1 w3 w4 (w1.heap.size + 3) 0 V (fun _ => False) w3.heap.size l ∧ RelU V (funR l) 30) := ⟨hp, hr⟩
  clear hp hr HS3 HO HU
  generalize w1.heap.size + 3 = b at *
  go_wp2_with fail
  go_loopg [6] 99 (fun gk iv wr => ∃ (k : Nat) (V : AV), k + gk = 100 ∧ 1 ≤ k ∧ iv = .int .i64 k ∧ Hid (PU w1 w3 wr b 0 V (fun _ => False) w3.heap.size l ∧ RelU V (funR l) 30))
  case atStart => exact ⟨1, V, by omega, by omega, rfl, HI0.out⟩
  case round =>
    clear HI0
    obtain ⟨k, V, hg, h1, rfl, HI⟩ := hrel
    have Hg := Lib.hid hg
    by_cases h99 : ¬ k ≤ 99
    · have HF : Hid (Below w.heap.size w wr) := HB1.out.trans (HI.out.1.s.below.mono HB1.out.size)
      go_wp2
      go_ret
      exact ⟨rfl, HF.out⟩
    have h99' : k ≤ 99 := by omega
    clear h99 hg
    have HNk : Hid (NameOk (ofTerm k)) := nameOk_term k (by omega) (by omega)
    have hlook := run_lookup_int encR wr 52 24 Tryd.underlying52 (.agg #[.int .i64 0, .string ⟨#[]⟩, .slice none 0 0, .string ⟨#[]⟩]) (by kernel_rfl) w3.heap.size l HI.out.1.m k
    have hh := HI.out.2.has k
    unfold funR at hh
    have HA : Hid (∀ o, Below wr.heap.size wr (wr.alloc o)) := fun o => (Below.refl _ _).alloc (Nat.le_refl _) _
    have HX : Hid (∀ o, (wr.alloc o).heap[wr.heap.size]? = some o) := fun o => World.alloc_heap_new wr o
    have HNw : Hid (∀ o, QM w1 (wr.alloc o) b 0 V (fun j => GP (fun _ => False) w3.heap.size l j ∨ j = wr.heap.size)) := fun o => HI.out.1.new ((Below.refl _ _).alloc (Nat.le_refl _) o) (Nat.le_refl _) (by simp)
    cases hgt : iGet l k with
    | none =>
      rw [hgt] at hlook hh
      have hh2 : (avGet V (ofTerm k)).2 = false := hh
      have Hh := Lib.hid hh2
      clear hh hh2 hgt
      dsimp only [Option.map_none, Option.getD_none, Option.isSome_none] at hlook
      go_wp2_with fail
      refine (ofTerminal_any k _).mono ?_
      rintro r w5 ⟨rfl, hb5⟩
      have HB5 : Hid (Below wr.heap.size wr w5) := (HA.out (.cells #[.int .i64 0, .string ⟨#[]⟩, .slice none 0 0, .string ⟨#[]⟩] 24)).trans (hb5.mono (HA.out _).size)
      have HX5 := Lib.hid ((hb5.block _ (lt_of_heap (HX.out (.cells #[.int .i64 0, .string ⟨#[]⟩, .slice none 0 0, .string ⟨#[]⟩] 24)))).trans (HX.out _))
      have HS5 := Lib.hid ((HNw.out (.cells #[.int .i64 0, .string ⟨#[]⟩, .slice none 0 0, .string ⟨#[]⟩] 24)).later hb5)
      have HB5a : Hid (Below wr.heap.size wr w5) := HB5.out
      clear hb5 HA HX HNw hlook
      go_wp2_with fail
      refine (qmVGet HS5.out (ofTerm k) HNk.out).mono ?_
      rintro r w6 ⟨rfl, s6, hk6⟩
      have HP6 : Hid (PU w1 w3 w6 b 0 (avSeen V (ofTerm k)) (fun _ => False) w3.heap.size l) := (HI.out.1.later HB5a.out).seen s6 (fun j hj => hk6 j (.inl hj))
      have HX6 := Lib.hid ((hk6 _ (.inr rfl)).trans HX5.out)
      have HR6 := Lib.hid (HI.out.2.seen (ofTerm k))
      clear s6 hk6 HS5 HX5 HB5
      have y0 : w6.cell? ⟨wr.heap.size, 0, none⟩ = some (.int .i64 0) := cell_of_heap HX6.out 0
      have y1 : w6.cell? ⟨wr.heap.size, 1, none⟩ = some (.string ⟨#[]⟩) := cell_of_heap HX6.out 1
      have y2 : w6.cell? ⟨wr.heap.size, 2, none⟩ = some (.slice none 0 0) := cell_of_heap HX6.out 2
      have y3 : w6.cell? ⟨wr.heap.size, 3, none⟩ = some (.string ⟨#[]⟩) := cell_of_heap HX6.out 3
      have hE : avGet V (ofTerm k) = ((avGet V (ofTerm k)).1, false) := by rw [← Hh.out]
      rw [hE]
      clear hE
      generalize (avGet V (ofTerm k)).1 = got at *
      go_wp2_with fail
      refine (rEnc36_any 0 ⟨#[]⟩ ⟨#[]⟩ none 0 0 [] w6 (SSl.nil _) (Nat.zero_le _) (Nat.zero_le _) (Nat.zero_le _) (fun s hs => by cases hs)).mono ?_
      rintro r w7 ⟨rfl, hb7⟩
      have HP7 := Lib.hid (HP6.out.later hb7)
      clear hb7 y0 y1 y2 y3 HX6 HP6
      generalize encT ⟨0, ⟨#[]⟩, [], ⟨#[]⟩⟩ = enc at *
      go_wp2
      go_roundg (99 - k)
      case measure => have := Hg.out; omega
      case rel => exact ⟨k + 1, _, by omega, by omega, by go_num, HP7.out, HR6.out⟩
    | some x =>
      rw [hgt] at hlook hh
      have hh2 : avGet V (ofTerm k) = (strOf (encB x.t), true) ∧ checkT x.t = 0 := hh
      have Hm := Lib.hid (iGet_mem hgt)
      clear hh hgt
      obtain ⟨⟨xe, xs, xl, xc⟩, xa, xn, xk⟩ := x
      have Hh := Lib.hid hh2
      clear hh2
      unfold encR at hlook
      dsimp only [Option.map_some, Option.getD_some, Option.isSome_some] at hlook Hh
      go_wp2_with fail
      refine (ofTerminal_any k _).mono ?_
      rintro r w5 ⟨rfl, hb5⟩
      have HB5 : Hid (Below wr.heap.size wr w5) := (HA.out (.cells #[.int .i64 xe, .string xs, .slice xa xn xk, .string xc] 24)).trans (hb5.mono (HA.out _).size)
      have HX5 := Lib.hid ((hb5.block _ (lt_of_heap (HX.out (.cells #[.int .i64 xe, .string xs, .slice xa xn xk, .string xc] 24)))).trans (HX.out _))
      have HS5 := Lib.hid ((HNw.out (.cells #[.int .i64 xe, .string xs, .slice xa xn xk, .string xc] 24)).later hb5)
      have HB5a : Hid (Below wr.heap.size wr w5) := HB5.out
      clear hb5 HA HX HNw hlook
      go_wp2_with fail
      refine (qmVGet HS5.out (ofTerm k) HNk.out).mono ?_
      rintro r w6 ⟨rfl, s6, hk6⟩
      have HP6 : Hid (PU w1 w3 w6 b 0 (avSeen V (ofTerm k)) (fun _ => False) w3.heap.size l) := (HI.out.1.later HB5a.out).seen s6 (fun j hj => hk6 j (.inl hj))
      have HX6 := Lib.hid ((hk6 _ (.inr rfl)).trans HX5.out)
      have HR6 := Lib.hid (HI.out.2.seen (ofTerm k))
      clear s6 hk6 HS5 HX5 HB5
      have y0 : w6.cell? ⟨wr.heap.size, 0, none⟩ = some (.int .i64 xe) := cell_of_heap HX6.out 0
      have y1 : w6.cell? ⟨wr.heap.size, 1, none⟩ = some (.string xs) := cell_of_heap HX6.out 1
      have y2 : w6.cell? ⟨wr.heap.size, 2, none⟩ = some (.slice xa xn xk) := cell_of_heap HX6.out 2
      have y3 : w6.cell? ⟨wr.heap.size, 3, none⟩ = some (.string xc) := cell_of_heap HX6.out 3
      rw [Hh.out.1]
      have HRow := Lib.hid (HP6.out.row _ Hm.out).ssl
      have Hsm := Lib.hid (checkT_small Hh.out.2)
      have HEnc : Hid ((encT ⟨xe, xs, xl, xc⟩).1 = strOf (encB ⟨xe, xs, xl, xc⟩)) := by show _ = _; unfold encT; rw [if_pos Hh.out.2]
      go_wp2_with fail
      refine (rEnc36_any xe xs xc xa xn xk xl w6 HRow.out (Nat.le_trans Hsm.out.session (by decide)) (Nat.le_trans Hsm.out.screen (by decide)) (by rw [← HRow.out.1]; exact Nat.le_trans Hsm.out.typed (by decide)) (fun s hs => Nat.le_trans (Hsm.out.lines s hs) (by decide))).mono ?_
      rintro r w7 ⟨rfl, hb7⟩
      have HP7 := Lib.hid (HP6.out.later hb7)
      clear hb7 y0 y1 y2 y3 HX6 HP6
      rw [HEnc.out]
      have hse : ((strOf (encB ⟨xe, xs, xl, xc⟩)).toList != (strOf (encB ⟨xe, xs, xl, xc⟩)).toList) = false := by simp
      generalize strOf (encB ⟨xe, xs, xl, xc⟩) = enc at hse ⊢
      go_wp2
      go_roundg (99 - k)
      case measure => have := Hg.out; omega
      case rel => exact ⟨k + 1, _, by omega, by omega, by go_num, HP7.out, HR6.out⟩
end Go.Proofs.YtfobmfenjdiimaaDoor
