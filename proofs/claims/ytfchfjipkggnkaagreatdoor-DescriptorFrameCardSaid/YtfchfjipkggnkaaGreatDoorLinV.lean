/- lineage: Parse, Valid, Within. lineage: Valid. Plain: a valid name has at most 56 bytes. -/
import Derived.Test.YtfchfjipkggnkaaGreatDoorLinB
import Derived.Deep.Light
namespace Go.Proofs.YtfchfjipkggnkaaGreatDoor
open Go.RowKit Go.Shelf
attribute [local go_sem] Oper.semAt_some

/-- The first error of a text. -/
def lineErr (bs : List UInt8) : Nat := (((partsOf bs).find? (fun p => decide (p.err ≠ 0))).map PartT.err).getD 0
def validB (s : ByteArray) : Bool := decide (lineErr s.data.toList = 0)

theorem lineErr_ok {bs : List UInt8} (h : ∀ p ∈ partsOf bs, p.err = 0) : lineErr bs = 0 := by
  unfold lineErr
  rw [List.find?_eq_none.2 (fun p hp => by simp [h p hp])]
  rfl
theorem lineErr_bad {bs : List UInt8} {pre : List PartT} {x : PartT} (hp : pre ++ [x] <+: partsOf bs) (h : ∀ p ∈ pre, p.err = 0) (hx : x.err ≠ 0) : lineErr bs = x.err := by
  obtain ⟨r, hr⟩ := hp
  unfold lineErr
  rw [← hr, List.append_assoc, List.find?_append, List.find?_eq_none.2 (fun p hp => by simp [h p hp])]
  simp [hx]

theorem parts_length (bs : List UInt8) : (partsOf bs).length ≤ 10 := by
  have h : ∀ (f pos count : Nat), (partsL bs f pos count).length ≤ f + 1 := by
    intro f
    induction f with
    | zero => intro pos count; simp [partsL]
    | succ f ih =>
      intro pos count
      simp only [partsL]
      split
      · simp
      · split
        · simp
        · have := ih ((firstP bs pos count).2 + 1) (count + 1); simp; omega
  unfold partsOf
  split
  · simp
  · exact h 9 0 0

set_option maxRecDepth 100000 in
set_option maxHeartbeats 1000000 in
theorem parts_any (s : ByteArray) (w : World) : Calls Tryz.prog 80 #[.string s] w fun r w' => r = .returned (.func (.func 115) #[] #[.pointer (some ⟨w.heap.size, 0, none⟩)]) ∧ w' = w.alloc (.cells #[.string s] 9) := by
  have hmf : ∀ (fn : Fn) (first cap : Array Value) (w : World), (Instr.makeFunc fn first cap).run Tryz.prog w = .ok (.func fn first cap) w := fun _ _ _ _ => rfl
  go_enter Tryz.func80, Tryz.ntmps80
  go_wp2
  go_ret
  exact ⟨rfl, rfl⟩

theorem parts_stops (n : Nat) (hn : 1 ≤ n) (Bn : Nat) (s : ByteArray) (hs : s.size ≤ 70368744177664) (w : World) (hBn : w.heap[Bn]? = some (.cells #[.string s] 9 (0, 0))) :
    SeqStopsK Fence.wide n Tryz.prog 115 #[.pointer (some ⟨Bn, 0, none⟩)] (fun x : PartT => #[Value.agg #[.int .i64 x.ord, .int .i64 x.pos, .int .i64 x.err]]) KpT (fun ys => ys = partsOf s.data.toList) (fun pre => pre <+: partsOf s.data.toList) 10 w :=
  fun l J Jx W hW hJ _ hY h0 => parts1_in n hn l Bn s hs J Jx W hJ hY ((hW.block Bn (lt_of_heap hBn)).trans hBn) h0

theorem Boxed.drew {W : World} {b : Nat} {t : TypeId} {v : Value} (h : Boxed W b t v) : Boxed W.drew b t v := h

def cells3 (W : World) (b : Nat) (s : Value) (p e : Int) : Prop := Boxed W b 30 s ∧ Boxed W (b + 1) 3 (.int .i64 p) ∧ Boxed W (b + 2) 37 (.int .i64 e)

theorem cells3_drew {W : World} {b : Nat} {s : Value} {p e : Int} (h : cells3 W b s p e) : cells3 W.drew b s p e := h
theorem cells3_setN {W : World} {b : Nat} {s s' : Value} {p e : Int} (h : cells3 W b s p e) : cells3 (W.setCell ⟨b, 0, none⟩ s') b s' p e := ⟨h.1.set s', h.2.1.other (by omega) s', h.2.2.other (by omega) s'⟩
theorem cells3_setP {W : World} {b : Nat} {s : Value} {p p' e : Int} (h : cells3 W b s p e) : cells3 (W.setCell ⟨b + 1, 0, none⟩ (.int .i64 p')) b s p' e := ⟨h.1.other (by omega) _, h.2.1.set _, h.2.2.other (by omega) _⟩
theorem cells3_setE {W : World} {b : Nat} {s : Value} {p e e' : Int} (h : cells3 W b s p e) : cells3 (W.setCell ⟨b + 1 + 1, 0, none⟩ (.int .i64 e')) b s p e' := ⟨h.1.other (by omega) _, h.2.1.other (by omega) _, h.2.2.set _⟩

theorem cells3_put {W : World} {b D : Nat} {s : Value} {p e : Int} (h : cells3 W b s p e) (hK : W.heap[D]? = some (.deferred (some []))) :
    (W.putObj D (.deferred none)).cell? ⟨b, 0, none⟩ = some s ∧ (W.putObj D (.deferred none)).cell? ⟨b + 1, 0, none⟩ = some (.int .i64 p) ∧ (W.putObj D (.deferred none)).cell? ⟨b + 1 + 1, 0, none⟩ = some (.int .i64 e) :=
  ⟨cell_kept h.1.cell (grownBy_putObj' _ D (.deferred none)) (fun r e => by cases e; exact ⟨_, hK, rfl⟩), cell_kept h.2.1.cell (grownBy_putObj' _ D (.deferred none)) (fun r e => by cases e; exact ⟨_, hK, rfl⟩), cell_kept h.2.2.cell (grownBy_putObj' _ D (.deferred none)) (fun r e => by cases e; exact ⟨_, hK, rfl⟩)⟩

theorem cells3_own {β : Type} (b : Nat) (f : β → Value) (g h : β → Int) : Own (fun s W => cells3 W b (f s) (g s) (h s)) := fun s X Y row hs hg hr =>
  ⟨boxed_own b _ (fun _ : Unit => f s) () X Y row hs.1 hg hr, boxed_own (b + 1) _ (fun _ : Unit => Value.int .i64 (g s)) () X Y row hs.2.1 hg hr, boxed_own (b + 2) _ (fun _ : Unit => Value.int .i64 (h s)) () X Y row hs.2.2 hg hr⟩

set_option maxRecDepth 100000 in
set_option maxHeartbeats 4000000 in
theorem parse_in (s : ByteArray) (hs : s.size ≤ 70368744177664) (w : World) :
    CallsIn Fence.wide 3 Tryz.prog 51 #[.string s] w fun r W' => (∃ n p, r = .returned (.tuple #[.string n, .int .i64 p, .int .i64 (lineErr s.data.toList)])) ∧ Below w.heap.size w W' := by
  refine callsIn_of_wp_marks Tryz.func51 rfl trivial ?_ rfl
  simp only [Tryz.ntmps51, List.size_toArray, List.length_cons, List.length_nil, Nat.reduceAdd, Nat.reduceSub, Array.replicate_succ, Array.replicate_zero, List.push_toArray, List.append_toArray, List.nil_append, List.cons_append]
  gi_wp2_with (refine ⟨trivial, ?_⟩; gi_at_call 80; refine (callsIn_wide.2 (parts_any s _)).mono ?_; rintro e w' ⟨rfl, rfl⟩)
  have bN := ((((Boxed.new w 30 (.string ⟨#[]⟩)).alloc (.cells #[.int .i64 0] 3)).alloc (.cells #[.int .i64 0] 37)).alloc (.cells #[.string s] 9))
  have bP := ((Boxed.new (w.alloc (.cells #[.string ⟨#[]⟩] 30)) 3 (.int .i64 0)).alloc (.cells #[.int .i64 0] 37)).alloc (.cells #[.string s] 9)
  have bE := (Boxed.new ((w.alloc (.cells #[.string ⟨#[]⟩] 30)).alloc (.cells #[.int .i64 0] 3)) 37 (.int .i64 0)).alloc (.cells #[.string s] 9)
  have bS := heap_alloc_new (((w.alloc (.cells #[.string ⟨#[]⟩] 30)).alloc (.cells #[.int .i64 0] 3)).alloc (.cells #[.int .i64 0] 37)) (.cells #[.string s] 9)
  have hB0 : Below w.heap.size w ((((w.alloc (.cells #[.string ⟨#[]⟩] 30)).alloc (.cells #[.int .i64 0] 3)).alloc (.cells #[.int .i64 0] 37)).alloc (.cells #[.string s] 9)) :=
    ((((Below.refl _ w).alloc (Nat.le_refl _) _).alloc (by simp) _).alloc (by simp; omega) _).alloc (by simp; omega) _
  have hsz : ((((w.alloc (.cells #[.string ⟨#[]⟩] 30)).alloc (.cells #[.int .i64 0] 3)).alloc (.cells #[.int .i64 0] 37)).alloc (.cells #[.string s] 9)).heap.size = w.heap.size + 4 := by simp
  simp only [World.size_alloc] at bP bE bS
  obtain ⟨W0, hW0⟩ : ∃ W0, (((w.alloc (.cells #[.string ⟨#[]⟩] 30)).alloc (.cells #[.int .i64 0] 3)).alloc (.cells #[.int .i64 0] 37)).alloc (.cells #[.string s] 9) = W0 := ⟨_, rfl⟩
  rw [hW0] at bN bP bE bS hB0 hsz ⊢
  clear hW0
  have hmix : Tryz.prog.follows .mixedOrders = true := by kernel_rfl
  refine wpIn_rangeFunc_ownH rfl (by decide) (gf := 115) (lb := #[.pointer (some ⟨w.heap.size + 1 + 1 + 1, 0, none⟩)]) rfl trivial (enters_of Tryz.func115 (by kernel_rfl) rfl)
    (parts_stops (3 - 1) (by decide) (w.heap.size + 1 + 1 + 1) s hs W0 bS) KpT.trans KpT.putObj (Below.refl _ _) (fun _ => rfl)
    (fun pre W => cells3 W w.heap.size (.string ⟨#[]⟩) 0 0 ∧ (∀ p ∈ pre, p.err = 0) ∧ Below w.heap.size w W)
    (fun c pre W => ∃ pre' x, c = .ret ∧ pre = pre' ++ [x] ∧ (∀ p ∈ pre', p.err = 0) ∧ x.err ≠ 0 ∧ cells3 W w.heap.size (.string ⟨#[]⟩) x.pos x.err ∧ Below w.heap.size w W)
    ?hI ?hIx ⟨⟨bN, bP, bE⟩, by simp, hB0⟩
    (fun x a' W => ∃ Bx, w.heap.size + 3 ≤ Bx ∧ W.heap[Bx]? = some (.cells #[.int .i64 x.ord, .int .i64 x.pos, .int .i64 x.err] 136 (0, 0)) ∧
      a' = { tmps := #[.string s, undef, .pointer (some ⟨w.heap.size, 0, none⟩), .pointer (some ⟨w.heap.size + 1, 0, none⟩), .pointer (some ⟨w.heap.size + 1 + 1, 0, none⟩), .pointer (some ⟨Bx, 0, none⟩), .string s, .func (.func 115) #[] #[.pointer (some ⟨w.heap.size + 1 + 1 + 1, 0, none⟩)], .agg #[.int .i64 x.ord, .int .i64 x.pos, .int .i64 x.err], undef, undef, undef, undef, undef, undef, undef, undef], defers := [] })
    ?hAx ?assign ?body ?done ?stop
  case hI =>
    refine OwnFrom.and (Own.from (cells3_own w.heap.size (fun _ => .string ⟨#[]⟩) (fun _ => 0) (fun _ => 0)) _) (OwnFrom.and (ownFrom_pure _ _) (ownFrom_below (Nat.le_refl _) (by omega)))
  case hIx =>
    rintro c st X Y row ⟨pre', x, hc, hp, ha, hx, h3, hb⟩ hg hr
    exact ⟨pre', x, hc, hp, ha, hx, cells3_own w.heap.size (fun _ : Unit => .string ⟨#[]⟩) (fun _ => x.pos) (fun _ => x.err) () X Y row h3 hg (fun r e => (hr r e).2), ownFrom_below (β := Unit) (Nat.le_refl _) (show w.heap.size ≤ W0.heap.size by omega) () X Y row hb hg hr⟩
  case hAx =>
    rintro x a' st X Y row ⟨Bx, hBx, hh, ha⟩ hg hr
    refine ⟨Bx, hBx, (hg.block Bx (lt_of_heap hh) (fun e => ?_)).trans hh, ha⟩
    obtain ⟨_, o, ho, hc⟩ := hr Bx e.symm
    rw [hh] at ho; cases ho; cases hc
  case assign =>
    rintro l pre x W K ⟨h3, hall, hb⟩ hK
    have hs1 : w.heap.size + 2 < W.heap.size := h3.2.2.lt
    gi_wp2
    exact hK _ _ ((KeepsOthers.alloc _ _).from _) (KpT.of_below ((Below.refl _ W).alloc (Nat.le_refl _) _)) ⟨⟨h3.1.alloc _, h3.2.1.alloc _, h3.2.2.alloc _⟩, hall, hb.alloc hb.size _⟩ ⟨W.heap.size, by omega, heap_alloc_new W _, rfl⟩
  case body =>
    rintro l pre x a' W hl ⟨r, hr⟩ ⟨h3, hall, hb⟩ ⟨Bx, hBx, hh, rfl⟩ hlt
    obtain ⟨x1, x2, x3⟩ := x
    dsimp only at *
    have c1 : W.cell? ⟨Bx, 1, none⟩ = some (.int .i64 x2) := cell_of_heap hh 1
    have c2 : W.cell? ⟨Bx, 2, none⟩ = some (.int .i64 x3) := cell_of_heap hh 2
    have d0 := h3.1.cell
    have d1 := h3.2.1.cell
    have d2 := h3.2.2.cell
    have f0 := h3.1.frozen
    have f1 := h3.2.1.frozen
    have f2 := h3.2.2.frozen
    have H3 := Lib.hid h3; clear h3
    have Hh := Lib.hid hh; clear hh
    have Hr := Lib.hid hr; clear hr
    have Hall := Lib.hid hall; clear hall
    by_cases he : x3 = 0
    · have he' : ((x3 : Int) != 0) = false := by rw [he]; rfl
      have He := Lib.hid he; clear he
      gi_wp2
      refine ⟨KeepsFrom.refl _ _, KpT.refl _, H3.out, fun p hp => ?_, hb⟩
      rcases List.mem_append.1 hp with h | h
      · exact Hall.out p h
      · simp at h; subst h; exact He.out
    · have he' : ((x3 : Int) != 0) = true := bne_iff_ne.2 (by omega)
      have He := Lib.hid he; clear he
      gi_wp2
      gi_region_with_o (fail)
      all_goals gi_wp2
      all_goals
        go_light
        have HC3 := H3.out
        have hle0 : w.heap.size ≤ w.heap.size := Nat.le_refl _
        have hle1 : w.heap.size ≤ w.heap.size + 1 := Nat.le_succ _
        have hle2 : w.heap.size ≤ w.heap.size + 1 + 1 := Nat.le_trans hle1 (Nat.le_succ _)
        refine ⟨?_, pre, ⟨x1, x2, x3⟩, rfl, rfl, Hall.out, He.out, ?_, ?_⟩
        · with_reducible (repeat (first | exact KeepsFrom.refl _ _ | refine KeepsFrom.trans ?_ ((KeepsOthers.drew _).from _) | refine KeepsFrom.trans ?_ ((KeepsOthers.setCell _ _ _).from _)))
        · with_reducible (repeat (first | exact HC3 | apply cells3_drew | apply cells3_setE | apply cells3_setP | apply cells3_setN))
        · with_reducible (repeat (first | exact hb | refine Below.drew ?_ | refine Below.setCell ?_ hle0 _ | refine Below.setCell ?_ hle1 _ | refine Below.setCell ?_ hle2 _))
  case done =>
    rintro D xs W hD rfl ⟨h3, hall, hb⟩ hK
    have d0 := h3.1.cell
    have d1 := h3.2.1.cell
    have d2 := h3.2.2.cell
    have f0 := h3.1.frozen
    have f1 := h3.2.1.frozen
    have f2 := h3.2.2.frozen
    have H3 := Lib.hid h3; clear h3
    have Hall := Lib.hid hall; clear hall
    have HK := Lib.hid hK; clear hK
    gi_wp2
    have hC : cells3 (((W.setCell ⟨w.heap.size, 0, none⟩ (.string s)).setCell ⟨w.heap.size + 1, 0, none⟩ (.int .i64 0)).setCell ⟨w.heap.size + 1 + 1, 0, none⟩ (.int .i64 0)) w.heap.size (.string s) 0 0 := cells3_setE (cells3_setP (cells3_setN H3.out))
    have hK' := (((KeepsOthers.setCell W ⟨w.heap.size, 0, none⟩ (.string s)).trans (KeepsOthers.setCell _ ⟨w.heap.size + 1, 0, none⟩ (.int .i64 0))).trans (KeepsOthers.setCell _ ⟨w.heap.size + 1 + 1, 0, none⟩ (.int .i64 0))).same D _ HK.out rfl
    have hB' : Below w.heap.size w (((W.setCell ⟨w.heap.size, 0, none⟩ (.string s)).setCell ⟨w.heap.size + 1, 0, none⟩ (.int .i64 0)).setCell ⟨w.heap.size + 1 + 1, 0, none⟩ (.int .i64 0)) := ((hb.setCell (p := ⟨w.heap.size, 0, none⟩) (Nat.le_refl _) _).setCell (p := ⟨w.heap.size + 1, 0, none⟩) (by simp) _).setCell (p := ⟨w.heap.size + 1 + 1, 0, none⟩) (by simp; omega) _
    refine ⟨by simp, .inl ⟨_, _, rfl, run_takeDeferred hK', ?_⟩⟩
    obtain ⟨q0, q1, q2⟩ := cells3_put hC hK'
    refine ⟨.tuple #[.string s, .int .i64 0, .int .i64 0], ?_, ⟨s, 0, by rw [lineErr_ok Hall.out]; rfl⟩, hB'.trans (belowK_b (w := w) (Nat.le_refl _) _ D _ _ (by omega) hK' rfl rfl)⟩
    simp [results, Tryz.f51, go_sem, q0, q1, q2]
  case stop =>
    rintro D c pre W hD hpre ⟨pre', x, rfl, rfl, hall, hx, h3, hb⟩ hK
    gi_wp2
    refine ⟨by simp, .inl ⟨_, _, rfl, run_takeDeferred hK, ?_⟩⟩
    obtain ⟨q0, q1, q2⟩ := cells3_put h3 hK
    refine ⟨.tuple #[.string ⟨#[]⟩, .int .i64 x.pos, .int .i64 x.err], ?_, ⟨_, _, by rw [lineErr_bad hpre hall hx]⟩, hb.trans (belowK_b (w := w) (Nat.le_refl _) _ D _ _ (by omega) hK rfl rfl)⟩
    simp [results, Tryz.f51, go_sem, q0, q1, q2]

theorem lParse_any (s : ByteArray) (hs : s.size ≤ 70368744177664) (w : World) :
    Calls Tryz.prog 51 #[.string s] w fun r W' => (∃ n p, r = .returned (.tuple #[.string n, .int .i64 p, .int .i64 (lineErr s.data.toList)])) ∧ Below w.heap.size w W' := callsIn_wide.1 (parse_in s hs w)

end Go.Proofs.YtfchfjipkggnkaaGreatDoor

namespace Go.Proofs.YtfchfjipkggnkaaGreatDoor
open Go.RowKit

set_option maxRecDepth 100000 in
set_option maxHeartbeats 1000000 in
theorem valid_any (s : ByteArray) (hs : s.size ≤ 70368744177664) (w : World) :
    Calls Tryz.prog 27 #[.string s] w fun r W' => r = .returned (.bool (validB s)) ∧ Below w.heap.size w W' := by
  go_enter Tryz.func27, Tryz.ntmps27
  go_wp2_with fail
  refine (lParse_any s hs _).mono ?_
  rintro e w1 ⟨⟨n, p, rfl⟩, hb⟩
  generalize hq0 : lineErr s.data.toList = q at *
  have Hq0 := Lib.hid hq0; clear hq0
  by_cases hq : q = 0
  · subst hq
    go_wp2
    go_ret
    exact ⟨by simp [validB, Hq0.out], hb⟩
  · have hq' : ((q : Int) == 0) = false := beq_eq_false_iff_ne.2 (by omega)
    have Hq := Lib.hid hq; clear hq
    go_wp2
    go_ret
    exact ⟨by simp [validB, Hq0.out, Hq.out], hb⟩

theorem valid_is (s : ByteArray) (v : Bool) (hs : s.size ≤ 70368744177664) (h : validB s = v) (w : World) :
    Calls Tryz.prog 27 #[.string s] w fun r W' => r = .returned (.bool v) ∧ Below w.heap.size w W' := by
  subst h; exact valid_any s hs w

end Go.Proofs.YtfchfjipkggnkaaGreatDoor

namespace Go.Proofs.YtfchfjipkggnkaaGreatDoor
open Go.RowKit

theorem firstP_ok {bs : List UInt8} {pos count : Nat} (h : (firstP bs pos count).1.err = 0) : count ≠ 8 ∧ (firstP bs pos count).2 ≤ pos + 6 := by
  have hf : firstErr bs pos count = 0 := by
    unfold firstP at h
    by_cases h1 : firstErr bs pos count ≠ 0
    · rw [if_pos h1] at h; exact h
    · simpa using h1
  have hp : firstP bs pos count = (⟨decVal ((bs.drop pos).take (digCount 7 (bs.drop pos))), pos, 0⟩, pos + digCount 7 (bs.drop pos)) := by
    unfold firstP
    rw [if_neg (by rw [hf]; simp)]
  rw [hp]
  unfold firstErr at hf
  by_cases a1 : count = 8
  · rw [if_pos a1] at hf; cases hf
  rw [if_neg a1] at hf
  by_cases a2 : pos = bs.length
  · rw [if_pos a2] at hf; cases hf
  rw [if_neg a2] at hf
  by_cases a3 : digCount 7 (bs.drop pos) = 0
  · rw [if_pos a3] at hf; cases hf
  rw [if_neg a3] at hf
  by_cases a4 : (bs.getD pos 0).toNat = 48
  · rw [if_pos a4] at hf; cases hf
  rw [if_neg a4] at hf
  by_cases a5 : 6 < digCount 7 (bs.drop pos)
  · rw [if_pos a5] at hf; cases hf
  exact ⟨a1, by dsimp only; omega⟩
theorem partsL_small (bs : List UInt8) : ∀ (f pos count : Nat), 0 < f → f + count = 9 → (∀ p ∈ partsL bs f pos count, p.err = 0) → bs.length ≤ pos + 7 * (8 - count) := by
  intro f
  induction f with
  | zero => intro pos count h; omega
  | succ f ih =>
    intro pos count _ hc hall
    simp only [partsL] at hall
    by_cases h1 : (firstP bs pos count).1.err ≠ 0 ∨ (firstP bs pos count).2 = bs.length
    · rw [if_pos h1] at hall
      have h0 := hall (firstP bs pos count).1 (by simp)
      obtain ⟨h2, h3⟩ := firstP_ok h0
      rcases h1 with h1 | h1
      · exact absurd h0 h1
      · omega
    · rw [if_neg h1] at hall
      by_cases h4 : (bs.getD (firstP bs pos count).2 0).toNat ≠ 46
      · rw [if_pos h4] at hall
        have := hall ⟨0, (firstP bs pos count).2, 6⟩ (by simp)
        cases this
      · rw [if_neg h4] at hall
        have h0 := hall (firstP bs pos count).1 (by simp)
        obtain ⟨h2, h3⟩ := firstP_ok h0
        have := ih ((firstP bs pos count).2 + 1) (count + 1) (by omega) (by omega) (fun p hp => hall p (List.mem_cons_of_mem _ hp))
        omega
theorem valid_small {s : ByteArray} (h : validB s = true) : s.size ≤ 56 := by
  have hl : lineErr s.data.toList = 0 := by simpa [validB] using h
  have hall : ∀ p ∈ partsOf s.data.toList, p.err = 0 := by
    intro p hp
    unfold lineErr at hl
    cases hf : (partsOf s.data.toList).find? (fun p => decide (p.err ≠ 0)) with
    | none =>
      have := List.find?_eq_none.1 hf p hp
      simpa using this
    | some q =>
      rw [hf] at hl
      have := List.find?_some hf
      simp at this hl
      exact absurd hl this
  rw [← size_toList]
  unfold partsOf at hall
  by_cases h0 : s.data.toList = []
  · rw [h0]; simp
  · rw [if_neg h0] at hall
    have := partsL_small s.data.toList 9 0 0 (by decide) rfl hall
    omega

end Go.Proofs.YtfchfjipkggnkaaGreatDoor
