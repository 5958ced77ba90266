/- state: each, nodes. state: list. state: Names. state: Bytes. Reference 05: Bytes. -/
import Derived.Test.YthghfhnicdoebaaGreatDoorStaI
import Derived.Test.YthghfhnicdoebaaGreatDoorRfI
import Derived.RangeFuncKeeps
import Derived.RangeFuncBound
import Derived.RangeFuncLeaves
import Derived.RangeFuncNested
import Derived.RangeFuncCalls
import Derived.Shelf.Abstract
import Derived.Shelf.RegionOpen
import Derived.WalkKit
import Derived.OwnWalkIn
import Derived.TacticsInMore
import Derived.LoopNIn
import Derived.LoopIn
import Derived.Maps.AppendAt
import Derived.RangeFuncBox
namespace Go.Proofs.YthghfhnicdoebaaGreatDoor
open Go.RowKit Go.Shelf
attribute [local go_sem] Oper.semAt_some

abbrev NdT := Nat × NameT × ByteArray
def Tr.nds : Tree → List NdT
  | .nil => []
  | .node p l n v r => Tr.nds l ++ (p, n, v) :: Tr.nds r
theorem nds_ents (t : Tree) : (Tr.nds t).map (fun x => (x.2.1, x.2.2)) = t.ents := by
  induction t with
  | nil => rfl
  | node p l n v r h1 h2 => simp [Tr.nds, Tr.ents, h1, h2]
theorem nds_len (t : Tree) : (Tr.nds t).length = t.sz := by
  induction t with
  | nil => rfl
  | node p l n v r h1 h2 => simp [Tr.nds, Tr.sz, h1, h2]; omega
theorem nds_mid {w : World} {t : Tree} (h : TreeAt w t) : ∀ x ∈ Tr.nds t, MidAt w x.1 x.2.1 x.2.2 := by
  induction t with
  | nil => intro x hx; cases hx
  | node p l n v r h1 h2 =>
    intro x hx
    rcases List.mem_append.1 hx with hx | hx
    · exact h1 h.2.1 x hx
    · rcases List.mem_cons.1 hx with rfl | hx
      · exact h.mid
      · exact h2 h.2.2 x hx
abbrev NdS (T0 : Tree) := { x : NdT // x ∈ Tr.nds T0 }
def sub (T0 : Tree) (L : List NdT) (h : ∀ x ∈ L, x ∈ Tr.nds T0) : List (NdS T0) := L.pmap Subtype.mk h
theorem ndSub_val (T0 : Tree) (L : List NdT) (h : ∀ x ∈ L, x ∈ Tr.nds T0) : (sub T0 L h).map Subtype.val = L := by unfold sub; simp [List.map_pmap]
theorem ndSub_len (T0 : Tree) (L : List NdT) (h : ∀ x ∈ L, x ∈ Tr.nds T0) : (sub T0 L h).length = L.length := by unfold sub; simp
theorem ndSub_node {T0 : Tree} {p : Nat} {l r : Tree} {n : NameT} {v : ByteArray} (h : ∀ x ∈ Tr.nds (.node p l n v r), x ∈ Tr.nds T0) :
    sub T0 (Tr.nds (.node p l n v r)) h = sub T0 (Tr.nds l) (fun x hx => h x (List.mem_append_left _ hx)) ++ ⟨(p, n, v), h _ (List.mem_append_right _ List.mem_cons_self)⟩ :: sub T0 (Tr.nds r) (fun x hx => h x (List.mem_append_right _ (List.mem_cons_of_mem _ hx))) := by
  unfold sub
  simp only [Tr.nds, List.pmap_append, List.pmap_cons]
theorem room_of_noneE {F : Fence} (hd : F.depth = none) (k : Nat) : F.room k := fun d h => by rw [hd] at h; cases h
theorem RoundIn.anyDepthE {F : Fence} (hd : F.depth = none) {m m' : Nat} {P : Program} {l : Nat} {f : FuncId} {tmps : Array Value} {assign body : Code} {w : World} {R : Ending → World → Prop}
    (h : RoundIn F m P l f tmps assign body w R) : RoundIn F m' P l f tmps assign body w R := ⟨h.1, fun c cs _ => h.2 c cs (room_of_noneE hd _)⟩
theorem YieldAt.anyDepthE {F : Fence} (hd : F.depth = none) {m : Nat} (m' : Nat) {P : Program} {l : Nat} {args : Array Value} {W : World} {R : Ending → World → Prop} (h : YieldAt F m P l args W R) : YieldAt F m' P l args W R := by
  obtain ⟨fn, tmps, assign, body, hy, hR⟩ := h
  exact ⟨fn, tmps, assign, body, hy, RoundIn.anyDepthE hd hR⟩

set_option maxRecDepth 100000 in
set_option maxHeartbeats 2000000 in
theorem each_in (F : Fence) (hd : F.depth = none) (hf : F.fn 103) (hro : F.round = none) (T0 : Tree) (l n₀ N : Nat) (J Jx : List (NdS T0) → World → Prop)
    (hY : ∀ m pre (x : NdS T0) W, J pre W → pre.length < N → YieldAt F m Tryz.prog l #[.pointer (some ⟨x.1.1, 0, none⟩)] W fun e W' =>
      (e = .returned (.bool true) ∧ J (pre ++ [x]) W' ∧ Below n₀ W W') ∨ (e = .returned (.bool false) ∧ Jx (pre ++ [x]) W')) (T : Tree) :
    ∀ (hs : ∀ x ∈ Tr.nds T, x ∈ Tr.nds T0) (n : Nat) (pre : List (NdS T0)) (W : World), TreeAt W T → T.all (fun p => p < n₀) → J pre W → pre.length + (Tr.nds T).length ≤ N →
      CallsIn F n Tryz.prog 103 #[.pointer (ptrA T), .func (.yield l) #[] #[]] W fun e W' =>
        (e = .returned (.bool true) ∧ J (pre ++ sub T0 (Tr.nds T) hs) W' ∧ Below n₀ W W') ∨ (e = .returned (.bool false) ∧ ∃ q, q <+: sub T0 (Tr.nds T) hs ∧ Jx (pre ++ q) W') := by
  induction T with
  | nil =>
    intro hs n pre W _ _ hJ _
    refine callsIn_of_wp Tryz.func103 rfl hf ?_ hro
    simp only [Tryz.ntmps103, List.size_toArray, List.length_cons, List.length_nil, Nat.reduceAdd, Nat.reduceSub, Array.replicate_succ, Array.replicate_zero, List.push_toArray, List.append_toArray, List.nil_append, List.cons_append, ptrA]
    gi_wp2
    · obtain ⟨b, hb⟩ : ∃ b, some undef = some (Value.bool b) := ⟨_, by assumption⟩
      cases hb
    all_goals
      refine ⟨fun _ h => (by cases h), ?_⟩
      gi_wp2
      go_ret
      exact .inl ⟨rfl, by rw [show sub T0 (Tr.nds .nil) hs = [] from rfl, List.append_nil]; exact hJ, Below.refl _ _⟩
  | node p tl nm v tr ihl ihr =>
    intro hs n pre W ht ha hJ hN
    obtain ⟨hb, hal, har⟩ := ha
    have c0 : W.cell? ⟨p, 0, none⟩ = some (ptrV tl) := cell_of_heap ht.1 0
    have c1 : W.cell? ⟨p, 1, none⟩ = some (ptrV tr) := cell_of_heap ht.1 1
    have hl := ht.2.1
    have hr := ht.2.2
    have hsl : ∀ x ∈ Tr.nds tl, x ∈ Tr.nds T0 := fun x hx => hs x (List.mem_append_left _ hx)
    have hsr : ∀ x ∈ Tr.nds tr, x ∈ Tr.nds T0 := fun x hx => hs x (List.mem_append_right _ (List.mem_cons_of_mem _ hx))
    have hsm : (p, nm, v) ∈ Tr.nds T0 := hs _ (List.mem_append_right _ List.mem_cons_self)
    have hnode := ndSub_node hs
    have hdd : ∀ k : Nat, (F.depth.isSome = true → 1 ≤ k) := fun k h => by rw [hd] at h; cases h
    simp only [Tr.nds, List.length_append, List.length_cons] at hN
    have hy2 : ∀ W1, J (pre ++ sub T0 (Tr.nds tl) hsl) W1 → Below n₀ W W1 → YieldAt F (n - 1) Tryz.prog l #[.pointer (some ⟨p, 0, none⟩)] W1 fun e W2 =>
        (e = .returned (.bool true) ∧ J (pre ++ sub T0 (Tr.nds tl) hsl ++ [⟨(p, nm, v), hsm⟩]) W2 ∧ Below n₀ W W2 ∧ W2.cell? ⟨p, 1, none⟩ = some (ptrV tr) ∧ TreeAt W2 tr) ∨ (e = .returned (.bool false) ∧ Jx (pre ++ sub T0 (Tr.nds tl) hsl ++ [⟨(p, nm, v), hsm⟩]) W2) := fun W1 hJ1 hb1 =>
      YieldAt.mono (hY (n - 1) _ ⟨(p, nm, v), hsm⟩ W1 hJ1 (by rw [List.length_append, ndSub_len]; omega)) fun e W2 h => h.elim
        (fun ⟨he, hj, hb2⟩ => .inl ⟨he, hj, hb1.trans hb2, ((hb1.trans hb2).cell (p := ⟨p, 1, none⟩) hb).trans c1, hr.belowB har (hb1.trans hb2)⟩) .inr
    have ih1 := (ihl hsl (n - 1) pre W hl hal hJ (by omega)).mono (R' := fun e W1 =>
        (e = .returned (.bool true) ∧ YieldAt F (n - 1) Tryz.prog l #[.pointer (some ⟨p, 0, none⟩)] W1 fun e W2 =>
          (e = .returned (.bool true) ∧ J (pre ++ sub T0 (Tr.nds tl) hsl ++ [⟨(p, nm, v), hsm⟩]) W2 ∧ Below n₀ W W2 ∧ W2.cell? ⟨p, 1, none⟩ = some (ptrV tr) ∧ TreeAt W2 tr) ∨ (e = .returned (.bool false) ∧ Jx (pre ++ sub T0 (Tr.nds tl) hsl ++ [⟨(p, nm, v), hsm⟩]) W2)) ∨
        (e = .returned (.bool false) ∧ ∃ q, q <+: sub T0 (Tr.nds tl) hsl ∧ Jx (pre ++ q) W1))
      (fun e W1 h => h.elim (fun ⟨he, hj, hb1⟩ => .inl ⟨he, hy2 W1 hj hb1⟩) .inr)
    have Hnode := Lib.hid hnode
    have Ht := Lib.hid ht
    clear hy2 ihl hnode ht
    refine callsIn_of_wp Tryz.func103 rfl hf ?_ hro
    simp only [Tryz.ntmps103, List.size_toArray, List.length_cons, List.length_nil, Nat.reduceAdd, Nat.reduceSub, Array.replicate_succ, Array.replicate_zero, List.push_toArray, List.append_toArray, List.nil_append, List.cons_append, ptrA]
    gi_wp2_with (first
      | ((try refine ⟨hdd _, ?_⟩); gi_at_call 103; refine ih1.mono ?_; clear ih1; rintro e W1 (⟨rfl, fn, tmps, assign, body, hy, hR⟩ | ⟨rfl, q, hq, hx1⟩))
      | ((try refine ⟨hdd _, ?_⟩); refine hR.mono ?_; clear hR; rintro e W2 (⟨rfl, hJ2, hb2, c2', hr2⟩ | ⟨rfl, hx2⟩))
      | ((try refine ⟨hdd _, ?_⟩); gi_at_call 103; refine (ihr hsr (n - 1) _ _ hr2 har hJ2 (by rw [List.length_append, List.length_append, ndSub_len]; simp only [List.length_cons, List.length_nil]; omega)).mono ?_; rintro e W3 (⟨rfl, hJ3, hb3⟩ | ⟨rfl, q, hq, hx3⟩)))
    · go_ret
      exact .inl ⟨rfl, by rw [Hnode.out]; simpa [List.append_assoc] using hJ3, hb2.trans hb3⟩
    · go_ret
      obtain ⟨r, hr'⟩ := hq
      refine .inr ⟨rfl, sub T0 (Tr.nds tl) hsl ++ ⟨(p, nm, v), hsm⟩ :: q, ⟨r, ?_⟩, by simpa [List.append_assoc] using hx3⟩
      rw [Hnode.out, ← hr']
      simp
    · go_ret
      refine .inr ⟨rfl, sub T0 (Tr.nds tl) hsl ++ [⟨(p, nm, v), hsm⟩], ⟨sub T0 (Tr.nds tr) hsr, ?_⟩, by simpa [List.append_assoc] using hx2⟩
      rw [Hnode.out]
      simp
    · refine ⟨fun _ h => (by cases h), ?_⟩
      gi_wp2
      go_ret
      exact .inr ⟨rfl, q, hq.trans (by rw [Hnode.out]; exact List.prefix_append _ _), hx1⟩
set_option maxHeartbeats 1000000 in
theorem nodes1_in (F : Fence) (hd : F.depth = none) (n : Nat) (h1 : F.fn 102) (h2 : F.fn 103) (hro : F.round = none) (l Bs sp n₀ : Nat) (T : Tree) (J Jx : List (NdS T) → World → Prop)
    (hY : ∀ pre (x : NdS T) W, J pre W → pre.length < (Tr.nds T).length → YieldAt F (n - 1) Tryz.prog l #[.pointer (some ⟨x.1.1, 0, none⟩)] W fun e W' =>
      (e = .returned (.bool true) ∧ J (pre ++ [x]) W' ∧ Below n₀ W W') ∨ (e = .returned (.bool false) ∧ Jx (pre ++ [x]) W'))
    (W : World) (hBs : W.cell? ⟨Bs, 0, none⟩ = some (.pointer (some ⟨sp, 0, none⟩))) (hsp : W.cell? ⟨sp, 0, none⟩ = some (.pointer (ptrA T))) (hT : TreeAt W T) (ha : T.all (fun p => p < n₀)) (h0 : J [] W) :
    CallsIn F n Tryz.prog 102 #[.func (.yield l) #[] #[], .pointer (some ⟨Bs, 0, none⟩)] W fun e W' => (∃ v, e = .returned v) ∧
      ((∃ ys, ys = sub T (Tr.nds T) (fun _ h => h) ∧ J ys W') ∨ (∃ pre, pre <+: sub T (Tr.nds T) (fun _ h => h) ∧ Jx pre W')) := by
  have hdd : ∀ k : Nat, (F.depth.isSome = true → 1 ≤ k) := fun k h => by rw [hd] at h; cases h
  have hp := each_in F hd h2 hro T l n₀ (Tr.nds T).length J Jx (fun m pre x W hj hl => YieldAt.anyDepthE hd m (hY pre x W hj hl)) T (fun _ h => h) (n - 1) [] W hT ha h0 (by simp)
  refine callsIn_of_wp Tryz.func102 rfl h1 ?_ hro
  simp only [Tryz.ntmps102, List.size_toArray, List.length_cons, List.length_nil, Nat.reduceAdd, Nat.reduceSub, Array.replicate_succ, Array.replicate_zero, List.push_toArray, List.append_toArray, List.nil_append, List.cons_append]
  gi_wp2_with ((try refine ⟨hdd _, ?_⟩); gi_at_call 103; refine hp.mono ?_; clear hp; rintro e W1 (⟨rfl, hJ1, _⟩ | ⟨rfl, q, hq, hx⟩))
  · go_end0
    exact ⟨⟨_, rfl⟩, .inl ⟨_, rfl, by simpa using hJ1⟩⟩
  · go_end0
    exact ⟨⟨_, rfl⟩, .inr ⟨q, hq, by simpa using hx⟩⟩
set_option maxHeartbeats 1000000 in
theorem nodes_in (F : Fence) (n : Nat) (hf : F.fn 77) (hro : F.round = none) (p0 : Option Addr) (w : World) :
    CallsIn F n Tryz.prog 77 #[.pointer p0] w fun e w' => e = .returned (.func (.func 102) #[] #[.pointer (some ⟨w.heap.size, 0, none⟩)]) ∧ w' = w.alloc (.cells #[.pointer p0] 25) := by
  refine callsIn_of_wp Tryz.func77 rfl hf ?_ hro
  simp only [Tryz.ntmps77, List.size_toArray, List.length_cons, List.length_nil, Nat.reduceAdd, Nat.reduceSub, Array.replicate_succ, Array.replicate_zero, List.push_toArray, List.append_toArray, List.nil_append, List.cons_append]
  gi_wp2
  go_ret
  exact ⟨rfl, rfl⟩
/-- What nodes hands back yields the tree's nodes in order. -/
theorem nodes_stops (F : Fence) (hd : F.depth = none) (n : Nat) (h1 : F.fn 102) (h2 : F.fn 103) (hro : F.round = none) (Bs sp n₀ : Nat) (T : Tree) (w : World) (hBs : Bs < w.heap.size) (hn₀ : n₀ ≤ w.heap.size) (hsl : sp < n₀)
    (hc : w.cell? ⟨Bs, 0, none⟩ = some (.pointer (some ⟨sp, 0, none⟩))) (hsp : w.cell? ⟨sp, 0, none⟩ = some (.pointer (ptrA T))) (hT : TreeAt w T) (ha : T.all (fun p => p < n₀)) :
    SeqStopsK F n Tryz.prog 102 #[.pointer (some ⟨Bs, 0, none⟩)] (fun x : NdS T => #[Value.pointer (some ⟨x.1.1, 0, none⟩)]) (Below n₀) (fun ys => ys = sub T (Tr.nds T) (fun _ h => h)) (fun pre => pre <+: sub T (Tr.nds T) (fun _ h => h)) (Tr.nds T).length w := fun l J Jx W hW _ _ hY h0 =>
  nodes1_in F hd n h1 h2 hro l Bs sp n₀ T J Jx hY W ((hW.cell (p := ⟨Bs, 0, none⟩) hBs).trans hc) ((hW.cell (p := ⟨sp, 0, none⟩) (Nat.lt_of_lt_of_le hsl hn₀)).trans hsp) (hT.belowB ha (hW.mono hn₀)) ha h0
end Go.Proofs.YthghfhnicdoebaaGreatDoor

namespace Go.Proofs.YthghfhnicdoebaaGreatDoor
open Go.RowKit Go.Shelf
attribute [local go_sem] Oper.semAt_some

theorem infoPtrN : (Tryz.prog.info? 107).map (fun i => (i.zero, i.size, i.bytes)) = some (some (.pointer none), 1, 8) := by kernel_rfl
def ndV (x : NdT) : Value := .pointer (some ⟨x.1, 0, none⟩)
/-- What list leaves. -/
def ListPost (w : World) (T : Tree) (e : Ending) (w' : World) : Prop :=
  ∃ v, e = .returned v ∧ w'.ownsRow w.heap.size 107 1 v (Tr.nds T).length ((Tr.nds T).map ndV) ∧ Below w.heap.size w w'
theorem below_of_grown {w w' : World} (h : w.grownBy w' none) : Below w.heap.size w w' := ⟨h.os, h.tape, h.output, h.size, fun k hk => h.block k hk (fun e => by cases e)⟩

set_option maxRecDepth 100000 in
set_option maxHeartbeats 2000000 in
theorem list_in (B sp : Nat) (T : Tree) (w : World) (hs : StateIn B w sp T) (hB : B ≤ w.heap.size) :
    CallsIn Fence.wide 3 Tryz.prog 56 #[.pointer (some ⟨sp, 0, none⟩)] w (ListPost w T) := by
  have hlen := stateLen_any B sp T w hs
  have hsz := hs.sz
  rw [← nds_len] at hsz hlen
  obtain ⟨i0, hi, hz0, hz1, hz2⟩ := info_parts infoPtrN
  refine callsIn_of_wp_marks Tryz.func56 rfl trivial ?_ rfl
  simp only [Tryz.ntmps56, List.size_toArray, List.length_cons, List.length_nil, Nat.reduceAdd, Nat.reduceSub, Array.replicate_succ, Array.replicate_zero, List.push_toArray, List.append_toArray, List.nil_append, List.cons_append]
  gi_wp2_with (first
    | (refine ⟨trivial, ?_⟩; gi_at_call 52; refine (callsIn_wide.2 hlen).mono ?_; rintro e w' ⟨rfl, rfl⟩)
    | (gi_at_make; refine wpListIn_make_own _ rfl _ _ 110 rfl w.heap.size 107 i0 (.pointer none) 1 Tryz.underlying110 hi hz0 hz1 .i64 .i64 ((Tr.nds T).length : Int) (Tr.nds T).length rfl rfl rfl (by rw [hz2]; omega) (by unfold maxLen; omega) (Nat.le_refl _) ?_; intro w2 hown2 hg2)
    | (refine ⟨trivial, ?_⟩; gi_at_call 77; refine (nodes_in Fence.wide _ trivial rfl _ _).mono ?_; rintro e w' ⟨rfl, rfl⟩))
  have hb2 := below_of_grown hg2
  have hle : w.heap.size ≤ w2.heap.size := hb2.size
  have bL := (Boxed.new w2 110 (.slice (some ⟨w.heap.size, 0, none⟩) 0 (Tr.nds T).length)).alloc (.cells #[.pointer (some ⟨sp, 0, none⟩)] 25)
  have bS := Boxed.new (w2.alloc (.cells #[.slice (some ⟨w.heap.size, 0, none⟩) 0 (Tr.nds T).length] 110)) 25 (.pointer (some ⟨sp, 0, none⟩))
  rw [World.size_alloc] at bS
  have hB0 : Below w.heap.size w ((w2.alloc (.cells #[.slice (some ⟨w.heap.size, 0, none⟩) 0 (Tr.nds T).length] 110)).alloc (.cells #[.pointer (some ⟨sp, 0, none⟩)] 25)) := (hb2.alloc hle _).alloc (by simp; omega) _
  have hrow0 : ((w2.alloc (.cells #[.slice (some ⟨w.heap.size, 0, none⟩) 0 (Tr.nds T).length] 110)).alloc (.cells #[.pointer (some ⟨sp, 0, none⟩)] 25)).ownsRow w.heap.size 107 1 (.slice (some ⟨w.heap.size, 0, none⟩) 0 (Tr.nds T).length) 0 [] := (hown2.alloc _).alloc _
  have hsz0 : ((w2.alloc (.cells #[.slice (some ⟨w.heap.size, 0, none⟩) 0 (Tr.nds T).length] 110)).alloc (.cells #[.pointer (some ⟨sp, 0, none⟩)] 25)).heap.size = w2.heap.size + 2 := by simp
  obtain ⟨W0, hW0⟩ : ∃ W0, (w2.alloc (.cells #[.slice (some ⟨w.heap.size, 0, none⟩) 0 (Tr.nds T).length] 110)).alloc (.cells #[.pointer (some ⟨sp, 0, none⟩)] 25) = W0 := ⟨_, rfl⟩
  rw [hW0] at bL bS hB0 hrow0 hsz0 ⊢
  clear hW0
  have hs0 := hs.later (hB0.mono hB)
  refine wpIn_rangeFunc_ownG rfl (by decide) (gf := 102) (lb := #[.pointer (some ⟨w2.heap.size + 1, 0, none⟩)]) rfl trivial (enters_of Tryz.func102 (by kernel_rfl) rfl)
    (nodes_stops Fence.wide rfl (3 - 1) trivial trivial rfl (w2.heap.size + 1) sp w.heap.size T W0 (by omega) (by omega) (Nat.lt_of_lt_of_le hs.lt hB) bS.cell (cell_of_heap hs0.cell 0) hs0.at_ (Tr.all_mono hs.all (fun _ h => Nat.lt_of_lt_of_le h hB))) belowK_t (belowK_b (by omega)) (Below.refl _ _) (fun _ => rfl)
    (fun pre W => (∃ v, Boxed W w2.heap.size 110 v ∧ W.ownsRow w.heap.size 107 1 v pre.length (pre.map fun x => ndV x.1) ∧ True) ∧ Below w.heap.size w W)
    (fun _ _ _ => False)
    (OwnFrom.and (Own.from (holdsRow_own w.heap.size w2.heap.size 110 107 1 (fun pre : List (NdS T) => pre.length) (fun pre => pre.map fun x => ndV x.1) (fun _ _ => True)) _) (ownFrom_below (Nat.le_refl _) (by omega)))
    (fun _ _ _ _ _ hs _ _ => hs)
    ⟨⟨_, bL, hrow0, trivial⟩, hB0⟩
    (fun x => { tmps := #[.pointer (some ⟨sp, 0, none⟩), undef, .slice none 0 0, .pointer (some ⟨w2.heap.size, 0, none⟩), .pointer (some ⟨x.1.1, 0, none⟩), .pointer (some ⟨sp, 0, none⟩), .int .i64 (Tr.nds T).length, .slice (some ⟨w.heap.size, 0, none⟩) 0 (Tr.nds T).length, .pointer (some ⟨sp, 0, none⟩), .func (.func 102) #[] #[.pointer (some ⟨w2.heap.size + 1, 0, none⟩)], .pointer (some ⟨x.1.1, 0, none⟩), undef, undef, undef, undef, undef], defers := [] }) ?assign ?body ?done ?stop
  case assign =>
    intro l x W K hK
    gi_wp2
    exact hK
  case body =>
    rintro l pre x W ⟨⟨v, hv, hrow, _⟩, hb⟩ hlt
    have hc := hv.cell
    gi_wp2_with (gi_at_builtin; refine wpListIn_append_own _ rfl _ _ 110 rfl w.heap.size 107 i0 (.pointer none) 1 8 Tryz.underlying110 hi hz0 hz1 hz2 rfl (by decide) _ _ _ rfl (hrow.alloc _) ⟨W.heap.size, 0, none⟩ 1 1 [.pointer (some ⟨x.1.1, 0, none⟩)] rfl rfl (cell_one_new _ _ _) (by simp [Value.oneCell']) (by unfold maxLen; omega) (by omega) (by have := hb.size; simp; omega) ?_; intro v' w1 hown' hgrow _; obtain ⟨g', cap', rfl⟩ := ownsRow_succ hown'; obtain ⟨hv1, hv2, hr2, hk2, hb3⟩ := hv.appended (by decide) hrow hb.size hle hown' hgrow; have hc1 := hv1.cell; have hf1 := hv1.frozen)
    exact ⟨hk2.from _, hb3, ⟨_, hv2, by simpa [ndV] using hr2, trivial⟩, hb.trans hb3⟩
  case done =>
    rintro D xs W hD rfl ⟨⟨v, hv, hrow, _⟩, hb⟩ hK
    have hc := hv.cell
    gi_wp2
    refine ⟨by simp, .inl ⟨_, _, rfl, run_takeDeferred hK, ?_⟩⟩
    refine ⟨_, results_tmp rfl _ _ _, v, rfl, ?_, hb.trans (belowK_b (w := w) (Nat.le_refl _) W D _ _ (by omega) hK rfl rfl)⟩
    have hr2 := ownsRow_putObj hrow (.deferred none) hK rfl
    have hm : (sub T (Tr.nds T) (fun _ h => h)).map (fun x => ndV x.1) = (Tr.nds T).map ndV := by
      conv => rhs; rw [← ndSub_val T (Tr.nds T) (fun _ h => h)]
      rw [List.map_map]
      rfl
    rw [hm, ndSub_len] at hr2
    exact hr2
  case stop =>
    rintro D c pre W _ _ h _
    exact h.elim
theorem list_any (B sp : Nat) (T : Tree) (w : World) (hs : StateIn B w sp T) (hB : B ≤ w.heap.size) : Calls Tryz.prog 56 #[.pointer (some ⟨sp, 0, none⟩)] w (ListPost w T) := callsIn_wide.1 (list_in B sp T w hs hB)
end Go.Proofs.YthghfhnicdoebaaGreatDoor

namespace Go.Proofs.YthghfhnicdoebaaGreatDoor
open Go.RowKit Go.Shelf
attribute [local go_sem] Oper.semAt_some

def kO : KindK NameT where
  cells n := [.int .i64 n.kind, .string n.owner, .int .i64 n.number, .int .i64 n.index, .string n.text]
  S := 5
  T := 62
  sl := 101
  z := .agg #[.int .i64 0, .string ⟨#[]⟩, .int .i64 0, .int .i64 0, .string ⟨#[]⟩]
  B := 56
  len _ := rfl
  pos := by decide
  one x u hu := by simp at hu; rcases hu with rfl | rfl | rfl | rfl | rfl <;> rfl
  und := Tryz.underlying101
  info := by kernel_rfl
  zs := rfl
  hB := by decide
theorem stepIn_append_K {α : Type} {K : KindK α} {F : Fence} {n : Nat} {ops : Array Oper} {o : Oper} {a : Act} {J : Act → World → Prop} {Q : Exit → Act → World → Prop} {E : Prop} (hgd : o.guard = none) (s y : Operand)
    (ho : o.op = .call { callee := .builtin .append, args := #[s, y], argTypes := #[K.sl, K.sl] }) {w : World} (base : Nat) (v : Value) (xs : List α) (hs : a.eval s = v) (hrow : OwnK K base w v xs)
    (x : Value) (ys : List α) (hx : a.eval y = x) (h2 : RowK K w x ys) (hlen : xs.length + ys.length ≤ 1000000) (hbase : base ≤ w.heap.size)
    (h : ∀ v' w', OwnK K base w' v' (xs ++ ys) → w.grownBy w' v.ownBlock → (v'.ownBlock = v.ownBlock ∨ v'.ownBlock = some w.heap.size) → J (a.put o.dst v') w') :
    if Region.wanted o (yielded ops a.tmps) = true then Oper.wpIn F n Tryz.prog o a w J Q else E := by
  have hw : Region.wanted o (yielded ops a.tmps) = true := by simp [Region.wanted, hgd]
  rw [if_pos hw]
  obtain ⟨v', w', hr, h2, h3, h4⟩ := run_append_K w o.type base v xs hrow x ys h2 hlen hbase
  unfold Oper.wpIn
  refine ⟨?_, ?_⟩
  · simp [Oper.about, ho, resolve, Target.leads, Sem.run_pure]
  · rw [Oper.semAt_plain F _ _ (by rw [ho]; intro c hc'; cases hc')]
    simp only [execOp, ho, resolve, invoke, builtin, Sem.run_bind, Sem.run_pure, Result.andThen_ok, List.map_toArray, List.map_cons, List.map_nil, hs, hx, hr]
    exact h v' w' h2 h3 h4
set_option hygiene false in
macro "en_walk " "(" tac:tactic ")" : tactic => `(tactic| repeat' (first
  | exact AllReadyIn.nil
  | (refine wpAnyIn_done (by decide +kernel) ?_ _)
  | (refine wpAnyIn_ready (rs := [0, 1]) (by decide +kernel) (by simp) ?_)
  | (refine wpAnyIn_ready (rs := [0, 2]) (by decide +kernel) (by simp) ?_)
  | (refine wpAnyIn_ready (rs := [0, 3]) (by decide +kernel) (by simp) ?_)
  | (refine wpAnyIn_ready (rs := [0, 4]) (by decide +kernel) (by simp) ?_)
  | (refine wpAnyIn_ready (rs := [0, 5]) (by decide +kernel) (by simp) ?_)
  | (refine wpAnyIn_ready (rs := [0]) (by decide +kernel) (by simp) ?_)
  | (refine wpAnyIn_ready (rs := [1]) (by decide +kernel) (by simp) ?_)
  | (refine wpAnyIn_ready (rs := [2]) (by decide +kernel) (by simp) ?_)
  | (refine wpAnyIn_ready (rs := [3]) (by decide +kernel) (by simp) ?_)
  | (refine wpAnyIn_ready (rs := [4]) (by decide +kernel) (by simp) ?_)
  | (refine wpAnyIn_ready (rs := [5]) (by decide +kernel) (by simp) ?_)
  | (refine wpAnyIn_ready (rs := [6]) (by decide +kernel) (by simp) ?_)
  | (refine wpAnyIn_ready (rs := [7]) (by decide +kernel) (by simp) ?_)
  | (refine AllReadyIn.cons rfl (fun K hK => ?_) ?_)
  | ($tac:tactic)
  | (go_simp; refine hK _ _ ?_; clear hK K)))

/-- What Names leaves. -/
def NamesPost (w : World) (T : Tree) (e : Ending) (w' : World) : Prop :=
  ∃ v, e = .returned v ∧ OwnK kO w.heap.size w' v (T.ents.map Prod.fst) ∧ Below w.heap.size w w'
set_option maxRecDepth 100000 in
set_option maxHeartbeats 2000000 in
theorem names_in (B sp : Nat) (T : Tree) (w : World) (hs : StateIn B w sp T) (hB : B ≤ w.heap.size) :
    CallsIn Fence.wide 3 Tryz.prog 51 #[.pointer (some ⟨sp, 0, none⟩)] w (NamesPost w T) := by
  have hsz := hs.sz
  rw [← nds_len] at hsz
  refine callsIn_of_wp_marks Tryz.func51 rfl trivial ?_ rfl
  simp only [Tryz.ntmps51, List.size_toArray, List.length_cons, List.length_nil, Nat.reduceAdd, Nat.reduceSub, Array.replicate_succ, Array.replicate_zero, List.push_toArray, List.append_toArray, List.nil_append, List.cons_append]
  gi_wp2_with (refine ⟨trivial, ?_⟩; gi_at_call 77; refine (nodes_in Fence.wide _ trivial rfl _ _).mono ?_; rintro e w' ⟨rfl, rfl⟩)
  have bL := (Boxed.new w 101 (.slice none 0 0)).alloc (.cells #[.pointer (some ⟨sp, 0, none⟩)] 25)
  have bS := Boxed.new (w.alloc (.cells #[.slice none 0 0] 101)) 25 (.pointer (some ⟨sp, 0, none⟩))
  rw [World.size_alloc] at bS
  have hB0 : Below w.heap.size w ((w.alloc (.cells #[.slice none 0 0] 101)).alloc (.cells #[.pointer (some ⟨sp, 0, none⟩)] 25)) := ((Below.refl _ _).alloc (Nat.le_refl _) _).alloc (by simp) _
  have hsz0 : ((w.alloc (.cells #[.slice none 0 0] 101)).alloc (.cells #[.pointer (some ⟨sp, 0, none⟩)] 25)).heap.size = w.heap.size + 2 := by simp
  obtain ⟨W0, hW0⟩ : ∃ W0, (w.alloc (.cells #[.slice none 0 0] 101)).alloc (.cells #[.pointer (some ⟨sp, 0, none⟩)] 25) = W0 := ⟨_, rfl⟩
  try simp only [World.size_alloc]
  rw [hW0] at bL bS hB0 hsz0 ⊢
  clear hW0
  have hs0 := hs.later (hB0.mono hB)
  have hmix : Tryz.prog.follows .mixedOrders = true := by kernel_rfl
  refine wpIn_rangeFunc_ownG rfl (by decide) (gf := 102) (lb := #[.pointer (some ⟨w.heap.size + 1, 0, none⟩)]) rfl trivial (enters_of Tryz.func102 (by kernel_rfl) rfl)
    (nodes_stops Fence.wide rfl (3 - 1) trivial trivial rfl (w.heap.size + 1) sp w.heap.size T W0 (by omega) (by omega) (Nat.lt_of_lt_of_le hs.lt hB) bS.cell (cell_of_heap hs0.cell 0) hs0.at_ (Tr.all_mono hs.all (fun _ h => Nat.lt_of_lt_of_le h hB))) belowK_t (belowK_b (by omega)) (Below.refl _ _) (fun _ => rfl)
    (fun pre W => (∃ v, Boxed W w.heap.size 101 v ∧ W.ownsRow w.heap.size 62 5 v (pre.map fun x => x.1.2.1).length ((pre.map fun x => x.1.2.1).flatMap kO.cells) ∧ True) ∧ Below w.heap.size w W)
    (fun _ _ _ => False)
    (OwnFrom.and (Own.from (holdsRow_own w.heap.size w.heap.size 101 62 5 (fun pre : List (NdS T) => (pre.map fun x => x.1.2.1).length) (fun pre => (pre.map fun x => x.1.2.1).flatMap kO.cells) (fun _ _ => True)) _) (ownFrom_below (Nat.le_refl _) (by omega)))
    (fun _ _ _ _ _ hs _ _ => hs)
    ⟨⟨_, bL, World.ownsRow_nil _ _ _ _, trivial⟩, hB0⟩
    (fun x => { tmps := #[.pointer (some ⟨sp, 0, none⟩), undef, .slice none 0 0, .pointer (some ⟨w.heap.size, 0, none⟩), .pointer (some ⟨x.1.1, 0, none⟩), .pointer (some ⟨sp, 0, none⟩), .func (.func 102) #[] #[.pointer (some ⟨w.heap.size + 1, 0, none⟩)], .pointer (some ⟨x.1.1, 0, none⟩), undef, undef, undef, undef, undef, undef, undef, undef], defers := [] }) ?assign ?body ?done ?stop
  case assign =>
    intro l x W K hK
    gi_wp2
    exact hK
  case body =>
    rintro l pre x W ⟨⟨v, hv, hrow, _⟩, hb⟩ hlt
    obtain ⟨⟨xp, ⟨x1, x2, x3, x4, x5⟩, xv⟩, hx⟩ := x
    obtain ⟨_, _, _, _, _, hh⟩ := nds_mid (hs.later (hb.mono hB)).at_ _ hx
    dsimp only at hh
    have hLn : Hid ((List.map (fun x : NdS T => x.1.2.1) pre).length + [(⟨x1, x2, x3, x4, x5⟩ : NameT)].length ≤ 1000000) := by show _ ≤ _; simp only [List.length_map, List.length_cons, List.length_nil]; omega
    gi_wp2
    refine wpIn_region_any hmix ?_
    change wpAnyIn _ _ _ _ _ _ _ _ _ (World.drew _)
    have hvd : Boxed W.drew w.heap.size 101 v := hv
    have hrd : OwnK kO w.heap.size W.drew v (List.map (fun x : NdS T => x.1.2.1) pre) := hrow
    have hbd : Below w.heap.size w W.drew := hb.drew
    have hkd : KeepsOthers W W.drew := KeepsOthers.drew _
    have hbw : Below w.heap.size W W.drew := (Below.refl _ _).drew
    have hhd : W.drew.heap[xp]? = _ := hh
    obtain ⟨Wd, hWd⟩ : ∃ x, W.drew = x := ⟨_, rfl⟩
    rw [hWd] at hvd hrd hbd hkd hbw hhd ⊢
    clear hv hrow hh hWd
    obtain ⟨a0, k0, rfl, _, _⟩ := hrd.row.form
    obtain ⟨nm, hnm⟩ : ∃ nm, List.map (fun x : NdS T => x.1.2.1) pre = nm := ⟨_, rfl⟩
    rw [hnm] at hvd hrd hLn
    have hc := hvd.cell
    have hca : ∀ o, (Wd.alloc o).cell? ⟨w.heap.size, 0, none⟩ = some (.slice a0 nm.length k0) := fun o => (World.cell?_alloc_lt _ _ _ (World.block_lt_of_cell? Wd _ hc)).trans hc
    have c2 : Wd.cell? ⟨xp, 2, none⟩ = some (.int .i64 x1) := cell_of_heap hhd 2
    have c3 : Wd.cell? ⟨xp, 3, none⟩ = some (.string x2) := cell_of_heap hhd 3
    have c4 : Wd.cell? ⟨xp, 4, none⟩ = some (.int .i64 x3) := cell_of_heap hhd 4
    have c5 : Wd.cell? ⟨xp, 5, none⟩ = some (.int .i64 x4) := cell_of_heap hhd 5
    have c6 : Wd.cell? ⟨xp, 6, none⟩ = some (.string x5) := cell_of_heap hhd 6
    have Hhd := Lib.hid hhd; clear hhd
    have Hvd := Lib.hid hvd; clear hvd
    have Hrd := Lib.hid hrd; clear hrd
    en_walk (
             (refine stepIn_append_K (K := kO) (by rfl) _ _ (by rfl) w.heap.size (.slice a0 _ k0) nm (by rfl) (Hrd.out.later ((Below.refl _ _).alloc (Nat.le_refl _) _)) (.slice (some ⟨Wd.heap.size, 0, none⟩) 1 1) [⟨x1, x2, x3, x4, x5⟩] (by rfl) (RowK.one (heap_alloc_new Wd _) rfl) hLn.out (hbd.alloc hbd.size _).size ?_
              intro v' w1 hown' hgrow _
              obtain ⟨a1, k1, hv', _, _⟩ := hown'.row.form
              obtain ⟨n1, hn1⟩ : ∃ n1, (nm ++ [(⟨x1, x2, x3, x4, x5⟩ : NameT)]).length = n1 := ⟨_, rfl⟩
              rw [hn1] at hv'
              subst hv'
              obtain ⟨hv1, hv2, hr2, hk2, hb3⟩ := Hvd.out.appended (by decide) Hrd.out hbd.size (Nat.le_refl _) hown' hgrow
              have hc1 := hv1.cell
              have hf1 := hv1.frozen
              have Hv2 := Lib.hid hv2; clear hv2 hv1
              have Hr2 := Lib.hid hr2; clear hr2 hown'
              refine hK _ _ ?_; clear hK K))
    all_goals gi_wp2
    all_goals exact ⟨(hkd.trans hk2).from _, hbw.trans hb3, ⟨_, Hv2.out, by rw [List.map_append, hnm]; exact Hr2.out, trivial⟩, hbd.trans hb3⟩
  case done =>
    rintro D xs W hD rfl ⟨⟨v, hv, hrow, _⟩, hb⟩ hK
    have hc := hv.cell
    gi_wp2
    refine ⟨by simp, .inl ⟨_, _, rfl, run_takeDeferred hK, ?_⟩⟩
    refine ⟨_, results_tmp rfl _ _ _, v, rfl, ?_, hb.trans (belowK_b (w := w) (Nat.le_refl _) W D _ _ (by omega) hK rfl rfl)⟩
    have hr2 := ownsRow_putObj hrow (.deferred none) hK rfl
    have hm : (sub T (Tr.nds T) (fun _ h => h)).map (fun x => x.1.2.1) = T.ents.map Prod.fst := by
      rw [← nds_ents]
      conv => rhs; rw [← ndSub_val T (Tr.nds T) (fun _ h => h)]
      simp only [List.map_map]
      rfl
    rw [hm] at hr2
    exact hr2
  case stop =>
    rintro D c pre W _ _ h _
    exact h.elim
theorem names_any (B sp : Nat) (T : Tree) (w : World) (hs : StateIn B w sp T) (hB : B ≤ w.heap.size) : Calls Tryz.prog 51 #[.pointer (some ⟨sp, 0, none⟩)] w (NamesPost w T) := callsIn_wide.1 (names_in B sp T w hs hB)
end Go.Proofs.YthghfhnicdoebaaGreatDoor

namespace Go.Proofs.YthghfhnicdoebaaGreatDoor
open Go.RowKit

def sumB (l : List (NameT × ByteArray)) : Nat := (l.map (·.2.size)).sum
theorem sumB_take (l : List (NameT × ByteArray)) (k : Nat) (e : NameT × ByteArray) (h : l[k]? = some e) : sumB (l.take (k + 1)) = sumB (l.take k) + e.2.size := by
  obtain ⟨hk, he⟩ := List.getElem?_eq_some_iff.1 h
  unfold sumB
  rw [List.take_add_one, h]
  simp
theorem sumB_le (l : List (NameT × ByteArray)) (h : ∀ e ∈ l, e.2.size ≤ 65536) : sumB l ≤ l.length * 65536 := by
  induction l with
  | nil => simp [sumB]
  | cons e l ih =>
    have h1 := ih fun x hx => h x (List.mem_cons_of_mem _ hx)
    have h2 := h e List.mem_cons_self
    simp only [sumB, List.map_cons, List.sum_cons, List.length_cons] at h1 ⊢
    omega
theorem bys_sum (t : Tree) : t.bys = sumB t.ents := by
  unfold sumB Tr.bys
  induction t with
  | nil => rfl
  | node p l n v r h1 h2 =>
    simp only [Tr.by_, Tr.ents, List.map_append, List.map_cons, List.sum_append, List.sum_cons, h1, h2]
    omega
theorem stateBytes_any (B sp : Nat) (t : Tree) (w : World) (hs : StateIn B w sp t) : Calls Tryz.prog 53 #[.pointer (some ⟨sp, 0, none⟩)] w fun e w' => e = .returned (.int .i64 (sumB t.ents)) ∧ w = w' := by
  have hc : w.cell? ⟨sp, 0, none⟩ = some (.pointer (ptrA t)) := cell_of_heap hs.cell 0
  have hcon := bytesOf_any t w hs.at_
  rw [bys_sum] at hcon
  have Hs := Lib.hid hs; clear hs
  have Hcon := Lib.hid hcon; clear hcon
  go_enter Tryz.func53, Tryz.ntmps53
  go_wp2_with fail
  refine Hcon.out.mono ?_
  rintro e w' ⟨rfl, rfl⟩
  go_wp2_with fail
  go_ret
  exact ⟨rfl, rfl⟩
set_option maxRecDepth 100000 in
set_option maxHeartbeats 1600000 in
theorem rBytes_any (w : World) (v : Value) (l : List (NameT × ByteArray)) (hl : RowK kE w v l) (hv : ∀ e ∈ l, e.2.size ≤ 65536) (hlen : l.length ≤ 1000000) :
    Calls Tryz.prog 54 #[v] w fun r w' => r = .returned (.int .i64 (sumB l)) ∧ Below w.heap.size w w' := by
  obtain ⟨a, c, rfl, hc, -⟩ := hl.form
  have HL := Lib.hid hl
  have HV := Lib.hid hv
  clear hl hv
  generalize hll : l.length = len at *
  have Hll := Lib.hid hll
  clear hll
  have HT0 : Hid (sumB (l.take 0) = 0) := by show _ = _; simp [sumB]
  go_enter Tryz.func54, Tryz.ntmps54
  go_wp2_with fail
  go_loopg [3, 4] len (fun gk nv iv wr => ∃ k : Nat, k + gk = len ∧ iv = .int .i64 k ∧ (∃ s : Nat, nv = .int .i64 s ∧ Hid (s = sumB (l.take k)) ∧ s ≤ k * 65536) ∧ Hid (Below w.heap.size w wr))
  case atStart => exact ⟨0, by omega, rfl, ⟨0, rfl, HT0.out.symm, by omega⟩, Below.refl _ _⟩
  case round =>
    obtain ⟨k, hg, rfl, ⟨s, rfl, HS, hs⟩, HBr⟩ := hrel
    have Hg := Lib.hid hg
    have hk : k ≤ len := by omega
    clear hg
    by_cases hlt : k < len
    · have hkl : k < l.length := by rw [Hll.out]; exact hlt
      have he : l[k]? = some l[k] := List.getElem?_eq_getElem hkl
      have hx := HV.out _ (List.getElem_mem hkl)
      have HN : Hid (sumB (l.take (k + 1)) = s + l[k].2.size) := by show _ = _; rw [HS.out]; exact sumB_take _ _ _ he
      generalize l[k] = e at *
      obtain ⟨g, off, rfl, hcs⟩ := (HL.out.later HBr.out).at_ he
      obtain ⟨⟨a1, a2, a3, a4, a5⟩, ax⟩ := e
      have c5 : wr.cell? ⟨g, off + k * 6 + 5, none⟩ = some (.string ax) := hcs 5 _ rfl
      clear hcs he
      dsimp only at hx HN
      go_wp2_with fail
      go_roundg (len - (k + 1))
      case measure => have := Hg.out; omega
      case rel => exact ⟨k + 1, by omega, by go_num, ⟨s + ax.size, by go_num, HN.out.symm, by omega⟩, HBr.out⟩
    · have hkl : k = len := by omega
      have HF : Hid (sumB l = s) := by show _ = _; rw [HS.out, List.take_of_length_le (by rw [Hll.out]; omega)]
      clear hkl
      go_wp2_with fail
      refine bodyPost_ret (v := .int .i64 s) (by simp [results, Tryz.results54, go_sem]) rfl ?_
      exact ⟨by rw [HF.out], HBr.out⟩
end Go.Proofs.YthghfhnicdoebaaGreatDoor
