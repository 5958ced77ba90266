/- state: Diff. (printed by wip/gen_dif.py) state: Diff, its walk. (printed by wip/gen_dif.py) -/
import Derived.Test.YthghfhnicdoebaaGreatDoorIsvA
import Derived.Deep.RegionLaw
import Derived.LaidEqlPtr
import Derived.Lib.Builder
import Derived.Deep.DeepCutAuto
import Derived.Deep.CutBlock
namespace Go.Proofs.YthghfhnicdoebaaGreatDoor
open Go.RowKit
attribute [local go_sem ↓] Go.wp_at_zero Go.wp_at_succ

def kP : KindK NdT where
  cells x := [.pointer (some ⟨x.1, 0, none⟩)]
  S := 1
  T := 107
  sl := 110
  z := .pointer none
  B := 8
  len _ := rfl
  pos := by decide
  one x u hu := by simp at hu; subst hu; rfl
  und := Tryz.underlying110
  info := by kernel_rfl
  zs := rfl
  hB := by decide
def kD : KindK ChangeT where
  cells := changeCells
  S := 7
  T := 64
  sl := 50
  z := .agg #[.int .i64 0, .string ⟨#[]⟩, .int .i64 0, .int .i64 0, .string ⟨#[]⟩, .string ⟨#[]⟩, .bool false]
  B := 80
  len _ := rfl
  pos := by decide
  one x u hu := by simp [changeCells] at hu; rcases hu with rfl | rfl | rfl | rfl | rfl | rfl | rfl <;> rfl
  und := Tryz.underlying50
  info := by kernel_rfl
  zs := rfl
  hB := by decide
theorem ownD_row {base : Nat} {w : World} {v : Value} {cs : List ChangeT} (h : OwnK kD base w v cs) : RowC w v cs := OwnC.row (base := base) h
theorem list_row {w' : World} {v : Value} {l : List NdT} {base : Nat} (h : w'.ownsRow base 107 1 v l.length (l.map ndV)) : RowK kP w' v l := by
  refine OwnK.row (base := base) ?_
  have e : l.flatMap kP.cells = l.map ndV := by
    clear h
    induction l with
    | nil => rfl
    | cons x l ih => rw [List.flatMap_cons, ih]; rfl
  show w'.ownsRow base kP.T kP.S v l.length (l.flatMap kP.cells)
  rw [e]
  exact h
theorem tailP {W : World} {g o m c : Nat} {x : NdT} {A : List NdT} (h : RowK kP W (.slice (some ⟨g, o, none⟩) m c) (x :: A)) : RowK kP W (.slice (if c = 1 then some ⟨g, o, none⟩ else some ⟨g, o + 1, none⟩) (m - 1) (c - 1)) A := by
  have hm := h.len
  obtain ⟨a', c', e, hc, -⟩ := h.form
  cases e
  by_cases h1 : c = 1
  · rw [if_pos h1]
    obtain rfl : A = [] := List.length_eq_zero_iff.1 (by simp at hm hc; omega)
    have : ([x] : List NdT).length - 1 = 0 := rfl
    rw [this]
    exact RowK.empty
  · rw [if_neg h1]
    have := h.drop (k := 1) (by simp)
    simpa [kP] using this
/-- What Diff lists. -/
def diffN : List NdT → List NdT → List ChangeT
  | [], [] => []
  | x :: a, [] => ⟨x.2.1, ⟨#[]⟩, true⟩ :: diffN a []
  | [], y :: b => ⟨y.2.1, y.2.2, false⟩ :: diffN [] b
  | x :: a, y :: b => if cmpN x.2.1 y.2.1 < 0 then ⟨x.2.1, ⟨#[]⟩, true⟩ :: diffN a (y :: b) else if 0 < cmpN x.2.1 y.2.1 then ⟨y.2.1, y.2.2, false⟩ :: diffN (x :: a) b else if x.2.2 ≠ y.2.2 then ⟨y.2.1, y.2.2, false⟩ :: diffN a b else diffN a b
termination_by a b => a.length + b.length
theorem diffN_len (a b : List NdT) : (diffN a b).length ≤ a.length + b.length := by
  fun_induction diffN a b <;> simp only [List.length_cons, List.length_nil] at * <;> omega
theorem diffN_self (a : List NdT) : diffN a a = [] := by
  induction a with
  | nil => rw [diffN]
  | cons x a ih => rw [diffN, cmpN_ok.refl, if_neg (by decide), if_neg (by decide), if_neg (by simp), ih]
theorem mid_same {w : World} {p : Nat} {n m : NameT} {u v : ByteArray} (h1 : MidAt w p n u) (h2 : MidAt w p m v) : n = m ∧ u = v := by
  obtain ⟨_, _, _, _, _, h1⟩ := h1
  obtain ⟨_, _, _, _, _, h2⟩ := h2
  have e2 : (.int .i64 n.kind : Value) = .int .i64 m.kind := Option.some.inj ((show w.cell? ⟨p, 2, none⟩ = some (.int .i64 n.kind) from cell_of_heap h1 2).symm.trans (cell_of_heap h2 2))
  have e3 : (.string n.owner : Value) = .string m.owner := Option.some.inj ((show w.cell? ⟨p, 3, none⟩ = some (.string n.owner) from cell_of_heap h1 3).symm.trans (cell_of_heap h2 3))
  have e4 : (.int .i64 n.number : Value) = .int .i64 m.number := Option.some.inj ((show w.cell? ⟨p, 4, none⟩ = some (.int .i64 n.number) from cell_of_heap h1 4).symm.trans (cell_of_heap h2 4))
  have e5 : (.int .i64 n.index : Value) = .int .i64 m.index := Option.some.inj ((show w.cell? ⟨p, 5, none⟩ = some (.int .i64 n.index) from cell_of_heap h1 5).symm.trans (cell_of_heap h2 5))
  have e6 : (.string n.text : Value) = .string m.text := Option.some.inj ((show w.cell? ⟨p, 6, none⟩ = some (.string n.text) from cell_of_heap h1 6).symm.trans (cell_of_heap h2 6))
  have e7 : (.string u : Value) = .string v := Option.some.inj ((show w.cell? ⟨p, 7, none⟩ = some (.string u) from cell_of_heap h1 7).symm.trans (cell_of_heap h2 7))
  simp only [Value.int.injEq, Value.string.injEq, true_and] at e2 e3 e4 e5 e6 e7
  obtain ⟨n1, n2, n3, n4, n5⟩ := n
  obtain ⟨m1, m2, m3, m4, m5⟩ := m
  dsimp only at e2 e3 e4 e5 e6
  rw [e2, e3, e4, e5, e6]
  exact ⟨rfl, e7⟩
theorem tree_eq {w : World} {T U : Tree} (h1 : TreeAt w T) (h2 : TreeAt w U) (h : ptrA T = ptrA U) : T = U := by
  induction T generalizing U with
  | nil =>
    cases U with
    | nil => rfl
    | node p l n v r => exact absurd h (by simp [ptrA])
  | node p l n v r ih1 ih2 =>
    cases U with
    | nil => exact absurd h (by simp [ptrA])
    | node p' l' n' v' r' =>
      have hp : p = p' := by simpa [ptrA] using h
      subst hp
      obtain ⟨en, ev⟩ := mid_same h1.mid h2.mid
      have e1 : (ptrV l) = ptrV l' := Option.some.inj ((show w.cell? ⟨p, 0, none⟩ = some (ptrV l) from cell_of_heap h1.1 0).symm.trans (cell_of_heap h2.1 0))
      have e2 : (ptrV r) = ptrV r' := Option.some.inj ((show w.cell? ⟨p, 1, none⟩ = some (ptrV r) from cell_of_heap h1.1 1).symm.trans (cell_of_heap h2.1 1))
      rw [ih1 h1.2.1 h2.2.1 (Value.pointer.inj e1), ih2 h1.2.2 h2.2.2 (Value.pointer.inj e2), en, ev]
def PtrNe (W : World) (p q : Option Addr) : Prop := (binOp .eql 107 (.pointer p) (.pointer q)).run Tryz.prog W = .ok (.bool false) W ∧ (binOp .neq 107 (.pointer p) (.pointer q)).run Tryz.prog W = .ok (.bool true) W
theorem infoNode : (Tryz.prog.info? 114).map (fun i => i.size) = some 11 := by kernel_rfl
theorem pn_some {W : World} {a b : Nat} {ca cb : Array Value} {ta tb : TypeId} (h : a ≠ b) (ha : W.heap[a]? = some (.cells ca ta (0, 0))) (hb : W.heap[b]? = some (.cells cb tb (0, 0))) : PtrNe W (some ⟨a, 0, none⟩) (some ⟨b, 0, none⟩) := by
  obtain ⟨j, hj, hsz⟩ := Option.map_eq_some_iff.1 infoNode
  have hne : (⟨a, 0, none⟩ : Addr) ≠ ⟨b, 0, none⟩ := fun e => h (Addr.mk.inj e).1
  have hsz0 : j.size ≠ 0 := by rw [hsz]; decide
  have h9 : ∀ d : Nat, (Op.equalIn (d + 1) 107 (.pointer (some ⟨a, 0, none⟩)) (.pointer (some ⟨b, 0, none⟩))).run Tryz.prog W = .ok false W := fun d => by
    simp [Op.equalIn, run_underlying Tryz.underlying107, sizeOf, typeInfo, hj, hsz0, run_sameAddr_other W hne ha hb]
  refine ⟨run_eql_ptr_other W Tryz.underlying107 hj hsz0 hne ha hb, ?_⟩
  simp only [binOp]
  simp [Op.equal, Op.maxDepth, h9 9999]
theorem pn_left (W : World) (a : Addr) : PtrNe W (some a) none := by
  refine ⟨?_, ?_⟩
  · rw [run_eql_pointer_nil W _ _ (by kernel_rfl)]; rfl
  · rw [run_neq_pointer_nil W _ _ (by kernel_rfl)]; rfl
theorem pn_right (W : World) (a : Addr) : PtrNe W none (some a) := by
  have h9 : ∀ d : Nat, (Op.equalIn (d + 1) 107 (.pointer none) (.pointer (some a))).run Tryz.prog W = .ok false W := fun d => by
    simp [Op.equalIn, run_underlying Tryz.underlying107]
  refine ⟨?_, ?_⟩
  · simp only [binOp]
    simp [Op.equal, Op.maxDepth, h9 9999]
  · simp only [binOp]
    simp [Op.equal, Op.maxDepth, h9 9999]
theorem pn_root {W : World} {T U : Tree} (hT : TreeAt W T) (hU : TreeAt W U) (h : ptrA T ≠ ptrA U) : PtrNe W (ptrA T) (ptrA U) := by
  cases T with
  | nil => cases U with
    | nil => exact absurd rfl h
    | node p l n v r => exact pn_right W _
  | node p l n v r => cases U with
    | nil => exact pn_left W _
    | node q l' n' v' r' => exact pn_some (fun e => h (by rw [ptrA, ptrA, e])) hT.1 hU.1
theorem run_ne1 (W : World) (p q : Option Addr) (h : PtrNe W p q) : (binOp .eql 107 (.pointer p) (.pointer q)).run Tryz.prog W = .ok (.bool false) W := h.1
theorem run_ne2 (W : World) (p q : Option Addr) (h : PtrNe W p q) : (binOp .neq 107 (.pointer p) (.pointer q)).run Tryz.prog W = .ok (.bool true) W := h.2
theorem run_same1 (W : World) (p : Option Addr) : (binOp .eql 107 (.pointer p) (.pointer p)).run Tryz.prog W = .ok (.bool true) W := by
  obtain ⟨j, hj, hsz⟩ := Option.map_eq_some_iff.1 infoNode
  cases p with
  | none => rw [run_eql_pointer_nil W _ _ (by kernel_rfl)]; rfl
  | some a => exact run_eql_ptr_same W a Tryz.underlying107 hj
theorem run_same2 (W : World) (p : Option Addr) : (binOp .neq 107 (.pointer p) (.pointer p)).run Tryz.prog W = .ok (.bool false) W := by
  obtain ⟨j, hj, hsz⟩ := Option.map_eq_some_iff.1 infoNode
  cases p with
  | none => rw [run_neq_pointer_nil W _ _ (by kernel_rfl)]; rfl
  | some a => exact Lib.run_neq_ptr_same W a Tryz.underlying107 hj
attribute [local go_sem ↓] run_ne1 run_ne2 run_same1 run_same2
theorem midL {w w' : World} {p : Nat} {n : NameT} {v : ByteArray} (h : MidAt w p n v) (hb : Below w.heap.size w w') : MidAt w' p n v := h.below hb
theorem mid_ne {W : World} {p q : Nat} {n m : NameT} {u v : ByteArray} (h1 : MidAt W p n u) (h2 : MidAt W q m v) (h : p ≠ q) : PtrNe W (some ⟨p, 0, none⟩) (some ⟨q, 0, none⟩) := by
  obtain ⟨_, _, _, _, _, h1⟩ := h1
  obtain ⟨_, _, _, _, _, h2⟩ := h2
  exact pn_some h h1 h2
/-- What Diff leaves. -/
def DiffPost (A C : List NdT) (w : World) (r : Ending) (w' : World) : Prop := ∃ v, r = .returned v ∧ RowC w' v (diffN A C) ∧ Below w.heap.size w w'
/-- Between two rounds. -/
structure DI (w3 wr : World) (A C : List NdT) (A' C' : List NdT) (E : List ChangeT) (cv av bv : Value) : Prop where
  ra : RowK kP w3 av A'
  rb : RowK kP w3 bv C'
  ia : ∀ x ∈ A', x ∈ A
  ib : ∀ x ∈ C', x ∈ C
  eq : E ++ diffN A' C' = diffN A C
  ow : OwnK kD w3.heap.size wr cv E
  lo : Below w3.heap.size w3 wr
theorem DI.elen {w3 wr : World} {A C A' C' : List NdT} {E : List ChangeT} {cv av bv : Value} (h : DI w3 wr A C A' C' E cv av bv) : E.length ≤ A.length + C.length := by
  have h1 := diffN_len A C
  rw [← h.eq, List.length_append] at h1
  omega
end Go.Proofs.YthghfhnicdoebaaGreatDoor

namespace Go.Proofs.YthghfhnicdoebaaGreatDoor
open Go.RowKit
attribute [local go_sem ↓] Go.wp_at_zero Go.wp_at_succ
attribute [local go_sem ↓] run_ne1 run_ne2 run_same1 run_same2

set_option linter.unusedSimpArgs false in
set_option maxRecDepth 100000 in
set_option maxHeartbeats 6400000 in
theorem diff_any (B sp sq : Nat) (T U : Tree) (w : World) (hs : StateIn B w sp T) (hu : StateIn B w sq U) (hB : B ≤ w.heap.size) :
    Calls Tryz.prog 21 #[.pointer (some ⟨sp, 0, none⟩), .pointer (some ⟨sq, 0, none⟩)] w (DiffPost (Tr.nds T) (Tr.nds U) w) := by
  have p0 : w.cell? ⟨sp, 0, none⟩ = some (.pointer (ptrA T)) := cell_of_heap hs.cell 0
  have p1 : w.cell? ⟨sq, 0, none⟩ = some (.pointer (ptrA U)) := cell_of_heap hu.cell 0
  have HEq : Hid (ptrA T = ptrA U → diffN (Tr.nds T) (Tr.nds U) = []) := fun h => by rw [tree_eq hs.at_ hu.at_ h]; exact diffN_self _
  have HLa : Hid (∀ W, Below w.heap.size w W → Calls Tryz.prog 56 #[.pointer (some ⟨sp, 0, none⟩)] W fun r w' => ∃ v, r = .returned v ∧ RowK kP w' v (Tr.nds T) ∧ Below W.heap.size W w') := fun W hW => (list_any B sp T W (hs.later (hW.mono hB)) (Nat.le_trans hB hW.size)).mono fun r w' ⟨v, h1, h2, h3⟩ => ⟨v, h1, list_row h2, h3⟩
  have HLb : Hid (∀ W, Below w.heap.size w W → Calls Tryz.prog 56 #[.pointer (some ⟨sq, 0, none⟩)] W fun r w' => ∃ v, r = .returned v ∧ RowK kP w' v (Tr.nds U) ∧ Below W.heap.size W w') := fun W hW => (list_any B sq U W (hu.later (hW.mono hB)) (Nat.le_trans hB hW.size)).mono fun r w' ⟨v, h1, h2, h3⟩ => ⟨v, h1, list_row h2, h3⟩
  have hfit : ∀ {B s : Nat} {T : Tree}, StateIn B w s T → ∀ x ∈ Tr.nds T, FitN x.2.1 := fun {B s T} h x hx => h.good.fit (x.2.1, x.2.2) (by rw [← nds_ents]; exact List.mem_map.2 ⟨x, hx, rfl⟩)
  have HMa : Hid (∀ W, Below w.heap.size w W → ∀ x ∈ Tr.nds T, MidAt W x.1 x.2.1 x.2.2 ∧ FitN x.2.1) := fun W hW x hx => ⟨nds_mid (hs.later (hW.mono hB)).at_ x hx, hfit hs x hx⟩
  have HMb : Hid (∀ W, Below w.heap.size w W → ∀ x ∈ Tr.nds U, MidAt W x.1 x.2.1 x.2.2 ∧ FitN x.2.1) := fun W hW x hx => ⟨nds_mid (hu.later (hW.mono hB)).at_ x hx, hfit hu x hx⟩
  have HLen : Hid ((Tr.nds T).length + (Tr.nds U).length ≤ 120000) := by show _ ≤ _; rw [nds_len, nds_len]; have h1 := hs.sz; have h2 := hu.sz; omega
  have HNe : Hid (ptrA T ≠ ptrA U → ∀ n, PtrNe (w.drewN n) (ptrA T) (ptrA U)) := fun h n => pn_root (hs.later (below_toDrewN3 (Below.refl _ _) n)).at_ (hu.later (below_toDrewN3 (Below.refl _ _) n)).at_ h
  clear hs hu hB hfit
  generalize ptrA T = q1 at *
  generalize ptrA U = q2 at *
  generalize Tr.nds T = A at *
  generalize Tr.nds U = C at *
  go_enter Tryz.func21, Tryz.ntmps21
  by_cases hq : q1 = q2
  · subst hq
    have HE0 := Lib.hid (HEq.out rfl)
    go_upto_region 1 with fail
    go_quiet (fail)
    go_wp2
    refine bodyPost_ret (v := .slice none 0 0) (by simp [results, Tryz.results21, go_sem]) rfl ?_
    exact ⟨_, rfl, by rw [HE0.out]; exact ownD_row (OwnK.nil 0 (w.drewN nq)), below_toDrewN3 (Below.refl _ _) _⟩
  have hne := HNe.out hq
  go_upto_region 1 with fail
  go_quiet (fail)
  have HB0 : Hid (Below w.heap.size w (w.drewN nq)) := below_toDrewN3 (Below.refl _ _) _
  generalize w.drewN nq = w0 at *
  clear p0 p1 hne HNe HEq
  go_upto_region 3 with fail
  go_wp2_with (first
    | (go_at_call 56; (with_reducible refine (HLa.out _ HB0.out).mono ?_); rintro r w2 ⟨va, rfl, hra, hb2⟩; have HB2 : Hid (Below w.heap.size w w2) := HB0.out.trans (hb2.mono HB0.out.size); have HRa := Lib.hid hra; clear hb2 hra)
    | (go_at_call 56; (with_reducible refine (HLb.out _ HB2.out).mono ?_); rintro r w3 ⟨vb, rfl, hrb, hb3⟩; have HB3 : Hid (Below w.heap.size w w3) := HB2.out.trans (hb3.mono HB2.out.size); have HRa3 := Lib.hid (HRa.out.later hb3); have HRb := Lib.hid hrb; clear hb3 hrb))
  have HMA := Lib.hid (HMa.out _ HB3.out)
  have HMC := Lib.hid (HMb.out _ HB3.out)
  clear HMa HMb HLa HLb HRa
  obtain ⟨nA, hnA⟩ : ∃ n, A.length + C.length = n := ⟨_, rfl⟩
  have HnA := Lib.hid hnA
  clear hnA
  go_loopg [5, 6, 7] nA (fun gk cv av bv wr => ∃ A' C' E, A'.length + C'.length = gk ∧ Hid (DI w3 wr A C A' C' E cv av bv))
  case atStart => exact ⟨A, C, [], HnA.out, ⟨HRa3.out, HRb.out, fun _ h => h, fun _ h => h, rfl, OwnK.nil _ _, Below.refl _ _⟩⟩
  case round =>
    obtain ⟨A', C', E, hg, HI⟩ := hrel
    have Hg := Lib.hid hg
    clear hg
    have HEl : Hid (E.length + 1 ≤ 1000000) := by show _ ≤ _; have h1 := HI.out.elen; have h2 := HLen.out; omega
    rcases A' with _ | ⟨x, A'⟩
    · rcases C' with _ | ⟨y, C'⟩
      · obtain ⟨qx, kx, ex, -, -⟩ := HI.out.ra.form
        rw [List.length_nil] at ex
        subst ex
        obtain ⟨qy, ky, ey, -, -⟩ := HI.out.rb.form
        rw [List.length_nil] at ey
        subst ey
        have HF : Hid (OwnK kD w3.heap.size wr u5 (diffN A C)) := by show OwnK _ _ _ _ _; rw [← HI.out.eq, diffN, List.append_nil]; exact HI.out.ow
        go_wp2
        refine bodyPost_ret (v := u5) (by simp [results, Tryz.results21, go_sem]) rfl ?_
        exact ⟨_, rfl, ownD_row HF.out, HB3.out.trans (HI.out.lo.mono HB3.out.size)⟩
      · obtain ⟨qx, kx, ex, -, -⟩ := HI.out.ra.form
        rw [List.length_nil] at ex
        subst ex
        obtain ⟨qy, ky, rfl, -, -⟩ := HI.out.rb.form
        obtain ⟨gy, oy, rfl, hcy⟩ := HI.out.rb.at_ (j := 0) (x := y) rfl
        have HMy := Lib.hid (HMC.out y (HI.out.ib _ List.mem_cons_self)).1
        have HFy := Lib.hid (HMC.out y (HI.out.ib _ List.mem_cons_self)).2
        have hny1 : 1 ≤ (y :: C').length := by simp
        generalize (y :: C').length = ny at HI hny1 ⊢
        have hny2 : (1 : Int) ≤ (ny : Int) := by omega
        have hny3 : 0 < ny := hny1
        have hny4 : ¬ ny = 0 := by omega
        have HTy := Lib.hid (tailP HI.out.rb)
        obtain ⟨yp, ⟨y1, y2, y3, y4, y5⟩, yv⟩ := y
        have HSy : Hid (∀ W, Below w3.heap.size w3 W → W.cell? ⟨gy, oy, none⟩ = some (.pointer (some ⟨yp, 0, none⟩)) ∧ W.cell? ⟨yp, 2, none⟩ = some (.int .i64 y1) ∧ W.cell? ⟨yp, 3, none⟩ = some (.string y2) ∧ W.cell? ⟨yp, 4, none⟩ = some (.int .i64 y3) ∧ W.cell? ⟨yp, 5, none⟩ = some (.int .i64 y4) ∧ W.cell? ⟨yp, 6, none⟩ = some (.string y5) ∧ W.cell? ⟨yp, 7, none⟩ = some (.string yv)) := fun W hW => by
          obtain ⟨_, _, _, _, _, hm⟩ := HMy.out
          have hm2 := (hW.block _ (lt_of_heap hm)).trans hm
          have h0 : w3.cell? ⟨gy, oy, none⟩ = some (.pointer (some ⟨yp, 0, none⟩)) := by simpa [kP] using hcy 0 _ rfl
          exact ⟨((bcell hW).1 _ _ (World.block_lt_of_cell? w3 _ h0)).trans h0, cell_of_heap hm2 2, cell_of_heap hm2 3, cell_of_heap hm2 4, cell_of_heap hm2 5, cell_of_heap hm2 6, cell_of_heap hm2 7⟩
        clear hcy
        have HE : Hid (diffN [] (⟨yp, ⟨y1, y2, y3, y4, y5⟩, yv⟩ :: C') = [⟨⟨y1, y2, y3, y4, y5⟩, yv, false⟩] ++ diffN [] C') := by show _ = _; rw [diffN]; rfl
        go_upto_block 2 with fail
        go_cut [8] (fun cv wx => cv = .int .i64 1 ∧ Hid (OwnK kD w3.heap.size wx u5 E) ∧ Hid (Below w3.heap.size w3 wx))
        case first =>
          go_wp2
          go_meet
          exact ⟨rfl, HI.out.ow, HI.out.lo⟩
        case rest =>
          obtain ⟨rfl, HOc, HLc⟩ := hcut
          go_upto_block 3 with fail
          go_cut [5] (fun cv wx => Hid (OwnK kD w3.heap.size wx cv (E ++ [⟨⟨y1, y2, y3, y4, y5⟩, yv, false⟩])) ∧ Hid (Below w3.heap.size w3 wx))
          case first =>
            obtain ⟨cy0, cy1, cy2, cy3, cy4, cy5, cy6⟩ := HSy.out _ HLc.out
            go_upto_region 15 with fail
            go_quiet (fail)
            have HLd : Hid (Below w3.heap.size w3 (wc.drewN nq)) := below_toDrewN3 HLc.out _
            have HOd : Hid (OwnK kD w3.heap.size (wc.drewN nq) u5 E) := HOc.out.later (below_toDrewN3 (Below.refl _ _) _)
            generalize wc.drewN nq = wd at *
            clear cy0 cy1 cy2 cy3 cy4 cy5 cy6
            obtain ⟨cy0, cy1, cy2, cy3, cy4, cy5, cy6⟩ := HSy.out _ HLd.out
            go_upto_region 16 with fail
            have HOa : Hid (∀ o, OwnK kD w3.heap.size (wd.alloc o).drew u5 E) := fun o => HOd.out.later (((Below.refl _ _).alloc (Nat.le_refl _) _).drew)
            have HLa2 : Hid (∀ o, Below w3.heap.size w3 (wd.alloc o).drew) := fun o => (HLd.out.alloc HLd.out.size _).drew
            have HNa : Hid (∀ o, (wd.alloc o).drew.heap[wd.heap.size]? = some o) := fun o => heap_alloc_new wd o
            go_region_law (first
              | (refine step_append_K (K := kD) (by rfl) _ _ (by rfl) w3.heap.size u5 E (by rfl) (HOa.out _) (.slice (some ⟨wd.heap.size, 0, none⟩) 1 1) [⟨⟨y1, y2, y3, y4, y5⟩, yv, false⟩] (by rfl) (RowK.one (HNa.out _) rfl) HEl.out (HLa2.out _).size ?_; intro v9 w9 hrow9 hg9 hat9; have HO9 : Hid (OwnK kD w3.heap.size w9 v9 (E ++ [⟨⟨y1, y2, y3, y4, y5⟩, yv, false⟩])) := hrow9; have HL9 : Hid (Below w3.heap.size w3 w9) := OwnK.below (HOa.out _) hg9 (HLa2.out _) (Nat.le_refl _); clear hrow9 hg9 hat9)
              | fail)
            all_goals
              go_wp2
              go_meet
              exact ⟨HO9, HL9⟩
          case rest =>
            obtain ⟨HO2, HL2⟩ := hcut
            by_cases hky : ky = 1
            · subst hky
              go_wp2
              go_roundg (([] : List NdT).length + C'.length)
              case measure => have h := Hg.out; simp only [List.length_cons, List.length_nil] at h ⊢; omega
              case rel => exact ⟨[], C', E ++ [⟨⟨y1, y2, y3, y4, y5⟩, yv, false⟩], rfl, ⟨HI.out.ra, (by have h := HTy.out; simp only [↓reduceIte] at h; exact h), HI.out.ia, (fun z hz => HI.out.ib z (List.mem_cons_of_mem _ hz)), by rw [List.append_assoc, ← HE.out]; exact HI.out.eq, HO2.out, HL2.out⟩⟩
            · go_wp2
              go_roundg (([] : List NdT).length + C'.length)
              case measure => have h := Hg.out; simp only [List.length_cons, List.length_nil] at h ⊢; omega
              case rel => exact ⟨[], C', E ++ [⟨⟨y1, y2, y3, y4, y5⟩, yv, false⟩], rfl, ⟨HI.out.ra, (by have h := HTy.out; rw [if_neg hky] at h; exact h), HI.out.ia, (fun z hz => HI.out.ib z (List.mem_cons_of_mem _ hz)), by rw [List.append_assoc, ← HE.out]; exact HI.out.eq, HO2.out, HL2.out⟩⟩
    · rcases C' with _ | ⟨y, C'⟩
      · obtain ⟨qy, ky, ey, -, -⟩ := HI.out.rb.form
        rw [List.length_nil] at ey
        subst ey
        obtain ⟨qx, kx, rfl, -, -⟩ := HI.out.ra.form
        obtain ⟨gx, ox, rfl, hcx⟩ := HI.out.ra.at_ (j := 0) (x := x) rfl
        have HMx := Lib.hid (HMA.out x (HI.out.ia _ List.mem_cons_self)).1
        have HFx := Lib.hid (HMA.out x (HI.out.ia _ List.mem_cons_self)).2
        have hnx1 : 1 ≤ (x :: A').length := by simp
        generalize (x :: A').length = nx at HI hnx1 ⊢
        have hnx2 : (1 : Int) ≤ (nx : Int) := by omega
        have hnx3 : 0 < nx := hnx1
        have hnx4 : ¬ nx = 0 := by omega
        have HTx := Lib.hid (tailP HI.out.ra)
        obtain ⟨xp, ⟨x1, x2, x3, x4, x5⟩, xv⟩ := x
        have HSx : Hid (∀ W, Below w3.heap.size w3 W → W.cell? ⟨gx, ox, none⟩ = some (.pointer (some ⟨xp, 0, none⟩)) ∧ W.cell? ⟨xp, 2, none⟩ = some (.int .i64 x1) ∧ W.cell? ⟨xp, 3, none⟩ = some (.string x2) ∧ W.cell? ⟨xp, 4, none⟩ = some (.int .i64 x3) ∧ W.cell? ⟨xp, 5, none⟩ = some (.int .i64 x4) ∧ W.cell? ⟨xp, 6, none⟩ = some (.string x5) ∧ W.cell? ⟨xp, 7, none⟩ = some (.string xv)) := fun W hW => by
          obtain ⟨_, _, _, _, _, hm⟩ := HMx.out
          have hm2 := (hW.block _ (lt_of_heap hm)).trans hm
          have h0 : w3.cell? ⟨gx, ox, none⟩ = some (.pointer (some ⟨xp, 0, none⟩)) := by simpa [kP] using hcx 0 _ rfl
          exact ⟨((bcell hW).1 _ _ (World.block_lt_of_cell? w3 _ h0)).trans h0, cell_of_heap hm2 2, cell_of_heap hm2 3, cell_of_heap hm2 4, cell_of_heap hm2 5, cell_of_heap hm2 6, cell_of_heap hm2 7⟩
        clear hcx
        have HE : Hid (diffN (⟨xp, ⟨x1, x2, x3, x4, x5⟩, xv⟩ :: A') [] = [⟨⟨x1, x2, x3, x4, x5⟩, ⟨#[]⟩, true⟩] ++ diffN A' []) := by show _ = _; rw [diffN]; rfl
        go_upto_block 2 with fail
        go_cut [8] (fun cv wx => cv = .int .i64 (-1) ∧ Hid (OwnK kD w3.heap.size wx u5 E) ∧ Hid (Below w3.heap.size w3 wx))
        case first =>
          go_wp2
          go_meet
          exact ⟨rfl, HI.out.ow, HI.out.lo⟩
        case rest =>
          obtain ⟨rfl, HOc, HLc⟩ := hcut
          go_upto_block 3 with fail
          go_cut [5] (fun cv wx => Hid (OwnK kD w3.heap.size wx cv (E ++ [⟨⟨x1, x2, x3, x4, x5⟩, ⟨#[]⟩, true⟩])) ∧ Hid (Below w3.heap.size w3 wx))
          case first =>
            obtain ⟨cx0, cx1, cx2, cx3, cx4, cx5, cx6⟩ := HSx.out _ HLc.out
            have HOa : Hid (∀ o, OwnK kD w3.heap.size (wc.alloc o) u5 E) := fun o => HOc.out.later ((Below.refl _ _).alloc (Nat.le_refl _) _)
            have HLa2 : Hid (∀ o, Below w3.heap.size w3 (wc.alloc o)) := fun o => HLc.out.alloc HLc.out.size _
            go_wp2_with (first
              | (at_builtin; refine wpList_append_K (K := kD) rfl _ _ rfl w3.heap.size u5 E rfl (HOa.out _) (.slice (some ⟨wc.heap.size, 0, none⟩) 1 1) [⟨⟨x1, x2, x3, x4, x5⟩, ⟨#[]⟩, true⟩] rfl (RowK.one (heap_alloc_new wc _) rfl) HEl.out (HLa2.out _).size ?_; intro v9 w9 hrow9 hg9 hat9; have HO9 : Hid (OwnK kD w3.heap.size w9 v9 (E ++ [⟨⟨x1, x2, x3, x4, x5⟩, ⟨#[]⟩, true⟩])) := hrow9; have HL9 : Hid (Below w3.heap.size w3 w9) := OwnK.below (HOa.out _) hg9 (HLa2.out _) (Nat.le_refl _); clear hrow9 hg9 hat9)
              | go_in)
            go_meet
            exact ⟨HO9, HL9⟩
          case rest =>
            obtain ⟨HO2, HL2⟩ := hcut
            by_cases hkx : kx = 1
            · subst hkx
              go_wp2
              go_roundg (A'.length + ([] : List NdT).length)
              case measure => have h := Hg.out; simp only [List.length_cons, List.length_nil] at h ⊢; omega
              case rel => exact ⟨A', [], E ++ [⟨⟨x1, x2, x3, x4, x5⟩, ⟨#[]⟩, true⟩], rfl, ⟨(by have h := HTx.out; simp only [↓reduceIte] at h; exact h), HI.out.rb, (fun z hz => HI.out.ia z (List.mem_cons_of_mem _ hz)), HI.out.ib, by rw [List.append_assoc, ← HE.out]; exact HI.out.eq, HO2.out, HL2.out⟩⟩
            · go_wp2
              go_roundg (A'.length + ([] : List NdT).length)
              case measure => have h := Hg.out; simp only [List.length_cons, List.length_nil] at h ⊢; omega
              case rel => exact ⟨A', [], E ++ [⟨⟨x1, x2, x3, x4, x5⟩, ⟨#[]⟩, true⟩], rfl, ⟨(by have h := HTx.out; rw [if_neg hkx] at h; exact h), HI.out.rb, (fun z hz => HI.out.ia z (List.mem_cons_of_mem _ hz)), HI.out.ib, by rw [List.append_assoc, ← HE.out]; exact HI.out.eq, HO2.out, HL2.out⟩⟩
      · obtain ⟨qx, kx, rfl, -, -⟩ := HI.out.ra.form
        obtain ⟨gx, ox, rfl, hcx⟩ := HI.out.ra.at_ (j := 0) (x := x) rfl
        have HMx := Lib.hid (HMA.out x (HI.out.ia _ List.mem_cons_self)).1
        have HFx := Lib.hid (HMA.out x (HI.out.ia _ List.mem_cons_self)).2
        have hnx1 : 1 ≤ (x :: A').length := by simp
        generalize (x :: A').length = nx at HI hnx1 ⊢
        have hnx2 : (1 : Int) ≤ (nx : Int) := by omega
        have hnx3 : 0 < nx := hnx1
        have hnx4 : ¬ nx = 0 := by omega
        have HTx := Lib.hid (tailP HI.out.ra)
        obtain ⟨xp, ⟨x1, x2, x3, x4, x5⟩, xv⟩ := x
        have HSx : Hid (∀ W, Below w3.heap.size w3 W → W.cell? ⟨gx, ox, none⟩ = some (.pointer (some ⟨xp, 0, none⟩)) ∧ W.cell? ⟨xp, 2, none⟩ = some (.int .i64 x1) ∧ W.cell? ⟨xp, 3, none⟩ = some (.string x2) ∧ W.cell? ⟨xp, 4, none⟩ = some (.int .i64 x3) ∧ W.cell? ⟨xp, 5, none⟩ = some (.int .i64 x4) ∧ W.cell? ⟨xp, 6, none⟩ = some (.string x5) ∧ W.cell? ⟨xp, 7, none⟩ = some (.string xv)) := fun W hW => by
          obtain ⟨_, _, _, _, _, hm⟩ := HMx.out
          have hm2 := (hW.block _ (lt_of_heap hm)).trans hm
          have h0 : w3.cell? ⟨gx, ox, none⟩ = some (.pointer (some ⟨xp, 0, none⟩)) := by simpa [kP] using hcx 0 _ rfl
          exact ⟨((bcell hW).1 _ _ (World.block_lt_of_cell? w3 _ h0)).trans h0, cell_of_heap hm2 2, cell_of_heap hm2 3, cell_of_heap hm2 4, cell_of_heap hm2 5, cell_of_heap hm2 6, cell_of_heap hm2 7⟩
        clear hcx
        obtain ⟨qy, ky, rfl, -, -⟩ := HI.out.rb.form
        obtain ⟨gy, oy, rfl, hcy⟩ := HI.out.rb.at_ (j := 0) (x := y) rfl
        have HMy := Lib.hid (HMC.out y (HI.out.ib _ List.mem_cons_self)).1
        have HFy := Lib.hid (HMC.out y (HI.out.ib _ List.mem_cons_self)).2
        have hny1 : 1 ≤ (y :: C').length := by simp
        generalize (y :: C').length = ny at HI hny1 ⊢
        have hny2 : (1 : Int) ≤ (ny : Int) := by omega
        have hny3 : 0 < ny := hny1
        have hny4 : ¬ ny = 0 := by omega
        have HTy := Lib.hid (tailP HI.out.rb)
        obtain ⟨yp, ⟨y1, y2, y3, y4, y5⟩, yv⟩ := y
        have HSy : Hid (∀ W, Below w3.heap.size w3 W → W.cell? ⟨gy, oy, none⟩ = some (.pointer (some ⟨yp, 0, none⟩)) ∧ W.cell? ⟨yp, 2, none⟩ = some (.int .i64 y1) ∧ W.cell? ⟨yp, 3, none⟩ = some (.string y2) ∧ W.cell? ⟨yp, 4, none⟩ = some (.int .i64 y3) ∧ W.cell? ⟨yp, 5, none⟩ = some (.int .i64 y4) ∧ W.cell? ⟨yp, 6, none⟩ = some (.string y5) ∧ W.cell? ⟨yp, 7, none⟩ = some (.string yv)) := fun W hW => by
          obtain ⟨_, _, _, _, _, hm⟩ := HMy.out
          have hm2 := (hW.block _ (lt_of_heap hm)).trans hm
          have h0 : w3.cell? ⟨gy, oy, none⟩ = some (.pointer (some ⟨yp, 0, none⟩)) := by simpa [kP] using hcy 0 _ rfl
          exact ⟨((bcell hW).1 _ _ (World.block_lt_of_cell? w3 _ h0)).trans h0, cell_of_heap hm2 2, cell_of_heap hm2 3, cell_of_heap hm2 4, cell_of_heap hm2 5, cell_of_heap hm2 6, cell_of_heap hm2 7⟩
        clear hcy
        rcases cmpN_vals ⟨x1, x2, x3, x4, x5⟩ ⟨y1, y2, y3, y4, y5⟩ with hcc | hcc | hcc
        · have HCc := Lib.hid hcc
          clear hcc
          have HE : Hid (diffN (⟨xp, ⟨x1, x2, x3, x4, x5⟩, xv⟩ :: A') (⟨yp, ⟨y1, y2, y3, y4, y5⟩, yv⟩ :: C') = [⟨⟨x1, x2, x3, x4, x5⟩, ⟨#[]⟩, true⟩] ++ diffN A' (⟨yp, ⟨y1, y2, y3, y4, y5⟩, yv⟩ :: C')) := by show _ = _; rw [diffN, if_pos (by rw [HCc.out]; decide)]; rfl
          go_upto_block 2 with fail
          go_cut [8] (fun cv wx => cv = .int .i64 (-1) ∧ Hid (OwnK kD w3.heap.size wx u5 E) ∧ Hid (Below w3.heap.size w3 wx))
          case first =>
            have HCm : Hid (∀ W, Calls Tryz.prog 57 #[.agg #[.int .i64 x1, .string x2, .int .i64 x3, .int .i64 x4, .string x5], .agg #[.int .i64 y1, .string y2, .int .i64 y3, .int .i64 y4, .string y5]] W fun r w' => r = .returned (.int .i64 (-1)) ∧ Below W.heap.size W w') := fun W => by have h := oCompare_any ⟨x1, x2, x3, x4, x5⟩ ⟨y1, y2, y3, y4, y5⟩ HFx.out HFy.out W; rw [HCc.out] at h; exact h
            have hpq : ¬ xp = yp := fun e => by
              subst e
              have h : (⟨x1, x2, x3, x4, x5⟩ : NameT) = ⟨y1, y2, y3, y4, y5⟩ := (mid_same HMx.out HMy.out).1
              have h2 := HCc.out
              rw [h, cmpN_ok.refl] at h2
              exact absurd h2 (by decide)
            obtain ⟨cx0, cx1, cx2, cx3, cx4, cx5, cx6⟩ := HSx.out _ HI.out.lo
            obtain ⟨cy0, cy1, cy2, cy3, cy4, cy5, cy6⟩ := HSy.out _ HI.out.lo
            have hpn : ∀ n, PtrNe (wr.drewN n) (some ⟨xp, 0, none⟩) (some ⟨yp, 0, none⟩) := fun n => mid_ne (midL HMx.out (below_toDrewN3 HI.out.lo n)) (midL HMy.out (below_toDrewN3 HI.out.lo n)) hpq
            go_upto_region 11 with fail
            go_quiet (fail)
            clear hpn
            have HLd : Hid (Below w3.heap.size w3 (wr.drewN nq)) := below_toDrewN3 HI.out.lo _
            have HOd : Hid (OwnK kD w3.heap.size (wr.drewN nq) u5 E) := HI.out.ow.later (below_toDrewN3 (Below.refl _ _) _)
            generalize wr.drewN nq = wd at *
            clear cx0 cx1 cx2 cx3 cx4 cx5 cx6 cy0 cy1 cy2 cy3 cy4 cy5 cy6
            obtain ⟨cx0, cx1, cx2, cx3, cx4, cx5, cx6⟩ := HSx.out _ HLd.out
            obtain ⟨cy0, cy1, cy2, cy3, cy4, cy5, cy6⟩ := HSy.out _ HLd.out
            go_upto_region 12 with fail
            go_region_held3 (fun W => W.cell? ⟨gx, ox, none⟩ = some (.pointer (some ⟨xp, 0, none⟩)) ∧ W.cell? ⟨xp, 2, none⟩ = some (.int .i64 x1) ∧ W.cell? ⟨xp, 3, none⟩ = some (.string x2) ∧ W.cell? ⟨xp, 4, none⟩ = some (.int .i64 x3) ∧ W.cell? ⟨xp, 5, none⟩ = some (.int .i64 x4) ∧ W.cell? ⟨xp, 6, none⟩ = some (.string x5) ∧ W.cell? ⟨xp, 7, none⟩ = some (.string xv) ∧ W.cell? ⟨gy, oy, none⟩ = some (.pointer (some ⟨yp, 0, none⟩)) ∧ W.cell? ⟨yp, 2, none⟩ = some (.int .i64 y1) ∧ W.cell? ⟨yp, 3, none⟩ = some (.string y2) ∧ W.cell? ⟨yp, 4, none⟩ = some (.int .i64 y3) ∧ W.cell? ⟨yp, 5, none⟩ = some (.int .i64 y4) ∧ W.cell? ⟨yp, 6, none⟩ = some (.string y5) ∧ W.cell? ⟨yp, 7, none⟩ = some (.string yv)) (first | with_reducible exact S1.out | with_reducible exact ⟨cx0, cx1, cx2, cx3, cx4, cx5, cx6, cy0, cy1, cy2, cy3, cy4, cy5, cy6⟩ | go_keep)
              (first
                | (go_at_call 57; refine (HCm.out _).mono ?_; rintro r w9 ⟨rfl, hb⟩; have hb9 : Below wd.heap.size wd w9 := ((Below.refl _ _).drew).trans hb; have HL9 : Hid (Below w3.heap.size w3 w9) := HLd.out.trans (hb9.mono HLd.out.size); have HO9 := Lib.hid (HOd.out.later hb9); have S1 : Hid (w9.cell? ⟨gx, ox, none⟩ = some (.pointer (some ⟨xp, 0, none⟩)) ∧ w9.cell? ⟨xp, 2, none⟩ = some (.int .i64 x1) ∧ w9.cell? ⟨xp, 3, none⟩ = some (.string x2) ∧ w9.cell? ⟨xp, 4, none⟩ = some (.int .i64 x3) ∧ w9.cell? ⟨xp, 5, none⟩ = some (.int .i64 x4) ∧ w9.cell? ⟨xp, 6, none⟩ = some (.string x5) ∧ w9.cell? ⟨xp, 7, none⟩ = some (.string xv) ∧ w9.cell? ⟨gy, oy, none⟩ = some (.pointer (some ⟨yp, 0, none⟩)) ∧ w9.cell? ⟨yp, 2, none⟩ = some (.int .i64 y1) ∧ w9.cell? ⟨yp, 3, none⟩ = some (.string y2) ∧ w9.cell? ⟨yp, 4, none⟩ = some (.int .i64 y3) ∧ w9.cell? ⟨yp, 5, none⟩ = some (.int .i64 y4) ∧ w9.cell? ⟨yp, 6, none⟩ = some (.string y5) ∧ w9.cell? ⟨yp, 7, none⟩ = some (.string yv)) := ⟨((bcell hb9).1 _ _ (World.block_lt_of_cell? wd _ cx0)).trans cx0, ((bcell hb9).1 _ _ (World.block_lt_of_cell? wd _ cx1)).trans cx1, ((bcell hb9).1 _ _ (World.block_lt_of_cell? wd _ cx2)).trans cx2, ((bcell hb9).1 _ _ (World.block_lt_of_cell? wd _ cx3)).trans cx3, ((bcell hb9).1 _ _ (World.block_lt_of_cell? wd _ cx4)).trans cx4, ((bcell hb9).1 _ _ (World.block_lt_of_cell? wd _ cx5)).trans cx5, ((bcell hb9).1 _ _ (World.block_lt_of_cell? wd _ cx6)).trans cx6, ((bcell hb9).1 _ _ (World.block_lt_of_cell? wd _ cy0)).trans cy0, ((bcell hb9).1 _ _ (World.block_lt_of_cell? wd _ cy1)).trans cy1, ((bcell hb9).1 _ _ (World.block_lt_of_cell? wd _ cy2)).trans cy2, ((bcell hb9).1 _ _ (World.block_lt_of_cell? wd _ cy3)).trans cy3, ((bcell hb9).1 _ _ (World.block_lt_of_cell? wd _ cy4)).trans cy4, ((bcell hb9).1 _ _ (World.block_lt_of_cell? wd _ cy5)).trans cy5, ((bcell hb9).1 _ _ (World.block_lt_of_cell? wd _ cy6)).trans cy6⟩; clear hb hb9)
                | fail)
            go_wp2
            go_meet
            exact ⟨rfl, HO9, HL9⟩
          case rest =>
            obtain ⟨rfl, HOc, HLc⟩ := hcut
            go_upto_block 3 with fail
            go_cut [5] (fun cv wx => Hid (OwnK kD w3.heap.size wx cv (E ++ [⟨⟨x1, x2, x3, x4, x5⟩, ⟨#[]⟩, true⟩])) ∧ Hid (Below w3.heap.size w3 wx))
            case first =>
              obtain ⟨cx0, cx1, cx2, cx3, cx4, cx5, cx6⟩ := HSx.out _ HLc.out
              obtain ⟨cy0, cy1, cy2, cy3, cy4, cy5, cy6⟩ := HSy.out _ HLc.out
              have HOa : Hid (∀ o, OwnK kD w3.heap.size (wc.alloc o) u5 E) := fun o => HOc.out.later ((Below.refl _ _).alloc (Nat.le_refl _) _)
              have HLa2 : Hid (∀ o, Below w3.heap.size w3 (wc.alloc o)) := fun o => HLc.out.alloc HLc.out.size _
              go_wp2_with (first
                | (at_builtin; refine wpList_append_K (K := kD) rfl _ _ rfl w3.heap.size u5 E rfl (HOa.out _) (.slice (some ⟨wc.heap.size, 0, none⟩) 1 1) [⟨⟨x1, x2, x3, x4, x5⟩, ⟨#[]⟩, true⟩] rfl (RowK.one (heap_alloc_new wc _) rfl) HEl.out (HLa2.out _).size ?_; intro v9 w9 hrow9 hg9 hat9; have HO9 : Hid (OwnK kD w3.heap.size w9 v9 (E ++ [⟨⟨x1, x2, x3, x4, x5⟩, ⟨#[]⟩, true⟩])) := hrow9; have HL9 : Hid (Below w3.heap.size w3 w9) := OwnK.below (HOa.out _) hg9 (HLa2.out _) (Nat.le_refl _); clear hrow9 hg9 hat9)
                | go_in)
              go_meet
              exact ⟨HO9, HL9⟩
            case rest =>
              obtain ⟨HO2, HL2⟩ := hcut
              by_cases hkx : kx = 1
              · subst hkx
                go_wp2
                go_roundg (A'.length + (⟨yp, ⟨y1, y2, y3, y4, y5⟩, yv⟩ :: C').length)
                case measure => have h := Hg.out; simp only [List.length_cons, List.length_nil] at h ⊢; omega
                case rel => exact ⟨A', (⟨yp, ⟨y1, y2, y3, y4, y5⟩, yv⟩ :: C'), E ++ [⟨⟨x1, x2, x3, x4, x5⟩, ⟨#[]⟩, true⟩], rfl, ⟨(by have h := HTx.out; simp only [↓reduceIte] at h; exact h), HI.out.rb, (fun z hz => HI.out.ia z (List.mem_cons_of_mem _ hz)), HI.out.ib, by rw [List.append_assoc, ← HE.out]; exact HI.out.eq, HO2.out, HL2.out⟩⟩
              · go_wp2
                go_roundg (A'.length + (⟨yp, ⟨y1, y2, y3, y4, y5⟩, yv⟩ :: C').length)
                case measure => have h := Hg.out; simp only [List.length_cons, List.length_nil] at h ⊢; omega
                case rel => exact ⟨A', (⟨yp, ⟨y1, y2, y3, y4, y5⟩, yv⟩ :: C'), E ++ [⟨⟨x1, x2, x3, x4, x5⟩, ⟨#[]⟩, true⟩], rfl, ⟨(by have h := HTx.out; rw [if_neg hkx] at h; exact h), HI.out.rb, (fun z hz => HI.out.ia z (List.mem_cons_of_mem _ hz)), HI.out.ib, by rw [List.append_assoc, ← HE.out]; exact HI.out.eq, HO2.out, HL2.out⟩⟩
        · have HCc := Lib.hid hcc
          clear hcc
          by_cases hvv : xv = yv
          · have HVv := Lib.hid hvv
            subst hvv
            have HE : Hid (diffN (⟨xp, ⟨x1, x2, x3, x4, x5⟩, xv⟩ :: A') (⟨yp, ⟨y1, y2, y3, y4, y5⟩, xv⟩ :: C') = [] ++ diffN A' C') := by show _ = _; rw [diffN, if_neg (by rw [HCc.out]; decide), if_neg (by rw [HCc.out]; decide), if_neg (fun h => h HVv.out)]; rfl
            go_upto_block 2 with fail
            go_cut [8] (fun cv wx => cv = .int .i64 0 ∧ Hid (OwnK kD w3.heap.size wx u5 E) ∧ Hid (Below w3.heap.size w3 wx))
            case first =>
              have HCm : Hid (∀ W, Calls Tryz.prog 57 #[.agg #[.int .i64 x1, .string x2, .int .i64 x3, .int .i64 x4, .string x5], .agg #[.int .i64 y1, .string y2, .int .i64 y3, .int .i64 y4, .string y5]] W fun r w' => r = .returned (.int .i64 0) ∧ Below W.heap.size W w') := fun W => by have h := oCompare_any ⟨x1, x2, x3, x4, x5⟩ ⟨y1, y2, y3, y4, y5⟩ HFx.out HFy.out W; rw [HCc.out] at h; exact h
              by_cases hpq : xp = yp
              · subst hpq
                obtain ⟨cx0, cx1, cx2, cx3, cx4, cx5, cx6⟩ := HSx.out _ HI.out.lo
                obtain ⟨cy0, cy1, cy2, cy3, cy4, cy5, cy6⟩ := HSy.out _ HI.out.lo
                go_upto_region 11 with fail
                go_quiet (fail)
                have HLd : Hid (Below w3.heap.size w3 (wr.drewN nq)) := below_toDrewN3 HI.out.lo _
                have HOd : Hid (OwnK kD w3.heap.size (wr.drewN nq) u5 E) := HI.out.ow.later (below_toDrewN3 (Below.refl _ _) _)
                generalize wr.drewN nq = wd at *
                clear cx0 cx1 cx2 cx3 cx4 cx5 cx6 cy0 cy1 cy2 cy3 cy4 cy5 cy6
                go_wp2
                go_meet
                exact ⟨rfl, HOd, HLd⟩
              · obtain ⟨cx0, cx1, cx2, cx3, cx4, cx5, cx6⟩ := HSx.out _ HI.out.lo
                obtain ⟨cy0, cy1, cy2, cy3, cy4, cy5, cy6⟩ := HSy.out _ HI.out.lo
                have hpn : ∀ n, PtrNe (wr.drewN n) (some ⟨xp, 0, none⟩) (some ⟨yp, 0, none⟩) := fun n => mid_ne (midL HMx.out (below_toDrewN3 HI.out.lo n)) (midL HMy.out (below_toDrewN3 HI.out.lo n)) hpq
                go_upto_region 11 with fail
                go_quiet (fail)
                clear hpn
                have HLd : Hid (Below w3.heap.size w3 (wr.drewN nq)) := below_toDrewN3 HI.out.lo _
                have HOd : Hid (OwnK kD w3.heap.size (wr.drewN nq) u5 E) := HI.out.ow.later (below_toDrewN3 (Below.refl _ _) _)
                generalize wr.drewN nq = wd at *
                clear cx0 cx1 cx2 cx3 cx4 cx5 cx6 cy0 cy1 cy2 cy3 cy4 cy5 cy6
                obtain ⟨cx0, cx1, cx2, cx3, cx4, cx5, cx6⟩ := HSx.out _ HLd.out
                obtain ⟨cy0, cy1, cy2, cy3, cy4, cy5, cy6⟩ := HSy.out _ HLd.out
                go_upto_region 12 with fail
                go_region_held3 (fun W => W.cell? ⟨gx, ox, none⟩ = some (.pointer (some ⟨xp, 0, none⟩)) ∧ W.cell? ⟨xp, 2, none⟩ = some (.int .i64 x1) ∧ W.cell? ⟨xp, 3, none⟩ = some (.string x2) ∧ W.cell? ⟨xp, 4, none⟩ = some (.int .i64 x3) ∧ W.cell? ⟨xp, 5, none⟩ = some (.int .i64 x4) ∧ W.cell? ⟨xp, 6, none⟩ = some (.string x5) ∧ W.cell? ⟨xp, 7, none⟩ = some (.string xv) ∧ W.cell? ⟨gy, oy, none⟩ = some (.pointer (some ⟨yp, 0, none⟩)) ∧ W.cell? ⟨yp, 2, none⟩ = some (.int .i64 y1) ∧ W.cell? ⟨yp, 3, none⟩ = some (.string y2) ∧ W.cell? ⟨yp, 4, none⟩ = some (.int .i64 y3) ∧ W.cell? ⟨yp, 5, none⟩ = some (.int .i64 y4) ∧ W.cell? ⟨yp, 6, none⟩ = some (.string y5) ∧ W.cell? ⟨yp, 7, none⟩ = some (.string xv)) (first | with_reducible exact S1.out | with_reducible exact ⟨cx0, cx1, cx2, cx3, cx4, cx5, cx6, cy0, cy1, cy2, cy3, cy4, cy5, cy6⟩ | go_keep)
                  (first
                    | (go_at_call 57; refine (HCm.out _).mono ?_; rintro r w9 ⟨rfl, hb⟩; have hb9 : Below wd.heap.size wd w9 := ((Below.refl _ _).drew).trans hb; have HL9 : Hid (Below w3.heap.size w3 w9) := HLd.out.trans (hb9.mono HLd.out.size); have HO9 := Lib.hid (HOd.out.later hb9); have S1 : Hid (w9.cell? ⟨gx, ox, none⟩ = some (.pointer (some ⟨xp, 0, none⟩)) ∧ w9.cell? ⟨xp, 2, none⟩ = some (.int .i64 x1) ∧ w9.cell? ⟨xp, 3, none⟩ = some (.string x2) ∧ w9.cell? ⟨xp, 4, none⟩ = some (.int .i64 x3) ∧ w9.cell? ⟨xp, 5, none⟩ = some (.int .i64 x4) ∧ w9.cell? ⟨xp, 6, none⟩ = some (.string x5) ∧ w9.cell? ⟨xp, 7, none⟩ = some (.string xv) ∧ w9.cell? ⟨gy, oy, none⟩ = some (.pointer (some ⟨yp, 0, none⟩)) ∧ w9.cell? ⟨yp, 2, none⟩ = some (.int .i64 y1) ∧ w9.cell? ⟨yp, 3, none⟩ = some (.string y2) ∧ w9.cell? ⟨yp, 4, none⟩ = some (.int .i64 y3) ∧ w9.cell? ⟨yp, 5, none⟩ = some (.int .i64 y4) ∧ w9.cell? ⟨yp, 6, none⟩ = some (.string y5) ∧ w9.cell? ⟨yp, 7, none⟩ = some (.string xv)) := ⟨((bcell hb9).1 _ _ (World.block_lt_of_cell? wd _ cx0)).trans cx0, ((bcell hb9).1 _ _ (World.block_lt_of_cell? wd _ cx1)).trans cx1, ((bcell hb9).1 _ _ (World.block_lt_of_cell? wd _ cx2)).trans cx2, ((bcell hb9).1 _ _ (World.block_lt_of_cell? wd _ cx3)).trans cx3, ((bcell hb9).1 _ _ (World.block_lt_of_cell? wd _ cx4)).trans cx4, ((bcell hb9).1 _ _ (World.block_lt_of_cell? wd _ cx5)).trans cx5, ((bcell hb9).1 _ _ (World.block_lt_of_cell? wd _ cx6)).trans cx6, ((bcell hb9).1 _ _ (World.block_lt_of_cell? wd _ cy0)).trans cy0, ((bcell hb9).1 _ _ (World.block_lt_of_cell? wd _ cy1)).trans cy1, ((bcell hb9).1 _ _ (World.block_lt_of_cell? wd _ cy2)).trans cy2, ((bcell hb9).1 _ _ (World.block_lt_of_cell? wd _ cy3)).trans cy3, ((bcell hb9).1 _ _ (World.block_lt_of_cell? wd _ cy4)).trans cy4, ((bcell hb9).1 _ _ (World.block_lt_of_cell? wd _ cy5)).trans cy5, ((bcell hb9).1 _ _ (World.block_lt_of_cell? wd _ cy6)).trans cy6⟩; clear hb hb9)
                    | fail)
                go_wp2
                go_meet
                exact ⟨rfl, HO9, HL9⟩
            case rest =>
              obtain ⟨rfl, HOc, HLc⟩ := hcut
              go_upto_block 3 with fail
              go_cut [5] (fun cv wx => Hid (OwnK kD w3.heap.size wx cv (E ++ [])) ∧ Hid (Below w3.heap.size w3 wx))
              case first =>
                obtain ⟨cx0, cx1, cx2, cx3, cx4, cx5, cx6⟩ := HSx.out _ HLc.out
                obtain ⟨cy0, cy1, cy2, cy3, cy4, cy5, cy6⟩ := HSy.out _ HLc.out
                go_upto_region 15 with fail
                go_quiet (fail)
                have HLd : Hid (Below w3.heap.size w3 (wc.drewN nq)) := below_toDrewN3 HLc.out _
                have HOd : Hid (OwnK kD w3.heap.size (wc.drewN nq) u5 E) := HOc.out.later (below_toDrewN3 (Below.refl _ _) _)
                generalize wc.drewN nq = wd at *
                clear cx0 cx1 cx2 cx3 cx4 cx5 cx6 cy0 cy1 cy2 cy3 cy4 cy5 cy6
                go_wp2
                go_meet
                exact ⟨(by show OwnK _ _ _ _ _; rw [List.append_nil]; exact HOd.out), HLd⟩
              case rest =>
                obtain ⟨HO2, HL2⟩ := hcut
                by_cases hkx : kx = 1
                · subst hkx
                  by_cases hky : ky = 1
                  · subst hky
                    go_wp2
                    go_roundg (A'.length + C'.length)
                    case measure => have h := Hg.out; simp only [List.length_cons, List.length_nil] at h ⊢; omega
                    case rel => exact ⟨A', C', E ++ [], rfl, ⟨(by have h := HTx.out; simp only [↓reduceIte] at h; exact h), (by have h := HTy.out; simp only [↓reduceIte] at h; exact h), (fun z hz => HI.out.ia z (List.mem_cons_of_mem _ hz)), (fun z hz => HI.out.ib z (List.mem_cons_of_mem _ hz)), by rw [List.append_assoc, ← HE.out]; exact HI.out.eq, HO2.out, HL2.out⟩⟩
                  · go_wp2
                    go_roundg (A'.length + C'.length)
                    case measure => have h := Hg.out; simp only [List.length_cons, List.length_nil] at h ⊢; omega
                    case rel => exact ⟨A', C', E ++ [], rfl, ⟨(by have h := HTx.out; simp only [↓reduceIte] at h; exact h), (by have h := HTy.out; rw [if_neg hky] at h; exact h), (fun z hz => HI.out.ia z (List.mem_cons_of_mem _ hz)), (fun z hz => HI.out.ib z (List.mem_cons_of_mem _ hz)), by rw [List.append_assoc, ← HE.out]; exact HI.out.eq, HO2.out, HL2.out⟩⟩
                · by_cases hky : ky = 1
                  · subst hky
                    go_wp2
                    go_roundg (A'.length + C'.length)
                    case measure => have h := Hg.out; simp only [List.length_cons, List.length_nil] at h ⊢; omega
                    case rel => exact ⟨A', C', E ++ [], rfl, ⟨(by have h := HTx.out; rw [if_neg hkx] at h; exact h), (by have h := HTy.out; simp only [↓reduceIte] at h; exact h), (fun z hz => HI.out.ia z (List.mem_cons_of_mem _ hz)), (fun z hz => HI.out.ib z (List.mem_cons_of_mem _ hz)), by rw [List.append_assoc, ← HE.out]; exact HI.out.eq, HO2.out, HL2.out⟩⟩
                  · go_wp2
                    go_roundg (A'.length + C'.length)
                    case measure => have h := Hg.out; simp only [List.length_cons, List.length_nil] at h ⊢; omega
                    case rel => exact ⟨A', C', E ++ [], rfl, ⟨(by have h := HTx.out; rw [if_neg hkx] at h; exact h), (by have h := HTy.out; rw [if_neg hky] at h; exact h), (fun z hz => HI.out.ia z (List.mem_cons_of_mem _ hz)), (fun z hz => HI.out.ib z (List.mem_cons_of_mem _ hz)), by rw [List.append_assoc, ← HE.out]; exact HI.out.eq, HO2.out, HL2.out⟩⟩
          · have HVv := Lib.hid hvv
            clear hvv
            have HE : Hid (diffN (⟨xp, ⟨x1, x2, x3, x4, x5⟩, xv⟩ :: A') (⟨yp, ⟨y1, y2, y3, y4, y5⟩, yv⟩ :: C') = [⟨⟨y1, y2, y3, y4, y5⟩, yv, false⟩] ++ diffN A' C') := by show _ = _; rw [diffN, if_neg (by rw [HCc.out]; decide), if_neg (by rw [HCc.out]; decide), if_pos HVv.out]; rfl
            go_upto_block 2 with fail
            go_cut [8] (fun cv wx => cv = .int .i64 0 ∧ Hid (OwnK kD w3.heap.size wx u5 E) ∧ Hid (Below w3.heap.size w3 wx))
            case first =>
              have HCm : Hid (∀ W, Calls Tryz.prog 57 #[.agg #[.int .i64 x1, .string x2, .int .i64 x3, .int .i64 x4, .string x5], .agg #[.int .i64 y1, .string y2, .int .i64 y3, .int .i64 y4, .string y5]] W fun r w' => r = .returned (.int .i64 0) ∧ Below W.heap.size W w') := fun W => by have h := oCompare_any ⟨x1, x2, x3, x4, x5⟩ ⟨y1, y2, y3, y4, y5⟩ HFx.out HFy.out W; rw [HCc.out] at h; exact h
              have hpq : ¬ xp = yp := fun e => by
                subst e
                exact HVv.out (mid_same HMx.out HMy.out).2
              obtain ⟨cx0, cx1, cx2, cx3, cx4, cx5, cx6⟩ := HSx.out _ HI.out.lo
              obtain ⟨cy0, cy1, cy2, cy3, cy4, cy5, cy6⟩ := HSy.out _ HI.out.lo
              have hpn : ∀ n, PtrNe (wr.drewN n) (some ⟨xp, 0, none⟩) (some ⟨yp, 0, none⟩) := fun n => mid_ne (midL HMx.out (below_toDrewN3 HI.out.lo n)) (midL HMy.out (below_toDrewN3 HI.out.lo n)) hpq
              go_upto_region 11 with fail
              go_quiet (fail)
              clear hpn
              have HLd : Hid (Below w3.heap.size w3 (wr.drewN nq)) := below_toDrewN3 HI.out.lo _
              have HOd : Hid (OwnK kD w3.heap.size (wr.drewN nq) u5 E) := HI.out.ow.later (below_toDrewN3 (Below.refl _ _) _)
              generalize wr.drewN nq = wd at *
              clear cx0 cx1 cx2 cx3 cx4 cx5 cx6 cy0 cy1 cy2 cy3 cy4 cy5 cy6
              obtain ⟨cx0, cx1, cx2, cx3, cx4, cx5, cx6⟩ := HSx.out _ HLd.out
              obtain ⟨cy0, cy1, cy2, cy3, cy4, cy5, cy6⟩ := HSy.out _ HLd.out
              go_upto_region 12 with fail
              go_region_held3 (fun W => W.cell? ⟨gx, ox, none⟩ = some (.pointer (some ⟨xp, 0, none⟩)) ∧ W.cell? ⟨xp, 2, none⟩ = some (.int .i64 x1) ∧ W.cell? ⟨xp, 3, none⟩ = some (.string x2) ∧ W.cell? ⟨xp, 4, none⟩ = some (.int .i64 x3) ∧ W.cell? ⟨xp, 5, none⟩ = some (.int .i64 x4) ∧ W.cell? ⟨xp, 6, none⟩ = some (.string x5) ∧ W.cell? ⟨xp, 7, none⟩ = some (.string xv) ∧ W.cell? ⟨gy, oy, none⟩ = some (.pointer (some ⟨yp, 0, none⟩)) ∧ W.cell? ⟨yp, 2, none⟩ = some (.int .i64 y1) ∧ W.cell? ⟨yp, 3, none⟩ = some (.string y2) ∧ W.cell? ⟨yp, 4, none⟩ = some (.int .i64 y3) ∧ W.cell? ⟨yp, 5, none⟩ = some (.int .i64 y4) ∧ W.cell? ⟨yp, 6, none⟩ = some (.string y5) ∧ W.cell? ⟨yp, 7, none⟩ = some (.string yv)) (first | with_reducible exact S1.out | with_reducible exact ⟨cx0, cx1, cx2, cx3, cx4, cx5, cx6, cy0, cy1, cy2, cy3, cy4, cy5, cy6⟩ | go_keep)
                (first
                  | (go_at_call 57; refine (HCm.out _).mono ?_; rintro r w9 ⟨rfl, hb⟩; have hb9 : Below wd.heap.size wd w9 := ((Below.refl _ _).drew).trans hb; have HL9 : Hid (Below w3.heap.size w3 w9) := HLd.out.trans (hb9.mono HLd.out.size); have HO9 := Lib.hid (HOd.out.later hb9); have S1 : Hid (w9.cell? ⟨gx, ox, none⟩ = some (.pointer (some ⟨xp, 0, none⟩)) ∧ w9.cell? ⟨xp, 2, none⟩ = some (.int .i64 x1) ∧ w9.cell? ⟨xp, 3, none⟩ = some (.string x2) ∧ w9.cell? ⟨xp, 4, none⟩ = some (.int .i64 x3) ∧ w9.cell? ⟨xp, 5, none⟩ = some (.int .i64 x4) ∧ w9.cell? ⟨xp, 6, none⟩ = some (.string x5) ∧ w9.cell? ⟨xp, 7, none⟩ = some (.string xv) ∧ w9.cell? ⟨gy, oy, none⟩ = some (.pointer (some ⟨yp, 0, none⟩)) ∧ w9.cell? ⟨yp, 2, none⟩ = some (.int .i64 y1) ∧ w9.cell? ⟨yp, 3, none⟩ = some (.string y2) ∧ w9.cell? ⟨yp, 4, none⟩ = some (.int .i64 y3) ∧ w9.cell? ⟨yp, 5, none⟩ = some (.int .i64 y4) ∧ w9.cell? ⟨yp, 6, none⟩ = some (.string y5) ∧ w9.cell? ⟨yp, 7, none⟩ = some (.string yv)) := ⟨((bcell hb9).1 _ _ (World.block_lt_of_cell? wd _ cx0)).trans cx0, ((bcell hb9).1 _ _ (World.block_lt_of_cell? wd _ cx1)).trans cx1, ((bcell hb9).1 _ _ (World.block_lt_of_cell? wd _ cx2)).trans cx2, ((bcell hb9).1 _ _ (World.block_lt_of_cell? wd _ cx3)).trans cx3, ((bcell hb9).1 _ _ (World.block_lt_of_cell? wd _ cx4)).trans cx4, ((bcell hb9).1 _ _ (World.block_lt_of_cell? wd _ cx5)).trans cx5, ((bcell hb9).1 _ _ (World.block_lt_of_cell? wd _ cx6)).trans cx6, ((bcell hb9).1 _ _ (World.block_lt_of_cell? wd _ cy0)).trans cy0, ((bcell hb9).1 _ _ (World.block_lt_of_cell? wd _ cy1)).trans cy1, ((bcell hb9).1 _ _ (World.block_lt_of_cell? wd _ cy2)).trans cy2, ((bcell hb9).1 _ _ (World.block_lt_of_cell? wd _ cy3)).trans cy3, ((bcell hb9).1 _ _ (World.block_lt_of_cell? wd _ cy4)).trans cy4, ((bcell hb9).1 _ _ (World.block_lt_of_cell? wd _ cy5)).trans cy5, ((bcell hb9).1 _ _ (World.block_lt_of_cell? wd _ cy6)).trans cy6⟩; clear hb hb9)
                  | fail)
              go_wp2
              go_meet
              exact ⟨rfl, HO9, HL9⟩
            case rest =>
              obtain ⟨rfl, HOc, HLc⟩ := hcut
              go_upto_block 3 with fail
              go_cut [5] (fun cv wx => Hid (OwnK kD w3.heap.size wx cv (E ++ [⟨⟨y1, y2, y3, y4, y5⟩, yv, false⟩])) ∧ Hid (Below w3.heap.size w3 wx))
              case first =>
                obtain ⟨cx0, cx1, cx2, cx3, cx4, cx5, cx6⟩ := HSx.out _ HLc.out
                obtain ⟨cy0, cy1, cy2, cy3, cy4, cy5, cy6⟩ := HSy.out _ HLc.out
                have hvv : (xv.toList == yv.toList) = false := by rw [Bool.eq_false_iff]; intro h; exact HVv.out (by have := str_beq xv yv; rw [h] at this; simpa using this.symm)
                go_upto_region 15 with fail
                go_quiet (fail)
                have HLd : Hid (Below w3.heap.size w3 (wc.drewN nq)) := below_toDrewN3 HLc.out _
                have HOd : Hid (OwnK kD w3.heap.size (wc.drewN nq) u5 E) := HOc.out.later (below_toDrewN3 (Below.refl _ _) _)
                generalize wc.drewN nq = wd at *
                clear cx0 cx1 cx2 cx3 cx4 cx5 cx6 cy0 cy1 cy2 cy3 cy4 cy5 cy6
                obtain ⟨cy0, cy1, cy2, cy3, cy4, cy5, cy6⟩ := HSy.out _ HLd.out
                go_upto_region 16 with fail
                clear hvv
                have HOa : Hid (∀ o, OwnK kD w3.heap.size (wd.alloc o).drew u5 E) := fun o => HOd.out.later (((Below.refl _ _).alloc (Nat.le_refl _) _).drew)
                have HLa2 : Hid (∀ o, Below w3.heap.size w3 (wd.alloc o).drew) := fun o => (HLd.out.alloc HLd.out.size _).drew
                have HNa : Hid (∀ o, (wd.alloc o).drew.heap[wd.heap.size]? = some o) := fun o => heap_alloc_new wd o
                go_region_law (first
                  | (refine step_append_K (K := kD) (by rfl) _ _ (by rfl) w3.heap.size u5 E (by rfl) (HOa.out _) (.slice (some ⟨wd.heap.size, 0, none⟩) 1 1) [⟨⟨y1, y2, y3, y4, y5⟩, yv, false⟩] (by rfl) (RowK.one (HNa.out _) rfl) HEl.out (HLa2.out _).size ?_; intro v9 w9 hrow9 hg9 hat9; have HO9 : Hid (OwnK kD w3.heap.size w9 v9 (E ++ [⟨⟨y1, y2, y3, y4, y5⟩, yv, false⟩])) := hrow9; have HL9 : Hid (Below w3.heap.size w3 w9) := OwnK.below (HOa.out _) hg9 (HLa2.out _) (Nat.le_refl _); clear hrow9 hg9 hat9)
                  | fail)
                all_goals
                  go_wp2
                  go_meet
                  exact ⟨HO9, HL9⟩
              case rest =>
                obtain ⟨HO2, HL2⟩ := hcut
                by_cases hkx : kx = 1
                · subst hkx
                  by_cases hky : ky = 1
                  · subst hky
                    go_wp2
                    go_roundg (A'.length + C'.length)
                    case measure => have h := Hg.out; simp only [List.length_cons, List.length_nil] at h ⊢; omega
                    case rel => exact ⟨A', C', E ++ [⟨⟨y1, y2, y3, y4, y5⟩, yv, false⟩], rfl, ⟨(by have h := HTx.out; simp only [↓reduceIte] at h; exact h), (by have h := HTy.out; simp only [↓reduceIte] at h; exact h), (fun z hz => HI.out.ia z (List.mem_cons_of_mem _ hz)), (fun z hz => HI.out.ib z (List.mem_cons_of_mem _ hz)), by rw [List.append_assoc, ← HE.out]; exact HI.out.eq, HO2.out, HL2.out⟩⟩
                  · go_wp2
                    go_roundg (A'.length + C'.length)
                    case measure => have h := Hg.out; simp only [List.length_cons, List.length_nil] at h ⊢; omega
                    case rel => exact ⟨A', C', E ++ [⟨⟨y1, y2, y3, y4, y5⟩, yv, false⟩], rfl, ⟨(by have h := HTx.out; simp only [↓reduceIte] at h; exact h), (by have h := HTy.out; rw [if_neg hky] at h; exact h), (fun z hz => HI.out.ia z (List.mem_cons_of_mem _ hz)), (fun z hz => HI.out.ib z (List.mem_cons_of_mem _ hz)), by rw [List.append_assoc, ← HE.out]; exact HI.out.eq, HO2.out, HL2.out⟩⟩
                · by_cases hky : ky = 1
                  · subst hky
                    go_wp2
                    go_roundg (A'.length + C'.length)
                    case measure => have h := Hg.out; simp only [List.length_cons, List.length_nil] at h ⊢; omega
                    case rel => exact ⟨A', C', E ++ [⟨⟨y1, y2, y3, y4, y5⟩, yv, false⟩], rfl, ⟨(by have h := HTx.out; rw [if_neg hkx] at h; exact h), (by have h := HTy.out; simp only [↓reduceIte] at h; exact h), (fun z hz => HI.out.ia z (List.mem_cons_of_mem _ hz)), (fun z hz => HI.out.ib z (List.mem_cons_of_mem _ hz)), by rw [List.append_assoc, ← HE.out]; exact HI.out.eq, HO2.out, HL2.out⟩⟩
                  · go_wp2
                    go_roundg (A'.length + C'.length)
                    case measure => have h := Hg.out; simp only [List.length_cons, List.length_nil] at h ⊢; omega
                    case rel => exact ⟨A', C', E ++ [⟨⟨y1, y2, y3, y4, y5⟩, yv, false⟩], rfl, ⟨(by have h := HTx.out; rw [if_neg hkx] at h; exact h), (by have h := HTy.out; rw [if_neg hky] at h; exact h), (fun z hz => HI.out.ia z (List.mem_cons_of_mem _ hz)), (fun z hz => HI.out.ib z (List.mem_cons_of_mem _ hz)), by rw [List.append_assoc, ← HE.out]; exact HI.out.eq, HO2.out, HL2.out⟩⟩
        · have HCc := Lib.hid hcc
          clear hcc
          have HE : Hid (diffN (⟨xp, ⟨x1, x2, x3, x4, x5⟩, xv⟩ :: A') (⟨yp, ⟨y1, y2, y3, y4, y5⟩, yv⟩ :: C') = [⟨⟨y1, y2, y3, y4, y5⟩, yv, false⟩] ++ diffN (⟨xp, ⟨x1, x2, x3, x4, x5⟩, xv⟩ :: A') C') := by show _ = _; rw [diffN, if_neg (by rw [HCc.out]; decide), if_pos (by rw [HCc.out]; decide)]; rfl
          go_upto_block 2 with fail
          go_cut [8] (fun cv wx => cv = .int .i64 1 ∧ Hid (OwnK kD w3.heap.size wx u5 E) ∧ Hid (Below w3.heap.size w3 wx))
          case first =>
            have HCm : Hid (∀ W, Calls Tryz.prog 57 #[.agg #[.int .i64 x1, .string x2, .int .i64 x3, .int .i64 x4, .string x5], .agg #[.int .i64 y1, .string y2, .int .i64 y3, .int .i64 y4, .string y5]] W fun r w' => r = .returned (.int .i64 1) ∧ Below W.heap.size W w') := fun W => by have h := oCompare_any ⟨x1, x2, x3, x4, x5⟩ ⟨y1, y2, y3, y4, y5⟩ HFx.out HFy.out W; rw [HCc.out] at h; exact h
            have hpq : ¬ xp = yp := fun e => by
              subst e
              have h : (⟨x1, x2, x3, x4, x5⟩ : NameT) = ⟨y1, y2, y3, y4, y5⟩ := (mid_same HMx.out HMy.out).1
              have h2 := HCc.out
              rw [h, cmpN_ok.refl] at h2
              exact absurd h2 (by decide)
            obtain ⟨cx0, cx1, cx2, cx3, cx4, cx5, cx6⟩ := HSx.out _ HI.out.lo
            obtain ⟨cy0, cy1, cy2, cy3, cy4, cy5, cy6⟩ := HSy.out _ HI.out.lo
            have hpn : ∀ n, PtrNe (wr.drewN n) (some ⟨xp, 0, none⟩) (some ⟨yp, 0, none⟩) := fun n => mid_ne (midL HMx.out (below_toDrewN3 HI.out.lo n)) (midL HMy.out (below_toDrewN3 HI.out.lo n)) hpq
            go_upto_region 11 with fail
            go_quiet (fail)
            clear hpn
            have HLd : Hid (Below w3.heap.size w3 (wr.drewN nq)) := below_toDrewN3 HI.out.lo _
            have HOd : Hid (OwnK kD w3.heap.size (wr.drewN nq) u5 E) := HI.out.ow.later (below_toDrewN3 (Below.refl _ _) _)
            generalize wr.drewN nq = wd at *
            clear cx0 cx1 cx2 cx3 cx4 cx5 cx6 cy0 cy1 cy2 cy3 cy4 cy5 cy6
            obtain ⟨cx0, cx1, cx2, cx3, cx4, cx5, cx6⟩ := HSx.out _ HLd.out
            obtain ⟨cy0, cy1, cy2, cy3, cy4, cy5, cy6⟩ := HSy.out _ HLd.out
            go_upto_region 12 with fail
            go_region_held3 (fun W => W.cell? ⟨gx, ox, none⟩ = some (.pointer (some ⟨xp, 0, none⟩)) ∧ W.cell? ⟨xp, 2, none⟩ = some (.int .i64 x1) ∧ W.cell? ⟨xp, 3, none⟩ = some (.string x2) ∧ W.cell? ⟨xp, 4, none⟩ = some (.int .i64 x3) ∧ W.cell? ⟨xp, 5, none⟩ = some (.int .i64 x4) ∧ W.cell? ⟨xp, 6, none⟩ = some (.string x5) ∧ W.cell? ⟨xp, 7, none⟩ = some (.string xv) ∧ W.cell? ⟨gy, oy, none⟩ = some (.pointer (some ⟨yp, 0, none⟩)) ∧ W.cell? ⟨yp, 2, none⟩ = some (.int .i64 y1) ∧ W.cell? ⟨yp, 3, none⟩ = some (.string y2) ∧ W.cell? ⟨yp, 4, none⟩ = some (.int .i64 y3) ∧ W.cell? ⟨yp, 5, none⟩ = some (.int .i64 y4) ∧ W.cell? ⟨yp, 6, none⟩ = some (.string y5) ∧ W.cell? ⟨yp, 7, none⟩ = some (.string yv)) (first | with_reducible exact S1.out | with_reducible exact ⟨cx0, cx1, cx2, cx3, cx4, cx5, cx6, cy0, cy1, cy2, cy3, cy4, cy5, cy6⟩ | go_keep)
              (first
                | (go_at_call 57; refine (HCm.out _).mono ?_; rintro r w9 ⟨rfl, hb⟩; have hb9 : Below wd.heap.size wd w9 := ((Below.refl _ _).drew).trans hb; have HL9 : Hid (Below w3.heap.size w3 w9) := HLd.out.trans (hb9.mono HLd.out.size); have HO9 := Lib.hid (HOd.out.later hb9); have S1 : Hid (w9.cell? ⟨gx, ox, none⟩ = some (.pointer (some ⟨xp, 0, none⟩)) ∧ w9.cell? ⟨xp, 2, none⟩ = some (.int .i64 x1) ∧ w9.cell? ⟨xp, 3, none⟩ = some (.string x2) ∧ w9.cell? ⟨xp, 4, none⟩ = some (.int .i64 x3) ∧ w9.cell? ⟨xp, 5, none⟩ = some (.int .i64 x4) ∧ w9.cell? ⟨xp, 6, none⟩ = some (.string x5) ∧ w9.cell? ⟨xp, 7, none⟩ = some (.string xv) ∧ w9.cell? ⟨gy, oy, none⟩ = some (.pointer (some ⟨yp, 0, none⟩)) ∧ w9.cell? ⟨yp, 2, none⟩ = some (.int .i64 y1) ∧ w9.cell? ⟨yp, 3, none⟩ = some (.string y2) ∧ w9.cell? ⟨yp, 4, none⟩ = some (.int .i64 y3) ∧ w9.cell? ⟨yp, 5, none⟩ = some (.int .i64 y4) ∧ w9.cell? ⟨yp, 6, none⟩ = some (.string y5) ∧ w9.cell? ⟨yp, 7, none⟩ = some (.string yv)) := ⟨((bcell hb9).1 _ _ (World.block_lt_of_cell? wd _ cx0)).trans cx0, ((bcell hb9).1 _ _ (World.block_lt_of_cell? wd _ cx1)).trans cx1, ((bcell hb9).1 _ _ (World.block_lt_of_cell? wd _ cx2)).trans cx2, ((bcell hb9).1 _ _ (World.block_lt_of_cell? wd _ cx3)).trans cx3, ((bcell hb9).1 _ _ (World.block_lt_of_cell? wd _ cx4)).trans cx4, ((bcell hb9).1 _ _ (World.block_lt_of_cell? wd _ cx5)).trans cx5, ((bcell hb9).1 _ _ (World.block_lt_of_cell? wd _ cx6)).trans cx6, ((bcell hb9).1 _ _ (World.block_lt_of_cell? wd _ cy0)).trans cy0, ((bcell hb9).1 _ _ (World.block_lt_of_cell? wd _ cy1)).trans cy1, ((bcell hb9).1 _ _ (World.block_lt_of_cell? wd _ cy2)).trans cy2, ((bcell hb9).1 _ _ (World.block_lt_of_cell? wd _ cy3)).trans cy3, ((bcell hb9).1 _ _ (World.block_lt_of_cell? wd _ cy4)).trans cy4, ((bcell hb9).1 _ _ (World.block_lt_of_cell? wd _ cy5)).trans cy5, ((bcell hb9).1 _ _ (World.block_lt_of_cell? wd _ cy6)).trans cy6⟩; clear hb hb9)
                | fail)
            go_wp2
            go_meet
            exact ⟨rfl, HO9, HL9⟩
          case rest =>
            obtain ⟨rfl, HOc, HLc⟩ := hcut
            go_upto_block 3 with fail
            go_cut [5] (fun cv wx => Hid (OwnK kD w3.heap.size wx cv (E ++ [⟨⟨y1, y2, y3, y4, y5⟩, yv, false⟩])) ∧ Hid (Below w3.heap.size w3 wx))
            case first =>
              obtain ⟨cx0, cx1, cx2, cx3, cx4, cx5, cx6⟩ := HSx.out _ HLc.out
              obtain ⟨cy0, cy1, cy2, cy3, cy4, cy5, cy6⟩ := HSy.out _ HLc.out
              go_upto_region 15 with fail
              go_quiet (fail)
              have HLd : Hid (Below w3.heap.size w3 (wc.drewN nq)) := below_toDrewN3 HLc.out _
              have HOd : Hid (OwnK kD w3.heap.size (wc.drewN nq) u5 E) := HOc.out.later (below_toDrewN3 (Below.refl _ _) _)
              generalize wc.drewN nq = wd at *
              clear cx0 cx1 cx2 cx3 cx4 cx5 cx6 cy0 cy1 cy2 cy3 cy4 cy5 cy6
              obtain ⟨cy0, cy1, cy2, cy3, cy4, cy5, cy6⟩ := HSy.out _ HLd.out
              go_upto_region 16 with fail
              have HOa : Hid (∀ o, OwnK kD w3.heap.size (wd.alloc o).drew u5 E) := fun o => HOd.out.later (((Below.refl _ _).alloc (Nat.le_refl _) _).drew)
              have HLa2 : Hid (∀ o, Below w3.heap.size w3 (wd.alloc o).drew) := fun o => (HLd.out.alloc HLd.out.size _).drew
              have HNa : Hid (∀ o, (wd.alloc o).drew.heap[wd.heap.size]? = some o) := fun o => heap_alloc_new wd o
              go_region_law (first
                | (refine step_append_K (K := kD) (by rfl) _ _ (by rfl) w3.heap.size u5 E (by rfl) (HOa.out _) (.slice (some ⟨wd.heap.size, 0, none⟩) 1 1) [⟨⟨y1, y2, y3, y4, y5⟩, yv, false⟩] (by rfl) (RowK.one (HNa.out _) rfl) HEl.out (HLa2.out _).size ?_; intro v9 w9 hrow9 hg9 hat9; have HO9 : Hid (OwnK kD w3.heap.size w9 v9 (E ++ [⟨⟨y1, y2, y3, y4, y5⟩, yv, false⟩])) := hrow9; have HL9 : Hid (Below w3.heap.size w3 w9) := OwnK.below (HOa.out _) hg9 (HLa2.out _) (Nat.le_refl _); clear hrow9 hg9 hat9)
                | fail)
              all_goals
                go_wp2
                go_meet
                exact ⟨HO9, HL9⟩
            case rest =>
              obtain ⟨HO2, HL2⟩ := hcut
              by_cases hky : ky = 1
              · subst hky
                go_wp2
                go_roundg ((⟨xp, ⟨x1, x2, x3, x4, x5⟩, xv⟩ :: A').length + C'.length)
                case measure => have h := Hg.out; simp only [List.length_cons, List.length_nil] at h ⊢; omega
                case rel => exact ⟨(⟨xp, ⟨x1, x2, x3, x4, x5⟩, xv⟩ :: A'), C', E ++ [⟨⟨y1, y2, y3, y4, y5⟩, yv, false⟩], rfl, ⟨HI.out.ra, (by have h := HTy.out; simp only [↓reduceIte] at h; exact h), HI.out.ia, (fun z hz => HI.out.ib z (List.mem_cons_of_mem _ hz)), by rw [List.append_assoc, ← HE.out]; exact HI.out.eq, HO2.out, HL2.out⟩⟩
              · go_wp2
                go_roundg ((⟨xp, ⟨x1, x2, x3, x4, x5⟩, xv⟩ :: A').length + C'.length)
                case measure => have h := Hg.out; simp only [List.length_cons, List.length_nil] at h ⊢; omega
                case rel => exact ⟨(⟨xp, ⟨x1, x2, x3, x4, x5⟩, xv⟩ :: A'), C', E ++ [⟨⟨y1, y2, y3, y4, y5⟩, yv, false⟩], rfl, ⟨HI.out.ra, (by have h := HTy.out; rw [if_neg hky] at h; exact h), HI.out.ia, (fun z hz => HI.out.ib z (List.mem_cons_of_mem _ hz)), by rw [List.append_assoc, ← HE.out]; exact HI.out.eq, HO2.out, HL2.out⟩⟩
end Go.Proofs.YthghfhnicdoebaaGreatDoor
