/- graph: New. (printed by wip/gen_gmw.py) -/
import Derived.Test.YteiddebjbiadbaaGmN
namespace Go.Proofs.Yteiddebjbiadbaa
open Go.RowKit Gr
attribute [local go_sem ↓] Go.wp_at_zero Go.wp_at_succ

def goodE (n : Nat) (e : Int × Int) : Prop := (0 ≤ e.1 ∧ e.1 < n) ∧ 0 ≤ e.2 ∧ e.2 < n
instance (n : Nat) (e : Int × Int) : Decidable (goodE n e) := by unfold goodE; infer_instance
def toEd (e : Int × Int) : Ed := (e.1.toNat, e.2.toNat)
def esOf (l : List (Int × Int)) : List Ed := refNew (l.map toEd)
theorem nodeB_iff {n : Nat} {x : Int} : nodeB n x = true ↔ 0 ≤ x ∧ x < n := by unfold nodeB; simp
theorem RowK.keptC {α : Type} {K : KindK α} {w w' : World} {v : Value} {xs : List α} (h : RowK K w v xs) (hk : ∀ k, v.ownBlock = some k → w'.heap[k]? = w.heap[k]?) : RowK K w' v xs := by
  rcases h with h | ⟨g, off, c, rfl, hc, hx⟩
  · exact .inl h
  · exact .inr ⟨g, off, c, rfl, hc, fun j x hj i u hu => (World.cell?_of_block (a := ⟨g, off + j * K.S + i, none⟩) (hk g rfl)).trans (hx j x hj i u hu)⟩
def NewOk (w : World) (n : Nat) (l : List (Int × Int)) (r : Ending) (w' : World) : Prop := ∃ p, r = .returned (.tuple #[.pointer (some ⟨p, 0, none⟩), .int .i64 0]) ∧ GOk w' p n (aft (esOf l)) (bef (esOf l)) ∧ w.heap.size ≤ p ∧ ∀ W', (∀ k, w.heap.size ≤ k → k < w'.heap.size → W'.heap[k]? = w'.heap[k]?) → GOk W' p n (aft (esOf l)) (bef (esOf l))
def NewPost (w : World) (nodes : Int) (l : List (Int × Int)) (r : Ending) (w' : World) : Prop :=
  Below w.heap.size w w' ∧ (((nodes < 0 ∨ 4096 < nodes) ∧ r = .returned (.tuple #[.pointer none, .int .i64 2])) ∨ ((0 ≤ nodes ∧ nodes ≤ 4096) ∧ 65536 < l.length ∧ r = .returned (.tuple #[.pointer none, .int .i64 9]))
    ∨ ((0 ≤ nodes ∧ nodes ≤ 4096) ∧ l.length ≤ 65536 ∧ (∃ e ∈ l, ¬ goodE nodes.toNat e) ∧ r = .returned (.tuple #[.pointer none, .int .i64 8])) ∨ ((0 ≤ nodes ∧ nodes ≤ 4096) ∧ l.length ≤ 65536 ∧ (∀ e ∈ l, goodE nodes.toNat e) ∧ NewOk w nodes.toNat l r w'))
theorem start_facts (w : World) (n a b : Nat) {W : World} (hW : W = (((w.alloc (.cells (madeCells #[.slice none 0 0] n) 30)).alloc (.cells (madeCells #[.slice none 0 0] n) 30)).alloc (.cells #[.slice (some ⟨a, 0, none⟩) n n, .slice (some ⟨b, 0, none⟩) n n] 76)).drew) (hab : (a = w.heap.size ∧ b = w.heap.size + 1) ∨ (a = w.heap.size + 1 ∧ b = w.heap.size)) :
    RowIs W (w.heap.size + 1 + 1) 76 [.slice (some ⟨a, 0, none⟩) n n, .slice (some ⟨b, 0, none⟩) n n] ∧ RowIs W a 30 (List.replicate n (.slice none 0 0)) ∧ RowIs W b 30 (List.replicate n (.slice none 0 0))
    ∧ a ≠ b ∧ w.heap.size ≤ w.heap.size + 1 + 1 ∧ w.heap.size ≤ a ∧ w.heap.size ≤ b ∧ Below w.heap.size w W := by
  subst hW
  obtain ⟨x1, hx1⟩ : ∃ x1, w.alloc (.cells (madeCells #[.slice none 0 0] n) 30) = x1 := ⟨_, rfl⟩
  have z1 : x1.heap.size = w.heap.size + 1 := by rw [← hx1, World.size_alloc]
  have r1 : RowIs x1 w.heap.size 30 (List.replicate n (.slice none 0 0)) := by rw [← hx1]; exact made_row _ _ _ _
  have b1 : Below w.heap.size w x1 := by rw [← hx1]; exact (Below.refl _ _).alloc (Nat.le_refl _) _
  rw [hx1]
  obtain ⟨x2, hx2⟩ : ∃ x2, x1.alloc (.cells (madeCells #[.slice none 0 0] n) 30) = x2 := ⟨_, rfl⟩
  have z2 : x2.heap.size = w.heap.size + 1 + 1 := by rw [← hx2, World.size_alloc, z1]
  have r2 : RowIs x2 (w.heap.size + 1) 30 (List.replicate n (.slice none 0 0)) := by rw [← hx2, ← z1]; exact made_row _ _ _ _
  have b2 : Below x1.heap.size x1 x2 := by rw [← hx2]; exact (Below.refl _ _).alloc (Nat.le_refl _) _
  rw [hx2]
  have b3 : Below x2.heap.size x2 (x2.alloc (.cells #[.slice (some ⟨a, 0, none⟩) n n, .slice (some ⟨b, 0, none⟩) n n] 76)) := (Below.refl _ _).alloc (Nat.le_refl _) _
  have r3 := new_row x2 76 [.slice (some ⟨a, 0, none⟩) n n, .slice (some ⟨b, 0, none⟩) n n]
  rw [z2] at r3
  have hb : Below w.heap.size w (x2.alloc (.cells #[.slice (some ⟨a, 0, none⟩) n n, .slice (some ⟨b, 0, none⟩) n n] 76)) := (b1.trans (b2.mono (by omega))).trans (b3.mono (by omega))
  have f1 := (r1.later b2).later b3
  have f2 := r2.later b3
  clear b3 b2 b1 r1 r2 hx2 hx1 z1
  rcases hab with ⟨rfl, rfl⟩ | ⟨rfl, rfl⟩
  · exact ⟨r3, f1, f2, by omega, by omega, by omega, by omega, hb.drew⟩
  · exact ⟨r3, f2, f1, by omega, by omega, by omega, by omega, hb.drew⟩
theorem nilRow_at {w : World} {g n : Nat} (h : RowIs w g 30 (List.replicate n (.slice none 0 0))) : RowsAt w g n (fun _ => []) := fun i hi => ⟨.slice none 0 0, h.cell (by rw [List.getElem?_replicate, if_pos hi]), RowK.nil _⟩
theorem RowK.edge {w : World} {a : Option Addr} {m c : Nat} {l : List (Int × Int)} (h : RowK kEdge w (.slice a m c) l) {j : Nat} {e : Int × Int} (hj : l[j]? = some e) : ∃ g off, a = some ⟨g, off, none⟩ ∧ w.cell? ⟨g, off + j * 2, none⟩ = some (.int .i64 e.1) ∧ w.cell? ⟨g, off + j * 2 + 1, none⟩ = some (.int .i64 e.2) := by
  obtain ⟨g, off, rfl, hc⟩ := h.at_ hj
  exact ⟨g, off, rfl, hc 0 _ rfl, hc 1 _ rfl⟩
/-- A row of edges of the call's own, or none. -/
def EdRow (base : Nat) (w : World) (v : Value) (l : List (Int × Int)) : Prop := (v = .slice none 0 0 ∧ l = []) ∨ ∃ g cap, v = .slice (some ⟨g, 0, none⟩) l.length cap ∧ HoldE w g l ∧ base ≤ g ∧ g < w.heap.size ∧ l.length ≤ cap
theorem own_edRow {base : Nat} {w : World} {v : Value} {l : List (Int × Int)} (h : OwnK kEdge base w v l) : EdRow base w v l := by
  have hh := h
  rcases hh.2 with ⟨hv, h0⟩ | ⟨g, cap, cur, hv, hg, hblk, hnc, _, hsz, ht⟩
  · exact .inl ⟨hv, List.length_eq_zero_iff.1 h0⟩
  · have hrow := h.row
    rw [hv] at hrow
    refine .inr ⟨g, cap, hv, fun i e hi => ?_, hg, lt_of_heap hblk, hnc⟩
    obtain ⟨g', off, e1, c1, c2⟩ := hrow.edge hi
    cases e1
    rw [Nat.zero_add] at c1 c2
    exact ⟨c1, c2, frozen_of_heap hblk _, frozen_of_heap hblk _⟩
theorem EdRow.later {base : Nat} {w w' : World} {v : Value} {l : List (Int × Int)} (h : EdRow base w v l) (hb : Below w.heap.size w w') : EdRow base w' v l := by
  rcases h with h | ⟨g, cap, h1, h2, h3, h4, h5⟩
  · exact .inl h
  · exact .inr ⟨g, cap, h1, h2.later hb, h3, Nat.lt_of_lt_of_le h4 hb.size, h5⟩
theorem sort2_any {base : Nat} {w : World} {v : Value} {l : List (Int × Int)} (h : EdRow base w v l) (hl : l.length ≤ 1000000) :
    Calls Try.prog 44 #[v, .func (.func 45) #[] #[]] w fun r w' => r = .returned (.tuple #[]) ∧ ∃ l', l'.Perm l ∧ l'.Pairwise (fun a b => ¬ ltI b a) ∧ EdRow base w' v l' ∧ Below base w w' := by
  rcases h with ⟨rfl, rfl⟩ | ⟨g, cap, rfl, h2, h3, h4, h5⟩
  · refine (AnyF.slices_SortFunc_none sortEd none 0 (.func (.func 45) #[] #[]) w).mono ?_
    rintro e w' ⟨rfl, rfl⟩
    exact ⟨rfl, [], .nil, .nil, .inl ⟨rfl, rfl⟩, Below.refl _ _⟩
  · refine (sortE_any h2 h3 h4 hl).mono ?_
    rintro r w' ⟨rfl, l', hp, hs, hH, hb⟩
    exact ⟨rfl, l', hp, hs, .inr ⟨g, cap, by rw [hp.length_eq], hH, h3, Nat.lt_of_lt_of_le h4 hb.size, by rw [hp.length_eq]; exact h5⟩, hb⟩
theorem compact_nil (w : World) : Calls Try.prog 48 #[.slice none 0 0] w fun r w' => r = .returned (.slice none 0 0) ∧ w' = w := by
  go_enter Try.func48, Try.ntmps48
  go_wp2
  go_ret
  exact ⟨rfl, rfl⟩
theorem compactL_len {α : Type} [DecidableEq α] (l : List α) : (compactL l).length ≤ l.length := by
  have gen : ∀ (xs : List α) (p : α), (compactG p xs).length ≤ xs.length := by
    intro xs
    induction xs with
    | nil => intro p; exact Nat.le_refl _
    | cons x xs ih =>
      intro p
      unfold compactG
      split
      · have := ih p; simp; omega
      · have := ih x; simp; omega
  cases l with
  | nil => exact Nat.le_refl _
  | cons x xs => have := gen xs x; show (compactG x xs).length + 1 ≤ _; simp; omega
theorem compact2_any {base : Nat} {w : World} {v : Value} {l : List (Int × Int)} (h : EdRow base w v l) (hl : l.length ≤ 1000000) :
    Calls Try.prog 48 #[v] w fun r w' => ∃ v', r = .returned v' ∧ EdRow base w' v' (compactL l) ∧ Below base w w' := by
  rcases h with ⟨rfl, rfl⟩ | ⟨g, cap, rfl, h2, h3, h4, h5⟩
  · refine (compact_nil w).mono ?_
    rintro r w' ⟨rfl, rfl⟩
    exact ⟨_, rfl, .inl ⟨rfl, rfl⟩, Below.refl _ _⟩
  · refine (compact_any h2 h3 h4 hl h5).mono ?_
    rintro r w' ⟨rfl, hH, hb⟩
    exact ⟨_, rfl, .inr ⟨g, cap, rfl, hH, h3, Nat.lt_of_lt_of_le h4 hb.size, Nat.le_trans (compactL_len l) h5⟩, hb⟩
def ofEd (e : Ed) : Int × Int := ((e.1 : Int), (e.2 : Int))
theorem ofEd_inj (a b : Ed) (h : ofEd a = ofEd b) : a = b := by
  unfold ofEd at h
  have h1 := congrArg Prod.fst h
  have h2 := congrArg Prod.snd h
  dsimp only at h1 h2
  exact Prod.ext (by omega) (by omega)
theorem ofEd_toEd {n : Nat} {e : Int × Int} (h : goodE n e) : ofEd (toEd e) = e := by
  obtain ⟨⟨h1, _⟩, h2, _⟩ := h
  unfold ofEd toEd
  exact Prod.ext (by show ((e.1.toNat : Nat) : Int) = e.1; omega) (by show ((e.2.toNat : Nat) : Int) = e.2; omega)
/-- What is left of sorted edges without equal neighbours. -/
theorem compact_es {n : Nat} {l s : List (Int × Int)} (hp : s.Perm l) (hs : s.Pairwise (fun a b => ¬ ltI b a)) (hg : ∀ e ∈ l, goodE n e) : compactL s = (esOf l).map ofEd := by
  have hgs : ∀ e ∈ s, goodE n e := fun e he => hg e (hp.mem_iff.1 he)
  have e1 : s = (s.map toEd).map ofEd := by
    rw [List.map_map]
    conv => lhs; rw [← List.map_id s]
    exact List.map_congr_left (fun e he => (ofEd_toEd (hgs e he)).symm)
  have e2 : compactL (s.map toEd) = esOf l := by
    refine compact_ref ?_ (fun e => (hp.map toEd).mem_iff)
    rw [List.pairwise_map]
    refine hs.imp_of_mem (fun {a b} ha hb h k => h ?_)
    obtain ⟨⟨a1, _⟩, a2, _⟩ := hgs a ha
    obtain ⟨⟨b1, _⟩, b2, _⟩ := hgs b hb
    unfold ltE toEd at k
    unfold ltI
    dsimp only at k
    omega
  conv => lhs; rw [e1]
  rw [compactL_map ofEd ofEd_inj, e2]
theorem es_ins {n : Nat} {l : List (Int × Int)} (hg : ∀ e ∈ l, goodE n e) : Ins n (esOf l) := refNew_ins (fun e he => by
  obtain ⟨x, hx, rfl⟩ := List.mem_map.1 he
  obtain ⟨⟨h1, h2⟩, h3, h4⟩ := hg x hx
  unfold toEd
  exact ⟨by show x.1.toNat < n; omega, by show x.2.toNat < n; omega⟩)
/-- New under way: the graph at p, its tables at ga and gb; no row lies in the block bx. -/
structure NwAt (w0 w3 : World) (base n ga gb p bx : Nat) (R : Bool → Nat → List Nat) (W : World) : Prop where
  bld : ∃ V, Bld base n (fun s => cond s ga gb) W V R ∧ ∀ s i, i < n → (V s i).ownBlock ≠ some bx
  g : RowIs W p 76 [.slice (some ⟨ga, 0, none⟩) n n, .slice (some ⟨gb, 0, none⟩) n n]
  low : Below w0.heap.size w0 W
  kept : ∀ k, k < base → k ≠ ga → k ≠ gb → W.heap[k]? = w3.heap[k]?
  pp : p < base ∧ p ≠ ga ∧ p ≠ gb
section
variable {w0 w3 : World} {base n ga gb p bx : Nat} {R : Bool → Nat → List Nat} {W W' : World}
theorem NwAt.later (h : NwAt w0 w3 base n ga gb p bx R W) (hb : Below W.heap.size W W') : NwAt w0 w3 base n ga gb p bx R W' := by
  obtain ⟨⟨V, hV, hx⟩, h2, h3, h4, h5⟩ := h
  exact ⟨⟨V, hV.later hb, hx⟩, h2.later hb, h3.trans (hb.mono h3.size), fun k hk h6 h7 => (hb.block k (Nat.lt_of_lt_of_le hk hV.le)).trans (h4 k hk h6 h7), h5⟩
theorem NwAt.box (h : NwAt w0 w3 base n ga gb p bx R W) (o : Obj) : NwAt w0 w3 base n ga gb p W.heap.size R (W.alloc o) := by
  have h' := h.later (W' := W.alloc o) ((Below.refl _ _).alloc (Nat.le_refl _) _)
  obtain ⟨⟨V, hV, hx⟩, _⟩ := h
  exact ⟨⟨V, hV.later ((Below.refl _ _).alloc (Nat.le_refl _) _), fun s i hi e => by have := ((hV.own s i hi).lt e).2; omega⟩, h'.g, h'.low, h'.kept, h'.pp⟩
theorem NwAt.unbox (h : NwAt w0 w3 base n ga gb p bx R W) : NwAt w0 w3 base n ga gb p p R W := by
  obtain ⟨⟨V, hV, hx⟩, h2, h3, h4, h5⟩ := h
  exact ⟨⟨V, hV, fun s i hi e => by have := ((hV.own s i hi).lt e).1; omega⟩, h2, h3, h4, h5⟩
theorem NwAt.put (h : NwAt w0 w3 base n ga gb p bx R W) {V : Bool → Nat → Value} (hV : Bld base n (fun s => cond s ga gb) W V R) (hx : ∀ s i, i < n → (V s i).ownBlock ≠ some bx) {s : Bool} {a : Nat} (ha : a < n) {v : Value} {xs : List Nat} (ho : OwnK kNat base W' v xs)
    (hg : W.grownBy W' (V s a).ownBlock) (hv : v.ownBlock = (V s a).ownBlock ∨ v.ownBlock = some W.heap.size) (hl : w0.heap.size ≤ ga ∧ w0.heap.size ≤ gb ∧ w0.heap.size ≤ base) (hbx : bx < W.heap.size) : NwAt w0 w3 base n ga gb p bx (putV R s a xs) (W'.setCell ⟨cond s ga gb, a, none⟩ v) := by
  have hB := hV.put ha ho hg (hv.imp id (fun e => ⟨_, e, Nat.le_refl _⟩))
  have hrow : ∀ k, (V s a).ownBlock = some k → base ≤ k := fun k hk => ((hV.own s a ha).lt hk).1
  have hne : ∀ k, k < base → some k ≠ (V s a).ownBlock := fun k hk q => by have := hrow k q.symm; omega
  have hcg : ∀ k, k ≠ ga → k ≠ gb → k ≠ cond s ga gb := fun k h1 h2 => by cases s <;> assumption
  refine ⟨⟨_, hB, fun s' i' hi' => ?_⟩, ?_, ?_, fun k hk h6 h7 => ?_, h.pp⟩
  · unfold putV
    by_cases e : s' = s ∧ i' = a
    · rw [if_pos e]
      rcases hv with q | q
      · rw [q]; exact hx s a ha
      · rw [q]; intro e2; cases e2; omega
    · rw [if_neg e]; exact hx s' i' hi'
  · refine RowIs.other_set (RowIs.kept h.g (hg.block p (RowIs.lt h.g) (hne p h.pp.1))) (Ne.symm (hcg p h.pp.2.1 h.pp.2.2)) _ _
  · have h1 : Below w0.heap.size w0 W' := below_grow h.low hg (Nat.le_refl _) (fun k hk => Nat.le_trans hl.2.2 (hrow k hk))
    exact h1.setCell (p := ⟨cond s ga gb, a, none⟩) (by cases s; exact hl.2.1; exact hl.1) _
  · have hkW := Nat.lt_of_lt_of_le hk hV.le
    have h1 := hg.block k hkW (hne k hk)
    rw [Below.heap_setCell W' ⟨cond s ga gb, a, none⟩ v k (hcg k h6 h7), h1]
    exact h.kept k hk h6 h7
end
theorem sorted_len {l : List Nat} {n : Nat} (hs : l.Pairwise (· < ·)) (h : ∀ x ∈ l, x < n) : l.length ≤ n := by
  have hn : l.Nodup := hs.imp (fun h => by omega)
  have := nodup_len hn (b := List.range n) (fun x hx => List.mem_range.2 (h x hx))
  simpa using this
set_option linter.unusedSimpArgs false in
set_option maxHeartbeats 1600000 in
theorem new_any {w : World} {nodes : Int} {v : Value} {l : List (Int × Int)} (h : RowK kEdge w v l) (hl : l.length ≤ 1000000) : Calls Try.prog 20 #[.int .i64 nodes, v] w (NewPost w nodes l) := by
  obtain ⟨av, cv, rfl, -⟩ := h.form
  have H := Lib.hid h
  clear h
  by_cases hn : nodes < 0
  · go_enter Try.func20, Try.ntmps20
    go_wp2
    refine bodyPost_ret (v := .tuple #[.pointer none, .int .i64 2]) (by simp [results, Try.results20, go_sem]) rfl ?_
    exact ⟨Below.refl _ _, .inl ⟨.inl hn, rfl⟩⟩
  by_cases hn2 : 4096 < nodes
  · have h0 : 0 ≤ nodes := by omega
    go_enter Try.func20, Try.ntmps20
    go_wp2
    refine bodyPost_ret (v := .tuple #[.pointer none, .int .i64 2]) (by simp [results, Try.results20, go_sem]) rfl ?_
    exact ⟨Below.refl _ _, .inl ⟨.inr hn2, rfl⟩⟩
  obtain ⟨n, rfl⟩ := Int.eq_ofNat_of_zero_le (by omega : 0 ≤ nodes)
  by_cases hlm : 65536 < l.length
  · have hlm2 : (65536 : Int) < (l.length : Int) := by omega
    have Hlm : Hid ((0 ≤ (n : Int) ∧ (n : Int) ≤ 4096) ∧ 65536 < l.length) := ⟨⟨by omega, by omega⟩, hlm⟩
    go_enter Try.func20, Try.ntmps20
    go_wp2
    refine bodyPost_ret (v := .tuple #[.pointer none, .int .i64 9]) (by simp [results, Try.results20, go_sem]) rfl ?_
    exact ⟨Below.refl _ _, .inr (.inl ⟨Hlm.out.1, Hlm.out.2, rfl⟩)⟩
  have hlm2 : ¬ (65536 : Int) < (l.length : Int) := by omega
  have Hn : Hid (n ≤ 4096 ∧ l.length ≤ 65536) := ⟨by omega, by omega⟩
  have hmk := run_make_row' (P := Try.prog) 53 30 (.slice none 0 0) 24 Try.underlying53 (by kernel_rfl) rfl .i64 .i64 n (by omega) (by omega)
  clear hlm
  go_enter Try.func20, Try.ntmps20
  go_upto_region 5 with fail
  go_cut [6] from 21 to 26 (fun v6 wx => ∃ p ga gb, v6 = .pointer (some ⟨p, 0, none⟩) ∧ Hid (RowIs wx p 76 [.slice (some ⟨ga, 0, none⟩) n n, .slice (some ⟨gb, 0, none⟩) n n] ∧ RowIs wx ga 30 (List.replicate n (.slice none 0 0)) ∧ RowIs wx gb 30 (List.replicate n (.slice none 0 0)) ∧ ga ≠ gb ∧ w.heap.size ≤ p ∧ w.heap.size ≤ ga ∧ w.heap.size ≤ gb ∧ Below w.heap.size w wx))
  case first =>
    go_region
    all_goals go_wp2
    all_goals
      go_meet
      exact ⟨_, _, _, rfl, start_facts w n _ _ rfl (by first | exact .inl ⟨rfl, rfl⟩ | exact .inr ⟨rfl, rfl⟩)⟩
  case rest =>
    obtain ⟨p, ga, gb, rfl, HF⟩ := hcut
    have HG : Hid (GAt wc p n (fun _ => []) (fun _ => [])) := ⟨Hn.out.1, ga, gb, HF.out.1.cell rfl, HF.out.1.cell rfl, nilRow_at HF.out.2.1, nilRow_at HF.out.2.2.1⟩
    have HB0 : Hid (Below w.heap.size w wc) := HF.out.2.2.2.2.2.2.2
    clear hmk
    go_wp2
    go_loopg [29] l.length (fun gk iv wr => ∃ j : Nat, j + gk = l.length ∧ iv = .int .i64 (j : Int) ∧ Hid (Below wc.heap.size wc wr) ∧ Hid (∀ i e, i < j → l[i]? = some e → goodE n e))
    case atStart => exact ⟨0, by omega, rfl, Below.refl _ _, fun i e hi => absurd hi (by omega)⟩
    case round =>
      obtain ⟨j, hj, rfl, HB, HA⟩ := hrel
      by_cases hlt : j < l.length
      · obtain ⟨e, he⟩ : ∃ e, l[j]? = some e := ⟨_, List.getElem?_eq_getElem hlt⟩
        have HBw : Hid (Below w.heap.size w wr) := HB0.out.trans (HB.out.mono HB0.out.size)
        obtain ⟨g, off, rfl, c1, c2⟩ := (RowK.later H.out HBw.out).edge he
        have Hj := Lib.hid hj
        have Hlt := Lib.hid hlt
        have He := Lib.hid he
        have hli : (j : Int) < (l.length : Int) := by omega
        have hjs : j < 65537 := by have := Hn.out.2; omega
        obtain ⟨e1, e2⟩ := e
        dsimp only at c1 c2
        have HB1 : Hid (Below wr.heap.size wr (wr.alloc (.cells #[.int .i64 e1, .int .i64 e2] 60))) := (Below.refl _ _).alloc (Nat.le_refl _) _
        have R1 : Hid (RowIs (wr.alloc (.cells #[.int .i64 e1, .int .i64 e2] 60)) wr.heap.size 60 [.int .i64 e1, .int .i64 e2]) := new_row _ _ _
        clear hj hlt he
        go_upto_region 9 with fail
        obtain ⟨x1, hx1⟩ : ∃ x1, wr.alloc (.cells #[.int .i64 e1, .int .i64 e2] 60) = x1 := ⟨_, rfl⟩
        rw [hx1] at HB1 R1 ⊢
        obtain ⟨b, hb⟩ : ∃ b, wr.heap.size = b := ⟨_, rfl⟩
        rw [hb] at R1 ⊢
        clear hx1 hb c1 c2
        have d1 := R1.out.cell (i := 0) rfl
        have d2 := R1.out.cell (i := 1) rfl
        have HG1 := Lib.hid ((HG.out.later HB.out).later HB1.out)
        have HB2 : Hid (Below wc.heap.size wc x1) := HB.out.trans (HB1.out.mono HB.out.size)
        clear HB HBw HB1
        go_wp2_with fail
        refine (has_any HG1.out e1).mono ?_
        rintro r y1 ⟨rfl, rfl⟩
        by_cases h1 : 0 ≤ e1 ∧ e1 < n
        · have q1 : nodeB n e1 = true := nodeB_iff.2 h1
          rw [q1]
          have H1 := Lib.hid h1
          clear q1 h1
          go_wp2_with fail
          refine (has_any HG1.out e2).mono ?_
          rintro r y1 ⟨rfl, rfl⟩
          by_cases h2 : 0 ≤ e2 ∧ e2 < n
          · have q2 : nodeB n e2 = true := nodeB_iff.2 h2
            rw [q2]
            have HA2 : Hid (∀ i e, i < j + 1 → l[i]? = some e → goodE n e) := fun i e hi he => by
              rcases (by omega : i < j ∨ i = j) with q | q
              · exact HA.out i e q he
              · subst q
                obtain rfl := Option.some.inj (He.out.symm.trans he)
                exact ⟨H1.out, h2⟩
            clear q2 h2 HA
            go_wp2
            go_roundg (l.length - (j + 1))
            case measure => have := Hj.out; have := Hlt.out; omega
            case rel => exact ⟨j + 1, by have := Hj.out; have := Hlt.out; omega, by go_num, HB2, HA2⟩
          · have q2 : nodeB n e2 = false := Bool.eq_false_iff.2 (fun q => h2 (nodeB_iff.1 q))
            rw [q2]
            have HX : Hid (¬ goodE n (e1, e2)) := fun q => h2 q.2
            clear q2 h2 HA
            go_wp2
            refine bodyPost_ret (v := .tuple #[.pointer none, .int .i64 8]) (by simp [results, Try.results20, go_sem]) rfl ?_
            exact ⟨HB0.out.trans (HB2.out.mono HB0.out.size), .inr (.inr (.inl ⟨⟨by omega, by have := Hn.out.1; omega⟩, Hn.out.2, ⟨_, List.mem_of_getElem? He.out, by simpa using HX.out⟩, rfl⟩))⟩
        · have q1 : nodeB n e1 = false := Bool.eq_false_iff.2 (fun q => h1 (nodeB_iff.1 q))
          rw [q1]
          have HX : Hid (¬ goodE n (e1, e2)) := fun q => h1 q.1
          clear q1 h1 HA
          go_wp2
          refine bodyPost_ret (v := .tuple #[.pointer none, .int .i64 8]) (by simp [results, Try.results20, go_sem]) rfl ?_
          exact ⟨HB0.out.trans (HB2.out.mono HB0.out.size), .inr (.inr (.inl ⟨⟨by omega, by have := Hn.out.1; omega⟩, Hn.out.2, ⟨_, List.mem_of_getElem? He.out, by simpa using HX.out⟩, rfl⟩))⟩
      · have hli : ¬ (j : Int) < (l.length : Int) := by omega
        have HBw : Hid (Below w.heap.size w wr) := HB0.out.trans (HB.out.mono HB0.out.size)
        have HAll : Hid (∀ e ∈ l, goodE n e) := fun e he => by
          obtain ⟨i, hi⟩ := List.mem_iff_getElem?.1 he
          exact HA.out i e (by have := (List.getElem?_eq_some_iff.1 hi).1; omega) hi
        have HF1 : Hid (RowIs wr p 76 [.slice (some ⟨ga, 0, none⟩) n n, .slice (some ⟨gb, 0, none⟩) n n] ∧ RowIs wr ga 30 (List.replicate n (.slice none 0 0)) ∧ RowIs wr gb 30 (List.replicate n (.slice none 0 0))) := ⟨HF.out.1.later HB.out, HF.out.2.1.later HB.out, HF.out.2.2.1.later HB.out⟩
        have HF2 : Hid (ga ≠ gb ∧ w.heap.size ≤ p ∧ w.heap.size ≤ ga ∧ w.heap.size ≤ gb) := ⟨HF.out.2.2.2.1, HF.out.2.2.2.2.1, HF.out.2.2.2.2.2.1, HF.out.2.2.2.2.2.2.1⟩
        have Hll1 : Hid (l.length ≤ 1000000) := by have := Hn.out.2; show _ ≤ _; omega
        clear HA HF HG HB hj hlt HB0
        go_wp2_with fail
        refine (cloneE_any (RowK.later H.out HBw.out) Hll1.out).mono ?_
        rintro r z1 ⟨v1, rfl, ho1, hb1⟩
        have HE1 := Lib.hid (own_edRow ho1)
        have HB1 : Hid (Below w.heap.size w z1) := HBw.out.trans (hb1.mono HBw.out.size)
        have HF3 : Hid (RowIs z1 p 76 [.slice (some ⟨ga, 0, none⟩) n n, .slice (some ⟨gb, 0, none⟩) n n] ∧ RowIs z1 ga 30 (List.replicate n (.slice none 0 0)) ∧ RowIs z1 gb 30 (List.replicate n (.slice none 0 0))) := ⟨HF1.out.1.later hb1, HF1.out.2.1.later hb1, HF1.out.2.2.later hb1⟩
        have Hlt0 : Hid (p < wr.heap.size ∧ ga < wr.heap.size ∧ gb < wr.heap.size ∧ w.heap.size ≤ wr.heap.size) := ⟨RowIs.lt HF1.out.1, RowIs.lt HF1.out.2.1, RowIs.lt HF1.out.2.2, HBw.out.size⟩
        obtain ⟨B0, hB0⟩ : ∃ B, wr.heap.size = B := ⟨_, rfl⟩
        rw [hB0] at HE1 Hlt0
        clear hB0 ho1 hb1 HF1 HBw H
        go_wp2_with fail
        refine (sort2_any HE1.out Hll1.out).mono ?_
        rintro r z2 ⟨rfl, l', hp, hs, hE2, hb2⟩
        have HE2 := Lib.hid hE2
        have HB2 : Hid (Below w.heap.size w z2) := HB1.out.trans (hb2.mono Hlt0.out.2.2.2)
        have HF4 : Hid (RowIs z2 p 76 [.slice (some ⟨ga, 0, none⟩) n n, .slice (some ⟨gb, 0, none⟩) n n] ∧ RowIs z2 ga 30 (List.replicate n (.slice none 0 0)) ∧ RowIs z2 gb 30 (List.replicate n (.slice none 0 0))) := ⟨RowIs.kept HF3.out.1 (hb2.block p Hlt0.out.1), RowIs.kept HF3.out.2.1 (hb2.block ga Hlt0.out.2.1), RowIs.kept HF3.out.2.2 (hb2.block gb Hlt0.out.2.2.1)⟩
        have hll : l'.length ≤ 65536 := by rw [hp.length_eq]; exact Hn.out.2
        have hes := compact_es hp hs HAll.out
        have Hes := Lib.hid hes
        have Hll2 := Lib.hid hll
        clear hE2 hb2 HE1 HB1 HF3 hp hs hes hll
        go_wp2_with fail
        refine (compact2_any HE2.out (by have := Hll2.out; omega)).mono ?_
        rintro r z3 ⟨v3, rfl, hE3, hb3⟩
        rw [Hes.out] at hE3
        have HE3 := Lib.hid hE3
        have HB3 : Hid (Below w.heap.size w z3) := HB2.out.trans (hb3.mono Hlt0.out.2.2.2)
        have HF5 : Hid (RowIs z3 p 76 [.slice (some ⟨ga, 0, none⟩) n n, .slice (some ⟨gb, 0, none⟩) n n] ∧ RowIs z3 ga 30 (List.replicate n (.slice none 0 0)) ∧ RowIs z3 gb 30 (List.replicate n (.slice none 0 0))) := ⟨RowIs.kept HF4.out.1 (hb3.block p Hlt0.out.1), RowIs.kept HF4.out.2.1 (hb3.block ga Hlt0.out.2.1), RowIs.kept HF4.out.2.2 (hb3.block gb Hlt0.out.2.2.1)⟩
        have Hlens : Hid ((esOf l).length ≤ 65536) := by
          have h1 := compactL_len l'
          rw [Hes.out, List.length_map] at h1
          exact Nat.le_trans h1 Hll2.out
        have Hins := Lib.hid (es_ins HAll.out)
        obtain ⟨es, hes⟩ : ∃ es, esOf l = es := ⟨_, rfl⟩
        have Hnm : Hid (Norm (esOf l)) := (refNew_ok _).1
        rw [hes] at HE3 Hlens Hins Hnm
        have Hel := Lib.hid hes
        clear hE3 hb3 HE2 HB2 HF4 hes Hes Hll2
        have hform : ∃ a3 c3, v3 = .slice a3 es.length c3 := by
          rcases HE3.out with ⟨h1, h2⟩ | ⟨g, cap, h1, -⟩
          · rw [h1]; exact ⟨none, 0, by rw [List.map_eq_nil_iff.1 h2]; rfl⟩
          · rw [h1]; exact ⟨_, cap, by rw [List.length_map]⟩
        obtain ⟨a3, c3, rfl⟩ := hform
        have HN0 : Hid (NwAt w z3 z3.heap.size n ga gb p p (fun s i => cond s (aft (es.take 0) i) (bef (es.take 0) i)) z3) := by
          have hz := HB3.out.size
          have hB := Hlt0.out
          have h0 := HE3.out
          refine ⟨⟨fun _ _ => .slice none 0 0, ⟨fun s => ?_, fun s => ?_, HF2.out.1, fun s i hi => ?_, fun s i s' i' _ _ k hk _ => (by cases hk), Nat.le_refl _⟩, fun s i hi => (by intro e; cases e)⟩, HF5.out.1, HB3.out, fun k _ _ _ => rfl, RowIs.lt HF5.out.1, ?_, ?_⟩
          · have e : (List.range n).map (fun _ => Value.slice none 0 0) = List.replicate n (.slice none 0 0) := by
              apply List.ext_getElem
              · simp
              · intro i h1 h2; simp
            rw [e]
            cases s
            · exact HF5.out.2.2
            · exact HF5.out.2.1
          · cases s
            · exact RowIs.lt HF5.out.2.2
            · exact RowIs.lt HF5.out.2.1
          · have e : (cond s (aft (es.take 0) i) (bef (es.take 0) i)) = [] := by cases s <;> rfl
            rw [e]
            exact OwnK.nil _ _
          · intro e
            have h1 := HF5.out.1
            rw [e] at h1
            have h2 := h1.symm.trans HF5.out.2.1
            simp only [Option.some.injEq, Obj.cells.injEq] at h2
            exact absurd h2.2.1 (by decide)
          · intro e
            have h1 := HF5.out.1
            rw [e] at h1
            have h2 := h1.symm.trans HF5.out.2.2
            simp only [Option.some.injEq, Obj.cells.injEq] at h2
            exact absurd h2.2.1 (by decide)
        obtain ⟨base, hbase⟩ : ∃ b, z3.heap.size = b := ⟨_, rfl⟩
        rw [hbase] at HN0
        have HBs := Lib.hid hbase
        have Hll3 : Hid (w.heap.size ≤ ga ∧ w.heap.size ≤ gb ∧ w.heap.size ≤ base) := ⟨HF2.out.2.2.1, HF2.out.2.2.2, by rw [← hbase]; exact HB3.out.size⟩
        clear HF5 hbase
        go_wp2
        go_loopg [53] es.length (fun gk iv wr => ∃ j : Nat, j + gk = es.length ∧ iv = .int .i64 (j : Int) ∧ Hid (NwAt w z3 base n ga gb p p (fun s i => cond s (aft (es.take j) i) (bef (es.take j) i)) wr))
        case atStart => exact ⟨0, by omega, rfl, HN0⟩
        case round =>
          obtain ⟨j, hj, rfl, HNw⟩ := hrel
          by_cases hlt : j < es.length
          · obtain ⟨⟨a, b⟩, hab⟩ : ∃ e, es[j]? = some e := ⟨_, List.getElem?_eq_getElem hlt⟩
            have hin := Hins.out _ (List.mem_of_getElem? hab)
            have Ha : Hid (a < n) := hin.1
            have Hb : Hid (b < n) := hin.2
            have hcell : ∃ g, a3 = some ⟨g, 0, none⟩ ∧ wr.cell? ⟨g, j * 2, none⟩ = some (.int .i64 (a : Int)) ∧ wr.cell? ⟨g, j * 2 + 1, none⟩ = some (.int .i64 (b : Int)) := by
              rcases HE3.out with ⟨h1, h2⟩ | ⟨g, cap, h1, h2, h3, h4, -⟩
              · rw [List.map_eq_nil_iff.1 h2] at hlt; exact absurd hlt (by simp)
              · obtain ⟨k1, k2, -⟩ := h2 j (ofEd (a, b)) (by rw [List.getElem?_map, hab]; rfl)
                have hB := Hlt0.out
                have hk := HNw.out.kept g (by rw [← HBs.out]; exact h4) (by omega) (by omega)
                injection h1 with e1 e2 e3
                exact ⟨g, e1, (World.cell?_of_block (a := ⟨g, j * 2, none⟩) hk).trans k1, (World.cell?_of_block (a := ⟨g, j * 2 + 1, none⟩) hk).trans k2⟩
            obtain ⟨g, rfl, c1, c2⟩ := hcell
            have Hj := Lib.hid hj
            have Hlt := Lib.hid hlt
            have Hab := Lib.hid hab
            have hli : (j : Int) < (es.length : Int) := by omega
            have hjs : j < 65537 := by have := Hlens.out; omega
            have hai : (a : Int) < (n : Int) := by have := hin.1; omega
            have hbi : (b : Int) < (n : Int) := by have := hin.2; omega
            have HN : Hid (NwAt w z3 base n ga gb p wr.heap.size (fun s i => cond s (aft (es.take j) i) (bef (es.take j) i)) (wr.alloc (.cells #[.int .i64 (a : Int), .int .i64 (b : Int)] 60))) := HNw.out.box _
            have HX : Hid (RowIs (wr.alloc (.cells #[.int .i64 (a : Int), .int .i64 (b : Int)] 60)) wr.heap.size 60 [.int .i64 (a : Int), .int .i64 (b : Int)]) := new_row _ _ _
            have HbxL : Hid (ga < wr.heap.size ∧ gb < wr.heap.size) := by
              have hB := HNw.out.low.size
              obtain ⟨V, hV, -⟩ := HNw.out.bld
              exact ⟨RowIs.lt (hV.tab true), RowIs.lt (hV.tab false)⟩
            have HRl : Hid ((aft (es.take j) a).length + 1 ≤ 1000000 ∧ (bef (es.take j) b).length + 1 ≤ 1000000) := by
              have h1 : (aft (es.take j) a).length ≤ j := by unfold aft; rw [List.length_map]; exact Nat.le_trans (List.length_filter_le _ _) (by simp; omega)
              have h2 : (bef (es.take j) b).length ≤ j := by unfold bef; rw [List.length_map]; exact Nat.le_trans (List.length_filter_le _ _) (by simp; omega)
              exact ⟨by omega, by omega⟩
            clear hj hlt hab hin HNw
            go_upto_region 17 with fail
            clear c1 c2
            obtain ⟨x1, hx1⟩ : ∃ x1, wr.alloc (.cells #[.int .i64 (a : Int), .int .i64 (b : Int)] 60) = x1 := ⟨_, rfl⟩
            rw [hx1] at HN HX ⊢
            obtain ⟨bx, hbx⟩ : ∃ b, wr.heap.size = b := ⟨_, rfl⟩
            rw [hbx] at HN HX HbxL ⊢
            clear hx1 hbx
            obtain ⟨R, hR⟩ : ∃ R : Bool → Nat → List Nat, (fun s i => cond s (aft (es.take j) i) (bef (es.take j) i)) = R := ⟨_, rfl⟩
            have hRt : R true a = aft (es.take j) a := by rw [← hR]; rfl
            have hRf : R false b = bef (es.take j) b := by rw [← hR]; rfl
            have Hlentrue : Hid ((R true a).length + 1 ≤ 1000000) := by show _ ≤ _; rw [hRt]; exact HRl.out.1
            have HR := Lib.hid hR
            rw [hR] at HN
            have HRf := Lib.hid hRf
            clear hR hRt hRf
            have Hbttrue : Hid (ga ≠ bx) := by show _ ≠ _; have := HbxL.out.1; omega
            have Hbtfalse : Hid (gb ≠ bx) := by show _ ≠ _; have := HbxL.out.2; omega
            go_cut [53] from 57 to 75 (fun iv wx => iv = .int .i64 (j : Int) ∧ Hid (NwAt w z3 base n ga gb p bx (putV R true a (R true a ++ [b])) wx) ∧ Hid (RowIs wx bx 60 [.int .i64 (a : Int), .int .i64 (b : Int)]))
            case first =>
              refine wp_region_held_drew (S := (fun W => RowIs W p 76 [.slice (some ⟨ga, 0, none⟩) n n, .slice (some ⟨gb, 0, none⟩) n n] ∧ RowIs W bx 60 [.int .i64 (a : Int), .int .i64 (b : Int)])) (by kernel_rfl) (⟨RowIs.later HN.out.g (Below.refl _ _).drew, RowIs.later HX.out (Below.refl _ _).drew⟩) (fun hH0 => ?_)
              have N0 := Lib.hid (HN.out.later (Below.refl _ _).drew)
              obtain ⟨y0, hy0⟩ : ∃ y, (x1).drew = y := ⟨_, rfl⟩
              rw [hy0] at N0 hH0 ⊢
              clear hy0
              obtain ⟨V, hV, hVx⟩ := N0.out.bld
              have Bl := Lib.hid hV
              have Bx := Lib.hid hVx
              clear hV hVx
              refine wpAnyH_take (i := 0) (v := ?_) rfl (by kernel_rfl) (by kernel_rfl) (by kernel_rfl) (fun _ _ _ h => h) (Or.inl ⟨by rfl, ?_⟩) (by assumption) ?_
              rotate_left
              · (intro wx hSw; have c0 := hSw.1.cell (i := 0) rfl; have c1 := hSw.1.cell (i := 1) rfl; have d0 := hSw.2.cell (i := 0) rfl; have d1 := hSw.2.cell (i := 1) rfl; clear hSw; go_simp <;> with_reducible rfl)
              try simp only [Act.put, List.setIfInBounds_toArray, List.set_cons_zero, List.set_cons_succ, List.getElem_toArray, List.getElem_cons_zero, List.getElem_cons_succ]
              refine wpAnyH_take (i := 4) (v := ?_) rfl (by kernel_rfl) (by kernel_rfl) (by kernel_rfl) (fun _ _ _ h => h) (Or.inl ⟨by rfl, ?_⟩) (by assumption) ?_
              rotate_left
              · (intro wx hSw; have c0 := hSw.1.cell (i := 0) rfl; have c1 := hSw.1.cell (i := 1) rfl; have d0 := hSw.2.cell (i := 0) rfl; have d1 := hSw.2.cell (i := 1) rfl; clear hSw; go_simp <;> with_reducible rfl)
              try simp only [Act.put, List.setIfInBounds_toArray, List.set_cons_zero, List.set_cons_succ, List.getElem_toArray, List.getElem_cons_zero, List.getElem_cons_succ]
              refine wpAnyH_take (i := 6) (v := ?_) rfl (by kernel_rfl) (by kernel_rfl) (by kernel_rfl) (fun _ _ _ h => h) (Or.inl ⟨by rfl, ?_⟩) (by assumption) ?_
              rotate_left
              · (intro wx hSw; have c0 := hSw.1.cell (i := 0) rfl; have c1 := hSw.1.cell (i := 1) rfl; have d0 := hSw.2.cell (i := 0) rfl; have d1 := hSw.2.cell (i := 1) rfl; clear hSw; go_simp <;> with_reducible rfl)
              try simp only [Act.put, List.setIfInBounds_toArray, List.set_cons_zero, List.set_cons_succ, List.getElem_toArray, List.getElem_cons_zero, List.getElem_cons_succ]
              refine wpAnyH_take (i := 10) (v := ?_) rfl (by kernel_rfl) (by kernel_rfl) (by kernel_rfl) (fun _ _ _ h => h) (Or.inl ⟨by rfl, ?_⟩) (by assumption) ?_
              rotate_left
              · (intro wx hSw; have c0 := hSw.1.cell (i := 0) rfl; have c1 := hSw.1.cell (i := 1) rfl; have d0 := hSw.2.cell (i := 0) rfl; have d1 := hSw.2.cell (i := 1) rfl; clear hSw; go_simp <;> with_reducible rfl)
              try simp only [Act.put, List.setIfInBounds_toArray, List.set_cons_zero, List.set_cons_succ, List.getElem_toArray, List.getElem_cons_zero, List.getElem_cons_succ]
              refine wpAnyH_take (i := 14) (v := ?_) rfl (by kernel_rfl) (by kernel_rfl) (by kernel_rfl) (fun _ _ _ h => h) (Or.inl ⟨by rfl, ?_⟩) (by assumption) ?_
              rotate_left
              · (intro wx hSw; have c0 := hSw.1.cell (i := 0) rfl; have c1 := hSw.1.cell (i := 1) rfl; have d0 := hSw.2.cell (i := 0) rfl; have d1 := hSw.2.cell (i := 1) rfl; clear hSw; go_simp <;> with_reducible rfl)
              try simp only [Act.put, List.setIfInBounds_toArray, List.set_cons_zero, List.set_cons_succ, List.getElem_toArray, List.getElem_cons_zero, List.getElem_cons_succ]
              refine wpAnyH_take (i := 1) (v := ?_) rfl (by kernel_rfl) (by kernel_rfl) (by kernel_rfl) (fun _ _ _ h => h) (Or.inl ⟨by rfl, ?_⟩) (by assumption) ?_
              rotate_left
              · (intro wx hSw; have c0 := hSw.1.cell (i := 0) rfl; have c1 := hSw.1.cell (i := 1) rfl; have d0 := hSw.2.cell (i := 0) rfl; have d1 := hSw.2.cell (i := 1) rfl; clear hSw; go_simp <;> with_reducible rfl)
              try simp only [Act.put, List.setIfInBounds_toArray, List.set_cons_zero, List.set_cons_succ, List.getElem_toArray, List.getElem_cons_zero, List.getElem_cons_succ]
              refine wpAnyH_take (i := 5) (v := ?_) rfl (by kernel_rfl) (by kernel_rfl) (by kernel_rfl) (fun _ _ _ h => h) (Or.inl ⟨by rfl, ?_⟩) (by assumption) ?_
              rotate_left
              · (intro wx hSw; have c0 := hSw.1.cell (i := 0) rfl; have c1 := hSw.1.cell (i := 1) rfl; have d0 := hSw.2.cell (i := 0) rfl; have d1 := hSw.2.cell (i := 1) rfl; clear hSw; go_simp <;> with_reducible rfl)
              try simp only [Act.put, List.setIfInBounds_toArray, List.set_cons_zero, List.set_cons_succ, List.getElem_toArray, List.getElem_cons_zero, List.getElem_cons_succ]
              refine wpAnyH_take (i := 7) (v := ?_) rfl (by kernel_rfl) (by kernel_rfl) (by kernel_rfl) (fun _ _ _ h => h) (Or.inl ⟨by rfl, ?_⟩) (by assumption) ?_
              rotate_left
              · (intro wx hSw; have c0 := hSw.1.cell (i := 0) rfl; have c1 := hSw.1.cell (i := 1) rfl; have d0 := hSw.2.cell (i := 0) rfl; have d1 := hSw.2.cell (i := 1) rfl; clear hSw; go_simp <;> with_reducible rfl)
              try simp only [Act.put, List.setIfInBounds_toArray, List.set_cons_zero, List.set_cons_succ, List.getElem_toArray, List.getElem_cons_zero, List.getElem_cons_succ]
              refine wpAnyH_take (i := 11) (v := ?_) rfl (by kernel_rfl) (by kernel_rfl) (by kernel_rfl) (fun _ _ _ h => h) (Or.inl ⟨by rfl, ?_⟩) (by assumption) ?_
              rotate_left
              · (intro wx hSw; have c0 := hSw.1.cell (i := 0) rfl; have c1 := hSw.1.cell (i := 1) rfl; have d0 := hSw.2.cell (i := 0) rfl; have d1 := hSw.2.cell (i := 1) rfl; clear hSw; go_simp <;> with_reducible rfl)
              try simp only [Act.put, List.setIfInBounds_toArray, List.set_cons_zero, List.set_cons_succ, List.getElem_toArray, List.getElem_cons_zero, List.getElem_cons_succ]
              refine wpAnyH_take (i := 15) (v := ?_) rfl (by kernel_rfl) (by kernel_rfl) (by kernel_rfl) (fun _ _ _ h => h) (Or.inl ⟨by rfl, ?_⟩) (by assumption) ?_
              rotate_left
              · (intro wx hSw; have c0 := hSw.1.cell (i := 0) rfl; have c1 := hSw.1.cell (i := 1) rfl; have d0 := hSw.2.cell (i := 0) rfl; have d1 := hSw.2.cell (i := 1) rfl; clear hSw; go_simp <;> with_reducible rfl)
              try simp only [Act.put, List.setIfInBounds_toArray, List.set_cons_zero, List.set_cons_succ, List.getElem_toArray, List.getElem_cons_zero, List.getElem_cons_succ]
              refine wpAnyH_take (i := 2) (v := ?_) rfl (by kernel_rfl) (by kernel_rfl) (by kernel_rfl) (fun _ _ _ h => h) (Or.inl ⟨by rfl, ?_⟩) (by assumption) ?_
              rotate_left
              · (intro wx hSw; have c0 := hSw.1.cell (i := 0) rfl; have c1 := hSw.1.cell (i := 1) rfl; have d0 := hSw.2.cell (i := 0) rfl; have d1 := hSw.2.cell (i := 1) rfl; clear hSw; go_simp <;> with_reducible rfl)
              try simp only [Act.put, List.setIfInBounds_toArray, List.set_cons_zero, List.set_cons_succ, List.getElem_toArray, List.getElem_cons_zero, List.getElem_cons_succ]
              refine wpAnyH_take (i := 8) (v := ?_) rfl (by kernel_rfl) (by kernel_rfl) (by kernel_rfl) (fun _ _ _ h => h) (Or.inl ⟨by rfl, ?_⟩) (by assumption) ?_
              rotate_left
              · (intro wx hSw; have c0 := hSw.1.cell (i := 0) rfl; have c1 := hSw.1.cell (i := 1) rfl; have d0 := hSw.2.cell (i := 0) rfl; have d1 := hSw.2.cell (i := 1) rfl; clear hSw; go_simp <;> with_reducible rfl)
              try simp only [Act.put, List.setIfInBounds_toArray, List.set_cons_zero, List.set_cons_succ, List.getElem_toArray, List.getElem_cons_zero, List.getElem_cons_succ]
              refine wpAnyH_take (i := 3) (v := ?_) rfl (by kernel_rfl) (by kernel_rfl) (by kernel_rfl) (fun _ _ _ h => h) (Or.inl ⟨by rfl, ?_⟩) (by assumption) ?_
              rotate_left
              · (intro wx hSw; have c0 := hSw.1.cell (i := 0) rfl; have c1 := hSw.1.cell (i := 1) rfl; have d0 := hSw.2.cell (i := 0) rfl; have d1 := hSw.2.cell (i := 1) rfl; clear hSw; go_simp <;> with_reducible rfl)
              try simp only [Act.put, List.setIfInBounds_toArray, List.set_cons_zero, List.set_cons_succ, List.getElem_toArray, List.getElem_cons_zero, List.getElem_cons_succ]
              refine wpAnyH_take (i := 9) (v := ?_) rfl (by kernel_rfl) (by kernel_rfl) (by kernel_rfl) (fun _ _ _ h => h) (Or.inl ⟨by rfl, ?_⟩) (by assumption) ?_
              rotate_left
              · (intro wx hSw; have c0 := hSw.1.cell (i := 0) rfl; have c1 := hSw.1.cell (i := 1) rfl; have d0 := hSw.2.cell (i := 0) rfl; have d1 := hSw.2.cell (i := 1) rfl; clear hSw; go_simp <;> with_reducible rfl)
              try simp only [Act.put, List.setIfInBounds_toArray, List.set_cons_zero, List.set_cons_succ, List.getElem_toArray, List.getElem_cons_zero, List.getElem_cons_succ]
              refine wpAnyH_take (i := 12) (v := ?_) rfl (by kernel_rfl) (by kernel_rfl) (by kernel_rfl) (fun _ _ _ h => h) (Or.inl ⟨by rfl, ?_⟩) (by assumption) ?_
              rotate_left
              · (intro wx hSw; have c0 := hSw.1.cell (i := 0) rfl; have c1 := hSw.1.cell (i := 1) rfl; have d0 := hSw.2.cell (i := 0) rfl; have d1 := hSw.2.cell (i := 1) rfl; clear hSw; go_simp <;> with_reducible rfl)
              try simp only [Act.put, List.setIfInBounds_toArray, List.set_cons_zero, List.set_cons_succ, List.getElem_toArray, List.getElem_cons_zero, List.getElem_cons_succ]
              refine wpAnyH_ready (rs := [13, 16]) (by kernel_rfl) (by simp) ?_
              refine AllReadyH.cons rfl (fun K hK => ?_) ?_
              have cV : y0.cell? ⟨ga, a, none⟩ = some (V true a) := (Bl.out.cell true Ha.out).1
              go_simp
              refine hK.out _ _ hH0 (fun hH1 => ?_)
              clear hK K hH0 cV
              have hH0 := hH1
              clear hH1
              try simp only [Act.put, List.setIfInBounds_toArray, List.set_cons_zero, List.set_cons_succ, List.getElem_toArray, List.getElem_cons_zero, List.getElem_cons_succ]
              refine wpAnyH_ready (rs := [16]) (by kernel_rfl) (by simp) ?_
              refine AllReadyH.cons rfl (fun K hK => ?_) AllReadyH.nil
              have hb : Below y0.heap.size y0 (y0.alloc (.cells #[.int .i64 (b : Int)] 3)) := (Below.refl _ _).alloc (Nat.le_refl _) _
              have As : Hid (RowIs (y0.alloc (.cells #[.int .i64 (b : Int)] 3)) y0.heap.size 3 [.int .i64 (b : Int)]) := new_row y0 3 [.int .i64 (b : Int)]
              have N1 := Lib.hid (N0.out.later hb)
              have Bl1 := Lib.hid (Bl.out.later hb)
              go_simp
              refine hK.out _ _ ⟨RowIs.later hH0.1 hb, RowIs.later hH0.2 hb⟩ (fun hH1 => ?_)
              clear hK K hH0 hb N0 Bl
              try simp only [Act.put, List.setIfInBounds_toArray, List.set_cons_zero, List.set_cons_succ, List.getElem_toArray, List.getElem_cons_zero, List.getElem_cons_succ]
              obtain ⟨y1, hy1⟩ : ∃ y, (y0.alloc (.cells #[.int .i64 (b : Int)] 3)) = y := ⟨_, rfl⟩
              rw [hy1] at N1 As Bl1 hH1 ⊢
              obtain ⟨bs, hbs⟩ : ∃ b, y0.heap.size = b := ⟨_, rfl⟩
              rw [hbs] at As ⊢
              clear hbs hy1
              rotate_left
              refine AllReadyH.cons rfl (fun K hK => ?_) AllReadyH.nil
              have hb : Below y0.heap.size y0 (y0.alloc (.cells #[.int .i64 (b : Int)] 3)) := (Below.refl _ _).alloc (Nat.le_refl _) _
              have As : Hid (RowIs (y0.alloc (.cells #[.int .i64 (b : Int)] 3)) y0.heap.size 3 [.int .i64 (b : Int)]) := new_row y0 3 [.int .i64 (b : Int)]
              have N1 := Lib.hid (N0.out.later hb)
              have Bl1 := Lib.hid (Bl.out.later hb)
              go_simp
              refine hK.out _ _ ⟨RowIs.later hH0.1 hb, RowIs.later hH0.2 hb⟩ (fun hH1 => ?_)
              clear hK K hH0 hb N0 Bl
              try simp only [Act.put, List.setIfInBounds_toArray, List.set_cons_zero, List.set_cons_succ, List.getElem_toArray, List.getElem_cons_zero, List.getElem_cons_succ]
              obtain ⟨y1, hy1⟩ : ∃ y, (y0.alloc (.cells #[.int .i64 (b : Int)] 3)) = y := ⟨_, rfl⟩
              rw [hy1] at N1 As Bl1 hH1 ⊢
              obtain ⟨bs, hbs⟩ : ∃ b, y0.heap.size = b := ⟨_, rfl⟩
              rw [hbs] at As ⊢
              clear hbs hy1
              refine wpAnyH_ready (rs := [13]) (by kernel_rfl) (by simp) ?_
              refine AllReadyH.cons rfl (fun K hK => ?_) AllReadyH.nil
              have cV : y1.cell? ⟨ga, a, none⟩ = some (V true a) := (Bl1.out.cell true Ha.out).1
              go_simp
              refine hK.out _ _ hH1 (fun hH2 => ?_)
              clear hK K hH1 cV
              have hH1 := hH2
              clear hH2
              try simp only [Act.put, List.setIfInBounds_toArray, List.set_cons_zero, List.set_cons_succ, List.getElem_toArray, List.getElem_cons_zero, List.getElem_cons_succ]
              rotate_left
              all_goals
                refine wpAnyH_ready (rs := [17]) (by kernel_rfl) (by simp) ?_
                refine AllReadyH.cons rfl (fun K hK => ?_) AllReadyH.nil
                refine step_append_K (K := kNat) rfl (.tmp 70) (.tmp 73) rfl base (V true a) (R true a) (by rfl) (Bl1.out.own true a Ha.out) (.slice (some ⟨bs, 0, none⟩) 1 1) [b] (by rfl) (RowK.one As.out rfl) (by have := Hlentrue.out; simpa using this) Bl1.out.le ?_
                intro v9 y2 ho9 hg9 hat9
                obtain ⟨a9, m9, c9, rfl⟩ : ∃ a m c, v9 = Value.slice a m c := by
                  obtain ⟨a, c, h, -⟩ := (OwnK.row ho9).form
                  exact ⟨a, _, c, h⟩
                have hP : some p ≠ (V true a).ownBlock := fun q => by have h1 := (Bl1.out.own true a Ha.out).lt q.symm; have h2 := N1.out.pp.1; omega
                have hX : some bx ≠ (V true a).ownBlock := fun q => Bx.out true a Ha.out q.symm
                have hT := RowIs.kept (Bl1.out.tab true) (hg9.block _ (RowIs.lt (Bl1.out.tab true)) (fun q => by have h1 := (Bl1.out.own true a Ha.out).lt q.symm; have h2 := Bl1.out.low true; omega))
                have HT := Lib.hid hT
                clear hT
                refine hK.out _ _ ⟨RowIs.kept hH1.1 (hg9.block p (RowIs.lt hH1.1) hP), RowIs.kept hH1.2 (hg9.block bx (RowIs.lt hH1.2) hX)⟩ (fun hH2 => ?_)
                have hB1x := hH1.2
                clear hK K hH1 hP hX
                have N3 := Lib.hid (N1.out.put (s := true) Bl1.out Bx.out Ha.out ho9 hg9 hat9 Hll3.out (RowIs.lt hB1x))
                clear ho9 hg9 hat9 N1 Bl1 Bx As hB1x
                try simp only [Act.put, List.setIfInBounds_toArray, List.set_cons_zero, List.set_cons_succ, List.getElem_toArray, List.getElem_cons_zero, List.getElem_cons_succ]
                refine wpAnyH_take (i := 18) (v := ?_) rfl (by kernel_rfl) (by kernel_rfl) (by kernel_rfl) (fun _ _ _ h => h) (Or.inl ⟨by rfl, ?_⟩) (by assumption) ?_
                rotate_left
                · (intro wx hSw; have c0 := hSw.1.cell (i := 0) rfl; have c1 := hSw.1.cell (i := 1) rfl; have d0 := hSw.2.cell (i := 0) rfl; have d1 := hSw.2.cell (i := 1) rfl; clear hSw; go_simp <;> with_reducible rfl)
                try simp only [Act.put, List.setIfInBounds_toArray, List.set_cons_zero, List.set_cons_succ, List.getElem_toArray, List.getElem_cons_zero, List.getElem_cons_succ]
                refine wpAnyH_ready (rs := [19]) (by kernel_rfl) (by simp) ?_
                refine AllReadyH.cons rfl (fun K hK => ?_) AllReadyH.nil
                have cT : y2.cell? ⟨ga, a, none⟩ = some (V true a) := HT.out.cell (by rw [List.getElem?_map, List.getElem?_range Ha.out]; rfl)
                have fT : y2.frozen? ⟨ga, a, none⟩ = false := HT.out.free a
                go_simp
                refine hK.out _ _ ⟨N3.out.g, RowIs.other_set hH2.2 Hbttrue.out _ _⟩ (fun hH3 => ?_)
                clear hK K hH2 cT fT HT
                have X3 := Lib.hid hH3.2
                refine wpAnyH_done (by kernel_rfl) ?_ _
              all_goals
                go_wp2
                go_meet
                exact ⟨rfl, N3, X3⟩
            case rest =>
              obtain ⟨rfl, HN2, HX2⟩ := hcut
              clear HN HX
              have HN := HN2
              have HX := HX2
              clear HN2 HX2
              obtain ⟨R2, hR2⟩ : ∃ R2, putV R true a (R true a ++ [b]) = R2 := ⟨_, rfl⟩
              rw [hR2] at HN
              have HR2 := Lib.hid hR2
              have hRb : R2 false b = bef (es.take j) b := by rw [← hR2]; unfold putV; rw [if_neg (by simp)]; exact HRf.out
              have Hlenfalse : Hid ((R2 false b).length + 1 ≤ 1000000) := by show _ ≤ _; rw [hRb]; exact HRl.out.2
              clear hR2 hRb Hlentrue
              have HRR : Hid ((fun s i => cond s (aft (es.take (j + 1)) i) (bef (es.take (j + 1)) i)) = putV R2 false b (R2 false b ++ [a])) := by
                show _ = _
                have h1 : es.take (j + 1) = es.take j ++ [(a, b)] := by rw [List.take_add_one, Hab.out]; rfl
                rw [h1, ← HR2.out, ← HR.out]
                funext s i
                cases s
                · simp only [cond_false, putV, bef_append, bef_one]
                  by_cases q : i = b
                  · subst q; simp
                  · simp [q, Ne.symm q]
                · simp only [cond_true, putV, aft_append, aft_one]
                  by_cases q : i = a
                  · subst q; simp
                  · simp [q, Ne.symm q]
              go_upto_region 18 with fail
              refine wp_region_held_drew (S := (fun W => RowIs W p 76 [.slice (some ⟨ga, 0, none⟩) n n, .slice (some ⟨gb, 0, none⟩) n n] ∧ RowIs W bx 60 [.int .i64 (a : Int), .int .i64 (b : Int)])) (by kernel_rfl) (⟨RowIs.later HN.out.g (Below.refl _ _).drew, RowIs.later HX.out (Below.refl _ _).drew⟩) (fun hH0 => ?_)
              have N0 := Lib.hid (HN.out.later (Below.refl _ _).drew)
              obtain ⟨y0, hy0⟩ : ∃ y, (wc).drew = y := ⟨_, rfl⟩
              rw [hy0] at N0 hH0 ⊢
              clear hy0
              obtain ⟨V, hV, hVx⟩ := N0.out.bld
              have Bl := Lib.hid hV
              have Bx := Lib.hid hVx
              clear hV hVx
              refine wpAnyH_take (i := 0) (v := ?_) rfl (by kernel_rfl) (by kernel_rfl) (by kernel_rfl) (fun _ _ _ h => h) (Or.inl ⟨by rfl, ?_⟩) (by assumption) ?_
              rotate_left
              · (intro wx hSw; have c0 := hSw.1.cell (i := 0) rfl; have c1 := hSw.1.cell (i := 1) rfl; have d0 := hSw.2.cell (i := 0) rfl; have d1 := hSw.2.cell (i := 1) rfl; clear hSw; go_simp <;> with_reducible rfl)
              try simp only [Act.put, List.setIfInBounds_toArray, List.set_cons_zero, List.set_cons_succ, List.getElem_toArray, List.getElem_cons_zero, List.getElem_cons_succ]
              refine wpAnyH_take (i := 4) (v := ?_) rfl (by kernel_rfl) (by kernel_rfl) (by kernel_rfl) (fun _ _ _ h => h) (Or.inl ⟨by rfl, ?_⟩) (by assumption) ?_
              rotate_left
              · (intro wx hSw; have c0 := hSw.1.cell (i := 0) rfl; have c1 := hSw.1.cell (i := 1) rfl; have d0 := hSw.2.cell (i := 0) rfl; have d1 := hSw.2.cell (i := 1) rfl; clear hSw; go_simp <;> with_reducible rfl)
              try simp only [Act.put, List.setIfInBounds_toArray, List.set_cons_zero, List.set_cons_succ, List.getElem_toArray, List.getElem_cons_zero, List.getElem_cons_succ]
              refine wpAnyH_take (i := 6) (v := ?_) rfl (by kernel_rfl) (by kernel_rfl) (by kernel_rfl) (fun _ _ _ h => h) (Or.inl ⟨by rfl, ?_⟩) (by assumption) ?_
              rotate_left
              · (intro wx hSw; have c0 := hSw.1.cell (i := 0) rfl; have c1 := hSw.1.cell (i := 1) rfl; have d0 := hSw.2.cell (i := 0) rfl; have d1 := hSw.2.cell (i := 1) rfl; clear hSw; go_simp <;> with_reducible rfl)
              try simp only [Act.put, List.setIfInBounds_toArray, List.set_cons_zero, List.set_cons_succ, List.getElem_toArray, List.getElem_cons_zero, List.getElem_cons_succ]
              refine wpAnyH_take (i := 10) (v := ?_) rfl (by kernel_rfl) (by kernel_rfl) (by kernel_rfl) (fun _ _ _ h => h) (Or.inl ⟨by rfl, ?_⟩) (by assumption) ?_
              rotate_left
              · (intro wx hSw; have c0 := hSw.1.cell (i := 0) rfl; have c1 := hSw.1.cell (i := 1) rfl; have d0 := hSw.2.cell (i := 0) rfl; have d1 := hSw.2.cell (i := 1) rfl; clear hSw; go_simp <;> with_reducible rfl)
              try simp only [Act.put, List.setIfInBounds_toArray, List.set_cons_zero, List.set_cons_succ, List.getElem_toArray, List.getElem_cons_zero, List.getElem_cons_succ]
              refine wpAnyH_take (i := 14) (v := ?_) rfl (by kernel_rfl) (by kernel_rfl) (by kernel_rfl) (fun _ _ _ h => h) (Or.inl ⟨by rfl, ?_⟩) (by assumption) ?_
              rotate_left
              · (intro wx hSw; have c0 := hSw.1.cell (i := 0) rfl; have c1 := hSw.1.cell (i := 1) rfl; have d0 := hSw.2.cell (i := 0) rfl; have d1 := hSw.2.cell (i := 1) rfl; clear hSw; go_simp <;> with_reducible rfl)
              try simp only [Act.put, List.setIfInBounds_toArray, List.set_cons_zero, List.set_cons_succ, List.getElem_toArray, List.getElem_cons_zero, List.getElem_cons_succ]
              refine wpAnyH_take (i := 1) (v := ?_) rfl (by kernel_rfl) (by kernel_rfl) (by kernel_rfl) (fun _ _ _ h => h) (Or.inl ⟨by rfl, ?_⟩) (by assumption) ?_
              rotate_left
              · (intro wx hSw; have c0 := hSw.1.cell (i := 0) rfl; have c1 := hSw.1.cell (i := 1) rfl; have d0 := hSw.2.cell (i := 0) rfl; have d1 := hSw.2.cell (i := 1) rfl; clear hSw; go_simp <;> with_reducible rfl)
              try simp only [Act.put, List.setIfInBounds_toArray, List.set_cons_zero, List.set_cons_succ, List.getElem_toArray, List.getElem_cons_zero, List.getElem_cons_succ]
              refine wpAnyH_take (i := 5) (v := ?_) rfl (by kernel_rfl) (by kernel_rfl) (by kernel_rfl) (fun _ _ _ h => h) (Or.inl ⟨by rfl, ?_⟩) (by assumption) ?_
              rotate_left
              · (intro wx hSw; have c0 := hSw.1.cell (i := 0) rfl; have c1 := hSw.1.cell (i := 1) rfl; have d0 := hSw.2.cell (i := 0) rfl; have d1 := hSw.2.cell (i := 1) rfl; clear hSw; go_simp <;> with_reducible rfl)
              try simp only [Act.put, List.setIfInBounds_toArray, List.set_cons_zero, List.set_cons_succ, List.getElem_toArray, List.getElem_cons_zero, List.getElem_cons_succ]
              refine wpAnyH_take (i := 7) (v := ?_) rfl (by kernel_rfl) (by kernel_rfl) (by kernel_rfl) (fun _ _ _ h => h) (Or.inl ⟨by rfl, ?_⟩) (by assumption) ?_
              rotate_left
              · (intro wx hSw; have c0 := hSw.1.cell (i := 0) rfl; have c1 := hSw.1.cell (i := 1) rfl; have d0 := hSw.2.cell (i := 0) rfl; have d1 := hSw.2.cell (i := 1) rfl; clear hSw; go_simp <;> with_reducible rfl)
              try simp only [Act.put, List.setIfInBounds_toArray, List.set_cons_zero, List.set_cons_succ, List.getElem_toArray, List.getElem_cons_zero, List.getElem_cons_succ]
              refine wpAnyH_take (i := 11) (v := ?_) rfl (by kernel_rfl) (by kernel_rfl) (by kernel_rfl) (fun _ _ _ h => h) (Or.inl ⟨by rfl, ?_⟩) (by assumption) ?_
              rotate_left
              · (intro wx hSw; have c0 := hSw.1.cell (i := 0) rfl; have c1 := hSw.1.cell (i := 1) rfl; have d0 := hSw.2.cell (i := 0) rfl; have d1 := hSw.2.cell (i := 1) rfl; clear hSw; go_simp <;> with_reducible rfl)
              try simp only [Act.put, List.setIfInBounds_toArray, List.set_cons_zero, List.set_cons_succ, List.getElem_toArray, List.getElem_cons_zero, List.getElem_cons_succ]
              refine wpAnyH_take (i := 15) (v := ?_) rfl (by kernel_rfl) (by kernel_rfl) (by kernel_rfl) (fun _ _ _ h => h) (Or.inl ⟨by rfl, ?_⟩) (by assumption) ?_
              rotate_left
              · (intro wx hSw; have c0 := hSw.1.cell (i := 0) rfl; have c1 := hSw.1.cell (i := 1) rfl; have d0 := hSw.2.cell (i := 0) rfl; have d1 := hSw.2.cell (i := 1) rfl; clear hSw; go_simp <;> with_reducible rfl)
              try simp only [Act.put, List.setIfInBounds_toArray, List.set_cons_zero, List.set_cons_succ, List.getElem_toArray, List.getElem_cons_zero, List.getElem_cons_succ]
              refine wpAnyH_take (i := 2) (v := ?_) rfl (by kernel_rfl) (by kernel_rfl) (by kernel_rfl) (fun _ _ _ h => h) (Or.inl ⟨by rfl, ?_⟩) (by assumption) ?_
              rotate_left
              · (intro wx hSw; have c0 := hSw.1.cell (i := 0) rfl; have c1 := hSw.1.cell (i := 1) rfl; have d0 := hSw.2.cell (i := 0) rfl; have d1 := hSw.2.cell (i := 1) rfl; clear hSw; go_simp <;> with_reducible rfl)
              try simp only [Act.put, List.setIfInBounds_toArray, List.set_cons_zero, List.set_cons_succ, List.getElem_toArray, List.getElem_cons_zero, List.getElem_cons_succ]
              refine wpAnyH_take (i := 8) (v := ?_) rfl (by kernel_rfl) (by kernel_rfl) (by kernel_rfl) (fun _ _ _ h => h) (Or.inl ⟨by rfl, ?_⟩) (by assumption) ?_
              rotate_left
              · (intro wx hSw; have c0 := hSw.1.cell (i := 0) rfl; have c1 := hSw.1.cell (i := 1) rfl; have d0 := hSw.2.cell (i := 0) rfl; have d1 := hSw.2.cell (i := 1) rfl; clear hSw; go_simp <;> with_reducible rfl)
              try simp only [Act.put, List.setIfInBounds_toArray, List.set_cons_zero, List.set_cons_succ, List.getElem_toArray, List.getElem_cons_zero, List.getElem_cons_succ]
              refine wpAnyH_take (i := 3) (v := ?_) rfl (by kernel_rfl) (by kernel_rfl) (by kernel_rfl) (fun _ _ _ h => h) (Or.inl ⟨by rfl, ?_⟩) (by assumption) ?_
              rotate_left
              · (intro wx hSw; have c0 := hSw.1.cell (i := 0) rfl; have c1 := hSw.1.cell (i := 1) rfl; have d0 := hSw.2.cell (i := 0) rfl; have d1 := hSw.2.cell (i := 1) rfl; clear hSw; go_simp <;> with_reducible rfl)
              try simp only [Act.put, List.setIfInBounds_toArray, List.set_cons_zero, List.set_cons_succ, List.getElem_toArray, List.getElem_cons_zero, List.getElem_cons_succ]
              refine wpAnyH_take (i := 9) (v := ?_) rfl (by kernel_rfl) (by kernel_rfl) (by kernel_rfl) (fun _ _ _ h => h) (Or.inl ⟨by rfl, ?_⟩) (by assumption) ?_
              rotate_left
              · (intro wx hSw; have c0 := hSw.1.cell (i := 0) rfl; have c1 := hSw.1.cell (i := 1) rfl; have d0 := hSw.2.cell (i := 0) rfl; have d1 := hSw.2.cell (i := 1) rfl; clear hSw; go_simp <;> with_reducible rfl)
              try simp only [Act.put, List.setIfInBounds_toArray, List.set_cons_zero, List.set_cons_succ, List.getElem_toArray, List.getElem_cons_zero, List.getElem_cons_succ]
              refine wpAnyH_take (i := 12) (v := ?_) rfl (by kernel_rfl) (by kernel_rfl) (by kernel_rfl) (fun _ _ _ h => h) (Or.inl ⟨by rfl, ?_⟩) (by assumption) ?_
              rotate_left
              · (intro wx hSw; have c0 := hSw.1.cell (i := 0) rfl; have c1 := hSw.1.cell (i := 1) rfl; have d0 := hSw.2.cell (i := 0) rfl; have d1 := hSw.2.cell (i := 1) rfl; clear hSw; go_simp <;> with_reducible rfl)
              try simp only [Act.put, List.setIfInBounds_toArray, List.set_cons_zero, List.set_cons_succ, List.getElem_toArray, List.getElem_cons_zero, List.getElem_cons_succ]
              refine wpAnyH_ready (rs := [13, 16]) (by kernel_rfl) (by simp) ?_
              refine AllReadyH.cons rfl (fun K hK => ?_) ?_
              have cV : y0.cell? ⟨gb, b, none⟩ = some (V false b) := (Bl.out.cell false Hb.out).1
              go_simp
              refine hK.out _ _ hH0 (fun hH1 => ?_)
              clear hK K hH0 cV
              have hH0 := hH1
              clear hH1
              try simp only [Act.put, List.setIfInBounds_toArray, List.set_cons_zero, List.set_cons_succ, List.getElem_toArray, List.getElem_cons_zero, List.getElem_cons_succ]
              refine wpAnyH_ready (rs := [16]) (by kernel_rfl) (by simp) ?_
              refine AllReadyH.cons rfl (fun K hK => ?_) AllReadyH.nil
              have hb : Below y0.heap.size y0 (y0.alloc (.cells #[.int .i64 (a : Int)] 3)) := (Below.refl _ _).alloc (Nat.le_refl _) _
              have As : Hid (RowIs (y0.alloc (.cells #[.int .i64 (a : Int)] 3)) y0.heap.size 3 [.int .i64 (a : Int)]) := new_row y0 3 [.int .i64 (a : Int)]
              have N1 := Lib.hid (N0.out.later hb)
              have Bl1 := Lib.hid (Bl.out.later hb)
              go_simp
              refine hK.out _ _ ⟨RowIs.later hH0.1 hb, RowIs.later hH0.2 hb⟩ (fun hH1 => ?_)
              clear hK K hH0 hb N0 Bl
              try simp only [Act.put, List.setIfInBounds_toArray, List.set_cons_zero, List.set_cons_succ, List.getElem_toArray, List.getElem_cons_zero, List.getElem_cons_succ]
              obtain ⟨y1, hy1⟩ : ∃ y, (y0.alloc (.cells #[.int .i64 (a : Int)] 3)) = y := ⟨_, rfl⟩
              rw [hy1] at N1 As Bl1 hH1 ⊢
              obtain ⟨bs, hbs⟩ : ∃ b, y0.heap.size = b := ⟨_, rfl⟩
              rw [hbs] at As ⊢
              clear hbs hy1
              rotate_left
              refine AllReadyH.cons rfl (fun K hK => ?_) AllReadyH.nil
              have hb : Below y0.heap.size y0 (y0.alloc (.cells #[.int .i64 (a : Int)] 3)) := (Below.refl _ _).alloc (Nat.le_refl _) _
              have As : Hid (RowIs (y0.alloc (.cells #[.int .i64 (a : Int)] 3)) y0.heap.size 3 [.int .i64 (a : Int)]) := new_row y0 3 [.int .i64 (a : Int)]
              have N1 := Lib.hid (N0.out.later hb)
              have Bl1 := Lib.hid (Bl.out.later hb)
              go_simp
              refine hK.out _ _ ⟨RowIs.later hH0.1 hb, RowIs.later hH0.2 hb⟩ (fun hH1 => ?_)
              clear hK K hH0 hb N0 Bl
              try simp only [Act.put, List.setIfInBounds_toArray, List.set_cons_zero, List.set_cons_succ, List.getElem_toArray, List.getElem_cons_zero, List.getElem_cons_succ]
              obtain ⟨y1, hy1⟩ : ∃ y, (y0.alloc (.cells #[.int .i64 (a : Int)] 3)) = y := ⟨_, rfl⟩
              rw [hy1] at N1 As Bl1 hH1 ⊢
              obtain ⟨bs, hbs⟩ : ∃ b, y0.heap.size = b := ⟨_, rfl⟩
              rw [hbs] at As ⊢
              clear hbs hy1
              refine wpAnyH_ready (rs := [13]) (by kernel_rfl) (by simp) ?_
              refine AllReadyH.cons rfl (fun K hK => ?_) AllReadyH.nil
              have cV : y1.cell? ⟨gb, b, none⟩ = some (V false b) := (Bl1.out.cell false Hb.out).1
              go_simp
              refine hK.out _ _ hH1 (fun hH2 => ?_)
              clear hK K hH1 cV
              have hH1 := hH2
              clear hH2
              try simp only [Act.put, List.setIfInBounds_toArray, List.set_cons_zero, List.set_cons_succ, List.getElem_toArray, List.getElem_cons_zero, List.getElem_cons_succ]
              rotate_left
              all_goals
                refine wpAnyH_ready (rs := [17]) (by kernel_rfl) (by simp) ?_
                refine AllReadyH.cons rfl (fun K hK => ?_) AllReadyH.nil
                refine step_append_K (K := kNat) rfl (.tmp 89) (.tmp 92) rfl base (V false b) (R2 false b) (by rfl) (Bl1.out.own false b Hb.out) (.slice (some ⟨bs, 0, none⟩) 1 1) [a] (by rfl) (RowK.one As.out rfl) (by have := Hlenfalse.out; simpa using this) Bl1.out.le ?_
                intro v9 y2 ho9 hg9 hat9
                obtain ⟨a9, m9, c9, rfl⟩ : ∃ a m c, v9 = Value.slice a m c := by
                  obtain ⟨a, c, h, -⟩ := (OwnK.row ho9).form
                  exact ⟨a, _, c, h⟩
                have hP : some p ≠ (V false b).ownBlock := fun q => by have h1 := (Bl1.out.own false b Hb.out).lt q.symm; have h2 := N1.out.pp.1; omega
                have hX : some bx ≠ (V false b).ownBlock := fun q => Bx.out false b Hb.out q.symm
                have hT := RowIs.kept (Bl1.out.tab false) (hg9.block _ (RowIs.lt (Bl1.out.tab false)) (fun q => by have h1 := (Bl1.out.own false b Hb.out).lt q.symm; have h2 := Bl1.out.low false; omega))
                have HT := Lib.hid hT
                clear hT
                refine hK.out _ _ ⟨RowIs.kept hH1.1 (hg9.block p (RowIs.lt hH1.1) hP), RowIs.kept hH1.2 (hg9.block bx (RowIs.lt hH1.2) hX)⟩ (fun hH2 => ?_)
                have hB1x := hH1.2
                clear hK K hH1 hP hX
                have N3 := Lib.hid (N1.out.put (s := false) Bl1.out Bx.out Hb.out ho9 hg9 hat9 Hll3.out (RowIs.lt hB1x))
                clear ho9 hg9 hat9 N1 Bl1 Bx As hB1x
                try simp only [Act.put, List.setIfInBounds_toArray, List.set_cons_zero, List.set_cons_succ, List.getElem_toArray, List.getElem_cons_zero, List.getElem_cons_succ]
                refine wpAnyH_take (i := 18) (v := ?_) rfl (by kernel_rfl) (by kernel_rfl) (by kernel_rfl) (fun _ _ _ h => h) (Or.inl ⟨by rfl, ?_⟩) (by assumption) ?_
                rotate_left
                · (intro wx hSw; have c0 := hSw.1.cell (i := 0) rfl; have c1 := hSw.1.cell (i := 1) rfl; have d0 := hSw.2.cell (i := 0) rfl; have d1 := hSw.2.cell (i := 1) rfl; clear hSw; go_simp <;> with_reducible rfl)
                try simp only [Act.put, List.setIfInBounds_toArray, List.set_cons_zero, List.set_cons_succ, List.getElem_toArray, List.getElem_cons_zero, List.getElem_cons_succ]
                refine wpAnyH_ready (rs := [19]) (by kernel_rfl) (by simp) ?_
                refine AllReadyH.cons rfl (fun K hK => ?_) AllReadyH.nil
                have cT : y2.cell? ⟨gb, b, none⟩ = some (V false b) := HT.out.cell (by rw [List.getElem?_map, List.getElem?_range Hb.out]; rfl)
                have fT : y2.frozen? ⟨gb, b, none⟩ = false := HT.out.free b
                go_simp
                refine hK.out _ _ ⟨N3.out.g, RowIs.other_set hH2.2 Hbtfalse.out _ _⟩ (fun hH3 => ?_)
                clear hK K hH2 cT fT HT
                have X3 := Lib.hid hH3.2
                refine wpAnyH_done (by kernel_rfl) ?_ _
              all_goals
                have HN3 := Lib.hid N3.out.unbox
                rw [← HRR.out] at HN3
                clear N3 X3 HRR
                go_wp2
                go_roundg (es.length - (j + 1))
                case measure => have := Hj.out; have := Hlt.out; omega
                case rel => exact ⟨j + 1, by have := Hj.out; have := Hlt.out; omega, by go_num, HN3⟩
          · have hli : ¬ (j : Int) < (es.length : Int) := by omega
            have hall : es.take j = es := List.take_of_length_le (by omega)
            rw [hall] at HNw
            have HFin : Hid (NewPost w (n : Int) l (.returned (.tuple #[.pointer (some ⟨p, 0, none⟩), .int .i64 0])) wr) := by
              obtain ⟨V, hV, -⟩ := HNw.out.bld
              have hle := Hll3.out
              have gen : ∀ W', (∀ k, w.heap.size ≤ k → k < wr.heap.size → W'.heap[k]? = wr.heap[k]?) → GOk W' p n (aft es) (bef es) := fun W' hk => by
                have hrow : ∀ (s : Bool) i, i < n → RowK kNat W' (V s i) (cond s (aft es) (bef es) i) := fun s i hi => by
                  have h1 := hV.own s i hi
                  have h2 : RowK kNat wr (V s i) (cond s (aft es) (bef es) i) := by cases s <;> exact h1.row
                  exact h2.keptC (fun k hkk => by have := h1.lt hkk; exact hk k (by omega) this.2)
                have htab : ∀ s, RowIs W' (cond s ga gb) 30 ((List.range n).map (V s)) := fun s => RowIs.kept (hV.tab s) (hk _ (by cases s; exact hle.2.1; exact hle.1) (RowIs.lt (hV.tab s)))
                have hrs : ∀ s, RowsAt W' (cond s ga gb) n (cond s (aft es) (bef es)) := fun s i hi => ⟨V s i, (htab s).cell (by rw [List.getElem?_map, List.getElem?_range hi]; rfl), hrow s i hi⟩
                have hg : RowIs W' p 76 [.slice (some ⟨ga, 0, none⟩) n n, .slice (some ⟨gb, 0, none⟩) n n] := RowIs.kept HNw.out.g (hk _ HF2.out.2.1 (RowIs.lt HNw.out.g))
                refine ⟨⟨Hn.out.1, ga, gb, hg.cell rfl, hg.cell rfl, hrs true, hrs false⟩, fun i k hk => (Hins.out _ (mem_aft.1 hk)).2, fun i k hk => (Hins.out _ (mem_bef.1 hk)).1, fun i => ?_, fun i => ?_⟩
                · exact Nat.le_trans (sorted_len (aft_sort Hnm.out i) (fun k hk => (Hins.out _ (mem_aft.1 hk)).2)) Hn.out.1
                · exact Nat.le_trans (sorted_len (bef_sort Hnm.out i) (fun k hk => (Hins.out _ (mem_bef.1 hk)).1)) Hn.out.1
              have hnn : (n : Int).toNat = n := by simp
              refine ⟨HNw.out.low, .inr (.inr (.inr ⟨⟨by omega, by have := Hn.out.1; omega⟩, Hn.out.2, by simpa using HAll.out, p, rfl, ?_, HF2.out.2.1, ?_⟩))⟩
              · rw [hnn, Hel.out]; exact gen wr (fun _ _ _ => rfl)
              · rw [hnn, Hel.out]; exact gen
            clear HNw hlt hj hall
            go_wp2
            refine bodyPost_ret (v := .tuple #[.pointer (some ⟨p, 0, none⟩), .int .i64 0]) (by simp [results, Try.results20, go_sem]) rfl ?_
            exact HFin.out
end Go.Proofs.Yteiddebjbiadbaa
