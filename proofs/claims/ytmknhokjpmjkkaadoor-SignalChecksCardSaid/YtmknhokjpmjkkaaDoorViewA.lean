/- view: what a view is; New, read. -/
import Derived.Test.YtmknhokjpmjkkaaDoorState
import Derived.Deep.AppendLies
import Derived.StillTailTactics
namespace Go.Proofs.YtmknhokjpmjkkaaDoor
open Go.RowKit
attribute [local go_sem ↓] Go.wp_at_zero Go.wp_at_succ

structure ChangeT where
  name : NameT
  value : ByteArray
  absent : Bool
  deriving DecidableEq
def changeCells (c : ChangeT) : List Value := [.int .i64 c.name.kind, .string c.name.owner, .int .i64 c.name.number, .int .i64 c.name.index, .string c.name.text, .string c.value, .bool c.absent]
def changeV (c : ChangeT) : Value := .agg #[.int .i64 c.name.kind, .string c.name.owner, .int .i64 c.name.number, .int .i64 c.name.index, .string c.name.text, .string c.value, .bool c.absent]
def idxV (i : Nat) : Value := .int .i64 i

/-- Where a view lies. -/
structure VH where
  b : Nat
  rm : Nat
  lm : Nat
  cv : Value
  sp : Nat
  bs : Nat
def VH.fp (h : VH) (k : Nat) : Prop := k = h.b ∨ k = h.rm ∨ k = h.lm ∨ h.cv.ownBlock = some k

/-- A view as a value: its base, its reads, its calls. -/
structure AV where
  base : NameT → Option ByteArray
  reads : List (NameT × ChangeT)
  calls : List ChangeT

def lastFrom (l : List (NameT × Nat)) : Nat → List ChangeT → List (NameT × Nat)
  | _, [] => l
  | i, c :: cs => lastFrom (aSet l c.name i) (i + 1) cs
def lastOf (cs : List ChangeT) : List (NameT × Nat) := lastFrom [] 0 cs
theorem lastFrom_snoc (l : List (NameT × Nat)) (i : Nat) (cs : List ChangeT) (c : ChangeT) : lastFrom l i (cs ++ [c]) = aSet (lastFrom l i cs) c.name (i + cs.length) := by
  induction cs generalizing l i with
  | nil => simp [lastFrom]
  | cons d cs ih => simp only [List.cons_append, lastFrom, ih, List.length_cons]; congr 1; omega
theorem lastOf_snoc (cs : List ChangeT) (c : ChangeT) : lastOf (cs ++ [c]) = aSet (lastOf cs) c.name cs.length := by simp [lastOf, lastFrom_snoc]

theorem run_eql_reads_nil (w : World) (r : Option Nat) : (binOp .eql 117 (.map r) (.map none)).run Tryd.prog w = .ok (.bool r.isNone) w := run_eql_map_nil w _ _ _ r Tryd.underlying117
theorem run_eql_last_nil (w : World) (r : Option Nat) : (binOp .eql 118 (.map r) (.map none)).run Tryd.prog w = .ok (.bool r.isNone) w := run_eql_map_nil w _ _ _ r Tryd.underlying118
attribute [go_sem] run_eql_reads_nil run_eql_last_nil

/-- The state at sp answers f, whatever is made later. -/
def BaseOk (B : Nat) (w : World) (sp : Nat) (f : NameT → Option ByteArray) : Prop :=
  ∀ w', Below B w w' → ∀ n : NameT, Calls Tryd.prog 116 #[.pointer (some ⟨sp, 0, none⟩), nameV n] w' (GetPost w' (f n))

theorem BaseOk.later {B : Nat} {w w1 : World} {sp : Nat} {f : NameT → Option ByteArray} (h : BaseOk B w sp f) (hb : Below B w w1) : BaseOk B w1 sp f := fun w' hb' n => h w' (hb.trans hb') n

structure ViewAt (w : World) (h : VH) (V : AV) : Prop where
  heap : w.heap[h.b]? = some (.cells #[.pointer (some ⟨h.sp, 0, none⟩), .map (some h.rm), h.cv, .map (some h.lm)] 121 (0, 0))
  reads : MapIs changeV w h.rm V.reads
  last : MapIs idxV w h.lm (lastOf V.calls)
  calls : w.ownsRow 0 179 7 h.cv V.calls.length (V.calls.flatMap changeCells)
  apart : h.rm ≠ h.lm
  usages : Usages w
  base : BaseOk h.bs w h.sp V.base
  lo : ∀ k, h.fp k → h.bs ≤ k
  pos : 0 < h.bs
  top : h.bs ≤ w.heap.size
  len : V.calls.length ≤ 1000000

/-- What an operation on a view leaves. -/
def VPost (h : VH) (w : World) (V : AV) (w' : World) : Prop := ∃ h', ViewAt w' h' V ∧ h'.b = h.b ∧ h'.rm = h.rm ∧ h'.lm = h.lm ∧ h'.bs = h.bs ∧ h'.sp = h.sp ∧ Kept h.fp w w' ∧ ∀ k, h'.fp k → h.fp k ∨ w.heap.size ≤ k

theorem MapIs.kept {α : Type} {enc : α → Value} {w w' : World} {m : Nat} {l : List (NameT × α)} (h : MapIs enc w m l) (hk : w'.heap[m]? = w.heap[m]?) : MapIs enc w' m l := by
  obtain ⟨es, clock, hb, hl⟩ := h
  exact ⟨es, clock, hk.trans hb, hl⟩
theorem MapIs.lt {α : Type} {enc : α → Value} {w : World} {m : Nat} {l : List (NameT × α)} (h : MapIs enc w m l) : m < w.heap.size := by
  obtain ⟨es, clock, hb, hl⟩ := h
  exact lt_of_heap hb
theorem row_kept {w w' : World} {e : TypeId} {size : Nat} {v : Value} {n : Nat} {xs : List Value} (h : w.ownsRow 0 e size v n xs) (hk : ∀ g, v.ownBlock = some g → w'.heap[g]? = w.heap[g]?) : w'.ownsRow 0 e size v n xs := by
  obtain ⟨h1, h2⟩ := h
  refine ⟨h1, ?_⟩
  rcases h2 with h2 | ⟨g, cap, cur, hv, hb, hh, r⟩
  · exact .inl h2
  · exact .inr ⟨g, cap, cur, hv, hb, (hk g (by rw [hv]; rfl)).trans hh, r⟩
theorem row_lt {w : World} {e : TypeId} {size : Nat} {v : Value} {n : Nat} {xs : List Value} (h : w.ownsRow 0 e size v n xs) {g : Nat} (hg : v.ownBlock = some g) : ∃ cur, w.heap[g]? = some (.cells cur e (0, 0)) := by
  rcases h.2 with ⟨hv, _⟩ | ⟨g', cap, cur, hv, hb, hh, r⟩
  · rw [hv] at hg; cases hg
  · rw [hv] at hg; simp [Value.ownBlock] at hg; subst hg; exact ⟨cur, hh⟩

theorem ViewAt.fp_lt {w : World} {h : VH} {V : AV} (v : ViewAt w h V) {k : Nat} (hk : h.fp k) : k < w.heap.size := by
  rcases hk with rfl | rfl | rfl | hk
  · exact lt_of_heap v.heap
  · exact v.reads.lt
  · exact v.last.lt
  · obtain ⟨cur, hc⟩ := row_lt v.calls hk
    exact lt_of_heap hc

/-- A view lies on where its own blocks, and the base's, lie on. -/
theorem ViewAt.kept {w w' : World} {h : VH} {V : AV} (v : ViewAt w h V) (hb : Below h.bs w w') (hk : ∀ k, h.fp k → w'.heap[k]? = w.heap[k]?) : ViewAt w' h V where
  heap := (hk _ (.inl rfl)).trans v.heap
  reads := v.reads.kept (hk _ (.inr (.inl rfl)))
  last := v.last.kept (hk _ (.inr (.inr (.inl rfl))))
  calls := row_kept v.calls (fun g hg => hk g (.inr (.inr (.inr hg))))
  apart := v.apart
  usages := v.usages.below hb v.pos
  base := v.base.later hb
  lo := v.lo
  pos := v.pos
  top := Nat.le_trans v.top hb.size
  len := v.len
theorem ViewAt.later {w w' : World} {h : VH} {V : AV} (v : ViewAt w h V) (hb : Below w.heap.size w w') : ViewAt w' h V :=
  v.kept (hb.mono v.top) (fun k hk => hb.block k (v.fp_lt hk))

set_option maxRecDepth 100000 in
set_option maxHeartbeats 800000 in
theorem viewNew_any (sp : Nat) (f : NameT → Option ByteArray) (w : World) (hu : Usages w) (hb : BaseOk w.heap.size w sp f) :
    Calls Tryd.prog 16 #[.pointer (some ⟨sp, 0, none⟩)] w fun r w' => r = .returned (.pointer (some ⟨w.heap.size + 2, 0, none⟩)) ∧ Below w.heap.size w w' ∧
      ViewAt w' ⟨w.heap.size + 2, w.heap.size, w.heap.size + 1, .slice none 0 0, sp, w.heap.size⟩ ⟨f, [], []⟩ := by
  have hmm := @run_makeMap Tryd.prog
  have Hb := Lib.hid hb; clear hb
  have Hu := Lib.hid hu; clear hu
  go_enter Tryd.func16, Tryd.ntmps16
  go_wp2
  go_ret
  have hb' : Below w.heap.size w (((w.alloc (.map #[] 0)).alloc (.map #[] 0)).alloc (.cells #[.pointer (some ⟨sp, 0, none⟩), .map (some w.heap.size), .slice none 0 0, .map (some (w.heap.size + 1))] 121)) :=
    (((Below.refl _ _).alloc (Nat.le_refl _) _).alloc (by simp) _).alloc (by simp; omega) _
  have e0 : (((w.alloc (.map #[] 0)).alloc (.map #[] 0)).alloc (.cells #[.pointer (some ⟨sp, 0, none⟩), .map (some w.heap.size), .slice none 0 0, .map (some (w.heap.size + 1))] 121)).heap[w.heap.size]? = some (.map #[] 0) :=
    (Below.heap_alloc _ _ _ (by simp; omega)).trans ((Below.heap_alloc _ _ _ (by simp)).trans (World.alloc_heap_new w _))
  have e1 : (((w.alloc (.map #[] 0)).alloc (.map #[] 0)).alloc (.cells #[.pointer (some ⟨sp, 0, none⟩), .map (some w.heap.size), .slice none 0 0, .map (some (w.heap.size + 1))] 121)).heap[w.heap.size + 1]? = some (.map #[] 0) := by
    refine (Below.heap_alloc _ _ _ (by simp)).trans ?_
    have := World.alloc_heap_new (w.alloc (.map #[] 0)) (.map #[] 0)
    rwa [World.size_alloc] at this
  have e2 := World.alloc_heap_new ((w.alloc (.map #[] 0)).alloc (.map #[] 0)) (.cells #[.pointer (some ⟨sp, 0, none⟩), .map (some w.heap.size), .slice none 0 0, .map (some (w.heap.size + 1))] 121)
  rw [World.size_alloc, World.size_alloc] at e2
  refine ⟨rfl, hb', ⟨e2, ⟨_, _, e0, rfl⟩, ⟨_, _, e1, rfl⟩, World.ownsRow_nil _ _ _ _, by show w.heap.size ≠ w.heap.size + 1; omega, Hu.out.below hb' Hu.out.pos, Hb.out.later hb', ?_, Hu.out.pos, hb'.size, by simp⟩⟩
  intro k hk
  rcases hk with rfl | rfl | rfl | hk
  · show w.heap.size ≤ w.heap.size + 2; omega
  · exact Nat.le_refl _
  · show w.heap.size ≤ w.heap.size + 1; omega
  · cases hk

theorem vRead_post {b rm lm : Nat} {cv : Value} {sp bs : Nat} {V : AV} {w w2 : World} {o : Obj} {rs : List (NameT × ChangeT)} (hv : ViewAt w ⟨b, rm, lm, cv, sp, bs⟩ V) (hg : (w.alloc o).drew.grownBy w2 (some rm)) (hm : MapIs changeV w2 rm rs) :
    VPost ⟨b, rm, lm, cv, sp, bs⟩ w ⟨V.base, rs, V.calls⟩ w2 := by
  have hrl := hv.reads.lt
  have hbr : b ≠ rm := fun e => by obtain ⟨es, cl, h1, _⟩ := hv.reads; dsimp only at h1; rw [← e, hv.heap] at h1; cases h1
  have hbs : bs ≤ rm := hv.lo rm (.inr (.inl rfl))
  have hk : ∀ k, k < w.heap.size → k ≠ rm → w2.heap[k]? = w.heap[k]? := fun k hk hne => (hg.block k (by simp; omega) (fun e => hne (by cases e; rfl))).trans (Below.heap_alloc w.drew _ k hk)
  have hB : Below bs w w2 := ⟨hg.os, hg.tape, hg.output, Nat.le_trans (by simp) hg.size, fun k h => hk k (Nat.lt_of_lt_of_le h hv.top) (by omega)⟩
  refine ⟨⟨b, rm, lm, cv, sp, bs⟩, ⟨(hk b (lt_of_heap hv.heap) hbr).trans hv.heap, hm, hv.last.kept (hk lm hv.last.lt (fun e => hv.apart e.symm)), row_kept hv.calls (fun g hg' => ?_), hv.apart, hv.usages.below hB hv.pos, hv.base.later hB, hv.lo, hv.pos, Nat.le_trans hv.top hB.size, hv.len⟩, rfl, rfl, rfl, rfl, rfl, ⟨hg.os, hg.tape, hg.output, hB.size, fun k h hn => hk k h (fun e => hn (.inr (.inl e)))⟩, fun k h => .inl h⟩
  obtain ⟨cur, hc⟩ := row_lt hv.calls hg'
  refine hk g (lt_of_heap hc) (fun e => ?_)
  obtain ⟨es, cl, h1, _⟩ := hv.reads
  dsimp only at h1
  rw [← e, hc] at h1
  cases h1

set_option maxRecDepth 100000 in
set_option maxHeartbeats 1600000 in
theorem vRead_any (h : VH) (V : AV) (c : ChangeT) (w : World) (hv : ViewAt w h V) :
    Calls Tryd.prog 117 #[.pointer (some ⟨h.b, 0, none⟩), changeV c] w fun r w' => r = .returned (.tuple #[]) ∧ VPost h w ⟨V.base, aSet V.reads c.name c, V.calls⟩ w' := by
  obtain ⟨b, rm, lm, cv, sp, bs⟩ := h
  have hlt : b < w.heap.size := lt_of_heap hv.heap
  have c1 : w.cell? ⟨b, 1, none⟩ = some (.map (some rm)) := cell_of_heap hv.heap 1
  have hne := World.new_ne w ⟨b, 1, none⟩ c1
  have hm1 : MapIs changeV ((w.alloc (.cells #[.int .i64 c.name.kind, .string c.name.owner, .int .i64 c.name.number, .int .i64 c.name.index, .string c.name.text, .string c.value, .bool c.absent] 179)).drew) rm V.reads := hv.reads.kept (Below.heap_alloc _ _ _ hv.reads.lt)
  obtain ⟨w2, hrun, hm2, hg2⟩ := run_mapUpdate_name changeV _ 117 179 Tryd.underlying117 rm V.reads hm1 c.name c
  have hbr : b ≠ rm := fun e => by obtain ⟨es, cl, h1, _⟩ := hv.reads; dsimp only at h1; rw [← e, hv.heap] at h1; cases h1
  have hrl := hv.reads.lt
  dsimp only at hrl
  have hk0 : ∀ j, w2.cell? ⟨w.heap.size, j, none⟩ = (#[.int .i64 c.name.kind, .string c.name.owner, .int .i64 c.name.number, .int .i64 c.name.index, .string c.name.text, .string c.value, .bool c.absent] : Array Value)[j]? := fun j => by
    have h1 := hg2.block w.heap.size (by simp) (fun e => by cases e; omega)
    have h2 := cell_of_heap (World.alloc_heap_new w (.cells #[.int .i64 c.name.kind, .string c.name.owner, .int .i64 c.name.number, .int .i64 c.name.index, .string c.name.text, .string c.value, .bool c.absent] 179)) j
    exact (World.cell?_of_block (a := ⟨w.heap.size, j, none⟩) h1).trans h2
  have hS2 : Hid (w2.cell? ⟨b, 1, none⟩ = some (.map (some rm)) ∧ w2.cell? ⟨w.heap.size, 0, none⟩ = some (.int .i64 c.name.kind) ∧ w2.cell? ⟨w.heap.size, 1, none⟩ = some (.string c.name.owner) ∧ w2.cell? ⟨w.heap.size, 2, none⟩ = some (.int .i64 c.name.number) ∧ w2.cell? ⟨w.heap.size, 3, none⟩ = some (.int .i64 c.name.index) ∧ w2.cell? ⟨w.heap.size, 4, none⟩ = some (.string c.name.text) ∧ w2.cell? ⟨w.heap.size, 5, none⟩ = some (.string c.value) ∧ w2.cell? ⟨w.heap.size, 6, none⟩ = some (.bool c.absent)) := by
    refine ⟨?_, hk0 0, hk0 1, hk0 2, hk0 3, hk0 4, hk0 5, hk0 6⟩
    have h1 := (hg2.block b (by simp; omega) (fun e => hbr (by cases e; rfl))).trans (Below.heap_alloc w.drew _ b hlt)
    exact (World.cell?_of_block (a := ⟨b, 1, none⟩) h1).trans c1
  clear hk0
  unfold nameV changeV at hrun
  unfold changeV
  have Hv := Lib.hid hv; clear hv
  have Hm2 := Lib.hid hm2; clear hm2
  have Hg2 := Lib.hid hg2; clear hg2
  clear hm1
  dsimp only at *
  go_enter Tryd.func117, Tryd.ntmps117
  go_wp2
  go_region_held3 (fun w' => w'.cell? ⟨b, 1, none⟩ = some (.map (some rm)) ∧ w'.cell? ⟨w.heap.size, 0, none⟩ = some (.int .i64 c.name.kind) ∧ w'.cell? ⟨w.heap.size, 1, none⟩ = some (.string c.name.owner) ∧ w'.cell? ⟨w.heap.size, 2, none⟩ = some (.int .i64 c.name.number) ∧ w'.cell? ⟨w.heap.size, 3, none⟩ = some (.int .i64 c.name.index) ∧ w'.cell? ⟨w.heap.size, 4, none⟩ = some (.string c.name.text) ∧ w'.cell? ⟨w.heap.size, 5, none⟩ = some (.string c.value) ∧ w'.cell? ⟨w.heap.size, 6, none⟩ = some (.bool c.absent)) (first | go_keep | exact hS2.out) (fail)
  all_goals go_wp2
  go_end0
  exact ⟨rfl, vRead_post Hv.out Hg2.out Hm2.out⟩

end Go.Proofs.YtmknhokjpmjkkaaDoor
