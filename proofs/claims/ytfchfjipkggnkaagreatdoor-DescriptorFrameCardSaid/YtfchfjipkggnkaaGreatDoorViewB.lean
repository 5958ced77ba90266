/- view: what a view is; New, read. view: call. -/
import Derived.Test.YtfchfjipkggnkaaGreatDoorStaF
import Derived.Deep.AppendLies
import Derived.StillTailTactics
import Derived.Deep.RegionLaw
import Derived.BigRegion
namespace Go.Proofs.YtfchfjipkggnkaaGreatDoor
open Go.RowKit
attribute [local go_sem ↓] Go.wp_at_zero Go.wp_at_succ

structure ChangeT where
  name : NameT
  value : ByteArray
  absent : Bool
  deriving DecidableEq
def changeCells (c : ChangeT) : List Value := [.int .i64 c.name.kind, .string c.name.owner, .int .i64 c.name.number, .int .i64 c.name.index, .string c.name.text, .string c.value, .bool c.absent]
def changeV (c : ChangeT) : Value := .agg #[.int .i64 c.name.kind, .string c.name.owner, .int .i64 c.name.number, .int .i64 c.name.index, .string c.name.text, .string c.value, .bool c.absent]
def idxV (i : Nat) : Value := .int .i64 i

/-- Where a view lies. -/
structure VH where
  b : Nat
  rm : Nat
  lm : Nat
  cv : Value
  sp : Nat
  bs : Nat
def VH.fp (h : VH) (k : Nat) : Prop := k = h.b ∨ k = h.rm ∨ k = h.lm ∨ h.cv.ownBlock = some k

/-- A view as a value: its base, its reads, its calls. -/
structure AV where
  base : NameT → Option ByteArray
  reads : List (NameT × ChangeT)
  calls : List ChangeT

def lastFrom (l : List (NameT × Nat)) : Nat → List ChangeT → List (NameT × Nat)
  | _, [] => l
  | i, c :: cs => lastFrom (aSet l c.name i) (i + 1) cs
def lastOf (cs : List ChangeT) : List (NameT × Nat) := lastFrom [] 0 cs
theorem lastFrom_snoc (l : List (NameT × Nat)) (i : Nat) (cs : List ChangeT) (c : ChangeT) : lastFrom l i (cs ++ [c]) = aSet (lastFrom l i cs) c.name (i + cs.length) := by
  induction cs generalizing l i with
  | nil => simp [lastFrom]
  | cons d cs ih => simp only [List.cons_append, lastFrom, ih, List.length_cons]; congr 1; omega
theorem lastOf_snoc (cs : List ChangeT) (c : ChangeT) : lastOf (cs ++ [c]) = aSet (lastOf cs) c.name cs.length := by simp [lastOf, lastFrom_snoc]

theorem run_eql_reads_nil (w : World) (r : Option Nat) : (binOp .eql 75 (.map r) (.map none)).run Tryz.prog w = .ok (.bool r.isNone) w := run_eql_map_nil w _ _ _ r Tryz.underlying75
theorem run_eql_last_nil (w : World) (r : Option Nat) : (binOp .eql 76 (.map r) (.map none)).run Tryz.prog w = .ok (.bool r.isNone) w := run_eql_map_nil w _ _ _ r Tryz.underlying76
attribute [go_sem] run_eql_reads_nil run_eql_last_nil

/-- A name that the program's Check accepts. -/
def NameOk (n : NameT) : Prop := FitN n ∧ ∀ W, Usages W → Calls Tryz.prog 52 #[nameV n] W fun r w' => r = .returned (.int .i64 0) ∧ Below W.heap.size W w'
/-- A call that a view records. -/
def CallOk (c : ChangeT) : Prop := NameOk c.name ∧ c.value.size ≤ 65536
/-- The reads that a view records: one for each name. -/
def ReadsOk (rs : List (NameT × ChangeT)) : Prop := (rs.map Prod.fst).Nodup ∧ ∀ p ∈ rs, p.2.name = p.1 ∧ FitN p.1
theorem aSet_keys {α : Type} (l : List (NameT × α)) (n : NameT) (x : α) : ∀ m, m ∈ (aSet l n x).map Prod.fst ↔ m = n ∨ m ∈ l.map Prod.fst := by
  induction l with
  | nil => intro m; simp [aSet]
  | cons e l ih =>
    intro m
    simp only [aSet]
    split
    · rename_i h
      subst h
      simp
    · simp only [List.map_cons, List.mem_cons, ih m]
      constructor
      · rintro (h | h | h)
        · exact .inr (.inl h)
        · exact .inl h
        · exact .inr (.inr h)
      · rintro (h | h | h)
        · exact .inr (.inl h)
        · exact .inl h
        · exact .inr (.inr h)
theorem aSet_nodup {α : Type} (l : List (NameT × α)) (n : NameT) (x : α) (h : (l.map Prod.fst).Nodup) : ((aSet l n x).map Prod.fst).Nodup := by
  induction l with
  | nil => simp [aSet]
  | cons e l ih =>
    simp only [List.map_cons, List.nodup_cons] at h
    simp only [aSet]
    split
    · rename_i h1
      subst h1
      simpa using h
    · rename_i h1
      simp only [List.map_cons, List.nodup_cons]
      refine ⟨fun hm => ?_, ih h.2⟩
      rcases (aSet_keys l n x _).1 hm with h2 | h2
      · exact h1 (by first | exact h2 | exact h2.symm)
      · exact h.1 h2
theorem aSet_mem {α : Type} (l : List (NameT × α)) (n : NameT) (x : α) {p : NameT × α} (h : p ∈ aSet l n x) : p = (n, x) ∨ p ∈ l := by
  induction l with
  | nil => simp [aSet] at h; exact .inl h
  | cons e l ih =>
    simp only [aSet] at h
    split at h
    · rcases List.mem_cons.1 h with h | h
      · left; exact h
      · right; simp [h]
    · rcases List.mem_cons.1 h with h | h
      · right; simp [h]
      · rcases ih h with h | h
        · exact .inl h
        · right; simp [h]
theorem ReadsOk.set {rs : List (NameT × ChangeT)} (h : ReadsOk rs) (c : ChangeT) (hc : FitN c.name) : ReadsOk (aSet rs c.name c) := by
  refine ⟨aSet_nodup _ _ _ h.1, fun p hp => ?_⟩
  rcases aSet_mem _ _ _ hp with rfl | hp
  · exact ⟨rfl, hc⟩
  · exact h.2 p hp

structure ViewAt (w : World) (h : VH) (V : AV) : Prop where
  heap : w.heap[h.b]? = some (.cells #[.pointer (some ⟨h.sp, 0, none⟩), .map (some h.rm), h.cv, .map (some h.lm)] 78 (0, 0))
  reads : MapIs changeV w h.rm V.reads
  last : MapIs idxV w h.lm (lastOf V.calls)
  calls : w.ownsRow 0 61 7 h.cv V.calls.length (V.calls.flatMap changeCells)
  apart : h.rm ≠ h.lm
  usages : Usages w
  base : BaseOk h.bs w h.sp V.base
  lo : ∀ k, h.fp k → h.bs ≤ k
  pos : 0 < h.bs
  top : h.bs ≤ w.heap.size
  len : V.calls.length ≤ 1000000
  ok : ∀ c ∈ V.calls, CallOk c
  rdk : ReadsOk V.reads

/-- What an operation on a view leaves. -/
def VPost (h : VH) (w : World) (V : AV) (w' : World) : Prop := ∃ h', ViewAt w' h' V ∧ h'.b = h.b ∧ h'.rm = h.rm ∧ h'.lm = h.lm ∧ h'.bs = h.bs ∧ h'.sp = h.sp ∧ Kept h.fp w w' ∧ ∀ k, h'.fp k → h.fp k ∨ w.heap.size ≤ k

theorem MapIs.kept {α : Type} {enc : α → Value} {w w' : World} {m : Nat} {l : List (NameT × α)} (h : MapIs enc w m l) (hk : w'.heap[m]? = w.heap[m]?) : MapIs enc w' m l := by
  obtain ⟨es, clock, hb, hl⟩ := h
  exact ⟨es, clock, hk.trans hb, hl⟩
theorem MapIs.lt {α : Type} {enc : α → Value} {w : World} {m : Nat} {l : List (NameT × α)} (h : MapIs enc w m l) : m < w.heap.size := by
  obtain ⟨es, clock, hb, hl⟩ := h
  exact lt_of_heap hb
theorem row_kept {w w' : World} {e : TypeId} {size : Nat} {v : Value} {n : Nat} {xs : List Value} (h : w.ownsRow 0 e size v n xs) (hk : ∀ g, v.ownBlock = some g → w'.heap[g]? = w.heap[g]?) : w'.ownsRow 0 e size v n xs := by
  obtain ⟨h1, h2⟩ := h
  refine ⟨h1, ?_⟩
  rcases h2 with h2 | ⟨g, cap, cur, hv, hb, hh, r⟩
  · exact .inl h2
  · exact .inr ⟨g, cap, cur, hv, hb, (hk g (by rw [hv]; rfl)).trans hh, r⟩
theorem row_lt {w : World} {e : TypeId} {size : Nat} {v : Value} {n : Nat} {xs : List Value} (h : w.ownsRow 0 e size v n xs) {g : Nat} (hg : v.ownBlock = some g) : ∃ cur, w.heap[g]? = some (.cells cur e (0, 0)) := by
  rcases h.2 with ⟨hv, _⟩ | ⟨g', cap, cur, hv, hb, hh, r⟩
  · rw [hv] at hg; cases hg
  · rw [hv] at hg; simp [Value.ownBlock] at hg; subst hg; exact ⟨cur, hh⟩

theorem ViewAt.fp_lt {w : World} {h : VH} {V : AV} (v : ViewAt w h V) {k : Nat} (hk : h.fp k) : k < w.heap.size := by
  rcases hk with rfl | rfl | rfl | hk
  · exact lt_of_heap v.heap
  · exact v.reads.lt
  · exact v.last.lt
  · obtain ⟨cur, hc⟩ := row_lt v.calls hk
    exact lt_of_heap hc

/-- A view lies on where its own blocks, and the base's, lie on. -/
theorem ViewAt.kept {w w' : World} {h : VH} {V : AV} (v : ViewAt w h V) (hb : Below h.bs w w') (hk : ∀ k, h.fp k → w'.heap[k]? = w.heap[k]?) : ViewAt w' h V where
  heap := (hk _ (.inl rfl)).trans v.heap
  reads := v.reads.kept (hk _ (.inr (.inl rfl)))
  last := v.last.kept (hk _ (.inr (.inr (.inl rfl))))
  calls := row_kept v.calls (fun g hg => hk g (.inr (.inr (.inr hg))))
  apart := v.apart
  usages := v.usages.below hb v.pos
  base := v.base.later hb
  lo := v.lo
  pos := v.pos
  top := Nat.le_trans v.top hb.size
  len := v.len
  ok := v.ok
  rdk := v.rdk
theorem ViewAt.later {w w' : World} {h : VH} {V : AV} (v : ViewAt w h V) (hb : Below w.heap.size w w') : ViewAt w' h V :=
  v.kept (hb.mono v.top) (fun k hk => hb.block k (v.fp_lt hk))

set_option maxRecDepth 100000 in
set_option maxHeartbeats 800000 in
theorem viewNew_any (sp : Nat) (f : NameT → Option ByteArray) (w : World) (hu : Usages w) (hb : BaseOk w.heap.size w sp f) :
    Calls Tryz.prog 9 #[.pointer (some ⟨sp, 0, none⟩)] w fun r w' => r = .returned (.pointer (some ⟨w.heap.size + 2, 0, none⟩)) ∧ Below w.heap.size w w' ∧
      ViewAt w' ⟨w.heap.size + 2, w.heap.size, w.heap.size + 1, .slice none 0 0, sp, w.heap.size⟩ ⟨f, [], []⟩ := by
  have hmm := @run_makeMap Tryz.prog
  have Hb := Lib.hid hb; clear hb
  have Hu := Lib.hid hu; clear hu
  go_enter Tryz.func9, Tryz.ntmps9
  go_wp2
  go_ret
  have hb' : Below w.heap.size w (((w.alloc (.map #[] 0)).alloc (.map #[] 0)).alloc (.cells #[.pointer (some ⟨sp, 0, none⟩), .map (some w.heap.size), .slice none 0 0, .map (some (w.heap.size + 1))] 78)) :=
    (((Below.refl _ _).alloc (Nat.le_refl _) _).alloc (by simp) _).alloc (by simp; omega) _
  have e0 : (((w.alloc (.map #[] 0)).alloc (.map #[] 0)).alloc (.cells #[.pointer (some ⟨sp, 0, none⟩), .map (some w.heap.size), .slice none 0 0, .map (some (w.heap.size + 1))] 78)).heap[w.heap.size]? = some (.map #[] 0) :=
    (Below.heap_alloc _ _ _ (by simp; omega)).trans ((Below.heap_alloc _ _ _ (by simp)).trans (World.alloc_heap_new w _))
  have e1 : (((w.alloc (.map #[] 0)).alloc (.map #[] 0)).alloc (.cells #[.pointer (some ⟨sp, 0, none⟩), .map (some w.heap.size), .slice none 0 0, .map (some (w.heap.size + 1))] 78)).heap[w.heap.size + 1]? = some (.map #[] 0) := by
    refine (Below.heap_alloc _ _ _ (by simp)).trans ?_
    have := World.alloc_heap_new (w.alloc (.map #[] 0)) (.map #[] 0)
    rwa [World.size_alloc] at this
  have e2 := World.alloc_heap_new ((w.alloc (.map #[] 0)).alloc (.map #[] 0)) (.cells #[.pointer (some ⟨sp, 0, none⟩), .map (some w.heap.size), .slice none 0 0, .map (some (w.heap.size + 1))] 78)
  rw [World.size_alloc, World.size_alloc] at e2
  refine ⟨rfl, hb', ⟨e2, ⟨_, _, e0, rfl, by simp [Stamps]⟩, ⟨_, _, e1, rfl, by simp [Stamps]⟩, World.ownsRow_nil _ _ _ _, by show w.heap.size ≠ w.heap.size + 1; omega, Hu.out.below hb' Hu.out.pos, Hb.out.later hb', ?_, Hu.out.pos, hb'.size, by simp, fun c hc => by simp at hc, ⟨by simp, fun p hp => by simp at hp⟩⟩⟩
  intro k hk
  rcases hk with rfl | rfl | rfl | hk
  · show w.heap.size ≤ w.heap.size + 2; omega
  · exact Nat.le_refl _
  · show w.heap.size ≤ w.heap.size + 1; omega
  · cases hk

theorem vRead_post {b rm lm : Nat} {cv : Value} {sp bs : Nat} {V : AV} {w w2 : World} {o : Obj} {rs : List (NameT × ChangeT)} (hv : ViewAt w ⟨b, rm, lm, cv, sp, bs⟩ V) (hg : (w.alloc o).drew.grownBy w2 (some rm)) (hm : MapIs changeV w2 rm rs) (hrs : ReadsOk rs) :
    VPost ⟨b, rm, lm, cv, sp, bs⟩ w ⟨V.base, rs, V.calls⟩ w2 := by
  have hrl := hv.reads.lt
  have hbr : b ≠ rm := fun e => by obtain ⟨es, cl, h1, _⟩ := hv.reads; dsimp only at h1; rw [← e, hv.heap] at h1; cases h1
  have hbs : bs ≤ rm := hv.lo rm (.inr (.inl rfl))
  have hk : ∀ k, k < w.heap.size → k ≠ rm → w2.heap[k]? = w.heap[k]? := fun k hk hne => (hg.block k (by simp; omega) (fun e => hne (by cases e; rfl))).trans (Below.heap_alloc w.drew _ k hk)
  have hB : Below bs w w2 := ⟨hg.os, hg.tape, hg.output, Nat.le_trans (by simp) hg.size, fun k h => hk k (Nat.lt_of_lt_of_le h hv.top) (by omega)⟩
  refine ⟨⟨b, rm, lm, cv, sp, bs⟩, ⟨(hk b (lt_of_heap hv.heap) hbr).trans hv.heap, hm, hv.last.kept (hk lm hv.last.lt (fun e => hv.apart e.symm)), row_kept hv.calls (fun g hg' => ?_), hv.apart, hv.usages.below hB hv.pos, hv.base.later hB, hv.lo, hv.pos, Nat.le_trans hv.top hB.size, hv.len, hv.ok, hrs⟩, rfl, rfl, rfl, rfl, rfl, ⟨hg.os, hg.tape, hg.output, hB.size, fun k h hn => hk k h (fun e => hn (.inr (.inl e)))⟩, fun k h => .inl h⟩
  obtain ⟨cur, hc⟩ := row_lt hv.calls hg'
  refine hk g (lt_of_heap hc) (fun e => ?_)
  obtain ⟨es, cl, h1, _⟩ := hv.reads
  dsimp only at h1
  rw [← e, hc] at h1
  cases h1

set_option maxRecDepth 100000 in
set_option maxHeartbeats 1600000 in
theorem vRead_any (h : VH) (V : AV) (c : ChangeT) (w : World) (hv : ViewAt w h V) (hcf : FitN c.name) :
    Calls Tryz.prog 54 #[.pointer (some ⟨h.b, 0, none⟩), changeV c] w fun r w' => r = .returned (.tuple #[]) ∧ VPost h w ⟨V.base, aSet V.reads c.name c, V.calls⟩ w' := by
  obtain ⟨b, rm, lm, cv, sp, bs⟩ := h
  have hlt : b < w.heap.size := lt_of_heap hv.heap
  have c1 : w.cell? ⟨b, 1, none⟩ = some (.map (some rm)) := cell_of_heap hv.heap 1
  have hne := World.new_ne w ⟨b, 1, none⟩ c1
  have hm1 : MapIs changeV ((w.alloc (.cells #[.int .i64 c.name.kind, .string c.name.owner, .int .i64 c.name.number, .int .i64 c.name.index, .string c.name.text, .string c.value, .bool c.absent] 61)).drew) rm V.reads := hv.reads.kept (Below.heap_alloc _ _ _ hv.reads.lt)
  obtain ⟨w2, hrun, hm2, hg2⟩ := run_mapUpdate_name changeV _ 75 61 Tryz.underlying75 rm V.reads hm1 c.name c
  have hbr : b ≠ rm := fun e => by obtain ⟨es, cl, h1, _⟩ := hv.reads; dsimp only at h1; rw [← e, hv.heap] at h1; cases h1
  have hrl := hv.reads.lt
  dsimp only at hrl
  have hk0 : ∀ j, w2.cell? ⟨w.heap.size, j, none⟩ = (#[.int .i64 c.name.kind, .string c.name.owner, .int .i64 c.name.number, .int .i64 c.name.index, .string c.name.text, .string c.value, .bool c.absent] : Array Value)[j]? := fun j => by
    have h1 := hg2.block w.heap.size (by simp) (fun e => by cases e; omega)
    have h2 := cell_of_heap (World.alloc_heap_new w (.cells #[.int .i64 c.name.kind, .string c.name.owner, .int .i64 c.name.number, .int .i64 c.name.index, .string c.name.text, .string c.value, .bool c.absent] 61)) j
    exact (World.cell?_of_block (a := ⟨w.heap.size, j, none⟩) h1).trans h2
  have hS2 : Hid (w2.cell? ⟨b, 1, none⟩ = some (.map (some rm)) ∧ w2.cell? ⟨w.heap.size, 0, none⟩ = some (.int .i64 c.name.kind) ∧ w2.cell? ⟨w.heap.size, 1, none⟩ = some (.string c.name.owner) ∧ w2.cell? ⟨w.heap.size, 2, none⟩ = some (.int .i64 c.name.number) ∧ w2.cell? ⟨w.heap.size, 3, none⟩ = some (.int .i64 c.name.index) ∧ w2.cell? ⟨w.heap.size, 4, none⟩ = some (.string c.name.text) ∧ w2.cell? ⟨w.heap.size, 5, none⟩ = some (.string c.value) ∧ w2.cell? ⟨w.heap.size, 6, none⟩ = some (.bool c.absent)) := by
    refine ⟨?_, hk0 0, hk0 1, hk0 2, hk0 3, hk0 4, hk0 5, hk0 6⟩
    have h1 := (hg2.block b (by simp; omega) (fun e => hbr (by cases e; rfl))).trans (Below.heap_alloc w.drew _ b hlt)
    exact (World.cell?_of_block (a := ⟨b, 1, none⟩) h1).trans c1
  clear hk0
  unfold nameV changeV at hrun
  unfold changeV
  have Hcf := Lib.hid hcf; clear hcf
  have Hv := Lib.hid hv; clear hv
  have Hm2 := Lib.hid hm2; clear hm2
  have Hg2 := Lib.hid hg2; clear hg2
  clear hm1
  dsimp only at *
  go_enter Tryz.func54, Tryz.ntmps54
  go_wp2
  go_region_held3 (fun w' => w'.cell? ⟨b, 1, none⟩ = some (.map (some rm)) ∧ w'.cell? ⟨w.heap.size, 0, none⟩ = some (.int .i64 c.name.kind) ∧ w'.cell? ⟨w.heap.size, 1, none⟩ = some (.string c.name.owner) ∧ w'.cell? ⟨w.heap.size, 2, none⟩ = some (.int .i64 c.name.number) ∧ w'.cell? ⟨w.heap.size, 3, none⟩ = some (.int .i64 c.name.index) ∧ w'.cell? ⟨w.heap.size, 4, none⟩ = some (.string c.name.text) ∧ w'.cell? ⟨w.heap.size, 5, none⟩ = some (.string c.value) ∧ w'.cell? ⟨w.heap.size, 6, none⟩ = some (.bool c.absent)) (first | go_keep | exact hS2.out) (fail)
  all_goals go_wp2
  go_end0
  exact ⟨rfl, vRead_post Hv.out Hg2.out Hm2.out (Hv.out.rdk.set c Hcf.out)⟩

end Go.Proofs.YtfchfjipkggnkaaGreatDoor

namespace Go.Proofs.YtfchfjipkggnkaaGreatDoor
open Go.RowKit
attribute [local go_sem ↓] Go.wp_at_zero Go.wp_at_succ

def changeZ : Value := .agg #[.int .i64 0, .string ⟨#[]⟩, .int .i64 0, .int .i64 0, .string ⟨#[]⟩, .string ⟨#[]⟩, .bool false]
theorem Tryz.infoChange : (Tryz.prog.info? 61).map (fun i => (i.zero, i.size, i.bytes)) = some (some changeZ, 7, 80) := by kernel_rfl

/-- append of one Change to a row of Changes. -/
theorem step_append_change {ops : Array Oper} {o : Oper} {a : Act} {K : Act → World → Prop} {Q : Exit → Act → World → Prop} {E : Prop} (hgd : o.guard = none) (s x : Operand)
    (ho : o.op = .call { callee := .builtin .append, args := #[s, x], argTypes := #[58, 58] }) {w : World} (v : Value) (cs : List ChangeT) (n0 : Nat) (hn0 : n0 = cs.length) (hs : a.eval s = v) (hrow : w.ownsRow 0 61 7 v n0 (cs.flatMap changeCells))
    (c : ChangeT) (B : Nat) (hx : a.eval x = .slice (some ⟨B, 0, none⟩) 1 1) (hB : w.heap[B]? = some (.cells #[.int .i64 c.name.kind, .string c.name.owner, .int .i64 c.name.number, .int .i64 c.name.index, .string c.name.text, .string c.value, .bool c.absent] 61 (0, 0))) (hlen : n0 ≤ 1000000)
    (h : ∀ g n cap w', w'.ownsRow 0 61 7 (.slice (some ⟨g, 0, none⟩) n cap) (cs ++ [c]).length ((cs ++ [c]).flatMap changeCells) → w.grownBy w' v.ownBlock → (v.ownBlock = some g ∨ g = w.heap.size) → K (a.put o.dst (.slice (some ⟨g, 0, none⟩) n cap)) w') :
    if Region.wanted o (yielded ops a.tmps) = true then Oper.wp Tryz.prog o a w K Q else E := by
  obtain ⟨i0, hi, hz0, hz1, hz2⟩ := info_parts Tryz.infoChange
  subst hn0
  refine step_append_lies _ hgd s x 58 ho 0 61 i0 changeZ 7 80 Tryz.underlying58 hi hz0 hz1 hz2 rfl (by decide) v cs.length (cs.flatMap changeCells) hs hrow ⟨B, 0, none⟩ 1 1 (changeCells c) hx rfl
    (World.news_of_block hB) (by simp [changeCells, Value.oneCell']) (by decide) (by unfold maxLen; omega) (by omega) (Nat.zero_le _) w.heap.size rfl ?_
  intro g cap w' h2 h3 h4 _
  refine h g _ cap w' ?_ h3 h4
  simpa using h2

theorem row_form {w : World} {e : TypeId} {size : Nat} {v : Value} {n : Nat} {xs : List Value} (h : w.ownsRow 0 e size v n xs) : ∃ a cap, v = .slice a n cap ∧ (a = none ∨ ∃ g, a = some ⟨g, 0, none⟩) := by
  rcases h.2 with ⟨hv, h0⟩ | ⟨g, cap, cur, hv, _⟩
  · exact ⟨none, 0, by rw [hv, h0], .inl rfl⟩
  · exact ⟨_, cap, hv, .inr ⟨g, rfl⟩⟩

theorem call_row {b rm lm : Nat} {cv : Value} {sp bs : Nat} {V : AV} {w w2 : World} {o : Obj} (hv : ViewAt w ⟨b, rm, lm, cv, sp, bs⟩ V) (hg : (w.alloc o).drew.grownBy w2 (some lm)) :
    w2.ownsRow 0 61 7 cv V.calls.length (V.calls.flatMap changeCells) := by
  refine row_kept hv.calls (fun g hg' => ?_)
  obtain ⟨cur, hc⟩ := row_lt hv.calls hg'
  refine (hg.block g (by simp; have := lt_of_heap hc; omega) (fun e => ?_)).trans (Below.heap_alloc w.drew _ g (lt_of_heap hc))
  obtain ⟨es, cl, h1, _⟩ := hv.last
  dsimp only at h1
  cases e
  rw [hc] at h1
  cases h1
theorem call_heap {b rm lm : Nat} {cv : Value} {sp bs : Nat} {V : AV} {w w2 w3 : World} {o : Obj} (hv : ViewAt w ⟨b, rm, lm, cv, sp, bs⟩ V) (hb2 : w2.heap[b]? = w.heap[b]?) (hg : (w2.alloc o).drew.grownBy w3 cv.ownBlock) :
    w3.heap[b]? = some (.cells #[.pointer (some ⟨sp, 0, none⟩), .map (some rm), cv, .map (some lm)] 78 (0, 0)) := by
  have h2 := hb2.trans hv.heap
  refine (hg.block b (by simp; have := lt_of_heap h2; omega) (fun e => ?_)).trans ((Below.heap_alloc w2.drew _ b (lt_of_heap h2)).trans h2)
  obtain ⟨cur, hc⟩ := row_lt hv.calls e.symm
  rw [hv.heap] at hc
  cases hc

theorem vCall_post {b rm lm : Nat} {av : Option Addr} {N cap : Nat} {sp bs : Nat} {V : AV} {c : ChangeT} {w w2 w3 : World} {o o2 : Obj} {g n cap3 : Nat} (hN : V.calls.length = N) (hv : ViewAt w ⟨b, rm, lm, .slice av N cap, sp, bs⟩ V) (hlen : N < 1000000) (hco : CallOk c)
    (hg2 : (w.alloc o).drew.grownBy w2 (some lm)) (hm2 : MapIs idxV w2 lm (aSet (lastOf V.calls) c.name N)) (hown3 : w3.ownsRow 0 61 7 (.slice (some ⟨g, 0, none⟩) n cap3) (V.calls ++ [c]).length ((V.calls ++ [c]).flatMap changeCells))
    (hg3 : (w2.alloc o2).drew.grownBy w3 (Value.slice av N cap).ownBlock) (hat3 : (Value.slice av N cap).ownBlock = some g ∨ g = (w2.alloc o2).drew.heap.size) :
    VPost ⟨b, rm, lm, .slice av N cap, sp, bs⟩ w ⟨V.base, V.reads, V.calls ++ [c]⟩ (w3.setCell ⟨b, 2, none⟩ (.slice (some ⟨g, 0, none⟩) n cap3)) := by
  have hsz2 : w.heap.size ≤ w2.heap.size := Nat.le_trans (by simp) hg2.size
  have hsz3 : w2.heap.size ≤ w3.heap.size := Nat.le_trans (by simp) hg3.size
  have hat : (Value.slice av N cap).ownBlock = some g ∨ w.heap.size ≤ g := by
    rcases hat3 with h | h
    · exact .inl h
    · right; rw [h]; simp; omega
  have hbl : b ≠ lm := fun e => by obtain ⟨es, cl, h1, _⟩ := hv.last; dsimp only at h1; rw [← e, hv.heap] at h1; cases h1
  have hbrm : b ≠ rm := fun e => by obtain ⟨es, cl, h1, _⟩ := hv.reads; dsimp only at h1; rw [← e, hv.heap] at h1; cases h1
  have hrow : ∀ k, (Value.slice av N cap).ownBlock = some k → k ≠ b ∧ k ≠ rm ∧ k ≠ lm ∧ k < w.heap.size := fun k hk => by
    obtain ⟨cur, hc⟩ := row_lt hv.calls hk
    refine ⟨fun e => ?_, fun e => ?_, fun e => ?_, lt_of_heap hc⟩
    · subst e; rw [hv.heap] at hc; cases hc
    · subst e; obtain ⟨es, cl, h1, _⟩ := hv.reads; dsimp only at h1; rw [h1] at hc; cases hc
    · subst e; obtain ⟨es, cl, h1, _⟩ := hv.last; dsimp only at h1; rw [h1] at hc; cases hc
  have k2 : ∀ k, k < w.heap.size → k ≠ lm → w2.heap[k]? = w.heap[k]? := fun k hk hne => (hg2.block k (by simp; omega) (fun e => hne (by cases e; rfl))).trans (Below.heap_alloc w.drew _ k hk)
  have k3 : ∀ k, k < w2.heap.size → (Value.slice av N cap).ownBlock ≠ some k → w3.heap[k]? = w2.heap[k]? := fun k hk hne => (hg3.block k (by simp; omega) (fun e => hne e.symm)).trans (Below.heap_alloc w2.drew _ k hk)
  have k4 : ∀ k, k ≠ b → (w3.setCell ⟨b, 2, none⟩ (.slice (some ⟨g, 0, none⟩) n cap3)).heap[k]? = w3.heap[k]? := fun k hk => Below.heap_setCell _ _ _ _ hk
  have hb3 : w3.heap[b]? = some (.cells #[.pointer (some ⟨sp, 0, none⟩), .map (some rm), .slice av N cap, .map (some lm)] 78 (0, 0)) :=
    (k3 b (by have := lt_of_heap hv.heap; dsimp only at this; omega) (fun e => (hrow b e).1 rfl)).trans ((k2 b (lt_of_heap hv.heap) hbl).trans hv.heap)
  have hall : ∀ k, k < w.heap.size → k ≠ b → k ≠ lm → (Value.slice av N cap).ownBlock ≠ some k → (w3.setCell ⟨b, 2, none⟩ (.slice (some ⟨g, 0, none⟩) n cap3)).heap[k]? = w.heap[k]? := fun k hk h1 h2 h3 =>
    (k4 k h1).trans ((k3 k (by omega) h3).trans (k2 k hk h2))
  have hsz : w.heap.size ≤ (w3.setCell ⟨b, 2, none⟩ (.slice (some ⟨g, 0, none⟩) n cap3)).heap.size := by rw [size_setCell]; omega
  have hgb : g ≠ b := by
    rcases hat with h | h
    · exact (hrow g h).1
    · have := lt_of_heap hv.heap; dsimp only at this; omega
  have os : (w3.setCell ⟨b, 2, none⟩ (.slice (some ⟨g, 0, none⟩) n cap3)).os = w.os := hg3.os.trans hg2.os
  have tp : (w3.setCell ⟨b, 2, none⟩ (.slice (some ⟨g, 0, none⟩) n cap3)).tape = w.tape := hg3.tape.trans hg2.tape
  have ou : (w3.setCell ⟨b, 2, none⟩ (.slice (some ⟨g, 0, none⟩) n cap3)).output = w.output := hg3.output.trans hg2.output
  have hB : Below bs w (w3.setCell ⟨b, 2, none⟩ (.slice (some ⟨g, 0, none⟩) n cap3)) := ⟨os, tp, ou, hsz, fun k hk => by
    refine hall k (Nat.lt_of_lt_of_le hk hv.top) (fun e => ?_) (fun e => ?_) (fun e => ?_)
    · have := hv.lo k (.inl e); dsimp only at this; omega
    · have := hv.lo k (.inr (.inr (.inl e))); dsimp only at this; omega
    · have := hv.lo k (.inr (.inr (.inr e))); dsimp only at this; omega⟩
  refine ⟨⟨b, rm, lm, .slice (some ⟨g, 0, none⟩) n cap3, sp, bs⟩, ⟨heap_setCell_same hb3 2 _, ?_, ?_, ?_, hv.apart, hv.usages.below hB hv.pos, hv.base.later hB, ?_, hv.pos, Nat.le_trans hv.top hsz, by simp; omega, fun d hd => (List.mem_append.1 hd).elim (hv.ok d) (fun h => by simp at h; rw [h]; exact hco), hv.rdk⟩, rfl, rfl, rfl, rfl, rfl, ⟨os, tp, ou, hsz, fun k hk hn => ?_⟩, ?_⟩
  · exact hv.reads.kept (hall rm hv.reads.lt (Ne.symm hbrm) hv.apart (fun e => (hrow rm e).2.1 rfl))
  · show MapIs idxV _ lm (lastOf (V.calls ++ [c]))
    rw [lastOf_snoc, hN]
    exact hm2.kept ((k4 lm (Ne.symm hbl)).trans (k3 lm (Nat.lt_of_lt_of_le hv.last.lt hsz2) (fun e => (hrow lm e).2.2.1 rfl)))
  · refine row_kept hown3 (fun g' hg' => k4 g' ?_)
    simp [Value.ownBlock] at hg'
    subst hg'
    exact hgb
  · intro k hk
    rcases hk with e | e | e | e
    · exact hv.lo k (.inl e)
    · exact hv.lo k (.inr (.inl e))
    · exact hv.lo k (.inr (.inr (.inl e)))
    · simp [Value.ownBlock] at e
      subst e
      rcases hat with h | h
      · exact hv.lo g (.inr (.inr (.inr h)))
      · exact Nat.le_trans hv.top h
  · exact hall k hk (fun e => hn (.inl e)) (fun e => hn (.inr (.inr (.inl e)))) (fun e => hn (.inr (.inr (.inr e))))
  · intro k hk
    rcases hk with e | e | e | e
    · exact .inl (.inl e)
    · exact .inl (.inr (.inl e))
    · exact .inl (.inr (.inr (.inl e)))
    · simp [Value.ownBlock] at e
      subst e
      rcases hat with h | h
      · exact .inl (.inr (.inr (.inr h)))
      · exact .inr h

set_option maxRecDepth 100000 in
set_option maxHeartbeats 3200000 in
theorem vCall_any (h : VH) (V : AV) (c : ChangeT) (w : World) (hv : ViewAt w h V) (hlen : V.calls.length < 1000000) (hco : CallOk c) :
    Calls Tryz.prog 60 #[.pointer (some ⟨h.b, 0, none⟩), changeV c] w fun r w' => r = .returned (.tuple #[]) ∧ VPost h w ⟨V.base, V.reads, V.calls ++ [c]⟩ w' := by
  obtain ⟨b, rm, lm, cv, sp, bs⟩ := h
  have hlt : b < w.heap.size := lt_of_heap hv.heap
  have c3 : w.cell? ⟨b, 3, none⟩ = some (.map (some lm)) := cell_of_heap hv.heap 3
  have c2 : w.cell? ⟨b, 2, none⟩ = some cv := cell_of_heap hv.heap 2
  have hne := World.new_ne w ⟨b, 3, none⟩ c3
  obtain ⟨av, cap, hcv, hform⟩ := row_form hv.calls
  dsimp only at hcv
  subst hcv
  have hm1 : MapIs idxV ((w.alloc (.cells #[.int .i64 c.name.kind, .string c.name.owner, .int .i64 c.name.number, .int .i64 c.name.index, .string c.name.text, .string c.value, .bool c.absent] 61)).drew) lm (lastOf V.calls) := hv.last.kept (Below.heap_alloc _ _ _ hv.last.lt)
  obtain ⟨w2, hrun, hm2, hg2⟩ := run_mapUpdate_name idxV _ 76 3 Tryz.underlying76 lm (lastOf V.calls) hm1 c.name V.calls.length
  have hbr : b ≠ lm := fun e => by obtain ⟨es, cl, h1, _⟩ := hv.last; dsimp only at h1; rw [← e, hv.heap] at h1; cases h1
  have hrl := hv.last.lt
  dsimp only at hrl
  have hk0 : ∀ j, w2.cell? ⟨w.heap.size, j, none⟩ = (#[.int .i64 c.name.kind, .string c.name.owner, .int .i64 c.name.number, .int .i64 c.name.index, .string c.name.text, .string c.value, .bool c.absent] : Array Value)[j]? := fun j => by
    have h1 := hg2.block w.heap.size (by simp) (fun e => by cases e; omega)
    have h2 := cell_of_heap (World.alloc_heap_new w (.cells #[.int .i64 c.name.kind, .string c.name.owner, .int .i64 c.name.number, .int .i64 c.name.index, .string c.name.text, .string c.value, .bool c.absent] 61)) j
    exact (World.cell?_of_block (a := ⟨w.heap.size, j, none⟩) h1).trans h2
  have hb2 : w2.heap[b]? = w.heap[b]? := (hg2.block b (by simp; omega) (fun e => hbr (by cases e; rfl))).trans (Below.heap_alloc w.drew _ b hlt)
  have k0 : w2.cell? ⟨w.heap.size, 0, none⟩ = some (.int .i64 c.name.kind) := hk0 0
  have k1 : w2.cell? ⟨w.heap.size, 1, none⟩ = some (.string c.name.owner) := hk0 1
  have k2 : w2.cell? ⟨w.heap.size, 2, none⟩ = some (.int .i64 c.name.number) := hk0 2
  have k3 : w2.cell? ⟨w.heap.size, 3, none⟩ = some (.int .i64 c.name.index) := hk0 3
  have k4 : w2.cell? ⟨w.heap.size, 4, none⟩ = some (.string c.name.text) := hk0 4
  have k5 : w2.cell? ⟨w.heap.size, 5, none⟩ = some (.string c.value) := hk0 5
  have k6 : w2.cell? ⟨w.heap.size, 6, none⟩ = some (.bool c.absent) := hk0 6
  have kb2 : w2.cell? ⟨b, 2, none⟩ = some (.slice av V.calls.length cap) := (World.cell?_of_block (a := ⟨b, 2, none⟩) hb2).trans c2
  have kb3 : w2.cell? ⟨b, 3, none⟩ = some (.map (some lm)) := (World.cell?_of_block (a := ⟨b, 3, none⟩) hb2).trans c3
  clear hk0
  have hne2 := World.new_ne w2 ⟨b, 2, none⟩ kb2
  have hne3 := World.new_ne w2 ⟨w.heap.size, 0, none⟩ k0
  have hlt2 : b < w2.heap.size := World.block_lt_of_cell? w2 _ kb2
  have hlt3 : w.heap.size < w2.heap.size := World.block_lt_of_cell? w2 _ k0
  unfold nameV idxV at hrun
  unfold changeV
  have Hco := Lib.hid hco; clear hco
  have Hv := Lib.hid hv; clear hv
  have Hm2 := Lib.hid hm2; clear hm2
  have Hg2 := Lib.hid hg2; clear hg2
  have Hb2 := Lib.hid hb2; clear hb2
  have Hform := Lib.hid hform; clear hform
  clear hm1
  dsimp only at *
  have Hlen : Hid (V.calls.length ≤ 1000000) := Nat.le_of_lt hlen
  have Hrow2 : Hid (w2.ownsRow 0 61 7 (.slice av V.calls.length cap) V.calls.length (V.calls.flatMap changeCells)) := call_row Hv.out Hg2.out
  have Hlt : Hid (V.calls.length < 1000000) := hlen
  clear hlen
  generalize hN : V.calls.length = N at *
  have HN := Lib.hid hN; clear hN
  go_enter Tryz.func60, Tryz.ntmps60
  go_wp2
  go_region_held3 (fun w' => w'.cell? ⟨b, 3, none⟩ = some (.map (some lm)) ∧ w'.cell? ⟨b, 2, none⟩ = some (.slice av N cap) ∧ w'.cell? ⟨w.heap.size, 0, none⟩ = some (.int .i64 c.name.kind) ∧ w'.cell? ⟨w.heap.size, 1, none⟩ = some (.string c.name.owner) ∧ w'.cell? ⟨w.heap.size, 2, none⟩ = some (.int .i64 c.name.number) ∧ w'.cell? ⟨w.heap.size, 3, none⟩ = some (.int .i64 c.name.index) ∧ w'.cell? ⟨w.heap.size, 4, none⟩ = some (.string c.name.text)) (first | go_keep | exact ⟨kb3, kb2, k0, k1, k2, k3, k4⟩) (fail)
  go_wp2
  go_region_law (first
    | (refine step_append_change (by rfl) _ _ (by rfl) _ V.calls N HN.out.symm (by rfl) (World.ownsRow.drew (World.ownsRow.alloc Hrow2.out _)) c w2.heap.size (by rfl) (heap_alloc_new w2 _) Hlen.out ?_; intro g n cap3 w3 hown3 hgrow3 hat3; have hb3 := call_heap Hv.out Hb2.out hgrow3; have d3 : w3.cell? ⟨b, 2, none⟩ = some (.slice av N cap) := cell_of_heap hb3 2; have f3 : w3.frozen? ⟨b, 2, none⟩ = false := frozen_of_heap hb3 2; have Hb3 := Lib.hid hb3; clear hb3; have Hown3 := Lib.hid hown3; clear hown3; have Hg3 := Lib.hid hgrow3; clear hgrow3; have Hat3 := Lib.hid hat3; clear hat3))
  all_goals go_wp2
  all_goals go_end0
  all_goals exact ⟨rfl, vCall_post HN.out Hv.out Hlt.out Hco.out Hg2.out Hm2.out Hown3.out Hg3.out Hat3.out⟩

end Go.Proofs.YtfchfjipkggnkaaGreatDoor
