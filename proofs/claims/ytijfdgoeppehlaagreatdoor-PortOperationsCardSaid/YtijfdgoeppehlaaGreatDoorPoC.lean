/- Law 37: PortOperations, plain: the model of ports beside a view. Law 37: rows of entries; without; get. Law 37: append of rows of packets; what expect has at hand. -/
import Derived.Test.YtijfdgoeppehlaaGreatDoorPqA
import Derived.BigQuiet
import Derived.Deep.LoopGhost
import Derived.Deep.RegionHeld3
import Derived.Maps.AppendAt
import Derived.Laws.AppendOwnNone
namespace Go.Proofs.YtijfdgoeppehlaaGreatDoor
open Go.RowKit

abbrev ModT := List (Int × PortT)
def lookM (M : ModT) (n : Int) : Option PortT := (M.find? (fun x => x.1 == n)).map Prod.snd
def sansM (M : ModT) (n : Int) : ModT := M.filter (fun x => x.1 != n)
/-- 0, 1: nothing was written. -/
def stepM (M : ModT) (n : Int) (d : Nat) (o : Option PortT) : ModT := match d with
  | 0 => M
  | 1 => M
  | _ => sansM M n ++ (o.map (fun p => (n, p))).toList
theorem lookM_some {M : ModT} {n : Int} {p : PortT} (h : lookM M n = some p) : (n, p) ∈ M := by
  unfold lookM at h
  obtain ⟨x, hx, rfl⟩ := Option.map_eq_some_iff.1 h
  have h1 := List.mem_of_find?_eq_some hx
  have h2 : x.1 = n := by simpa using List.find?_some hx
  obtain ⟨a, b⟩ := x
  dsimp only at h2
  subst h2
  exact h1
theorem lookM_none {M : ModT} {n : Int} (h : lookM M n = none) : ∀ x ∈ M, x.1 ≠ n := fun x hx e => by
  unfold lookM at h
  rw [Option.map_eq_none_iff, List.find?_eq_none] at h
  exact h x hx (by simpa using e)
/-- A model shows what a view holds, after k operations. -/
structure RelM (V : AV) (M : ModT) (k : Nat) : Prop where
  nodup : (M.map Prod.fst).Nodup
  ok : ∀ x ∈ M, checkQ x.2 = 0 ∧ x.2.owner.size ≤ 64 ∧ x.2.lost ≤ k
  at_ : ∀ x ∈ M, avGet V (ofPortN x.1) = (strOf (encQB x.2), true)
  no : ∀ n, (∀ x ∈ M, n ≠ ofPortN x.1) → (avGet V n).2 = false
  len : M.length ≤ k
theorem RelM.empty : RelM ⟨fun _ => none, [], []⟩ [] 0 := ⟨by simp, by simp, by simp, fun n _ => rfl, by simp⟩
theorem ofPortN_inj {a c : Int} (h : ofPortN a = ofPortN c) : a = c := by
  unfold ofPortN at h
  simp only [NameT.mk.injEq] at h
  exact h.2.2.1
theorem RelM.oof {V : AV} {M : ModT} {k : Nat} (h : RelM V M k) (n : Int) : oOf V n = lookM M n := by
  unfold oOf
  cases hl : lookM M n with
  | none =>
    have hn : (avGet V (ofPortN n)).2 = false := h.no _ (fun x hx e => lookM_none hl x hx (ofPortN_inj e).symm)
    rw [if_neg]
    rw [hn]
    simp
  | some p =>
    have hm := lookM_some hl
    obtain ⟨h1, h2, _⟩ := h.ok _ hm
    have ha : avGet V (ofPortN n) = (strOf (encQB p), true) := h.at_ _ hm
    have hd := qdec_enc p h1 h2
    rw [ha, hd]
    simp
theorem avGet_oneQ {V V' : AV} {c : ChangeT} (hb : V'.base = V.base) (hc : V'.calls = V.calls ++ [c]) (n : NameT) : avGet V' n = if n = c.name then (c.value, !c.absent) else avGet V n := by
  unfold avGet
  rw [hc, hb, lastCall_snoc]
  by_cases h : n = c.name
  · rw [if_pos h, if_pos h]
  · rw [if_neg h, if_neg h]
theorem mem_sansM {M : ModT} {n : Int} {x : Int × PortT} : x ∈ sansM M n ↔ x ∈ M ∧ x.1 ≠ n := by
  unfold sansM
  rw [List.mem_filter]
  simp
/-- One operation. -/
theorem RelM.step {M0 : Nat} {V : AV} {M : ModT} {k : Nat} (h : RelM V M k) (n : Int) (d : Nat) (o : Option PortT) (ho : HoldsW ((⟨M0, V⟩ : NV).step n d o).V n o) (hl : ∀ p, o = some p → p.lost ≤ (k : Int) + 1) : RelM ((⟨M0, V⟩ : NV).step n d o).V (stepM M n d o) (k + 1) := by
  have hk : ∀ x ∈ M, checkQ x.2 = 0 ∧ x.2.owner.size ≤ 64 ∧ x.2.lost ≤ (k + 1 : Nat) := fun x hx => by
    obtain ⟨h1, h2, h3⟩ := h.ok x hx
    exact ⟨h1, h2, by omega⟩
  have hseen : ∀ m, avGet (avSeen V (ofPortN n)) m = avGet V m := fun m => by unfold avGet; rw [avSeen_callsQ, avSeen_base]
  match d, ho with
  | 0, _ => exact ⟨h.nodup, hk, h.at_, h.no, by have := h.len; show M.length ≤ k + 1; omega⟩
  | 1, _ =>
    refine ⟨h.nodup, hk, fun x hx => ?_, fun m hm => ?_, by have := h.len; show M.length ≤ k + 1; omega⟩
    · show avGet (avSeen V (ofPortN n)) _ = _
      rw [hseen]
      exact h.at_ x hx
    · show (avGet (avSeen V (ofPortN n)) _).2 = _
      rw [hseen]
      exact h.no m hm
  | d + 2, ho =>
    have hlen : (sansM M n).length ≤ k := Nat.le_trans (List.length_filter_le _ _) h.len
    have hnd : ((sansM M n).map Prod.fst).Nodup := h.nodup.sublist (List.Sublist.map _ List.filter_sublist)
    have hnin : n ∉ (sansM M n).map Prod.fst := fun hn => by
      obtain ⟨x, hx, rfl⟩ := List.mem_map.1 hn
      exact (mem_sansM.1 hx).2 rfl
    match o, ho, hl with
    | none, ho, hl =>
      have hg : ∀ m, avGet ((⟨M0, V⟩ : NV).step n (d + 2) none).V m = if m = ofPortN n then ((⟨#[]⟩ : ByteArray), false) else avGet V m := fun m => by
        have := avGet_oneQ (V := avSeen V (ofPortN n)) (V' := ((⟨M0, V⟩ : NV).step n (d + 2) none).V) (c := ⟨ofPortN n, ⟨#[]⟩, true⟩) rfl rfl m
        rw [hseen] at this
        exact this
      show RelM _ (sansM M n ++ []) _
      rw [List.append_nil]
      refine ⟨hnd, fun x hx => hk x (mem_sansM.1 hx).1, fun x hx => ?_, fun m hm => ?_, by omega⟩
      · rw [hg, if_neg (fun e => (mem_sansM.1 hx).2 (ofPortN_inj e))]
        exact h.at_ x (mem_sansM.1 hx).1
      · rw [hg]
        by_cases e : m = ofPortN n
        · rw [if_pos e]
        · rw [if_neg e]
          refine h.no m (fun x hx e2 => ?_)
          by_cases e3 : x.1 = n
          · exact e (by rw [e2, e3])
          · exact hm x (mem_sansM.2 ⟨hx, e3⟩) e2
    | some p, ho, hl =>
      have hg : ∀ m, avGet ((⟨M0, V⟩ : NV).step n (d + 2) (some p)).V m = if m = ofPortN n then (strOf (encQB p), true) else avGet V m := fun m => by
        have := avGet_oneQ (V := avSeen V (ofPortN n)) (V' := ((⟨M0, V⟩ : NV).step n (d + 2) (some p)).V) (c := ⟨ofPortN n, strOf (encQB p), false⟩) rfl rfl m
        rw [hseen] at this
        exact this
      obtain ⟨-, hp1, hp2⟩ := ho.yes p rfl
      show RelM _ (sansM M n ++ [(n, p)]) _
      refine ⟨?_, fun x hx => ?_, fun x hx => ?_, fun m hm => ?_, by simp; omega⟩
      · rw [List.map_append, List.nodup_append]
        refine ⟨hnd, by simp, fun a ha b hb e => ?_⟩
        simp at hb
        subst hb
        subst e
        exact hnin ha
      · rcases List.mem_append.1 hx with hx | hx
        · exact hk x (mem_sansM.1 hx).1
        · obtain rfl : x = (n, p) := by simpa using hx
          exact ⟨hp1, hp2, by have := hl p rfl; show p.lost ≤ _; omega⟩
      · rw [hg]
        rcases List.mem_append.1 hx with hx | hx
        · rw [if_neg (fun e => (mem_sansM.1 hx).2 (ofPortN_inj e))]
          exact h.at_ x (mem_sansM.1 hx).1
        · obtain rfl : x = (n, p) := by simpa using hx
          rw [if_pos rfl]
      · rw [hg]
        have e : m ≠ ofPortN n := hm (n, p) (by simp)
        rw [if_neg e]
        refine h.no m (fun x hx e2 => ?_)
        by_cases e3 : x.1 = n
        · exact e (by rw [e2, e3])
        · exact hm x (List.mem_append_left _ (mem_sansM.2 ⟨hx, e3⟩)) e2
/-- An operation counts at most one packet more. -/
theorem pCallW_lost {kd wh us : Nat} {nu ep : Int} {sr by_ : ByteArray} {o : Option PortT} {k : Int} (hk : 0 ≤ k) (h : ∀ p, o = some p → p.lost ≤ k) : ∀ p, (pCallW kd wh us nu ep sr by_ o).1 = some p → p.lost ≤ k + 1 := by
  have ho : ∀ p, o = some p → p.lost ≤ k + 1 := fun p hp => by have := h p hp; omega
  have hh : (qHas ep o).1.lost ≤ k := by
    match o, h with
    | none, _ => exact hk
    | some p, h =>
      by_cases e : p.epoch ≠ ep
      · rw [show qHas ep (some p) = (zeroQ, 8) from if_pos e]
        exact hk
      · rw [show qHas ep (some p) = (p, 0) from if_neg e]
        exact h p rfl
  intro p hp
  unfold pCallW at hp
  by_cases k0 : kd % 5 = 0
  · simp only [if_pos k0] at hp
    unfold openW at hp
    split at hp
    · exact ho p hp
    split at hp
    · exact ho p hp
    split at hp
    · exact ho p hp
    · cases hp; show (0 : Int) ≤ _; omega
  by_cases k1 : kd % 5 = 1
  · simp only [if_neg k0, if_pos k1] at hp
    unfold closeW at hp
    split at hp
    · exact ho p hp
    split at hp
    · exact ho p hp
    split at hp
    · exact ho p hp
    · cases hp
  by_cases k2 : kd % 5 = 2
  · simp only [if_neg k0, if_neg k1, if_pos k2] at hp
    unfold arriveW at hp
    split at hp
    · exact ho p hp
    split at hp
    · exact ho p hp
    split at hp
    · exact ho p hp
    split at hp
    · cases hp; show _ ≤ _; dsimp only; omega
    split at hp
    · cases hp; show _ ≤ _; dsimp only; omega
    · exact ho p hp
  by_cases k3 : kd % 5 = 3
  · simp only [if_neg k0, if_neg k1, if_neg k2, if_pos k3] at hp
    unfold receiveW at hp
    split at hp
    · exact ho p hp
    unfold recvW at hp
    split at hp
    · exact ho p hp
    split at hp
    · exact ho p hp
    split at hp
    · exact ho p hp
    · cases hp; show _ ≤ _; dsimp only; omega
  · simp only [if_neg k0, if_neg k1, if_neg k2, if_neg k3] at hp
    unfold getW at hp
    split at hp
    · exact ho p hp
    · exact ho p hp
/-- How many objects the state has. -/
theorem getL_isSome {l : List (NameT × ByteArray)} {n : NameT} : (getL cmpN l n).isSome = true ↔ n ∈ l.map Prod.fst := by
  induction l with
  | nil => simp [getL]
  | cons e l ih =>
    rw [getL]
    by_cases h : cmpN n e.1 = 0
    · rw [if_pos h]
      have := cmpN_ok.eq _ _ h
      simp [this]
    · rw [if_neg h, ih]
      have hne : n ≠ e.1 := fun e2 => h (by rw [e2]; exact cmpN_ok.refl _)
      simp [hne]
theorem sort_nodup {l : List (NameT × ByteArray)} (h : SortL cmpN l) : (l.map Prod.fst).Nodup := by
  unfold SortL at h
  rw [List.Nodup, List.pairwise_map]
  exact h.imp (fun {a b} hab e => by rw [e, cmpN_ok.refl] at hab; exact absurd hab (by omega))
theorem RelM.sz {V : AV} {M : ModT} {k : Nat} (h : RelM V M k) {t : Tree} (hg : Good t) (hf : ∀ n, stOf V n = getL cmpN t.ents n) : t.sz = M.length := by
  rw [Tr.sz_ents]
  have h1 := sort_nodup hg.sort
  have h2 : (M.map (fun x => ofPortN x.1)).Nodup := by
    have := h.nodup
    rw [List.Nodup, List.pairwise_map] at this ⊢
    exact this.imp (fun {a b} hab e => hab (ofPortN_inj e))
  have hp : (t.ents.map Prod.fst).Perm (M.map (fun x => ofPortN x.1)) := by
    refine (List.perm_ext_iff_of_nodup h1 h2).2 (fun n => ?_)
    rw [← getL_isSome, ← hf n]
    unfold stOf
    constructor
    · intro hs
      by_cases hx : ∃ x ∈ M, n = ofPortN x.1
      · obtain ⟨x, hx, rfl⟩ := hx
        exact List.mem_map.2 ⟨x, hx, rfl⟩
      · have := h.no n (fun x hxm e => hx ⟨x, hxm, e⟩)
        rw [this] at hs
        simp at hs
    · intro hm
      obtain ⟨x, hx, rfl⟩ := List.mem_map.1 hm
      rw [h.at_ x hx]
      rfl
  have := hp.length_eq
  simpa using this
theorem RelM.st {V : AV} {M : ModT} {k : Nat} (h : RelM V M k) {x : Int × PortT} (hx : x ∈ M) : stOf V (ofPortN x.1) = some (strOf (encQB x.2)) := by
  unfold stOf
  rw [h.at_ x hx]
  rfl
end Go.Proofs.YtijfdgoeppehlaaGreatDoor

namespace Go.Proofs.YtijfdgoeppehlaaGreatDoor
open Go.RowKit
attribute [local go_sem ↓] Go.wp_at_zero Go.wp_at_succ

/-- An entry, and where its queue lies. -/
structure EntT where
  nu : Int
  p : PortT
  a : Option Addr
  n : Nat
  c : Nat
def entCells (e : EntT) : List Value := [.int .i64 e.nu, .string e.p.owner, .int .i64 e.p.epoch, .int .i64 e.p.lost, .slice e.a e.n e.c]
def keyE (e : EntT) : Int × PortT := (e.nu, e.p)
def ERow (base : Nat) (w : World) (v : Value) (es : List EntT) : Prop := w.ownsRow base 82 5 v es.length (es.flatMap entCells)
theorem Tryz.infoEntry : (Tryz.prog.info? 82).map (fun i => (i.zero, i.size, i.bytes)) = some (some (.agg #[.int .i64 0, .string ⟨#[]⟩, .int .i64 0, .int .i64 0, .slice none 0 0]), 5, 64) := by kernel_rfl
theorem ent_flat (cs : List EntT) (i j : Nat) (c : EntT) (hc : cs[i]? = some c) (hj : j < 5) {u : Value} (hu : (entCells c)[j]? = some u) : (cs.flatMap entCells)[i * 5 + j]? = some u := by
  induction cs generalizing i with
  | nil => simp at hc
  | cons d cs ih =>
    simp only [List.flatMap_cons]
    have hl : (entCells d).length = 5 := rfl
    cases i with
    | zero =>
      simp at hc
      subst hc
      rw [List.getElem?_append_left (by rw [hl]; omega)]
      simpa using hu
    | succ i =>
      rw [List.getElem?_append_right (by rw [hl]; omega), hl]
      have := ih i (by simpa using hc)
      rw [show (i + 1) * 5 + j - 5 = i * 5 + j by omega]
      exact this
/-- A slice that is nil, or lies somewhere. -/
def NilC (a : Option Addr) (n c : Nat) : Prop := (a = none → c = 0) ∧ n ≤ c
/-- A slice of entries that can be read. -/
def EntR (w : World) (a : Option Addr) (n : Nat) (es : List EntT) : Prop :=
  es.length = n ∧ (∀ i e, es[i]? = some e → ∃ g, a = some ⟨g, 0, none⟩ ∧ w.cell? ⟨g, i * 5, none⟩ = some (.int .i64 e.nu) ∧ w.cell? ⟨g, i * 5 + 1, none⟩ = some (.string e.p.owner) ∧ w.cell? ⟨g, i * 5 + 2, none⟩ = some (.int .i64 e.p.epoch) ∧ w.cell? ⟨g, i * 5 + 3, none⟩ = some (.int .i64 e.p.lost) ∧ w.cell? ⟨g, i * 5 + 4, none⟩ = some (.slice e.a e.n e.c)) ∧ ∀ e ∈ es, PSl w e.a e.n e.p.queue ∧ NilC e.a e.n e.c
theorem EntR.later {w w' : World} {a : Option Addr} {n : Nat} {es : List EntT} (h : EntR w a n es) (hb : Below w.heap.size w w') : EntR w' a n es := by
  obtain ⟨h1, h2, h3⟩ := h
  refine ⟨h1, fun i e hi => ?_, fun e he => ⟨(h3 e he).1.later hb, (h3 e he).2⟩⟩
  obtain ⟨g, hg, c0, c1, c2, c3, c4⟩ := h2 i e hi
  have hlt := World.block_lt_of_cell? w _ c0
  exact ⟨g, hg, ((bcell hb).1 _ _ hlt).trans c0, ((bcell hb).1 _ _ hlt).trans c1, ((bcell hb).1 _ _ hlt).trans c2, ((bcell hb).1 _ _ hlt).trans c3, ((bcell hb).1 _ _ hlt).trans c4⟩
theorem EntR.nil (w : World) : EntR w none 0 [] := ⟨rfl, (fun i e h => by simp at h), (fun e h => by cases h)⟩
theorem ERow.rd {base : Nat} {w : World} {v : Value} {es : List EntT} (h : ERow base w v es) (hp : ∀ e ∈ es, PSl w e.a e.n e.p.queue ∧ NilC e.a e.n e.c) : ∃ a cap, v = .slice a es.length cap ∧ EntR w a es.length es := by
  have hh := h
  rcases hh.2 with ⟨hv, h0⟩ | ⟨g, cap, cur, hv, _⟩
  · have : es = [] := List.length_eq_zero_iff.1 h0
    subst this
    exact ⟨none, 0, hv, EntR.nil w⟩
  · refine ⟨some ⟨g, 0, none⟩, cap, hv, rfl, fun i e hi => ⟨g, rfl, ?_⟩, hp⟩
    have hcs := World.ownsRow.cells h (g := g) (by rw [hv]; rfl)
    have hadd : ∀ k, (⟨g, 0, none⟩ : Addr).add k = ⟨g, 0 + k, none⟩ := fun k => by unfold Addr.add; split <;> simp_all
    have h0 := hcs (i * 5 + 0) _ (ent_flat es i 0 e hi (by decide) rfl)
    have h1 := hcs (i * 5 + 1) _ (ent_flat es i 1 e hi (by decide) rfl)
    have h2 := hcs (i * 5 + 2) _ (ent_flat es i 2 e hi (by decide) rfl)
    have h3 := hcs (i * 5 + 3) _ (ent_flat es i 3 e hi (by decide) rfl)
    have h4 := hcs (i * 5 + 4) _ (ent_flat es i 4 e hi (by decide) rfl)
    rw [hadd] at h0 h1 h2 h3 h4
    rw [Nat.zero_add] at h0 h1 h2 h3 h4
    exact ⟨h0, h1, h2, h3, h4⟩
theorem ERow.later {base : Nat} {w w' : World} {v : Value} {es : List EntT} (h : ERow base w v es) (hb : Below w.heap.size w w') : ERow base w' v es := by
  obtain ⟨h1, h2⟩ := h
  refine ⟨h1, ?_⟩
  rcases h2 with h2 | ⟨g, cap, cur, hv, hg, hh, r⟩
  · exact .inl h2
  · exact .inr ⟨g, cap, cur, hv, hg, (hb.block g (lt_of_heap hh)).trans hh, r⟩
theorem ERow.down {base base' : Nat} {w : World} {v : Value} {es : List EntT} (h : ERow base w v es) (hb : base' ≤ base) : ERow base' w v es := by
  obtain ⟨h1, h2⟩ := h
  refine ⟨h1, ?_⟩
  rcases h2 with h2 | ⟨g, cap, cur, hv, hg, r⟩
  · exact .inl h2
  · exact .inr ⟨g, cap, cur, hv, by omega, r⟩
theorem ERow.nil (base : Nat) (w : World) : ERow base w (.slice none 0 0) [] := World.ownsRow_nil _ _ _ _
/-- append of one entry to a row of entries. -/
theorem step_append_ent {ops : Array Oper} {o : Oper} {a : Act} {K : Act → World → Prop} {Q : Exit → Act → World → Prop} {E : Prop} (hgd : o.guard = none) (s x : Operand)
    (ho : o.op = .call { callee := .builtin .append, args := #[s, x], argTypes := #[28, 28] }) {w : World} (base : Nat) (v : Value) (es : List EntT) (hs : a.eval s = v) (hrow : ERow base w v es)
    (e : EntT) (B : Nat) (hx : a.eval x = .slice (some ⟨B, 0, none⟩) 1 1) (hB : w.heap[B]? = some (.cells #[.int .i64 e.nu, .string e.p.owner, .int .i64 e.p.epoch, .int .i64 e.p.lost, .slice e.a e.n e.c] 82 (0, 0))) (hlen : es.length ≤ 1000000) (hbase : base ≤ w.heap.size)
    (h : ∀ g n cap w', ERow base w' (.slice (some ⟨g, 0, none⟩) n cap) (es ++ [e]) → n = es.length + 1 → w.grownBy w' v.ownBlock → (v.ownBlock = some g ∨ g = w.heap.size) → K (a.put o.dst (.slice (some ⟨g, 0, none⟩) n cap)) w') :
    if Region.wanted o (yielded ops a.tmps) = true then Oper.wp Tryz.prog o a w K Q else E := by
  obtain ⟨i0, hi, hz0, hz1, hz2⟩ := info_parts Tryz.infoEntry
  refine step_append_lies _ hgd s x 28 ho base 82 i0 (.agg #[.int .i64 0, .string ⟨#[]⟩, .int .i64 0, .int .i64 0, .slice none 0 0]) 5 64 Tryz.underlying28 hi hz0 hz1 hz2 rfl (by decide) v es.length (es.flatMap entCells) hs hrow ⟨B, 0, none⟩ 1 1 (entCells e) hx rfl
    (World.news_of_block hB) (by simp [entCells, Value.oneCell']) (by decide) (by unfold maxLen; omega) (by omega) hbase w.heap.size rfl ?_
  intro g cap w' h2 h3 h4 _
  refine h g _ cap w' ?_ rfl h3 h4
  unfold ERow
  simpa using h2
theorem wpList_append_ent {ops : Array Oper} {rest : List Oper} {o : Oper} {a : Act} {Q : Exit → Act → World → Prop} (hgd : o.guard = none) (s x : Operand)
    (ho : o.op = .call { callee := .builtin .append, args := #[s, x], argTypes := #[28, 28] }) {w : World} (base : Nat) (v : Value) (es : List EntT) (hs : a.eval s = v) (hrow : ERow base w v es)
    (e : EntT) (B : Nat) (hx : a.eval x = .slice (some ⟨B, 0, none⟩) 1 1) (hB : w.heap[B]? = some (.cells #[.int .i64 e.nu, .string e.p.owner, .int .i64 e.p.epoch, .int .i64 e.p.lost, .slice e.a e.n e.c] 82 (0, 0))) (hlen : es.length ≤ 1000000) (hbase : base ≤ w.heap.size)
    (h : ∀ g n cap w', ERow base w' (.slice (some ⟨g, 0, none⟩) n cap) (es ++ [e]) → n = es.length + 1 → w.grownBy w' v.ownBlock → (v.ownBlock = some g ∨ g = w.heap.size) → wpList Tryz.prog ops Q rest (a.put o.dst (.slice (some ⟨g, 0, none⟩) n cap)) w') :
    wpList Tryz.prog ops Q (o :: rest) a w := by
  obtain ⟨i0, hi, hz0, hz1, hz2⟩ := info_parts Tryz.infoEntry
  refine wpList_append_lies _ hgd s x 28 ho base 82 i0 (.agg #[.int .i64 0, .string ⟨#[]⟩, .int .i64 0, .int .i64 0, .slice none 0 0]) 5 64 Tryz.underlying28 hi hz0 hz1 hz2 rfl (by decide) v es.length (es.flatMap entCells) hs hrow ⟨B, 0, none⟩ 1 1 (entCells e) hx rfl
    (World.news_of_block hB) (by simp [entCells, Value.oneCell']) (by decide) (by unfold maxLen; omega) (by omega) hbase w.heap.size rfl ?_
  intro g cap w' h2 h3 h4 _
  refine h g _ cap w' ?_ rfl h3 h4
  unfold ERow
  simpa using h2
def sansE (es : List EntT) (n : Int) : List EntT := es.filter (fun x => x.nu != n)
theorem sansE_key (es : List EntT) (n : Int) : (sansE es n).map keyE = sansM (es.map keyE) n := by
  unfold sansE sansM
  rw [List.filter_map]
  rfl
/-- In the midst of without. -/
structure WoI (w wr : World) (a : Option Addr) (n c : Nat) (es : List EntT) (v : Value) (k : Nat) (m : Int) : Prop where
  below : Below w.heap.size w wr
  box : wr.heap[w.heap.size]? = some (.cells #[.slice a n c] 30 (0, 0))
  row : ERow (w.heap.size + 1) wr v (sansE (es.take k) m)
  big : w.heap.size + 1 ≤ wr.heap.size
theorem WoI.own {w wr : World} {a : Option Addr} {n c : Nat} {es : List EntT} {v : Value} {k : Nat} {m : Int} (h : WoI w wr a n c es v k m) : ∀ g, v.ownBlock = some g → w.heap.size + 1 ≤ g ∧ g < wr.heap.size := World.ownsRow.lt h.row
theorem sansE_snoc {es : List EntT} {k : Nat} {e : EntT} (h : es[k]? = some e) (m : Int) : sansE (es.take (k + 1)) m = if e.nu = m then sansE (es.take k) m else sansE (es.take k) m ++ [e] := by
  unfold sansE
  rw [List.take_add_one, h, List.filter_append]
  by_cases hq : e.nu = m
  · rw [if_pos hq]; simp [hq]
  · rw [if_neg hq]; simp [hq]

set_option maxRecDepth 100000 in
set_option maxHeartbeats 1600000 in
theorem without_any37 (a : Option Addr) (n c : Nat) (es : List EntT) (m : Int) (w : World) (hl : EntR w a n es) (hn : n ≤ 1000000) :
    Calls Tryz.prog 43 #[.agg #[.slice a n c], .int .i64 m] w fun r w' => ∃ v, r = .returned v ∧ ERow w.heap.size w' v (sansE es m) ∧ Below w.heap.size w w' := by
  have Hl := Lib.hid hl; clear hl
  have HI0 : Hid (∀ T, T = 30 → WoI w (w.alloc (.cells #[.slice a n c] T)) a n c es (.slice none 0 0) 0 m) := fun T hT => by
    subst hT
    exact ⟨(Below.refl _ _).alloc (Nat.le_refl _) _, heap_alloc_new w _, ERow.nil _ _, by simp⟩
  go_enter Tryz.func43, Tryz.ntmps43
  go_wp2_with fail
  have HI := Lib.hid (HI0.out _ rfl)
  clear HI0
  generalize w.alloc (.cells #[.slice a n c] 30) = w1 at *
  go_wp2_with fail
  go_loopg [5, 6] n (fun gk ov iv wr => ∃ (k : Nat) (ou : Value), k + gk = n ∧ ou = ov ∧ iv = .int .i64 k ∧ Hid (WoI w wr a n c es ou k m))
  case atStart => exact ⟨0, _, by omega, rfl, rfl, HI.out⟩
  case round =>
    clear HI
    obtain ⟨k, ou, hk, rfl, rfl, HI⟩ := hrel
    have Hk := Lib.hid hk
    have hkn : k ≤ n := by omega
    clear hk
    have b0 : wr.cell? ⟨w.heap.size, 0, none⟩ = some (.slice a n c) := cell_of_heap HI.out.box 0
    by_cases hlt : k < n
    · obtain ⟨e, he⟩ : ∃ e, es[k]? = some e := ⟨es[k]'(by rw [Hl.out.1]; exact hlt), List.getElem?_eq_getElem _⟩
      obtain ⟨g, rfl, c0, c1, c2, c3, c4⟩ := (Hl.out.later HI.out.below).2.1 k e he
      have Hsn := Lib.hid (sansE_snoc he m)
      obtain ⟨nu, ⟨ow, ep, lo, ls⟩, qa, qn, qc⟩ := e
      dsimp only at c0 c1 c2 c3 c4 Hsn
      clear he
      by_cases hq : nu = m
      · have HI2 : Hid (WoI w wr (some ⟨g, 0, none⟩) n c es ou (k + 1) m) := ⟨HI.out.below, HI.out.box, by rw [Hsn.out, if_pos hq]; exact HI.out.row, HI.out.big⟩
        go_wp2
        go_roundg (n - (k + 1))
        case measure => have := Hk.out; omega
        case rel => exact ⟨k + 1, _, by have := Hk.out; omega, rfl, by go_num, HI2.out⟩
      · have HR : Hid (∀ o, ERow (w.heap.size + 1) (wr.alloc o) ou (sansE (es.take k) m)) := fun o => World.ownsRow.alloc HI.out.row o
        have HNB : Hid (∀ o, (wr.alloc o).heap[wr.heap.size]? = some o) := fun o => heap_alloc_new wr o
        have Hlen : Hid ((sansE (es.take k) m).length ≤ 1000000) := by
          show _ ≤ _
          refine Nat.le_trans (List.length_filter_le _ _) ?_
          rw [List.length_take]
          omega
        have Hbig : Hid (∀ o, w.heap.size + 1 ≤ (wr.alloc o).heap.size) := fun o => by have := HI.out.big; simp; omega
        go_wp2_with (first
          | (at_builtin; go_loud (refine wpList_append_ent rfl _ _ rfl (w.heap.size + 1) ou (sansE (es.take k) m) rfl (HR.out _) ⟨nu, ⟨ow, ep, lo, ls⟩, qa, qn, qc⟩ wr.heap.size rfl (HNB.out _) Hlen.out (Hbig.out _) ?_; intro g8 n8 cap8 w8 ho8 hn8 hg8 hat8; have Ho8 := Lib.hid ho8; have Hg8 := Lib.hid hg8; clear ho8 hn8 hg8 hat8))
          | go_in)
        have HI2 : Hid (WoI w w8 (some ⟨g, 0, none⟩) n c es (.slice (some ⟨g8, 0, none⟩) n8 cap8) (k + 1) m) := by
          have hne : ∀ j, j ≤ w.heap.size → some j ≠ ou.ownBlock := fun j hj e => by have := HI.out.own j e.symm; omega
          have hb1 := HI.out.below
          refine ⟨hb1.trans ⟨Hg8.out.os, Hg8.out.tape, Hg8.out.output, by have := Hg8.out.size; simp at this; omega, fun j hj => ?_⟩, ?_, by rw [Hsn.out, if_neg hq]; exact Ho8.out, by have := Hg8.out.size; have := HI.out.big; simp at *; omega⟩
          · exact (Hg8.out.block j (by have := HI.out.big; simp; omega) (hne j (by omega))).trans (Below.heap_alloc wr _ j (by have := HI.out.big; omega))
          · exact (Hg8.out.block w.heap.size (by have := HI.out.big; simp; omega) (hne _ (Nat.le_refl _))).trans ((Below.heap_alloc wr _ _ (lt_of_heap HI.out.box)).trans HI.out.box)
        clear Ho8 Hg8 HR HNB Hlen Hbig
        go_wp2
        go_roundg (n - (k + 1))
        case measure => have := Hk.out; omega
        case rel => exact ⟨k + 1, _, by have := Hk.out; omega, rfl, by go_num, HI2.out⟩
    · obtain rfl : k = n := by omega
      have HF : Hid (ERow w.heap.size wr ou (sansE es m) ∧ Below w.heap.size w wr) := by
        have h1 := HI.out.row
        rw [List.take_of_length_le (by rw [Hl.out.1]; exact Nat.le_refl _)] at h1
        exact ⟨h1.down (by omega), HI.out.below⟩
      go_wp2
      go_ret
      exact ⟨_, rfl, HF.out⟩
def findE (es : List EntT) (m e : Int) : Option EntT := es.find? (fun x => x.nu == m && x.p.epoch == e)
def getV : Option EntT → Value
  | none => .tuple #[.agg #[.string ⟨#[]⟩, .int .i64 0, .int .i64 0, .slice none 0 0], .bool false]
  | some x => .tuple #[.agg #[.string x.p.owner, .int .i64 x.p.epoch, .int .i64 x.p.lost, .slice x.a x.n x.c], .bool true]
theorem findE_none {es : List EntT} {m e : Int} {k : Nat} {x : EntT} (hx : es[k]? = some x) (h : findE (es.take k) m e = none) (hq : ¬ (x.nu = m ∧ x.p.epoch = e)) : findE (es.take (k + 1)) m e = none := by
  unfold findE at h ⊢
  rw [List.take_add_one, hx, List.find?_append, h]
  have : (x.nu == m && x.p.epoch == e) = false := by simpa using fun h1 h2 => hq ⟨h1, h2⟩
  simp [this]
theorem findE_some {es : List EntT} {m e : Int} {k : Nat} {x : EntT} (hx : es[k]? = some x) (h : findE (es.take k) m e = none) (h1 : x.nu = m) (h2 : x.p.epoch = e) : findE es m e = some x := by
  unfold findE at h ⊢
  rw [← List.take_append_drop k es, List.find?_append, h]
  have hlt : k < es.length := (List.getElem?_eq_some_iff.1 hx).1
  have hg : es[k] = x := (List.getElem?_eq_some_iff.1 hx).2
  rw [List.drop_eq_getElem_cons hlt, hg]
  have : (x.nu == m && x.p.epoch == e) = true := by simp [h1, h2]
  simp [this]

set_option maxRecDepth 100000 in
set_option maxHeartbeats 1600000 in
theorem get_any37 (a : Option Addr) (n c : Nat) (es : List EntT) (m e : Int) (w : World) (hl : EntR w a n es) (hn : n ≤ 1000000) :
    Calls Tryz.prog 41 #[.agg #[.slice a n c], .int .i64 m, .int .i64 e] w fun r w' => r = .returned (getV (findE es m e)) ∧ Below w.heap.size w w' := by
  have HB : Hid (∀ o1 o2, Below w.heap.size w ((w.alloc o1).alloc o2)) := fun o1 o2 => ((Below.refl _ _).alloc (Nat.le_refl _) _).alloc (by simp) _
  have Hl : Hid (∀ o1 o2, EntR ((w.alloc o1).alloc o2) a n es) := fun o1 o2 => hl.later (HB.out o1 o2)
  have Hln := Lib.hid hl.1
  clear hl
  have HX : Hid (∀ o1 o2, ((w.alloc o1).alloc o2).heap[w.heap.size]? = some o1) := fun o1 o2 => (Below.heap_alloc _ _ _ (by simp)).trans (World.alloc_heap_new w _)
  have HR : Hid (∀ o1 o2, ((w.alloc o1).alloc o2).heap[w.heap.size + 1]? = some o2) := fun o1 o2 => by
    have h := World.alloc_heap_new (w.alloc o1) o2
    rwa [World.size_alloc] at h
  obtain ⟨fe, hfe⟩ : ∃ fe, findE es m e = fe := ⟨_, rfl⟩
  rw [hfe]
  have Hfe := Lib.hid hfe; clear hfe
  go_enter Tryz.func41, Tryz.ntmps41
  go_wp2_with fail
  have Hl1 := Lib.hid (Hl.out (.cells #[.slice a n c] 30) (.cells #[.string ⟨#[]⟩, .int .i64 0, .int .i64 0, .slice none 0 0] 80))
  have HX1 := Lib.hid (HX.out (.cells #[.slice a n c] 30) (.cells #[.string ⟨#[]⟩, .int .i64 0, .int .i64 0, .slice none 0 0] 80))
  have HR1 := Lib.hid (HR.out (.cells #[.slice a n c] 30) (.cells #[.string ⟨#[]⟩, .int .i64 0, .int .i64 0, .slice none 0 0] 80))
  have HB1 := Lib.hid (HB.out (.cells #[.slice a n c] 30) (.cells #[.string ⟨#[]⟩, .int .i64 0, .int .i64 0, .slice none 0 0] 80))
  clear Hl HX HR HB
  generalize (w.alloc (.cells #[.slice a n c] 30)).alloc (.cells #[.string ⟨#[]⟩, .int .i64 0, .int .i64 0, .slice none 0 0] 80) = w1 at *
  have b0 : w1.cell? ⟨w.heap.size, 0, none⟩ = some (.slice a n c) := cell_of_heap HX1.out 0
  have r0 : w1.cell? ⟨w.heap.size + 1, 0, none⟩ = some (.string ⟨#[]⟩) := cell_of_heap HR1.out 0
  have r1 : w1.cell? ⟨w.heap.size + 1, 1, none⟩ = some (.int .i64 0) := cell_of_heap HR1.out 1
  have r2 : w1.cell? ⟨w.heap.size + 1, 2, none⟩ = some (.int .i64 0) := cell_of_heap HR1.out 2
  have r3 : w1.cell? ⟨w.heap.size + 1, 3, none⟩ = some (.slice none 0 0) := cell_of_heap HR1.out 3
  have g0 : w1.frozen? ⟨w.heap.size + 1, 0, none⟩ = false := frozen_of_heap HR1.out 0
  have g1 : w1.frozen? ⟨w.heap.size + 1, 1, none⟩ = false := frozen_of_heap HR1.out 1
  have g2 : w1.frozen? ⟨w.heap.size + 1, 2, none⟩ = false := frozen_of_heap HR1.out 2
  have g3 : w1.frozen? ⟨w.heap.size + 1, 3, none⟩ = false := frozen_of_heap HR1.out 3
  clear HX1 HR1
  go_wp2_with fail
  go_loopg [8] n (fun gk iv wr => ∃ (k : Nat), k + gk = n ∧ iv = .int .i64 k ∧ wr = w1 ∧ Hid (findE (es.take k) m e = none))
  case atStart => exact ⟨0, by omega, rfl, rfl, (rfl : findE (es.take 0) m e = none)⟩
  case round =>
    obtain ⟨k, hk, rfl, rfl, HI⟩ := hrel
    have Hk := Lib.hid hk
    have hkn : k ≤ n := by omega
    clear hk
    by_cases hlt : k < n
    · obtain ⟨x, hx⟩ : ∃ x, es[k]? = some x := ⟨es[k]'(by rw [Hln.out]; exact hlt), List.getElem?_eq_getElem _⟩
      obtain ⟨g, rfl, c0, c1, c2, c3, c4⟩ := Hl1.out.2.1 k x hx
      have Hno : Hid (¬ (x.nu = m ∧ x.p.epoch = e) → findE (es.take (k + 1)) m e = none) := findE_none hx HI.out
      have Hyes : Hid (x.nu = m → x.p.epoch = e → findE es m e = some x) := findE_some hx HI.out
      obtain ⟨nu, ⟨ow, ep, lo, ls⟩, qa, qn, qc⟩ := x
      dsimp only at c0 c1 c2 c3 c4 Hno Hyes
      clear hx
      by_cases hq1 : nu = m
      · by_cases hq2 : ep = e
        · have hf : fe = some ⟨nu, ⟨ow, ep, lo, ls⟩, qa, qn, qc⟩ := by rw [← Hfe.out]; exact Hyes.out hq1 hq2
          subst hf
          clear Hyes Hno HI Hl1
          go_wp2
          refine bodyPost_ret (v := .tuple #[.agg #[.string ow, .int .i64 ep, .int .i64 lo, .slice qa qn qc], .bool true]) (by simp [results, Tryz.results41, go_sem, r0, r1, r2, r3, hq2]) rfl ?_
          exact ⟨rfl, Below.grownRow HB1.out (grown_set4 _ _ _ _ _ _) (Nat.le_refl _) (fun k hk => by cases hk; omega)⟩
        · have HI2 : Hid (findE (es.take (k + 1)) m e = none) := Hno.out (fun h => hq2 h.2)
          clear Hyes Hno
          go_wp2
          go_roundg (n - (k + 1))
          case measure => have := Hk.out; omega
          case rel => exact ⟨k + 1, by have := Hk.out; omega, by go_num, rfl, HI2.out⟩
      · have HI2 : Hid (findE (es.take (k + 1)) m e = none) := Hno.out (fun h => hq1 h.1)
        clear Hyes Hno
        go_wp2
        go_roundg (n - (k + 1))
        case measure => have := Hk.out; omega
        case rel => exact ⟨k + 1, by have := Hk.out; omega, by go_num, rfl, HI2.out⟩
    · obtain rfl : k = n := by omega
      have hf : fe = none := by
        have h1 := HI.out
        rw [List.take_of_length_le (by rw [Hln.out]; exact Nat.le_refl _), Hfe.out] at h1
        exact h1
      subst hf
      clear HI Hl1
      go_wp2
      refine bodyPost_ret (v := .tuple #[.agg #[.string ⟨#[]⟩, .int .i64 0, .int .i64 0, .slice none 0 0], .bool false]) (by simp [results, Tryz.results41, go_sem, r0, r1, r2, r3]) rfl ?_
      exact ⟨rfl, Below.grownRow HB1.out (grown_set4 _ _ _ _ _ _) (Nat.le_refl _) (fun k hk => by cases hk; omega)⟩
end Go.Proofs.YtijfdgoeppehlaaGreatDoor

namespace Go.Proofs.YtijfdgoeppehlaaGreatDoor
open Go.RowKit

theorem PRow.form {w : World} {v : Value} {ls : List PackT} (h : PRow w v ls) : ∃ a c, v = .slice a ls.length c ∧ NilC a ls.length c ∧ PSl w a ls.length ls := by
  have hh := h
  rcases hh.2 with ⟨hv, h0⟩ | ⟨g, cap, cur, hv, _, _, hnc, _⟩
  · subst hv
    have hl : ls = [] := List.length_eq_zero_iff.1 h0
    subst hl
    exact ⟨none, 0, rfl, ⟨fun _ => rfl, Nat.le_refl _⟩, PSl.nil w⟩
  · rw [hv] at h
    exact ⟨some ⟨g, 0, none⟩, cap, hv, ⟨(fun e => nomatch e), hnc⟩, h.sl⟩
theorem PRow.empty {w : World} {B : Nat} (h : w.heap[B]? = some (.cells #[] 33 (0, 0))) : PRow w (.slice (some ⟨B, 0, none⟩) 0 0) [] :=
  ⟨rfl, .inr ⟨B, 0, #[], rfl, Nat.zero_le _, h, Nat.le_refl _, Nat.zero_le _, rfl, rfl⟩⟩
theorem packs_len (ls : List PackT) : (ls.flatMap packCells).length = ls.length * 2 := by
  induction ls with
  | nil => rfl
  | cons c ls ih => simp only [List.flatMap_cons, List.length_append, ih, List.length_cons]; show 2 + _ = _; omega
theorem add_at37 (g off j : Nat) : (⟨g, off, none⟩ : Addr).add j = ⟨g, off + j, none⟩ := by unfold Addr.add; split <;> simp_all
theorem PSl.news {w : World} {g off n : Nat} {ls : List PackT} (h : ∀ j, j < n → w.cell? ⟨g, off + j * 2, none⟩ = some (.string (ls.getD j zeroPk).src) ∧ w.cell? ⟨g, off + j * 2 + 1, none⟩ = some (.string (ls.getD j zeroPk).bytes)) (hl : ls.length = n) :
    ∀ j u, (ls.flatMap packCells)[j]? = some u → w.cell? ((⟨g, off, none⟩ : Addr).add j) = some u := by
  intro j u hu
  rw [add_at37]
  have hlt : j < ls.length * 2 := by rw [← packs_len]; exact (List.getElem?_eq_some_iff.1 hu).1
  have hi : j / 2 < ls.length := by omega
  have hc : ls[j / 2]? = some (ls.getD (j / 2) zeroPk) := by rw [List.getD_eq_getElem?_getD, List.getElem?_eq_getElem hi]; rfl
  obtain ⟨c0, c1⟩ := h (j / 2) (by omega)
  rcases (by omega : j % 2 = 0 ∨ j % 2 = 1) with h2 | h2
  · have := pack_flat ls (j / 2) 0 _ hc (by decide) (u := .string (ls.getD (j / 2) zeroPk).src) rfl
    rw [show j / 2 * 2 + 0 = j by omega, hu] at this
    rw [Option.some.inj this, ← c0]
    congr 2
    omega
  · have := pack_flat ls (j / 2) 1 _ hc (by decide) (u := .string (ls.getD (j / 2) zeroPk).bytes) rfl
    rw [show j / 2 * 2 + 1 = j by omega, hu] at this
    rw [Option.some.inj this, ← c1]
    congr 2
    omega
set_option maxRecDepth 100000 in
theorem run_append_packs (w : World) (ty : TypeId) (v : Value) (ls : List PackT) (h : PRow w v ls) (a : Option Addr) (n c : Nat) (ls2 : List PackT) (h2 : PSl w a n ls2) (hc : a = none → c = 0) (hlen : ls.length + n ≤ 1000000) :
    ∃ v' w', (Builtin.append_ #[78, 78] ty #[v, .slice a n c]).run Tryz.prog w = .ok v' w' ∧ PRow w' v' (ls ++ ls2) ∧ w.grownBy w' v.ownBlock ∧ (v'.ownBlock = v.ownBlock ∨ v'.ownBlock = some w.heap.size) := by
  obtain ⟨i0, hi, hz0, hz1, hz2⟩ := info_parts Tryz.infoPack
  obtain ⟨hl, hcell⟩ := h2
  match a, hc, hcell with
  | none, hc, hcell =>
    have hn : n = 0 := by
      rcases Nat.eq_zero_or_pos n with h0 | h0
      · exact h0
      · obtain ⟨g, off, e, _⟩ := hcell h0
        cases e
    subst hn
    have hls : ls2 = [] := List.length_eq_zero_iff.1 hl
    subst hls
    rw [hc rfl]
    refine ⟨v, w, run_append_owned_none (P := Tryz.prog) (w := w) 0 78 ty 33 i0 2 Tryz.underlying78 hi v ls.length (ls.flatMap packCells) h, by rw [List.append_nil]; exact h, grown_refl _ _, .inl rfl⟩
  | some ad, _, hcell =>
    have hnews : ∀ j u, (ls2.flatMap packCells)[j]? = some u → w.cell? (ad.add j) = some u := by
      rcases Nat.eq_zero_or_pos n with h0 | h0
      · subst h0
        have hls : ls2 = [] := List.length_eq_zero_iff.1 hl
        subst hls
        intro j u hu
        simp at hu
      · obtain ⟨g, off, e, hcs⟩ := hcell h0
        cases e
        exact PSl.news hcs hl
    obtain ⟨v', w', hr, h1, h2, _, h4⟩ := run_append_own_at (P := Tryz.prog) w 0 78 ty 33 i0 (.agg #[.string ⟨#[]⟩, .string ⟨#[]⟩]) 2 32 Tryz.underlying78 hi hz0 hz1 hz2 rfl (by decide) v ls.length (ls.flatMap packCells) h ad n c (ls2.flatMap packCells) (by rw [packs_len, hl]) hnews
      (fun u hu => by
        obtain ⟨x, _, hx⟩ := List.mem_flatMap.1 hu
        simp [packCells] at hx
        rcases hx with rfl | rfl <;> rfl) (by unfold maxLen; omega) (by omega) (Nat.zero_le _)
    refine ⟨v', w', hr, ?_, h2, h4⟩
    unfold PRow
    rw [List.length_append, List.flatMap_append, hl]
    exact h1
theorem step_append_packs {ops : Array Oper} {o : Oper} {a : Act} {K : Act → World → Prop} {Q : Exit → Act → World → Prop} {E : Prop} (hgd : o.guard = none) (s x : Operand)
    (ho : o.op = .call { callee := .builtin .append, args := #[s, x], argTypes := #[78, 78] }) {w : World} (v : Value) (ls : List PackT) (hs : a.eval s = v) (hrow : PRow w v ls)
    (qa : Option Addr) (n c : Nat) (ls2 : List PackT) (hx : a.eval x = .slice qa n c) (h2 : PSl w qa n ls2) (hc : qa = none → c = 0) (hlen : ls.length + n ≤ 1000000)
    (h : ∀ v' w', PRow w' v' (ls ++ ls2) → w.grownBy w' v.ownBlock → (v'.ownBlock = v.ownBlock ∨ v'.ownBlock = some w.heap.size) → K (a.put o.dst v') w') :
    if Region.wanted o (yielded ops a.tmps) = true then Oper.wp Tryz.prog o a w K Q else E := by
  have hw : Region.wanted o (yielded ops a.tmps) = true := by simp [Region.wanted, hgd]
  rw [if_pos hw]
  obtain ⟨v', w', hr, h2, h3, h4⟩ := run_append_packs w o.type v ls hrow qa n c ls2 h2 hc hlen
  unfold Oper.wp execOp
  simp only [ho, resolve, invoke, builtin, Sem.run_bind, Sem.run_pure, Result.andThen_ok, List.map_toArray, List.map_cons, List.map_nil, hs, hx, hr]
  exact h v' w' h2 h3 h4
theorem wpList_append_packs {ops : Array Oper} {rest : List Oper} {o : Oper} {a : Act} {Q : Exit → Act → World → Prop} (hgd : o.guard = none) (s x : Operand)
    (ho : o.op = .call { callee := .builtin .append, args := #[s, x], argTypes := #[78, 78] }) {w : World} (v : Value) (ls : List PackT) (hs : a.eval s = v) (hrow : PRow w v ls)
    (qa : Option Addr) (n c : Nat) (ls2 : List PackT) (hx : a.eval x = .slice qa n c) (h2 : PSl w qa n ls2) (hc : qa = none → c = 0) (hlen : ls.length + n ≤ 1000000)
    (h : ∀ v' w', PRow w' v' (ls ++ ls2) → w.grownBy w' v.ownBlock → (v'.ownBlock = v.ownBlock ∨ v'.ownBlock = some w.heap.size) → wpList Tryz.prog ops Q rest (a.put o.dst v') w') :
    wpList Tryz.prog ops Q (o :: rest) a w := by
  refine wpList_plain hgd fun _ hK => ?_
  obtain ⟨v', w', hr, h2, h3, h4⟩ := run_append_packs w o.type v ls hrow qa n c ls2 h2 hc hlen
  unfold Oper.wp execOp
  simp only [ho, resolve, invoke, builtin, Sem.run_bind, Sem.run_pure, Result.andThen_ok, List.map_toArray, List.map_cons, List.map_nil, hs, hx, hr]
  exact hK _ _ (h v' w' h2 h3 h4)

/-- In the midst of expect. -/
structure EX (w W : World) (a : Option Addr) (n c : Nat) (opc : Array Value) : Prop where
  below : Below w.heap.size w W
  bx : W.heap[w.heap.size]? = some (.cells #[.slice a n c] 30 (0, 0))
  op : W.heap[w.heap.size + 1]? = some (.cells opc 35 (0, 0))
  res : W.heap[w.heap.size + 1 + 1]? = some (.cells #[.string ⟨#[]⟩, .string ⟨#[]⟩, .string ⟨#[]⟩, .int .i64 0] 42 (0, 0))
  mo : W.heap[w.heap.size + 1 + 1 + 1]? = some (.cells #[.slice none 0 0] 30 (0, 0))
section
variable {w W W' : World} {a : Option Addr} {n c : Nat} {opc : Array Value}
theorem EX.start (w : World) (a : Option Addr) (n c : Nat) (opc : Array Value) : EX w ((((w.alloc (.cells #[.slice a n c] 30)).alloc (.cells opc 35)).alloc (.cells #[.string ⟨#[]⟩, .string ⟨#[]⟩, .string ⟨#[]⟩, .int .i64 0] 42)).alloc (.cells #[.slice none 0 0] 30)) a n c opc where
  below := ((((Below.refl _ _).alloc (Nat.le_refl _) _).alloc (by simp) _).alloc (by simp; omega) _).alloc (by simp; omega) _
  bx := (Below.heap_alloc _ _ _ (by simp <;> omega)).trans ((Below.heap_alloc _ _ _ (by simp <;> omega)).trans ((Below.heap_alloc _ _ _ (by simp)).trans (World.alloc_heap_new w _)))
  op := by
    have h := World.alloc_heap_new (w.alloc (.cells #[.slice a n c] 30)) (.cells opc 35)
    rw [World.size_alloc] at h
    exact (Below.heap_alloc _ _ _ (by simp <;> omega)).trans ((Below.heap_alloc _ _ _ (by simp)).trans h)
  res := by
    have h := World.alloc_heap_new ((w.alloc (.cells #[.slice a n c] 30)).alloc (.cells opc 35)) (.cells #[.string ⟨#[]⟩, .string ⟨#[]⟩, .string ⟨#[]⟩, .int .i64 0] 42)
    rw [World.size_alloc, World.size_alloc] at h
    exact (Below.heap_alloc _ _ _ (by simp)).trans h
  mo := by
    have h := World.alloc_heap_new (((w.alloc (.cells #[.slice a n c] 30)).alloc (.cells opc 35)).alloc (.cells #[.string ⟨#[]⟩, .string ⟨#[]⟩, .string ⟨#[]⟩, .int .i64 0] 42)) (.cells #[.slice none 0 0] 30)
    rw [World.size_alloc, World.size_alloc, World.size_alloc] at h
    exact h
theorem EX.later (h : EX w W a n c opc) (hb : Below W.heap.size W W') : EX w W' a n c opc :=
  ⟨h.below.trans (hb.mono h.below.size), (hb.block _ (lt_of_heap h.bx)).trans h.bx, (hb.block _ (lt_of_heap h.op)).trans h.op, (hb.block _ (lt_of_heap h.res)).trans h.res, (hb.block _ (lt_of_heap h.mo)).trans h.mo⟩
theorem EX.drew (h : EX w W a n c opc) : EX w W.drew a n c opc := h.later (Below.refl _ _).drew
theorem EX.grown (h : EX w W a n c opc) {row : Option Nat} (hg : W.grownBy W' row) (hr : ∀ k, row = some k → w.heap.size + 1 + 1 + 1 < k) : EX w W' a n c opc := by
  have hne : ∀ k, k ≤ w.heap.size + 1 + 1 + 1 → some k ≠ row := fun k hk e => by have := hr k e.symm; omega
  have hs := lt_of_heap h.mo
  exact ⟨h.below.trans ⟨hg.os, hg.tape, hg.output, by have := hg.size; have := h.below.size; omega, fun k hk => hg.block k (by omega) (hne k (by omega))⟩, (hg.block _ (by omega) (hne _ (by omega))).trans h.bx, (hg.block _ (by omega) (hne _ (by omega))).trans h.op, (hg.block _ (by omega) (hne _ (by omega))).trans h.res, (hg.block _ (by omega) (hne _ (by omega))).trans h.mo⟩
end
section
variable {w V : World} {a : Option Addr} {n c : Nat} {opc : Array Value} (h : EX w V a n c opc) (x0 x1 x2 x3 y : Value)
include h
theorem EX.end1 : Below w.heap.size w (((((V.setCell ⟨w.heap.size + 1 + 1, 0, none⟩ x0).setCell ⟨w.heap.size + 1 + 1, 1, none⟩ x1).setCell ⟨w.heap.size + 1 + 1, 2, none⟩ x2).setCell ⟨w.heap.size + 1 + 1, 3, none⟩ x3).setCell ⟨w.heap.size + 1 + 1 + 1, 0, none⟩ y) :=
  Below.grownRow (Below.grownRow h.below (grown_set4 _ _ _ _ _ _) (Nat.le_refl _) (fun k hk => by cases hk; omega)) (grown_setCell _ _ _ _) (Nat.le_refl _) (fun k hk => by cases hk; omega)
theorem EX.end2 : Below w.heap.size w (((((V.setCell ⟨w.heap.size + 1 + 1 + 1, 0, none⟩ y).setCell ⟨w.heap.size + 1 + 1, 0, none⟩ x0).setCell ⟨w.heap.size + 1 + 1, 1, none⟩ x1).setCell ⟨w.heap.size + 1 + 1, 2, none⟩ x2).setCell ⟨w.heap.size + 1 + 1, 3, none⟩ x3) :=
  Below.grownRow (Below.grownRow h.below (grown_setCell _ _ _ _) (Nat.le_refl _) (fun k hk => by cases hk; omega)) (grown_set4 _ _ _ _ _ _) (Nat.le_refl _) (fun k hk => by cases hk; omega)
end
/-- The blocks of a slice of entries: its own, and those of the queues. -/
def blkE (a : Option Addr) (es : List EntT) (k : Nat) : Prop := (∃ off, a = some ⟨k, off, none⟩) ∨ ∃ e ∈ es, ∃ off, e.a = some ⟨k, off, none⟩
theorem EntR.kept {w w' : World} {a : Option Addr} {n : Nat} {es : List EntT} (h : EntR w a n es) (hk : ∀ k, blkE a es k → k < w.heap.size → w'.heap[k]? = w.heap[k]?) : EntR w' a n es := by
  obtain ⟨h1, h2, h3⟩ := h
  have hcell : ∀ g i v, blkE a es g → w.cell? ⟨g, i, none⟩ = some v → w'.cell? ⟨g, i, none⟩ = some v := fun g i v hb hc =>
    (World.cell?_of_block (a := ⟨g, i, none⟩) (hk g hb (World.block_lt_of_cell? w ⟨g, i, none⟩ hc))).trans hc
  refine ⟨h1, fun i e hi => ?_, fun e he => ⟨⟨(h3 e he).1.1, fun h0 => ?_⟩, (h3 e he).2⟩⟩
  · obtain ⟨g, hg, c0, c1, c2, c3, c4⟩ := h2 i e hi
    have hb : blkE a es g := .inl ⟨0, hg⟩
    exact ⟨g, hg, hcell g _ _ hb c0, hcell g _ _ hb c1, hcell g _ _ hb c2, hcell g _ _ hb c3, hcell g _ _ hb c4⟩
  · obtain ⟨g, off, hg, hc⟩ := (h3 e he).1.2 h0
    have hb : blkE a es g := .inr ⟨e, he, off, hg⟩
    exact ⟨g, off, hg, fun j hj => ⟨hcell g _ _ hb (hc j hj).1, hcell g _ _ hb (hc j hj).2⟩⟩
/-- What expect leaves. -/
def EPost (w : World) (a : Option Addr) (es : List EntT) (nu : Int) (X : Option PortT × PRes × Nat) (r : Ending) (w' : World) : Prop :=
  ∃ a' n' c' es', r = .returned (.tuple #[.agg (presCells X.2.1), .agg #[.slice a' n' c']]) ∧ Below w.heap.size w w' ∧ (EntR w' a' n' es' ∧ ∀ k, blkE a' es' k → blkE a es k ∨ (w.heap.size ≤ k ∧ k < w'.heap.size)) ∧ es'.map keyE = stepM (es.map keyE) nu X.2.2 X.1
theorem getV_form (x : Option EntT) : ∃ ow pe lo qa qn qc bi, getV x = .tuple #[.agg #[.string ow, .int .i64 pe, .int .i64 lo, .slice qa qn qc], .bool bi] := by
  match x with
  | none => exact ⟨_, _, _, _, _, _, _, rfl⟩
  | some x => exact ⟨_, _, _, _, _, _, _, rfl⟩
theorem who_is (k : Nat) (x : ByteArray) (h : whoN k = x) (w : World) (hk : k ≤ 255) : Calls Tryz.prog 26 #[.int .u8 k] w fun r w' => r = .returned (.string x) ∧ Below w.heap.size w w' := by
  subst h; exact who_any k w hk
theorem ERow.set1 {base k : Nat} {w w' : World} {v : Value} {es : List EntT} (h : ERow base w v es) (hg : w.grownBy w' (some k)) (hk : k < base) : ERow base w' v es :=
  World.ownsRow.kept h hg (by
    cases hv : v.ownBlock with
    | none => exact .inl rfl
    | some g =>
      right
      intro e
      cases e
      have := (World.ownsRow.lt h k hv).1
      omega)
/-- The end of expect where the ports change. -/
theorem EX.fin {w V : World} {a : Option Addr} {n c : Nat} {opc : Array Value} {es : List EntT} (h : EX w V a n c opc) (hl : EntR w a n es) {base : Nat} {a' : Option Addr} {c' : Nat} {es2 : List EntT} (hrow : ERow base V (.slice a' es2.length c') es2) (hb : w.heap.size + 1 + 1 + 1 < base)
    (hq : ∀ e ∈ es2, e ∈ es ∨ (PSl V e.a e.n e.p.queue ∧ (∀ g off, e.a = some ⟨g, off, none⟩ → w.heap.size + 1 + 1 + 1 < g ∧ g < V.heap.size) ∧ NilC e.a e.n e.c)) (x0 x1 x2 x3 y : Value) :
    Below w.heap.size w (((((V.setCell ⟨w.heap.size + 1 + 1, 0, none⟩ x0).setCell ⟨w.heap.size + 1 + 1, 1, none⟩ x1).setCell ⟨w.heap.size + 1 + 1, 2, none⟩ x2).setCell ⟨w.heap.size + 1 + 1, 3, none⟩ x3).setCell ⟨w.heap.size + 1 + 1 + 1, 0, none⟩ y) ∧
    EntR (((((V.setCell ⟨w.heap.size + 1 + 1, 0, none⟩ x0).setCell ⟨w.heap.size + 1 + 1, 1, none⟩ x1).setCell ⟨w.heap.size + 1 + 1, 2, none⟩ x2).setCell ⟨w.heap.size + 1 + 1, 3, none⟩ x3).setCell ⟨w.heap.size + 1 + 1 + 1, 0, none⟩ y) a' es2.length es2 ∧ ∀ k, blkE a' es2 k → blkE a es k ∨ (w.heap.size ≤ k ∧ k < (((((V.setCell ⟨w.heap.size + 1 + 1, 0, none⟩ x0).setCell ⟨w.heap.size + 1 + 1, 1, none⟩ x1).setCell ⟨w.heap.size + 1 + 1, 2, none⟩ x2).setCell ⟨w.heap.size + 1 + 1, 3, none⟩ x3).setCell ⟨w.heap.size + 1 + 1 + 1, 0, none⟩ y).heap.size) := by
  have hbel := h.end1 x0 x1 x2 x3 y
  refine ⟨hbel, ?_, fun k hk => ?_⟩
  case refine_2 =>
    rcases hk with ⟨off, e⟩ | ⟨e, he, off, hea⟩
    · right
      have hlt := World.ownsRow.lt hrow k (by rw [e]; rfl)
      simp only [World.size_setCell]
      omega
    · rcases hq e he with h1 | ⟨-, h2, -⟩
      · exact .inl (.inr ⟨e, h1, off, hea⟩)
      · right
        have := h2 k off hea
        simp only [World.size_setCell]
        omega
  have g1 := grown_set4 V (w.heap.size + 1 + 1) x0 x1 x2 x3
  have r1 := hrow.set1 g1 (by omega)
  have r2 := r1.set1 (grown_setCell _ (w.heap.size + 1 + 1 + 1) 0 y) (by omega)
  have hold := hl.later hbel
  obtain ⟨a2, c2, hv, hr⟩ := r2.rd (fun e he => by
    rcases hq e he with h1 | ⟨h1, h2, h3⟩
    · exact hold.2.2 e h1
    · refine ⟨(h1.grown g1 (fun g off ha e => ?_)).grown (grown_setCell _ (w.heap.size + 1 + 1 + 1) 0 y) (fun g off ha e => ?_), h3⟩
      · have := h2 g off ha
        have := Option.some.inj e
        omega
      · have := h2 g off ha
        have := Option.some.inj e
        omega)
  cases hv
  exact hr
theorem cell_set1 {w : World} {X i : Nat} {v : Value} (h : w.cell? ⟨X, i, none⟩ = some v) {R j : Nat} (hne : X ≠ R) (x : Value) : (w.setCell ⟨R, j, none⟩ x).cell? ⟨X, i, none⟩ = some v :=
  (World.cell?_of_block (a := ⟨X, i, none⟩) (Below.heap_setCell _ _ _ _ hne)).trans h
theorem cell_set4 {w : World} {X i : Nat} {v : Value} (h : w.cell? ⟨X, i, none⟩ = some v) {R : Nat} (hne : X ≠ R) (x0 x1 x2 x3 : Value) : ((((w.setCell ⟨R, 0, none⟩ x0).setCell ⟨R, 1, none⟩ x1).setCell ⟨R, 2, none⟩ x2).setCell ⟨R, 3, none⟩ x3).cell? ⟨X, i, none⟩ = some v :=
  cell_set1 (cell_set1 (cell_set1 (cell_set1 h hne x0) hne x1) hne x2) hne x3
theorem EX.drewN {w W : World} {a : Option Addr} {n c : Nat} {opc : Array Value} (h : EX w W a n c opc) (m : Nat) : EX w (W.drewN m) a n c opc := h.later ⟨rfl, rfl, rfl, Nat.le_refl _, fun _ _ => rfl⟩
theorem cell_al {w : World} {X i : Nat} {v : Value} (h : w.cell? ⟨X, i, none⟩ = some v) (o : Obj) : (w.alloc o).cell? ⟨X, i, none⟩ = some v :=
  (World.cell?_of_block (a := ⟨X, i, none⟩) (Below.heap_alloc _ _ _ (World.block_lt_of_cell? w _ h))).trans h
theorem sansE_ps {w W : World} {a : Option Addr} {n : Nat} {es : List EntT} (h : EntR w a n es) (hb : Below w.heap.size w W) (m : Int) : ∀ e ∈ sansE es m, PSl W e.a e.n e.p.queue ∧ NilC e.a e.n e.c := fun e he => (h.later hb).2.2 e (List.mem_filter.1 he).1
theorem sansE_len {es : List EntT} {n : Nat} (h : es.length = n) (hn : n ≤ 1000) (m : Int) : (sansE es m).length ≤ 1000000 := by
  have := List.length_filter_le (fun x : EntT => x.nu != m) es
  unfold sansE
  omega
theorem step_key {es : List EntT} {nu : Int} {e : EntT} (he : e.nu = nu) : (sansE es nu ++ [e]).map keyE = stepM (es.map keyE) nu 2 (some e.p) := by
  rw [List.map_append, sansE_key]
  subst he
  rfl
theorem step_key0 {es : List EntT} {nu : Int} : (sansE es nu).map keyE = stepM (es.map keyE) nu 2 none := by
  rw [sansE_key]
  exact (List.append_nil _).symm
end Go.Proofs.YtijfdgoeppehlaaGreatDoor
