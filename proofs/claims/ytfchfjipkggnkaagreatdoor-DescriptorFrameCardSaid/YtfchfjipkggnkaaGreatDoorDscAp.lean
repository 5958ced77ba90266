/- Law 31: the model's do, any kind. Law 31, plain: the state that After answers. Law 31, plain: what after keeps. (printed by wip/gen_dscaf.py) -/
import Derived.Test.YtfchfjipkggnkaaGreatDoorDscMe
import Derived.Test.YtfchfjipkggnkaaGreatDoorDscMf
import Derived.Test.YtfchfjipkggnkaaGreatDoorDscMg
import Derived.Test.YtfchfjipkggnkaaGreatDoorDscMh
import Derived.Test.YtfchfjipkggnkaaGreatDoorDscT
import Derived.Test.YtfchfjipkggnkaaGreatDoorAftB
import Derived.Test.YtfchfjipkggnkaaGreatDoorDscPf
import Derived.Test.YtfchfjipkggnkaaGreatDoorDscCk
import Derived.Test.YtfchfjipkggnkaaGreatDoorDscRs
import Derived.Test.YtfchfjipkggnkaaGreatDoorQmW
import Derived.Test.YtfchfjipkggnkaaGreatDoorRowDs
namespace Go.Proofs.YtfchfjipkggnkaaGreatDoor
open Go.RowKit

theorem mdo_any (kd who tw : Nat) (fd n okd : Int) (omak : ByteArray) (obn onum ooff : Int) (ord owr oap : Bool) (X : Nat) (m : ModD) (w : World) (hX : ModAt w X m) (hk : kd < 256) (hw : who < 256) (ht : tw < 256) (hd : -9223372036854775808 ≤ n ∧ n ≤ 9223372036854775807) (hmk : omak.size ≤ 70368744177664) (hTE : ∀ t ∈ m.tabs, tabE t = 0) :
    Calls Tryz.prog 21 #[.pointer (some ⟨X, 0, none⟩), .agg #[.int .u8 kd, .int .u8 who, .int .u8 tw, .int .i64 fd, .int .i64 n, .int .i64 okd, .string omak, .int .i64 obn, .int .i64 onum, .int .i64 ooff, .bool ord, .bool owr, .bool oap]] w (DoPost w X (mdo m ⟨kd, who, tw, fd, n, ⟨okd, omak, obn, onum, ooff, ord, owr, oap⟩⟩)) := by
  rcases (by omega : kd % 11 = 0 ∨ kd % 11 = 1 ∨ kd % 11 = 2 ∨ kd % 11 = 3 ∨ kd % 11 = 4 ∨ kd % 11 = 5 ∨ kd % 11 = 6 ∨ kd % 11 = 7 ∨ kd % 11 = 8 ∨ kd % 11 = 9 ∨ kd % 11 = 10) with h | h | h | h | h | h | h | h | h | h | h
  · exact mdo_0 kd who tw fd n okd omak obn onum ooff ord owr oap X m w hX hk hw ht hd hmk hTE h
  · exact mdo_1 kd who tw fd n okd omak obn onum ooff ord owr oap X m w hX hk hw ht hd hmk hTE h
  · exact mdo_2 kd who tw fd n okd omak obn onum ooff ord owr oap X m w hX hk hw ht hd hmk hTE h
  · exact mdo_3 kd who tw fd n okd omak obn onum ooff ord owr oap X m w hX hk hw ht hd hmk hTE h
  · exact mdo_4 kd who tw fd n okd omak obn onum ooff ord owr oap X m w hX hk hw ht hd hmk hTE h
  · exact mdo_5 kd who tw fd n okd omak obn onum ooff ord owr oap X m w hX hk hw ht hd hmk hTE h
  · exact mdo_6 kd who tw fd n okd omak obn onum ooff ord owr oap X m w hX hk hw ht hd hmk hTE h
  · exact mdo_7 kd who tw fd n okd omak obn onum ooff ord owr oap X m w hX hk hw ht hd hmk hTE h
  · exact mdo_8 kd who tw fd n okd omak obn onum ooff ord owr oap X m w hX hk hw ht hd hmk hTE h
  · exact mdo_9 kd who tw fd n okd omak obn onum ooff ord owr oap X m w hX hk hw ht hd hmk hTE h
  · exact mdo_10 kd who tw fd n okd omak obn onum ooff ord owr oap X m w hX hk hw ht hd hmk hTE h
end Go.Proofs.YtfchfjipkggnkaaGreatDoor

namespace Go.Proofs.YtfchfjipkggnkaaGreatDoor
open Go.RowKit

/-- The state after. -/
theorem RelM.after {V : AV} {m : ModD} (h : RelM V m) : RelM ⟨stOf V, [], []⟩ m := ⟨h.lt, h.lh, h.len, fun k hk => by
  have h1 := h.has k hk
  have e : avGet ⟨stOf V, [], []⟩ (ofTab (nmD k)) = ((stOf V (ofTab (nmD k))).getD ⟨#[]⟩, (stOf V (ofTab (nmD k))).isSome) := rfl
  cases ho : optM m k with
  | none =>
    rw [ho] at h1
    have h2 : (avGet V (ofTab (nmD k))).2 = false := h1
    show (avGet _ _).2 = false
    rw [e]
    unfold stOf
    rw [if_neg (by rw [h2]; decide)]
    rfl
  | some t =>
    rw [ho] at h1
    obtain ⟨h2, h3⟩ := h1
    refine ⟨?_, h3⟩
    rw [e]
    unfold stOf
    rw [if_pos (by rw [h2]), h2]
    rfl⟩
end Go.Proofs.YtfchfjipkggnkaaGreatDoor

namespace Go.Proofs.YtfchfjipkggnkaaGreatDoor
open Go.RowKit

/-- All tables of a model are valid. -/
def TabsOk (m : ModD) : Prop := ∀ t ∈ m.tabs, tabE t = 0
theorem tabsOk_upd {m : ModD} (h : TabsOk m) {k : Nat} {c : ChD} (hc : ∀ t, c = some (some t) → tabE t = 0) : TabsOk (mUpd m k c) := by
  unfold mUpd
  split
  · exact h
  · exact h
  · rename_i t
    intro x hx
    rcases List.mem_or_eq_of_mem_set hx with hx | rfl
    · exact h x hx
    · exact hc _ rfl
theorem tabsOk_tab {m : ModD} (h : TabsOk m) (k : Nat) : tabE (mTab m k) = 0 := by
  unfold mTab
  rw [List.getD_eq_getElem?_getD]
  by_cases hk : k < m.tabs.length
  · rw [List.getElem?_eq_getElem hk]
    exact h _ (List.getElem_mem _)
  · rw [List.getElem?_eq_none (by omega)]
    rfl
theorem tabsOk_one {m : ModD} (h : TabsOk m) (hm : ModOk m) (k : Nat) {f : List OpnT → ResD × ChD} (hf : GoodF f) : TabsOk (mOne m k f).1 := by
  unfold mOne
  split
  · exact h
  · exact tabsOk_upd h (fun t e => (hf _ (tabsOk_tab h k) (hm.tl k) t e).1)
theorem tabsOk_do {m : ModD} (h : TabsOk m) (hm : ModOk m) (o : OpD) : TabsOk (mdo m o).1 := by
  unfold mdo
  split
  · unfold mMake
    split
    · exact h
    split
    · exact h
    · exact tabsOk_upd h (fun t e => by injection e with e; injection e with e; rw [← e]; rfl)
  split
  · unfold mCopy
    split
    · exact h
    split
    · exact h
    split
    · exact h
    · exact tabsOk_upd h (fun t e => by injection e with e; injection e with e; rw [← e]; exact tabsOk_tab h _)
  split
  · exact tabsOk_one h hm _ good_drop
  split
  · exact tabsOk_one h hm _ good_all
  split
  · exact tabsOk_one h hm _ (good_get _)
  split
  · unfold mAdd
    split
    · exact h
    · exact tabsOk_one h hm _ (good_add (by omega))
  split
  · unfold mPut
    split
    · exact h
    · exact tabsOk_one h hm _ (good_put _ (by omega))
  split
  · exact tabsOk_one h hm _ (good_close _)
  split
  · exact tabsOk_one h hm _ (good_move _ _)
  split
  · exact tabsOk_one h hm _ (good_move _ _)
  · exact tabsOk_one h hm _ (good_dup _)
theorem apart_M : Apart 45 := ⟨by decide, by decide, by decide, by decide⟩
theorem apart_O : Apart 49 := ⟨by decide, by decide, by decide, by decide⟩
theorem kept_grown {w w' : World} {X : Nat} (h : Kept (fun k => k = X) w w') : w.grownBy w' (some X) :=
  ⟨h.os, h.tape, h.output, h.size, fun k hk he => h.block k hk (fun e => he (by rw [e]))⟩
/-- In the midst of after: k operations are done. -/
structure AfInv (w wr : World) (k sp : Nat) (m : ModD) (f : NameT → Option ByteArray) : Prop where
  low : Below w.heap.size w wr
  mod : ModAt wr (w.heap.size + 1) m
  base : BaseN k wr.heap.size wr sp f
  rel : RelM ⟨f, [], []⟩ m
  tabs : TabsOk m
  us : Usages wr
def AfPost (w : World) (r : Ending) (w' : World) : Prop := ∃ sp m f, r = .returned (.tuple #[.pointer (some ⟨sp, 0, none⟩), .pointer (some ⟨w.heap.size + 1, 0, none⟩), .bool true]) ∧ AfInv w w' 30 sp m f
theorem AfInv.later {w wr w' : World} {k sp : Nat} {m : ModD} {f : NameT → Option ByteArray} (h : AfInv w wr k sp m f) (hb : Below wr.heap.size wr w') : AfInv w w' k sp m f :=
  ⟨h.low.trans (hb.mono h.low.size), h.mod.later hb, (h.base.later hb).up hb.size, h.rel, h.tabs, h.us.below hb h.us.pos⟩
theorem AfInv.more {w wr : World} {k k' sp : Nat} {m : ModD} {f : NameT → Option ByteArray} (h : AfInv w wr k sp m f) (hk : k ≤ k') : AfInv w wr k' sp m f :=
  ⟨h.low, h.mod, h.base.more hk, h.rel, h.tabs, h.us⟩
set_option maxRecDepth 100000 in
theorem zero_mod : Tryz.zeroCells45 = (modC modZ).toArray := by kernel_rfl
theorem modZ_ok : ModOk modZ := ⟨rfl, rfl, fun t ht => by rw [List.eq_of_mem_replicate ht]; rfl⟩
theorem modZ_tabs : TabsOk modZ := fun t ht => by rw [List.eq_of_mem_replicate ht]; rfl
theorem new_res_of (w : World) {r : ResD} (h : r.T.length = 16) : ResAt (w.alloc (.cells (resC r).toArray 52)) w.heap.size r := ⟨new_row w _ _, h⟩
theorem new_store_res (w : World) {r : ResD} (h : r.T.length = 16) : (storeCells ⟨w.heap.size, 0, none⟩ (resC r)).run Tryz.prog (w.alloc (.cells Tryz.zeroCells52 52)) = .ok () (w.alloc (.cells (resC r).toArray 52)) := by
  have := (new_res w).store h
  rw [World.setRow_alloc_new] at this
  exact this
theorem row_slice {w : World} {v : Value} {cs : List ChangeT} (h : RowC w v cs) : ∃ a cap, v = .slice a cs.length cap := by
  obtain ⟨a, cap, e, -⟩ := h
  exact ⟨a, cap, e⟩
theorem writes_len {V : AV} {c0 : Bool} (h : (c0 = false ∧ V.calls = []) ∨ (c0 = true ∧ ∃ c, V.calls = [c])) {cs : List ChangeT} (hp : cs.Perm (writesU V.calls)) : decide ((0 : Int) < (cs.length : Int)) = c0 ∧ V.calls.length ≤ 1 := by
  have hl := hp.length_eq
  rcases h with ⟨rfl, e⟩ | ⟨rfl, c, e⟩
  · rw [e] at hl ⊢
    have : cs.length = 0 := hl
    rw [this]
    exact ⟨rfl, by simp⟩
  · rw [e] at hl ⊢
    have : cs.length = 1 := hl
    rw [this]
    exact ⟨rfl, by simp⟩
end Go.Proofs.YtfchfjipkggnkaaGreatDoor
