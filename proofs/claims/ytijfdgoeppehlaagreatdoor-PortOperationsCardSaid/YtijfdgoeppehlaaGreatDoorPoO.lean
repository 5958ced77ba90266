/- Law 37: expect, its arms joined: what it returns is what an operation does. Law 37: Model.Do: one operation upon a view and upon the model of its ports. Law 37: Model.view: a view shows exactly the ports of the model. Law 37: PortOperations: all operations of ports, at most 40. -/
import Derived.Test.YtijfdgoeppehlaaGreatDoorPoH
import Derived.Test.YtijfdgoeppehlaaGreatDoorPoK
import Derived.BigQuiet
import Derived.Deep.RegionHeld3
import Derived.Deep.CutBlock
import Derived.Deep.LoopGhost
namespace Go.Proofs.YtijfdgoeppehlaaGreatDoor
open Go.RowKit

theorem key_inj {M : ModT} (h : (M.map Prod.fst).Nodup) {x y : Int × PortT} (hx : x ∈ M) (hy : y ∈ M) (e : x.1 = y.1) : x = y := by
  induction M with
  | nil => cases hx
  | cons z M ih =>
    simp only [List.map_cons, List.nodup_cons] at h
    rcases List.mem_cons.1 hx with hx1 | hx
    · rcases List.mem_cons.1 hy with hy1 | hy
      · rw [hx1, hy1]
      · exact absurd (List.mem_map.2 ⟨y, hy, by rw [← e, hx1]⟩) h.1
    · rcases List.mem_cons.1 hy with hy1 | hy
      · exact absurd (List.mem_map.2 ⟨x, hx, by rw [e, hy1]⟩) h.1
      · exact ih h.2 hx hy
theorem findE_look {es : List EntT} {nu ep : Int} (h : findE es nu ep = none) : qHas ep (lookM (es.map keyE) nu) = (zeroQ, 8) := by
  cases ho : lookM (es.map keyE) nu with
  | none => rfl
  | some p =>
    obtain ⟨e, he, hk⟩ := List.mem_map.1 (lookM_some ho)
    unfold findE at h
    rw [List.find?_eq_none] at h
    have h0 := h e he
    have h1 : e.nu = nu := congrArg Prod.fst hk
    have h2 : e.p = p := congrArg Prod.snd hk
    exact if_pos (fun h3 => h0 (by simp [h1, h2, h3]))
theorem findE_yes {es : List EntT} {nu ep : Int} {e : EntT} (hn : ((es.map keyE).map Prod.fst).Nodup) (h : findE es nu ep = some e) : e ∈ es ∧ e.p.epoch = ep ∧ lookM (es.map keyE) nu = some e.p := by
  unfold findE at h
  have h1 := List.mem_of_find?_eq_some h
  have h2 := List.find?_some h
  simp only [Bool.and_eq_true, beq_iff_eq] at h2
  have hm : keyE e ∈ es.map keyE := List.mem_map.2 ⟨e, h1, rfl⟩
  refine ⟨h1, h2.2, ?_⟩
  cases ho : lookM (es.map keyE) nu with
  | none => exact absurd h2.1 (lookM_none ho (keyE e) hm)
  | some p =>
    have := key_inj hn (lookM_some ho) hm h2.1.symm
    rw [show p = e.p from congrArg Prod.snd this]
theorem who_valid (k : Nat) : validB (whoN k) = true := by
  unfold whoN
  split
  · decide +kernel
  · split <;> decide +kernel
theorem qArgs_bad {x : ByteArray} (hx : validB x = true) {nu ep : Int} (h : (nu < 1 ∨ 9999 < nu) ∨ numB ep = false) : qArgs x nu ep = 2 := by
  unfold qArgs
  rw [if_neg (by rw [hx]; simp), if_pos h]
theorem qArgs_good {x : ByteArray} (hx : validB x = true) {nu ep : Int} (h : ¬ ((nu < 1 ∨ 9999 < nu) ∨ numB ep = false)) : qArgs x nu ep = 0 := by
  unfold qArgs
  rw [if_neg (by rw [hx]; simp), if_neg h]
theorem pCallW_range {kd wh us : Nat} {nu ep : Int} {sr by_ : ByteArray} {o : Option PortT} (h : (nu < 1 ∨ 9999 < nu) ∨ numB ep = false) : pCallW kd wh us nu ep sr by_ o = (o, ⟨zeroPk, ⟨#[]⟩, 2⟩, 0) := by
  have h1 := qArgs_bad (who_valid wh) h
  have h2 := qArgs_bad valid_emp h
  unfold pCallW openW closeW arriveW receiveW getW
  rw [h1, h2]
  by_cases k0 : kd % 5 = 0
  · rw [if_pos k0]; rfl
  rw [if_neg k0]
  by_cases k1 : kd % 5 = 1
  · rw [if_pos k1]; rfl
  rw [if_neg k1]
  by_cases k2 : kd % 5 = 2
  · rw [if_pos k2]; rfl
  rw [if_neg k2]
  by_cases k3 : kd % 5 = 3
  · rw [if_pos k3]; rfl
  rw [if_neg k3]
  rfl
theorem pCallW_put {kd wh us : Nat} {nu ep : Int} {sr by_ : ByteArray} {o : Option PortT} (h : 2 ≤ (pCallW kd wh us nu ep sr by_ o).2.2) : 1 ≤ nu ∧ nu ≤ 9999 := by
  by_cases hr : (nu < 1 ∨ 9999 < nu) ∨ numB ep = false
  · rw [pCallW_range hr] at h
    simp at h
  · omega
theorem expect_any37 (a : Option Addr) (n c : Nat) (es : List EntT) (kd wh us : Nat) (nu ep : Int) (sr by_ : ByteArray) (w : World) (hl : EntR w a n es) (hn : n ≤ 1000) (hsr : sr.size ≤ 9223372036854775807) (hby : by_.size ≤ 9223372036854775807) (hwh : wh ≤ 255)
    (hnd : ((es.map keyE).map Prod.fst).Nodup) (hok : ∀ e ∈ es, checkQ e.p = 0 ∧ e.p.owner.size ≤ 64 ∧ e.p.lost ≤ 1000) :
    Calls Tryz.prog 21 #[.agg #[.slice a n c], .agg #[.int .u8 kd, .int .u8 wh, .int .u8 us, .int .i64 nu, .int .i64 ep, .string sr, .string by_]] w (EPost w a es nu (pCallW kd wh us nu ep sr by_ (lookM (es.map keyE) nu))) := by
  by_cases hr : (nu < 1 ∨ 9999 < nu) ∨ numB ep = false
  · rw [pCallW_range hr]
    exact ex_range a n c es kd wh us nu ep sr by_ _ w hl hn hsr hby hr
  have hr1 : 1 ≤ nu := by omega
  have hr2 : nu ≤ 9999 := by omega
  have he : numB ep = true := by
    cases h : numB ep with
    | true => rfl
    | false => exact absurd (.inr h) hr
  have q1 := qArgs_good (who_valid wh) hr
  have q2 := qArgs_good valid_emp hr
  have z : ¬ (0 : Nat) ≠ 0 := fun h => h rfl
  by_cases k0 : kd % 5 = 0
  · unfold pCallW openW
    simp only [if_pos k0, q1, if_neg z]
    by_cases hlow : nu ≤ 99 ∧ ((us : Int) % 3) ≠ 0
    · simp only [if_pos hlow]
      exact ex_low a n c es kd wh us nu ep sr by_ _ w hl hn hsr hby hr1 hr2 he k0 hlow.1 hlow.2
    simp only [if_neg hlow]
    have hl2 : 99 < nu ∨ ((us : Int) % 3) = 0 := by omega
    cases hf : findE es nu ep with
    | none =>
      have h0 : ¬ (qHas ep (lookM (es.map keyE) nu)).2 = 0 := by rw [findE_look hf]; simp
      simp only [if_neg h0]
      rcases hl2 with h | h
      · exact ex_opena a n c es kd wh us nu ep sr by_ w hl hn hsr hby hf hr1 hr2 he k0 h hwh
      · exact ex_openb a n c es kd wh us nu ep sr by_ w hl hn hsr hby hf hr1 hr2 he k0 h hwh
    | some e =>
      obtain ⟨h1, h2, h3⟩ := findE_yes hnd hf
      have h0 : (qHas ep (lookM (es.map keyE) nu)).2 = 0 := by rw [h3, show qHas ep (some e.p) = (e.p, 0) from if_neg (fun h => h h2)]
      simp only [if_pos h0]
      obtain ⟨xn, ⟨ow, pe, lo, ls⟩, qa, qn, qc⟩ := e
      rcases hl2 with h | h
      · exact ex_busya a n c es kd wh us nu ep sr by_ _ w hl hn hsr hby xn ow pe lo ls qa qn qc hf hr1 hr2 he k0 h
      · exact ex_busyb a n c es kd wh us nu ep sr by_ _ w hl hn hsr hby xn ow pe lo ls qa qn qc hf hr1 hr2 he k0 h
  have hkd : kd % 5 = 1 ∨ kd % 5 = 2 ∨ kd % 5 = 3 ∨ kd % 5 = 4 := by omega
  cases hf : findE es nu ep with
  | none =>
    have h0 := findE_look hf
    rcases hkd with k | k | k | k
    · unfold pCallW closeW
      simp only [if_neg k0, if_pos k, q1, if_neg z, h0]
      exact ex_none1 a n c es kd wh us nu ep sr by_ _ w hl hn hsr hby hf hr1 hr2 he k
    · unfold pCallW arriveW
      simp only [if_neg k0, if_neg (show ¬ kd % 5 = 1 by omega), if_pos k, q2, if_neg z, h0]
      by_cases hp : packE ⟨cut sr 60, cut by_ 600⟩ = 0
      · simp only [hp, if_neg z]
        exact ex_none2 a n c es kd wh us nu ep sr by_ _ w hl hn hsr hby hf hr1 hr2 he k hp
      · simp only [if_pos hp]
        exact ex_pack a n c es kd wh us nu ep sr by_ _ w hl hn hsr hby hr1 hr2 he k _ rfl hp
    · unfold pCallW receiveW recvW
      simp only [if_neg k0, if_neg (show ¬ kd % 5 = 1 by omega), if_neg (show ¬ kd % 5 = 2 by omega), if_pos k, q1, if_neg z, h0]
      exact ex_none3 a n c es kd wh us nu ep sr by_ _ w hl hn hsr hby hf hr1 hr2 he k
    · unfold pCallW getW
      simp only [if_neg k0, if_neg (show ¬ kd % 5 = 1 by omega), if_neg (show ¬ kd % 5 = 2 by omega), if_neg (show ¬ kd % 5 = 3 by omega), q2, if_neg z, h0]
      exact ex_none4 a n c es kd wh us nu ep sr by_ _ w hl hn hsr hby hf hr1 hr2 he k
  | some e =>
    obtain ⟨h1, h2, h3⟩ := findE_yes hnd hf
    obtain ⟨c1, c2, c3⟩ := hok e h1
    obtain ⟨hps, hnil⟩ := hl.2.2 e h1
    have h0 : qHas ep (lookM (es.map keyE) nu) = (e.p, 0) := by rw [h3]; exact if_neg (fun h => h h2)
    rw [h3] at h0 ⊢
    obtain ⟨xn, ⟨ow, pe, lo, ls⟩, qa, qn, qc⟩ := e
    dsimp only at *
    obtain ⟨-, -, clo, cq, -⟩ := checkQ_ok c1
    have hln := hps.1
    dsimp only at clo cq
    rcases hkd with k | k | k | k
    · unfold pCallW closeW
      simp only [if_neg k0, if_pos k, q1, if_neg z, h0]
      by_cases hw : ow = whoN wh
      · simp only [hw, if_neg (fun h : whoN wh ≠ whoN wh => h rfl)]
        exact ex_close a n c es kd wh us nu ep sr by_ w hl hn hsr hby xn ow pe lo ls qa qn qc hf hr1 hr2 he k hwh hw.symm
      · rw [if_pos hw]
        exact ex_owner1 a n c es kd wh us nu ep sr by_ _ w hl hn hsr hby xn ow pe lo ls qa qn qc hf hr1 hr2 he k hwh hw
    · unfold pCallW arriveW
      simp only [if_neg k0, if_neg (show ¬ kd % 5 = 1 by omega), if_pos k, q2, if_neg z, h0]
      by_cases hp : packE ⟨cut sr 60, cut by_ 600⟩ = 0
      · simp only [hp, if_neg z]
        by_cases hq : ls.length < 16
        · simp only [if_pos hq]
          exact ex_push a n c es kd wh us nu ep sr by_ w hl hn hsr hby xn ow pe lo ls qa qn qc hf hr1 hr2 he k hp (by omega) hps hnil
        · simp only [if_neg hq, if_pos (show lo < 1073741824 by omega)]
          exact ex_full a n c es kd wh us nu ep sr by_ w hl hn hsr hby xn ow pe lo ls qa qn qc hf hr1 hr2 he k hp (by omega) clo.1 (by omega) hps hnil
      · simp only [if_pos hp]
        exact ex_pack a n c es kd wh us nu ep sr by_ _ w hl hn hsr hby hr1 hr2 he k _ rfl hp
    · unfold pCallW receiveW recvW
      simp only [if_neg k0, if_neg (show ¬ kd % 5 = 1 by omega), if_neg (show ¬ kd % 5 = 2 by omega), if_pos k, q1, if_neg z, h0]
      by_cases hw : ow = whoN wh
      · by_cases hq : ls.length = 0
        · simp only [if_neg (fun h : ow ≠ whoN wh => h hw), if_pos hq]
          exact ex_empty a n c es kd wh us nu ep sr by_ _ w hl hn hsr hby xn ow pe lo ls qa qn qc hf hr1 hr2 he k hwh hw.symm (by omega)
        · simp only [if_neg (fun h : ow ≠ whoN wh => h hw), if_neg hq]
          obtain ⟨qg, qo, rfl, -⟩ := hps.2 (by omega)
          obtain ⟨⟨xs, xb⟩, hx⟩ : ∃ x, ls.getD 0 zeroPk = x := ⟨_, rfl⟩
          rw [hx]
          exact ex_recv a n c es kd wh us nu ep sr by_ w hl hn hsr hby xn ow pe lo ls qg qo qn qc hf hr1 hr2 he k hwh hw.symm (by omega) (by omega) xs xb hx hps hnil
      · simp only [if_pos hw]
        exact ex_owner3 a n c es kd wh us nu ep sr by_ _ w hl hn hsr hby xn ow pe lo ls qa qn qc hf hr1 hr2 he k hwh hw
    · unfold pCallW getW
      simp only [if_neg k0, if_neg (show ¬ kd % 5 = 1 by omega), if_neg (show ¬ kd % 5 = 2 by omega), if_neg (show ¬ kd % 5 = 3 by omega), q2, if_neg z, h0]
      exact ex_text a n c es kd wh us nu ep sr by_ _ w hl hn hsr hby xn ow pe lo ls qa qn qc hf hr1 hr2 he k hps c2 c1
end Go.Proofs.YtijfdgoeppehlaaGreatDoor

namespace Go.Proofs.YtijfdgoeppehlaaGreatDoor
open Go.RowKit
/-- Equal results are equal. -/
theorem run_eql_resM (w : World) (x1 x2 x3 : ByteArray) (x4 : Int) : (binOp .eql 42 (.agg #[.string x1, .string x2, .string x3, .int .i64 x4]) (.agg #[.string x1, .string x2, .string x3, .int .i64 x4])).run Tryz.prog w = .ok (.bool true) w := by
  have hu : Tryz.prog.underlying 42 = some (.struct (Tryz.prog.fieldsOf 42)) := by kernel_rfl
  have hst : Tryz.prog.stoodInHeld 42 = false := by kernel_rfl
  have h : (Op.equal 42 (.agg #[.string x1, .string x2, .string x3, .int .i64 x4]) (.agg #[.string x1, .string x2, .string x3, .int .i64 x4])).run Tryz.prog w = .ok true w := by
    simp only [Op.equal, Op.maxDepth]
    rw [run_equalIn_struct w 9999 _ _ _ hu hst]
    simp [go_sem, Tryz.underlying33, Tryz.underlying9, Tryz.underlying40]
  simp only [binOp]
  simp [h]
attribute [local go_sem ↓] Go.wp_at_zero Go.wp_at_succ
attribute [local go_sem ↓] run_eql_resM

/-- A view and the model of its ports, after k operations. -/
structure ML (w0 w : World) (b m : Nat) (V : AV) (a : Option Addr) (n c : Nat) (es : List EntT) (k : Nat) : Prop where
  qm : QM w0 w b 0 V (fun j => (j = m ∨ blkE a es j) ∧ j < w.heap.size)
  mo : w.heap[m]? = some (.cells #[.slice a n c] 30 (0, 0))
  ent : EntR w a n es
  ne : ∀ j, blkE a es j → j ≠ m
  lt : ∀ j, blkE a es j → j < w.heap.size
  rel : RelM V (es.map keyE) k
  calls : V.calls.length ≤ k
theorem ML.len {w0 w : World} {b m : Nat} {V : AV} {a : Option Addr} {n c : Nat} {es : List EntT} {k : Nat} (h : ML w0 w b m V a n c es k) : n ≤ k := by
  have h1 := h.rel.len
  have h2 := h.ent.1
  rw [List.length_map] at h1
  omega
theorem ML.start {w w2 : World} {b : Nat} (s : QM w w2 b 0 ⟨fun _ => none, [], []⟩ (fun _ => False)) :
    ML w (w2.alloc (.cells #[.slice none 0 0] 30)) b w2.heap.size ⟨fun _ => none, [], []⟩ none 0 0 [] 0 where
  qm := s.fresh ((Below.refl _ _).alloc (Nat.le_refl _) _) (fun k hk => by
    obtain ⟨h1, h2⟩ := hk
    rcases h1 with rfl | ⟨off, h⟩ | ⟨e, h, -⟩
    · exact .inr ⟨Nat.le_refl _, h2⟩
    · cases h
    · cases h)
  mo := heap_alloc_new w2 _
  ent := EntR.nil _
  ne := fun j hj => by
    rcases hj with ⟨off, h⟩ | ⟨e, h, -⟩
    · cases h
    · cases h
  lt := fun j hj => by
    rcases hj with ⟨off, h⟩ | ⟨e, h, -⟩
    · cases h
    · cases h
  rel := RelM.empty
  calls := Nat.le_refl _
/-- In the midst of Do: the answers of expect lie in blocks P and Q of their own. -/
structure DM (w0 w W : World) (b m : Nat) (V : AV) (opc : Array Value) (P Q : Nat) (R : PRes) (a : Option Addr) (n c : Nat) (es : List EntT) : Prop where
  qm : QM w0 W b 0 V (fun j => (j = m ∨ blkE a es j ∨ j = P ∨ j = Q ∨ j = w.heap.size) ∧ j < W.heap.size)
  op : W.heap[w.heap.size]? = some (.cells opc 35 (0, 0))
  rs : W.heap[P]? = some (.cells (presCells R) 42 (0, 0))
  mq : W.heap[Q]? = some (.cells #[.slice a n c] 30 (0, 0))
  mo : ∃ x, W.heap[m]? = some (.cells #[x] 30 (0, 0))
  ent : EntR W a n es
  ne : ∀ j, blkE a es j → j ≠ m
  lt : ∀ j, blkE a es j → j < W.heap.size
  hP : P ≠ m
  hQ : Q ≠ m
/-- From W1 to W nothing changed but the blocks P, Q. -/
structure Upd2 (W1 W : World) (P Q : Nat) : Prop where
  os : W.os = W1.os
  tape : W.tape = W1.tape
  output : W.output = W1.output
  size : W1.heap.size ≤ W.heap.size
  block : ∀ k, k < W1.heap.size → k ≠ P → k ≠ Q → W.heap[k]? = W1.heap[k]?
theorem Upd2.refl (W : World) (P Q : Nat) : Upd2 W W P Q := ⟨rfl, rfl, rfl, Nat.le_refl _, fun _ _ _ _ => rfl⟩
section
variable {W1 W W' : World} {P Q : Nat}
theorem Upd2.below (h : Upd2 W1 W P Q) (hb : Below W.heap.size W W') : Upd2 W1 W' P Q :=
  ⟨hb.os.trans h.os, hb.tape.trans h.tape, hb.output.trans h.output, Nat.le_trans h.size hb.size, fun k h1 h2 h3 => (hb.block k (Nat.lt_of_lt_of_le h1 h.size)).trans (h.block k h1 h2 h3)⟩
theorem Upd2.grown (h : Upd2 W1 W P Q) {X : Nat} (hg : W.grownBy W' (some X)) (hX : X = P ∨ X = Q) : Upd2 W1 W' P Q :=
  ⟨hg.os.trans h.os, hg.tape.trans h.tape, hg.output.trans h.output, Nat.le_trans h.size hg.size, fun k h1 h2 h3 => (hg.block k (Nat.lt_of_lt_of_le h1 h.size) (fun e => by cases e; rcases hX with rfl | rfl <;> contradiction)).trans (h.block k h1 h2 h3)⟩
end
theorem ML.dm {w0 w wc W1 W : World} {b m : Nat} {V : AV} {a : Option Addr} {n c : Nat} {es : List EntT} {k : Nat} (I : ML w0 w b m V a n c es k) {opc : Array Value} {P Q : Nat} {R : PRes} {a' : Option Addr} {n' c' : Nat} {es' : List EntT}
    (hop : wc.heap[w.heap.size]? = some (.cells opc 35 (0, 0))) (hc : Below w.heap.size w wc) (hb : Below wc.heap.size wc W1) (hent : EntR W1 a' n' es') (hblk : ∀ k, blkE a' es' k → blkE a es k ∨ (wc.heap.size ≤ k ∧ k < W1.heap.size))
    (hu : Upd2 W1 W P Q) (hP : (w.heap.size < P ∧ P < wc.heap.size) ∨ W1.heap.size ≤ P) (hQ : (w.heap.size < Q ∧ Q < wc.heap.size) ∨ W1.heap.size ≤ Q)
    (hrs : W.heap[P]? = some (.cells (presCells R) 42 (0, 0))) (hmq : W.heap[Q]? = some (.cells #[.slice a' n' c'] 30 (0, 0))) :
    DM w0 w W b m V opc P Q R a' n' c' es' := by
  have hcs := hc.size
  have hbs := hb.size
  have hus := hu.size
  have hml := lt_of_heap I.mo
  have hlow : Below w.heap.size w W := ⟨hu.os.trans (hb.os.trans hc.os), hu.tape.trans (hb.tape.trans hc.tape), hu.output.trans (hb.output.trans hc.output), by omega, fun j hj => (hu.block j (by omega) (by omega) (by omega)).trans ((hb.block j (by omega)).trans (hc.block j hj))⟩
  refine ⟨I.qm.fresh hlow (fun j hj => ?_), ?_, hrs, hmq, ⟨_, (hlow.block m hml).trans I.mo⟩, hent.kept (fun j hj hl => ?_), fun j hj => ?_, fun j hj => ?_, by omega, by omega⟩
  · obtain ⟨h1, h2⟩ := hj
    rcases Nat.lt_or_ge j w.heap.size with h3 | h3
    · refine .inl ⟨?_, h3⟩
      rcases h1 with h1 | h1 | h1 | h1 | h1
      · exact .inl h1
      · rcases hblk j h1 with h4 | h4
        · exact .inr h4
        · omega
      · omega
      · omega
      · omega
    · exact .inr ⟨h3, h2⟩
  · have hl := lt_of_heap hop
    exact (hu.block _ (by omega) (by omega) (by omega)).trans ((hb.block _ hl).trans hop)
  · have hold : j < w.heap.size ∨ wc.heap.size ≤ j := by
      rcases hblk j hj with h4 | h4
      · exact .inl (I.lt j h4)
      · exact .inr h4.1
    exact hu.block j hl (by omega) (by omega)
  · rcases hblk j hj with h4 | h4
    · exact I.ne j h4
    · omega
  · rcases hblk j hj with h4 | h4
    · have := I.lt j h4
      omega
    · omega
section
variable {w0 w wc wz : World} {b m : Nat} {V : AV} {a : Option Addr} {n c : Nat} {es : List EntT} {k : Nat} (I : ML w0 w b m V a n c es k) {opc : Array Value} {rsr rby rt : ByteArray} {re : Nat} {a' : Option Addr} {n' c' : Nat} {es' : List EntT}
  (hop : wc.heap[w.heap.size]? = some (.cells opc 35 (0, 0))) (hc : Below w.heap.size w wc) (hb : Below wc.heap.size wc wz) (hent : EntR wz a' n' es') (hblk : ∀ k, blkE a' es' k → blkE a es k ∨ (wc.heap.size ≤ k ∧ k < wz.heap.size))
include I hop hc hb hent hblk
theorem dmE1 : DM w0 w ((wz.alloc (.cells #[.string rsr, .string rby, .string rt, .int .i64 re] 42)).alloc (.cells #[.slice a' n' c'] 30)) b m V opc wz.heap.size (wz.heap.size + 1) ⟨⟨rsr, rby⟩, rt, re⟩ a' n' c' es' :=
  I.dm hop hc hb hent hblk (((Upd2.refl _ _ _).below ((Below.refl _ _).alloc (Nat.le_refl _) _)).below ((Below.refl _ _).alloc (Nat.le_refl _) _)) (.inr (Nat.le_refl _)) (.inr (Nat.le_succ _))
    ((Below.heap_alloc _ _ _ (by simp)).trans (heap_alloc_new wz _)) (by have h := heap_alloc_new (wz.alloc (.cells #[.string rsr, .string rby, .string rt, .int .i64 re] 42)) (.cells #[.slice a' n' c'] 30); rwa [World.size_alloc] at h)
theorem dmE2 : DM w0 w ((wz.alloc (.cells #[.slice a' n' c'] 30)).alloc (.cells #[.string rsr, .string rby, .string rt, .int .i64 re] 42)) b m V opc (wz.heap.size + 1) wz.heap.size ⟨⟨rsr, rby⟩, rt, re⟩ a' n' c' es' :=
  I.dm hop hc hb hent hblk (((Upd2.refl _ _ _).below ((Below.refl _ _).alloc (Nat.le_refl _) _)).below ((Below.refl _ _).alloc (Nat.le_refl _) _)) (.inr (Nat.le_succ _)) (.inr (Nat.le_refl _))
    (by have h := heap_alloc_new (wz.alloc (.cells #[.slice a' n' c'] 30)) (.cells #[.string rsr, .string rby, .string rt, .int .i64 re] 42); rwa [World.size_alloc] at h) ((Below.heap_alloc _ _ _ (by simp)).trans (heap_alloc_new wz _))
theorem dmC {P : Nat} {z0 z1 z2 z3 : Value} (hP : wz.heap[P]? = some (.cells #[z0, z1, z2, z3] 42 (0, 0))) (h1 : w.heap.size < P) (h2 : P < wc.heap.size) :
    DM w0 w (((((wz.setCell ⟨P, 0, none⟩ (.string rsr)).setCell ⟨P, 1, none⟩ (.string rby)).setCell ⟨P, 2, none⟩ (.string rt)).setCell ⟨P, 3, none⟩ (.int .i64 re)).alloc (.cells #[.slice a' n' c'] 30)) b m V opc P wz.heap.size ⟨⟨rsr, rby⟩, rt, re⟩ a' n' c' es' :=
  I.dm hop hc hb hent hblk (((Upd2.refl _ _ _).grown (grown_set4 _ _ _ _ _ _) (.inl rfl)).below ((Below.refl _ _).alloc (Nat.le_refl _) _)) (.inl ⟨h1, h2⟩) (.inr (Nat.le_refl _))
    ((Below.heap_alloc _ _ _ (by have := lt_of_heap hP; simpa using this)).trans (heap_setCell_same (heap_setCell_same (heap_setCell_same (heap_setCell_same hP 0 _) 1 _) 2 _) 3 _)) (by have h := heap_alloc_new ((((wz.setCell ⟨P, 0, none⟩ (.string rsr)).setCell ⟨P, 1, none⟩ (.string rby)).setCell ⟨P, 2, none⟩ (.string rt)).setCell ⟨P, 3, none⟩ (.int .i64 re)) (.cells #[.slice a' n' c'] 30); simp only [World.size_setCell] at h; exact h)
theorem dmD {Q : Nat} {z0 : Value} (hQ : wz.heap[Q]? = some (.cells #[z0] 30 (0, 0))) (h1 : w.heap.size < Q) (h2 : Q < wc.heap.size) :
    DM w0 w ((wz.setCell ⟨Q, 0, none⟩ (.slice a' n' c')).alloc (.cells #[.string rsr, .string rby, .string rt, .int .i64 re] 42)) b m V opc wz.heap.size Q ⟨⟨rsr, rby⟩, rt, re⟩ a' n' c' es' :=
  I.dm hop hc hb hent hblk (((Upd2.refl _ _ _).grown (grown_setCell _ _ _ _) (.inr rfl)).below ((Below.refl _ _).alloc (Nat.le_refl _) _)) (.inr (Nat.le_refl _)) (.inl ⟨h1, h2⟩)
    (by have h := heap_alloc_new (wz.setCell ⟨Q, 0, none⟩ (.slice a' n' c')) (.cells #[.string rsr, .string rby, .string rt, .int .i64 re] 42); simp only [World.size_setCell] at h; exact h) ((Below.heap_alloc _ _ _ (by have := lt_of_heap hQ; simpa using this)).trans (heap_setCell_same hQ 0 _))
theorem dmA {P Q : Nat} {z0 z1 z2 z3 z4 : Value} (hP : wz.heap[P]? = some (.cells #[z0, z1, z2, z3] 42 (0, 0))) (hQ : wz.heap[Q]? = some (.cells #[z4] 30 (0, 0))) (h1 : w.heap.size < P) (h2 : P < wc.heap.size) (h3 : w.heap.size < Q) (h4 : Q < wc.heap.size) (hne : P ≠ Q) :
    DM w0 w (((((wz.setCell ⟨P, 0, none⟩ (.string rsr)).setCell ⟨P, 1, none⟩ (.string rby)).setCell ⟨P, 2, none⟩ (.string rt)).setCell ⟨P, 3, none⟩ (.int .i64 re)).setCell ⟨Q, 0, none⟩ (.slice a' n' c')) b m V opc P Q ⟨⟨rsr, rby⟩, rt, re⟩ a' n' c' es' :=
  I.dm hop hc hb hent hblk (((Upd2.refl _ _ _).grown (grown_set4 _ _ _ _ _ _) (.inl rfl)).grown (grown_setCell _ _ _ _) (.inr rfl)) (.inl ⟨h1, h2⟩) (.inl ⟨h3, h4⟩)
    ((Below.heap_setCell _ _ _ _ hne).trans (heap_setCell_same (heap_setCell_same (heap_setCell_same (heap_setCell_same hP 0 _) 1 _) 2 _) 3 _))
    (heap_setCell_same (((grown_set4 wz P _ _ _ _).block Q (lt_of_heap hQ) (fun e => hne (Option.some.inj e).symm)).trans hQ) 0 _)
end
theorem DM.fin {w0 w W w3 : World} {b m : Nat} {V : AV} {opc : Array Value} {P Q : Nat} {R : PRes} {a : Option Addr} {n c : Nat} {es : List EntT} {k d : Nat} {nu : Int} {o' : Option PortT} (D : DM w0 w W b m V opc P Q R a n c es) (hk : ∀ j, ((j = m ∨ blkE a es j ∨ j = P ∨ j = Q ∨ j = w.heap.size) ∧ j < W.heap.size) → w3.heap[j]? = W.heap[j]?)
    (s3 : QM w0 w3 b 0 ((⟨0, V⟩ : NV).step nu d o').V (fun j => (j = m ∨ blkE a es j ∨ j = P ∨ j = Q ∨ j = w.heap.size) ∧ j < W.heap.size)) (hrel : RelM ((⟨0, V⟩ : NV).step nu d o').V (es.map keyE) (k + 1)) (hc : V.calls.length ≤ k) (ro : Obj) :
    ML w0 ((w3.alloc ro).setCell ⟨m, 0, none⟩ (.slice a n c)) b m ((⟨0, V⟩ : NV).step nu d o').V a n c es (k + 1) := by
  obtain ⟨x, hx⟩ := D.mo
  have hm := lt_of_heap hx
  have hx3 := (hk m ⟨.inl rfl, hm⟩).trans hx
  have hx4 := (Below.heap_alloc w3 ro _ (lt_of_heap hx3)).trans hx3
  have hlt : ∀ j, blkE a es j → j < w3.heap.size := fun j hj => by
    have h1 := hk j ⟨.inr (.inl hj), D.lt j hj⟩
    rw [Array.getElem?_eq_getElem (D.lt j hj)] at h1
    exact lt_of_get h1
  have q4 : QM w0 (w3.alloc ro) b 0 ((⟨0, V⟩ : NV).step nu d o').V (fun j => (j = m ∨ blkE a es j) ∧ j < (w3.alloc ro).heap.size) := s3.fresh ((Below.refl _ _).alloc (Nat.le_refl _) _) (fun j hj => by
    rcases hj.1 with rfl | h
    · exact .inl ⟨.inl rfl, hm⟩
    · exact .inl ⟨.inr (.inl h), D.lt j h⟩)
  have q5 : QM w0 ((w3.alloc ro).setCell ⟨m, 0, none⟩ (.slice a n c)) b 0 ((⟨0, V⟩ : NV).step nu d o').V (fun j => (j = m ∨ blkE a es j) ∧ j < ((w3.alloc ro).setCell ⟨m, 0, none⟩ (.slice a n c)).heap.size) := q4.guarded (Kept.of_grown (grown_setCell _ _ _ _) _ (fun j e => by cases e; exact ⟨.inl rfl, lt_of_heap hx4⟩)) (fun j hj => .inl ⟨hj.1, by have := hj.2; simpa using this⟩)
  refine ⟨q5, heap_setCell_same hx4 0 _, D.ent.kept (fun j hj hl => ?_), D.ne, fun j hj => ?_, hrel, ?_⟩
  · have h3 := hk j ⟨.inr (.inl hj), hl⟩
    exact (Below.heap_setCell _ _ _ _ (D.ne j hj)).trans ((Below.heap_alloc w3 ro _ (hlt j hj)).trans h3)
  · have := hlt j hj
    simp
    omega
  · obtain ⟨-, ds, h1, h2, -⟩ := step_touch (⟨0, V⟩ : NV) nu d o'
    rw [h1, List.length_append]
    have h3 : (⟨0, V⟩ : NV).V.calls.length ≤ k := hc
    omega
/-- What Do leaves. -/
def DoPost (w0 : World) (b m k : Nat) (r : Ending) (w' : World) : Prop := r = .returned (.bool true) ∧ ∃ V a n c es, ML w0 w' b m V a n c es k

set_option maxRecDepth 100000 in
set_option maxHeartbeats 3200000 in
theorem do_any37 {w0 w : World} {b m : Nat} {V : AV} {a : Option Addr} {n c : Nat} {es : List EntT} {k : Nat} (I : ML w0 w b m V a n c es k) (hk : k < 1000) (kd wh us : Nat) (nu ep : Int) (sr by_ : ByteArray) (hwh : wh ≤ 255) (hsr : sr.size ≤ 9223372036854775807) (hby : by_.size ≤ 9223372036854775807) :
    Calls Tryz.prog 9 #[.pointer (some ⟨m, 0, none⟩), .pointer (some ⟨b, 0, none⟩), .agg #[.int .u8 kd, .int .u8 wh, .int .u8 us, .int .i64 nu, .int .i64 ep, .string sr, .string by_]] w (DoPost w0 b m (k + 1)) := by
  obtain ⟨o', rsr, rby, rt, re, d, hR⟩ : ∃ o' rsr rby rt re d, pCallW kd wh us nu ep sr by_ (lookM (es.map keyE) nu) = (o', ⟨⟨rsr, rby⟩, rt, re⟩, d) := ⟨_, _, _, _, _, _, rfl⟩
  have HX : Hid (∀ W, Below w.heap.size w W → Calls Tryz.prog 21 #[.agg #[.slice a n c], .agg #[.int .u8 kd, .int .u8 wh, .int .u8 us, .int .i64 nu, .int .i64 ep, .string sr, .string by_]] W (fun r W' => ∃ a' n' c' es', r = .returned (.tuple #[.agg #[.string rsr, .string rby, .string rt, .int .i64 re], .agg #[.slice a' n' c']]) ∧ Below W.heap.size W W' ∧ (EntR W' a' n' es' ∧ ∀ k, blkE a' es' k → blkE a es k ∨ (W.heap.size ≤ k ∧ k < W'.heap.size)) ∧ es'.map keyE = stepM (es.map keyE) nu d o')) := fun W hW => by
    have h := expect_any37 a n c es kd wh us nu ep sr by_ W (I.ent.later hW) (by have := I.len; omega) hsr hby hwh I.rel.nodup (fun e he => by
      obtain ⟨h1, h2, h3⟩ := I.rel.ok (keyE e) (List.mem_map.2 ⟨e, he, rfl⟩)
      have h3 : e.p.lost ≤ (k : Int) := h3
      exact ⟨h1, h2, by omega⟩)
    rw [hR] at h
    exact h
  have HI := Lib.hid I
  have HRr := Lib.hid hR
  clear I hR
  have Bw : Hid (∀ o, Below w.heap.size w (w.alloc o)) := fun o => (Below.refl _ _).alloc (Nat.le_refl _) _
  have Ow : Hid (∀ o, (w.alloc o).heap[w.heap.size]? = some o) := fun o => heap_alloc_new w o
  go_enter Tryz.func9, Tryz.ntmps9
  go_upto_region 1 with fail
  have B1 := Lib.hid (Bw.out (.cells #[.int .u8 kd, .int .u8 wh, .int .u8 us, .int .i64 nu, .int .i64 ep, .string sr, .string by_] 35))
  have O1 := Lib.hid (Ow.out (.cells #[.int .u8 kd, .int .u8 wh, .int .u8 us, .int .i64 nu, .int .i64 ep, .string sr, .string by_] 35))
  clear Bw Ow
  generalize w.alloc (.cells #[.int .u8 kd, .int .u8 wh, .int .u8 us, .int .i64 nu, .int .i64 ep, .string sr, .string by_] 35) = w1 at *
  have m0 : w1.cell? ⟨m, 0, none⟩ = some (.slice a n c) := cell_of_heap ((B1.out.block m (lt_of_heap HI.out.mo)).trans HI.out.mo) 0
  have o0 := cell_of_heap O1.out 0
  have o1 := cell_of_heap O1.out 1
  have o2 := cell_of_heap O1.out 2
  have o3 := cell_of_heap O1.out 3
  have o4 := cell_of_heap O1.out 4
  have o5 := cell_of_heap O1.out 5
  have o6 := cell_of_heap O1.out 6
  have Bc0 : Hid (Below w.heap.size w w1.drew) := B1.out.drew
  have Bc1 : Hid (∀ o, Below w.heap.size w (w1.alloc o).drew) := fun o => (B1.out.alloc B1.out.size _).drew
  have Bc2 : Hid (∀ o o', Below w.heap.size w ((w1.alloc o).alloc o').drew) := fun o o' => ((B1.out.alloc B1.out.size _).alloc (by have := B1.out.size; simp; omega) _).drew
  go_cut [7, 8] (fun v7 v8 wx => ∃ P Q a' n' c' es', v7 = .pointer (some ⟨P, 0, none⟩) ∧ v8 = .pointer (some ⟨Q, 0, none⟩) ∧ Hid (DM w0 w wx b m V #[.int .u8 kd, .int .u8 wh, .int .u8 us, .int .i64 nu, .int .i64 ep, .string sr, .string by_] P Q ⟨⟨rsr, rby⟩, rt, re⟩ a' n' c' es' ∧ es'.map keyE = stepM (es.map keyE) nu d o'))
  case first =>
    have N0 : Hid (∀ o, (w1.alloc o).drew.heap[w1.heap.size]? = some o) := fun o => heap_alloc_new w1 o
    have N1 : Hid (∀ o o', ((w1.alloc o).alloc o').drew.heap[w1.heap.size]? = some o) := fun o o' => (Below.heap_alloc _ _ _ (by simp)).trans (heap_alloc_new w1 o)
    have N2 : Hid (∀ o o', ((w1.alloc o).alloc o').drew.heap[w1.heap.size + 1]? = some o') := fun o o' => by
      have h := heap_alloc_new (w1.alloc o) o'
      rwa [World.size_alloc] at h
    have P1 : Hid (∀ o, (w1.alloc o).drew.heap[w.heap.size]? = some (.cells #[.int .u8 kd, .int .u8 wh, .int .u8 us, .int .i64 nu, .int .i64 ep, .string sr, .string by_] 35 (0, 0))) := fun o => (Below.heap_alloc w1 o _ (lt_of_heap O1.out)).trans O1.out
    have P2 : Hid (∀ o o', ((w1.alloc o).alloc o').drew.heap[w.heap.size]? = some (.cells #[.int .u8 kd, .int .u8 wh, .int .u8 us, .int .i64 nu, .int .i64 ep, .string sr, .string by_] 35 (0, 0))) := fun o o' => (Below.heap_alloc _ o' _ (by have := lt_of_heap O1.out; simp; omega)).trans ((Below.heap_alloc w1 o _ (lt_of_heap O1.out)).trans O1.out)
    have O1d : Hid (w1.drew.heap[w.heap.size]? = some (.cells #[.int .u8 kd, .int .u8 wh, .int .u8 us, .int .i64 nu, .int .i64 ep, .string sr, .string by_] 35 (0, 0))) := O1.out
    have hlm : m < w.heap.size := lt_of_heap HI.out.mo
    have hlo : w.heap.size < w1.heap.size := lt_of_heap O1.out
    go_region_held3 (fun W => W.cell? ⟨m, 0, none⟩ = some (.slice a n c) ∧ W.cell? ⟨w.heap.size, 0, none⟩ = some (.int .u8 kd) ∧ W.cell? ⟨w.heap.size, 1, none⟩ = some (.int .u8 wh) ∧ W.cell? ⟨w.heap.size, 2, none⟩ = some (.int .u8 us) ∧ W.cell? ⟨w.heap.size, 3, none⟩ = some (.int .i64 nu) ∧ W.cell? ⟨w.heap.size, 4, none⟩ = some (.int .i64 ep) ∧ W.cell? ⟨w.heap.size, 5, none⟩ = some (.string sr) ∧ W.cell? ⟨w.heap.size, 6, none⟩ = some (.string by_)) (first | with_reducible exact S1.out | with_reducible exact ⟨m0, o0, o1, o2, o3, o4, o5, o6⟩ | with_reducible exact ⟨cell_al (m0) _, cell_al (o0) _, cell_al (o1) _, cell_al (o2) _, cell_al (o3) _, cell_al (o4) _, cell_al (o5) _, cell_al (o6) _⟩ | with_reducible exact ⟨cell_al (cell_al (m0) _) _, cell_al (cell_al (o0) _) _, cell_al (cell_al (o1) _) _, cell_al (cell_al (o2) _) _, cell_al (cell_al (o3) _) _, cell_al (cell_al (o4) _) _, cell_al (cell_al (o5) _) _, cell_al (cell_al (o6) _) _⟩ | with_reducible exact ⟨cell_al (S1.out.1) _, cell_al (S1.out.2.1) _, cell_al (S1.out.2.2.1) _, cell_al (S1.out.2.2.2.1) _, cell_al (S1.out.2.2.2.2.1) _, cell_al (S1.out.2.2.2.2.2.1) _, cell_al (S1.out.2.2.2.2.2.2.1) _, cell_al (S1.out.2.2.2.2.2.2.2) _⟩ | with_reducible exact ⟨cell_al (cell_al (S1.out.1) _) _, cell_al (cell_al (S1.out.2.1) _) _, cell_al (cell_al (S1.out.2.2.1) _) _, cell_al (cell_al (S1.out.2.2.2.1) _) _, cell_al (cell_al (S1.out.2.2.2.2.1) _) _, cell_al (cell_al (S1.out.2.2.2.2.2.1) _) _, cell_al (cell_al (S1.out.2.2.2.2.2.2.1) _) _, cell_al (cell_al (S1.out.2.2.2.2.2.2.2) _) _⟩ | with_reducible exact ⟨cell_set4 (S1.out.1) (by omega) _ _ _ _, cell_set4 (S1.out.2.1) (by omega) _ _ _ _, cell_set4 (S1.out.2.2.1) (by omega) _ _ _ _, cell_set4 (S1.out.2.2.2.1) (by omega) _ _ _ _, cell_set4 (S1.out.2.2.2.2.1) (by omega) _ _ _ _, cell_set4 (S1.out.2.2.2.2.2.1) (by omega) _ _ _ _, cell_set4 (S1.out.2.2.2.2.2.2.1) (by omega) _ _ _ _, cell_set4 (S1.out.2.2.2.2.2.2.2) (by omega) _ _ _ _⟩ | with_reducible exact ⟨cell_al (cell_set4 (S1.out.1) (by omega) _ _ _ _) _, cell_al (cell_set4 (S1.out.2.1) (by omega) _ _ _ _) _, cell_al (cell_set4 (S1.out.2.2.1) (by omega) _ _ _ _) _, cell_al (cell_set4 (S1.out.2.2.2.1) (by omega) _ _ _ _) _, cell_al (cell_set4 (S1.out.2.2.2.2.1) (by omega) _ _ _ _) _, cell_al (cell_set4 (S1.out.2.2.2.2.2.1) (by omega) _ _ _ _) _, cell_al (cell_set4 (S1.out.2.2.2.2.2.2.1) (by omega) _ _ _ _) _, cell_al (cell_set4 (S1.out.2.2.2.2.2.2.2) (by omega) _ _ _ _) _⟩ | with_reducible exact ⟨cell_al (cell_al (cell_set4 (S1.out.1) (by omega) _ _ _ _) _) _, cell_al (cell_al (cell_set4 (S1.out.2.1) (by omega) _ _ _ _) _) _, cell_al (cell_al (cell_set4 (S1.out.2.2.1) (by omega) _ _ _ _) _) _, cell_al (cell_al (cell_set4 (S1.out.2.2.2.1) (by omega) _ _ _ _) _) _, cell_al (cell_al (cell_set4 (S1.out.2.2.2.2.1) (by omega) _ _ _ _) _) _, cell_al (cell_al (cell_set4 (S1.out.2.2.2.2.2.1) (by omega) _ _ _ _) _) _, cell_al (cell_al (cell_set4 (S1.out.2.2.2.2.2.2.1) (by omega) _ _ _ _) _) _, cell_al (cell_al (cell_set4 (S1.out.2.2.2.2.2.2.2) (by omega) _ _ _ _) _) _⟩ | with_reducible exact ⟨cell_set1 (S1.out.1) (by omega) _, cell_set1 (S1.out.2.1) (by omega) _, cell_set1 (S1.out.2.2.1) (by omega) _, cell_set1 (S1.out.2.2.2.1) (by omega) _, cell_set1 (S1.out.2.2.2.2.1) (by omega) _, cell_set1 (S1.out.2.2.2.2.2.1) (by omega) _, cell_set1 (S1.out.2.2.2.2.2.2.1) (by omega) _, cell_set1 (S1.out.2.2.2.2.2.2.2) (by omega) _⟩ | with_reducible exact ⟨cell_al (cell_set1 (S1.out.1) (by omega) _) _, cell_al (cell_set1 (S1.out.2.1) (by omega) _) _, cell_al (cell_set1 (S1.out.2.2.1) (by omega) _) _, cell_al (cell_set1 (S1.out.2.2.2.1) (by omega) _) _, cell_al (cell_set1 (S1.out.2.2.2.2.1) (by omega) _) _, cell_al (cell_set1 (S1.out.2.2.2.2.2.1) (by omega) _) _, cell_al (cell_set1 (S1.out.2.2.2.2.2.2.1) (by omega) _) _, cell_al (cell_set1 (S1.out.2.2.2.2.2.2.2) (by omega) _) _⟩ | with_reducible exact ⟨cell_al (cell_al (cell_set1 (S1.out.1) (by omega) _) _) _, cell_al (cell_al (cell_set1 (S1.out.2.1) (by omega) _) _) _, cell_al (cell_al (cell_set1 (S1.out.2.2.1) (by omega) _) _) _, cell_al (cell_al (cell_set1 (S1.out.2.2.2.1) (by omega) _) _) _, cell_al (cell_al (cell_set1 (S1.out.2.2.2.2.1) (by omega) _) _) _, cell_al (cell_al (cell_set1 (S1.out.2.2.2.2.2.1) (by omega) _) _) _, cell_al (cell_al (cell_set1 (S1.out.2.2.2.2.2.2.1) (by omega) _) _) _, cell_al (cell_al (cell_set1 (S1.out.2.2.2.2.2.2.2) (by omega) _) _) _⟩ | with_reducible exact ⟨cell_set1 (cell_set4 (S1.out.1) (by omega) _ _ _ _) (by omega) _, cell_set1 (cell_set4 (S1.out.2.1) (by omega) _ _ _ _) (by omega) _, cell_set1 (cell_set4 (S1.out.2.2.1) (by omega) _ _ _ _) (by omega) _, cell_set1 (cell_set4 (S1.out.2.2.2.1) (by omega) _ _ _ _) (by omega) _, cell_set1 (cell_set4 (S1.out.2.2.2.2.1) (by omega) _ _ _ _) (by omega) _, cell_set1 (cell_set4 (S1.out.2.2.2.2.2.1) (by omega) _ _ _ _) (by omega) _, cell_set1 (cell_set4 (S1.out.2.2.2.2.2.2.1) (by omega) _ _ _ _) (by omega) _, cell_set1 (cell_set4 (S1.out.2.2.2.2.2.2.2) (by omega) _ _ _ _) (by omega) _⟩ | with_reducible exact ⟨cell_al (cell_set1 (cell_set4 (S1.out.1) (by omega) _ _ _ _) (by omega) _) _, cell_al (cell_set1 (cell_set4 (S1.out.2.1) (by omega) _ _ _ _) (by omega) _) _, cell_al (cell_set1 (cell_set4 (S1.out.2.2.1) (by omega) _ _ _ _) (by omega) _) _, cell_al (cell_set1 (cell_set4 (S1.out.2.2.2.1) (by omega) _ _ _ _) (by omega) _) _, cell_al (cell_set1 (cell_set4 (S1.out.2.2.2.2.1) (by omega) _ _ _ _) (by omega) _) _, cell_al (cell_set1 (cell_set4 (S1.out.2.2.2.2.2.1) (by omega) _ _ _ _) (by omega) _) _, cell_al (cell_set1 (cell_set4 (S1.out.2.2.2.2.2.2.1) (by omega) _ _ _ _) (by omega) _) _, cell_al (cell_set1 (cell_set4 (S1.out.2.2.2.2.2.2.2) (by omega) _ _ _ _) (by omega) _) _⟩ | with_reducible exact ⟨cell_al (cell_al (cell_set1 (cell_set4 (S1.out.1) (by omega) _ _ _ _) (by omega) _) _) _, cell_al (cell_al (cell_set1 (cell_set4 (S1.out.2.1) (by omega) _ _ _ _) (by omega) _) _) _, cell_al (cell_al (cell_set1 (cell_set4 (S1.out.2.2.1) (by omega) _ _ _ _) (by omega) _) _) _, cell_al (cell_al (cell_set1 (cell_set4 (S1.out.2.2.2.1) (by omega) _ _ _ _) (by omega) _) _) _, cell_al (cell_al (cell_set1 (cell_set4 (S1.out.2.2.2.2.1) (by omega) _ _ _ _) (by omega) _) _) _, cell_al (cell_al (cell_set1 (cell_set4 (S1.out.2.2.2.2.2.1) (by omega) _ _ _ _) (by omega) _) _) _, cell_al (cell_al (cell_set1 (cell_set4 (S1.out.2.2.2.2.2.2.1) (by omega) _ _ _ _) (by omega) _) _) _, cell_al (cell_al (cell_set1 (cell_set4 (S1.out.2.2.2.2.2.2.2) (by omega) _ _ _ _) (by omega) _) _) _⟩ | with_reducible exact ⟨cell_set4 (cell_set1 (S1.out.1) (by omega) _) (by omega) _ _ _ _, cell_set4 (cell_set1 (S1.out.2.1) (by omega) _) (by omega) _ _ _ _, cell_set4 (cell_set1 (S1.out.2.2.1) (by omega) _) (by omega) _ _ _ _, cell_set4 (cell_set1 (S1.out.2.2.2.1) (by omega) _) (by omega) _ _ _ _, cell_set4 (cell_set1 (S1.out.2.2.2.2.1) (by omega) _) (by omega) _ _ _ _, cell_set4 (cell_set1 (S1.out.2.2.2.2.2.1) (by omega) _) (by omega) _ _ _ _, cell_set4 (cell_set1 (S1.out.2.2.2.2.2.2.1) (by omega) _) (by omega) _ _ _ _, cell_set4 (cell_set1 (S1.out.2.2.2.2.2.2.2) (by omega) _) (by omega) _ _ _ _⟩ | with_reducible exact ⟨cell_al (cell_set4 (cell_set1 (S1.out.1) (by omega) _) (by omega) _ _ _ _) _, cell_al (cell_set4 (cell_set1 (S1.out.2.1) (by omega) _) (by omega) _ _ _ _) _, cell_al (cell_set4 (cell_set1 (S1.out.2.2.1) (by omega) _) (by omega) _ _ _ _) _, cell_al (cell_set4 (cell_set1 (S1.out.2.2.2.1) (by omega) _) (by omega) _ _ _ _) _, cell_al (cell_set4 (cell_set1 (S1.out.2.2.2.2.1) (by omega) _) (by omega) _ _ _ _) _, cell_al (cell_set4 (cell_set1 (S1.out.2.2.2.2.2.1) (by omega) _) (by omega) _ _ _ _) _, cell_al (cell_set4 (cell_set1 (S1.out.2.2.2.2.2.2.1) (by omega) _) (by omega) _ _ _ _) _, cell_al (cell_set4 (cell_set1 (S1.out.2.2.2.2.2.2.2) (by omega) _) (by omega) _ _ _ _) _⟩ | with_reducible exact ⟨cell_al (cell_al (cell_set4 (cell_set1 (S1.out.1) (by omega) _) (by omega) _ _ _ _) _) _, cell_al (cell_al (cell_set4 (cell_set1 (S1.out.2.1) (by omega) _) (by omega) _ _ _ _) _) _, cell_al (cell_al (cell_set4 (cell_set1 (S1.out.2.2.1) (by omega) _) (by omega) _ _ _ _) _) _, cell_al (cell_al (cell_set4 (cell_set1 (S1.out.2.2.2.1) (by omega) _) (by omega) _ _ _ _) _) _, cell_al (cell_al (cell_set4 (cell_set1 (S1.out.2.2.2.2.1) (by omega) _) (by omega) _ _ _ _) _) _, cell_al (cell_al (cell_set4 (cell_set1 (S1.out.2.2.2.2.2.1) (by omega) _) (by omega) _ _ _ _) _) _, cell_al (cell_al (cell_set4 (cell_set1 (S1.out.2.2.2.2.2.2.1) (by omega) _) (by omega) _ _ _ _) _) _, cell_al (cell_al (cell_set4 (cell_set1 (S1.out.2.2.2.2.2.2.2) (by omega) _) (by omega) _ _ _ _) _) _⟩ | go_keep)
      (first
        | (go_at_call 21; refine (HX.out _ (Bc2.out _ _)).mono ?_; rintro r wz ⟨a', n', c', es', rfl, hbz, ⟨hez, hkz⟩, hmz⟩; have hmz2 : wz.heap[m]? = some (.cells #[.slice a n c] 30 (0, 0)) := (hbz.block _ (Nat.lt_of_lt_of_le hlm (Bc2.out _ _).size)).trans (((Bc2.out _ _).block _ hlm).trans HI.out.mo); have hoz : wz.heap[w.heap.size]? = some (.cells #[.int .u8 kd, .int .u8 wh, .int .u8 us, .int .i64 nu, .int .i64 ep, .string sr, .string by_] 35 (0, 0)) := (hbz.block _ (lt_of_heap (P2.out _ _))).trans (P2.out _ _); have S1 : Hid (wz.cell? ⟨m, 0, none⟩ = some (.slice a n c) ∧ wz.cell? ⟨w.heap.size, 0, none⟩ = some (.int .u8 kd) ∧ wz.cell? ⟨w.heap.size, 1, none⟩ = some (.int .u8 wh) ∧ wz.cell? ⟨w.heap.size, 2, none⟩ = some (.int .u8 us) ∧ wz.cell? ⟨w.heap.size, 3, none⟩ = some (.int .i64 nu) ∧ wz.cell? ⟨w.heap.size, 4, none⟩ = some (.int .i64 ep) ∧ wz.cell? ⟨w.heap.size, 5, none⟩ = some (.string sr) ∧ wz.cell? ⟨w.heap.size, 6, none⟩ = some (.string by_)) := ⟨cell_of_heap hmz2 0, cell_of_heap hoz 0, cell_of_heap hoz 1, cell_of_heap hoz 2, cell_of_heap hoz 3, cell_of_heap hoz 4, cell_of_heap hoz 5, cell_of_heap hoz 6⟩; have hP : wz.heap[w1.heap.size]? = some (.cells #[.string ⟨#[]⟩, .string ⟨#[]⟩, .string ⟨#[]⟩, .int .i64 0] 42 (0, 0)) := (hbz.block _ (lt_of_heap (N1.out (.cells #[.string ⟨#[]⟩, .string ⟨#[]⟩, .string ⟨#[]⟩, .int .i64 0] 42 (0, 0)) _))).trans (N1.out (.cells #[.string ⟨#[]⟩, .string ⟨#[]⟩, .string ⟨#[]⟩, .int .i64 0] 42 (0, 0)) _); have p0 := cell_of_heap hP 0; have e0 := frozen_of_heap hP 0; have np0 := World.new_ne wz _ p0; have p1 := cell_of_heap hP 1; have e1 := frozen_of_heap hP 1; have np1 := World.new_ne wz _ p1; have p2 := cell_of_heap hP 2; have e2 := frozen_of_heap hP 2; have np2 := World.new_ne wz _ p2; have p3 := cell_of_heap hP 3; have e3 := frozen_of_heap hP 3; have np3 := World.new_ne wz _ p3; have hPl := lt_of_heap hP; have hQ : wz.heap[w1.heap.size + 1]? = some (.cells #[.slice none 0 0] 30 (0, 0)) := (hbz.block _ (lt_of_heap (N2.out _ (.cells #[.slice none 0 0] 30 (0, 0))))).trans (N2.out _ (.cells #[.slice none 0 0] 30 (0, 0))); have q0 := cell_of_heap hQ 0; have k0 := frozen_of_heap hQ 0; have nq0 := World.new_ne wz _ q0; have hQl := lt_of_heap hQ; have hlz : w1.heap.size ≤ wz.heap.size := (by have := hbz.size; simp at this; omega); clear hmz2 hoz)
        | (go_at_call 21; refine (HX.out _ (Bc2.out _ _)).mono ?_; rintro r wz ⟨a', n', c', es', rfl, hbz, ⟨hez, hkz⟩, hmz⟩; have hmz2 : wz.heap[m]? = some (.cells #[.slice a n c] 30 (0, 0)) := (hbz.block _ (Nat.lt_of_lt_of_le hlm (Bc2.out _ _).size)).trans (((Bc2.out _ _).block _ hlm).trans HI.out.mo); have hoz : wz.heap[w.heap.size]? = some (.cells #[.int .u8 kd, .int .u8 wh, .int .u8 us, .int .i64 nu, .int .i64 ep, .string sr, .string by_] 35 (0, 0)) := (hbz.block _ (lt_of_heap (P2.out _ _))).trans (P2.out _ _); have S1 : Hid (wz.cell? ⟨m, 0, none⟩ = some (.slice a n c) ∧ wz.cell? ⟨w.heap.size, 0, none⟩ = some (.int .u8 kd) ∧ wz.cell? ⟨w.heap.size, 1, none⟩ = some (.int .u8 wh) ∧ wz.cell? ⟨w.heap.size, 2, none⟩ = some (.int .u8 us) ∧ wz.cell? ⟨w.heap.size, 3, none⟩ = some (.int .i64 nu) ∧ wz.cell? ⟨w.heap.size, 4, none⟩ = some (.int .i64 ep) ∧ wz.cell? ⟨w.heap.size, 5, none⟩ = some (.string sr) ∧ wz.cell? ⟨w.heap.size, 6, none⟩ = some (.string by_)) := ⟨cell_of_heap hmz2 0, cell_of_heap hoz 0, cell_of_heap hoz 1, cell_of_heap hoz 2, cell_of_heap hoz 3, cell_of_heap hoz 4, cell_of_heap hoz 5, cell_of_heap hoz 6⟩; have hQ : wz.heap[w1.heap.size]? = some (.cells #[.slice none 0 0] 30 (0, 0)) := (hbz.block _ (lt_of_heap (N1.out (.cells #[.slice none 0 0] 30 (0, 0)) _))).trans (N1.out (.cells #[.slice none 0 0] 30 (0, 0)) _); have q0 := cell_of_heap hQ 0; have k0 := frozen_of_heap hQ 0; have nq0 := World.new_ne wz _ q0; have hQl := lt_of_heap hQ; have hP : wz.heap[w1.heap.size + 1]? = some (.cells #[.string ⟨#[]⟩, .string ⟨#[]⟩, .string ⟨#[]⟩, .int .i64 0] 42 (0, 0)) := (hbz.block _ (lt_of_heap (N2.out _ (.cells #[.string ⟨#[]⟩, .string ⟨#[]⟩, .string ⟨#[]⟩, .int .i64 0] 42 (0, 0))))).trans (N2.out _ (.cells #[.string ⟨#[]⟩, .string ⟨#[]⟩, .string ⟨#[]⟩, .int .i64 0] 42 (0, 0))); have p0 := cell_of_heap hP 0; have e0 := frozen_of_heap hP 0; have np0 := World.new_ne wz _ p0; have p1 := cell_of_heap hP 1; have e1 := frozen_of_heap hP 1; have np1 := World.new_ne wz _ p1; have p2 := cell_of_heap hP 2; have e2 := frozen_of_heap hP 2; have np2 := World.new_ne wz _ p2; have p3 := cell_of_heap hP 3; have e3 := frozen_of_heap hP 3; have np3 := World.new_ne wz _ p3; have hPl := lt_of_heap hP; have hlz : w1.heap.size ≤ wz.heap.size := (by have := hbz.size; simp at this; omega); clear hmz2 hoz)
        | (go_at_call 21; refine (HX.out _ (Bc1.out _)).mono ?_; rintro r wz ⟨a', n', c', es', rfl, hbz, ⟨hez, hkz⟩, hmz⟩; have hmz2 : wz.heap[m]? = some (.cells #[.slice a n c] 30 (0, 0)) := (hbz.block _ (Nat.lt_of_lt_of_le hlm (Bc1.out _).size)).trans (((Bc1.out _).block _ hlm).trans HI.out.mo); have hoz : wz.heap[w.heap.size]? = some (.cells #[.int .u8 kd, .int .u8 wh, .int .u8 us, .int .i64 nu, .int .i64 ep, .string sr, .string by_] 35 (0, 0)) := (hbz.block _ (lt_of_heap (P1.out _))).trans (P1.out _); have S1 : Hid (wz.cell? ⟨m, 0, none⟩ = some (.slice a n c) ∧ wz.cell? ⟨w.heap.size, 0, none⟩ = some (.int .u8 kd) ∧ wz.cell? ⟨w.heap.size, 1, none⟩ = some (.int .u8 wh) ∧ wz.cell? ⟨w.heap.size, 2, none⟩ = some (.int .u8 us) ∧ wz.cell? ⟨w.heap.size, 3, none⟩ = some (.int .i64 nu) ∧ wz.cell? ⟨w.heap.size, 4, none⟩ = some (.int .i64 ep) ∧ wz.cell? ⟨w.heap.size, 5, none⟩ = some (.string sr) ∧ wz.cell? ⟨w.heap.size, 6, none⟩ = some (.string by_)) := ⟨cell_of_heap hmz2 0, cell_of_heap hoz 0, cell_of_heap hoz 1, cell_of_heap hoz 2, cell_of_heap hoz 3, cell_of_heap hoz 4, cell_of_heap hoz 5, cell_of_heap hoz 6⟩; have hP : wz.heap[w1.heap.size]? = some (.cells #[.string ⟨#[]⟩, .string ⟨#[]⟩, .string ⟨#[]⟩, .int .i64 0] 42 (0, 0)) := (hbz.block _ (lt_of_heap (N0.out (.cells #[.string ⟨#[]⟩, .string ⟨#[]⟩, .string ⟨#[]⟩, .int .i64 0] 42 (0, 0))))).trans (N0.out (.cells #[.string ⟨#[]⟩, .string ⟨#[]⟩, .string ⟨#[]⟩, .int .i64 0] 42 (0, 0))); have p0 := cell_of_heap hP 0; have e0 := frozen_of_heap hP 0; have np0 := World.new_ne wz _ p0; have p1 := cell_of_heap hP 1; have e1 := frozen_of_heap hP 1; have np1 := World.new_ne wz _ p1; have p2 := cell_of_heap hP 2; have e2 := frozen_of_heap hP 2; have np2 := World.new_ne wz _ p2; have p3 := cell_of_heap hP 3; have e3 := frozen_of_heap hP 3; have np3 := World.new_ne wz _ p3; have hPl := lt_of_heap hP; have hlz : w1.heap.size ≤ wz.heap.size := (by have := hbz.size; simp at this; omega); clear hmz2 hoz)
        | (go_at_call 21; refine (HX.out _ (Bc1.out _)).mono ?_; rintro r wz ⟨a', n', c', es', rfl, hbz, ⟨hez, hkz⟩, hmz⟩; have hmz2 : wz.heap[m]? = some (.cells #[.slice a n c] 30 (0, 0)) := (hbz.block _ (Nat.lt_of_lt_of_le hlm (Bc1.out _).size)).trans (((Bc1.out _).block _ hlm).trans HI.out.mo); have hoz : wz.heap[w.heap.size]? = some (.cells #[.int .u8 kd, .int .u8 wh, .int .u8 us, .int .i64 nu, .int .i64 ep, .string sr, .string by_] 35 (0, 0)) := (hbz.block _ (lt_of_heap (P1.out _))).trans (P1.out _); have S1 : Hid (wz.cell? ⟨m, 0, none⟩ = some (.slice a n c) ∧ wz.cell? ⟨w.heap.size, 0, none⟩ = some (.int .u8 kd) ∧ wz.cell? ⟨w.heap.size, 1, none⟩ = some (.int .u8 wh) ∧ wz.cell? ⟨w.heap.size, 2, none⟩ = some (.int .u8 us) ∧ wz.cell? ⟨w.heap.size, 3, none⟩ = some (.int .i64 nu) ∧ wz.cell? ⟨w.heap.size, 4, none⟩ = some (.int .i64 ep) ∧ wz.cell? ⟨w.heap.size, 5, none⟩ = some (.string sr) ∧ wz.cell? ⟨w.heap.size, 6, none⟩ = some (.string by_)) := ⟨cell_of_heap hmz2 0, cell_of_heap hoz 0, cell_of_heap hoz 1, cell_of_heap hoz 2, cell_of_heap hoz 3, cell_of_heap hoz 4, cell_of_heap hoz 5, cell_of_heap hoz 6⟩; have hQ : wz.heap[w1.heap.size]? = some (.cells #[.slice none 0 0] 30 (0, 0)) := (hbz.block _ (lt_of_heap (N0.out (.cells #[.slice none 0 0] 30 (0, 0))))).trans (N0.out (.cells #[.slice none 0 0] 30 (0, 0))); have q0 := cell_of_heap hQ 0; have k0 := frozen_of_heap hQ 0; have nq0 := World.new_ne wz _ q0; have hQl := lt_of_heap hQ; have hlz : w1.heap.size ≤ wz.heap.size := (by have := hbz.size; simp at this; omega); clear hmz2 hoz)
        | (go_at_call 21; refine (HX.out _ Bc0.out).mono ?_; rintro r wz ⟨a', n', c', es', rfl, hbz, ⟨hez, hkz⟩, hmz⟩; have hmz2 : wz.heap[m]? = some (.cells #[.slice a n c] 30 (0, 0)) := (hbz.block _ (Nat.lt_of_lt_of_le hlm Bc0.out.size)).trans ((Bc0.out.block _ hlm).trans HI.out.mo); have hoz : wz.heap[w.heap.size]? = some (.cells #[.int .u8 kd, .int .u8 wh, .int .u8 us, .int .i64 nu, .int .i64 ep, .string sr, .string by_] 35 (0, 0)) := (hbz.block _ (lt_of_heap O1.out)).trans O1.out; have S1 : Hid (wz.cell? ⟨m, 0, none⟩ = some (.slice a n c) ∧ wz.cell? ⟨w.heap.size, 0, none⟩ = some (.int .u8 kd) ∧ wz.cell? ⟨w.heap.size, 1, none⟩ = some (.int .u8 wh) ∧ wz.cell? ⟨w.heap.size, 2, none⟩ = some (.int .u8 us) ∧ wz.cell? ⟨w.heap.size, 3, none⟩ = some (.int .i64 nu) ∧ wz.cell? ⟨w.heap.size, 4, none⟩ = some (.int .i64 ep) ∧ wz.cell? ⟨w.heap.size, 5, none⟩ = some (.string sr) ∧ wz.cell? ⟨w.heap.size, 6, none⟩ = some (.string by_)) := ⟨cell_of_heap hmz2 0, cell_of_heap hoz 0, cell_of_heap hoz 1, cell_of_heap hoz 2, cell_of_heap hoz 3, cell_of_heap hoz 4, cell_of_heap hoz 5, cell_of_heap hoz 6⟩; have hlz : w1.heap.size ≤ wz.heap.size := (by have := hbz.size; simp at this; omega); clear hmz2 hoz)
        | fail)
    all_goals go_wp2
    all_goals go_meet
    all_goals first
      | with_reducible exact ⟨_, _, a', n', c', es', rfl, rfl, Lib.hid ⟨dmE1 HI.out O1d.out Bc0.out hbz hez hkz, hmz⟩⟩
      | with_reducible exact ⟨_, _, a', n', c', es', rfl, rfl, Lib.hid ⟨dmE2 HI.out O1d.out Bc0.out hbz hez hkz, hmz⟩⟩
      | with_reducible exact ⟨_, _, a', n', c', es', rfl, rfl, Lib.hid ⟨dmC HI.out (P1.out _) (Bc1.out _) hbz hez hkz hP hlo (by simp), hmz⟩⟩
      | with_reducible exact ⟨_, _, a', n', c', es', rfl, rfl, Lib.hid ⟨dmD HI.out (P1.out _) (Bc1.out _) hbz hez hkz hQ hlo (by simp), hmz⟩⟩
      | with_reducible exact ⟨_, _, a', n', c', es', rfl, rfl, Lib.hid ⟨dmA HI.out (P2.out _ _) (Bc2.out _ _) hbz hez hkz hP hQ (by omega) (by simp <;> omega) (by omega) (by simp <;> omega) (by omega), hmz⟩⟩
  case rest =>
    obtain ⟨P, Q, a', n', c', es', rfl, rfl, hD, hk'⟩ := hcut
    have D := Lib.hid hD
    have HK := Lib.hid hk'
    clear hD hk' m0 o0 o1 o2 o3 o4 o5 o6 Bc0 Bc1 Bc2 HX
    have o0 := cell_of_heap D.out.op 0
    have o1 := cell_of_heap D.out.op 1
    have o2 := cell_of_heap D.out.op 2
    have o3 := cell_of_heap D.out.op 3
    have o4 := cell_of_heap D.out.op 4
    have o5 := cell_of_heap D.out.op 5
    have o6 := cell_of_heap D.out.op 6
    have Hoo : Hid (oOf V nu = lookM (es.map keyE) nu) := HI.out.rel.oof nu
    have HN : Hid ((⟨0, V⟩ : NV).V.calls.length < 1000000) := by show V.calls.length < _; have := HI.out.calls; omega
    go_wp2_with fail
    refine (pw_any (N := ⟨0, V⟩) (s := ⟨D.out.qm, oOf_holds (N := ⟨0, V⟩) D.out.qm nu⟩) HN.out hwh hsr hby).mono ?_
    rintro r w3 ⟨rfl, s3, hk3⟩
    rw [Hoo.out, HRr.out] at s3 ⊢
    dsimp only [presCells]
    have HS : Hid (SW w0 w3 b ((⟨0, V⟩ : NV).step nu d o') nu o' (fun j => (j = m ∨ blkE a' es' j ∨ j = P ∨ j = Q ∨ j = w.heap.size) ∧ j < wc.heap.size)) := s3
    have HK3 := Lib.hid hk3
    have HPz : Hid (∀ o, (w3.alloc o).heap[P]? = some (.cells #[.string rsr, .string rby, .string rt, .int .i64 re] 42 (0, 0))) := fun o => by
      have h := (hk3 P ⟨.inr (.inr (.inl rfl)), lt_of_heap D.out.rs⟩).trans D.out.rs
      exact (Below.heap_alloc w3 o _ (lt_of_heap h)).trans h
    have HQz : Hid (∀ o, (w3.alloc o).heap[Q]? = some (.cells #[.slice a' n' c'] 30 (0, 0))) := fun o => by
      have h := (hk3 Q ⟨.inr (.inr (.inr (.inl rfl))), lt_of_heap D.out.mq⟩).trans D.out.mq
      exact (Below.heap_alloc w3 o _ (lt_of_heap h)).trans h
    obtain ⟨xm, hxm⟩ := D.out.mo
    have HMz : Hid (∀ o, (w3.alloc o).heap[m]? = some (.cells #[xm] 30 (0, 0))) := fun o => by
      have h := (hk3 m ⟨.inl rfl, lt_of_heap hxm⟩).trans hxm
      exact (Below.heap_alloc w3 o _ (lt_of_heap h)).trans h
    have HRz : Hid (∀ o, (w3.alloc o).heap[w3.heap.size]? = some o) := fun o => heap_alloc_new w3 o
    have hmw : m < w3.heap.size := lt_of_heap ((hk3 m ⟨.inl rfl, lt_of_heap hxm⟩).trans hxm)
    have hPm := D.out.hP
    have hQm := D.out.hQ
    have hRm : w3.heap.size ≠ m := by omega
    have HFin := Lib.hid (fun hrel => D.out.fin (k := k) hk3 (by have h := s3.qm; rw [step_M] at h; exact h) hrel HI.out.calls (.cells #[.string rsr, .string rby, .string rt, .int .i64 re] 42))
    have HAt := Lib.hid s3.at_
    clear s3 hk3 hxm o0 o1 o2 o3 o4 o5 o6
    go_upto_region 3 with fail
    have hp := HPz.out (.cells #[.string rsr, .string rby, .string rt, .int .i64 re] 42)
    have hq := HQz.out (.cells #[.string rsr, .string rby, .string rt, .int .i64 re] 42)
    have hmm := HMz.out (.cells #[.string rsr, .string rby, .string rt, .int .i64 re] 42)
    have hrr := HRz.out (.cells #[.string rsr, .string rby, .string rt, .int .i64 re] 42)
    clear HPz HQz HMz HRz
    generalize w3.alloc (.cells #[.string rsr, .string rby, .string rt, .int .i64 re] 42) = w4 at *
    have p0 := cell_of_heap hp 0
    have p1 := cell_of_heap hp 1
    have p2 := cell_of_heap hp 2
    have p3 := cell_of_heap hp 3
    have q0 := cell_of_heap hq 0
    have r0 := cell_of_heap hrr 0
    have r1 := cell_of_heap hrr 1
    have r2 := cell_of_heap hrr 2
    have r3 := cell_of_heap hrr 3
    have m0 := cell_of_heap hmm 0
    have f0 := frozen_of_heap hmm 0
    clear hp hq hmm hrr
    go_wp2
    go_ret
    refine ⟨rfl, _, a', n', c', es', HFin.out ?_⟩
    rw [HK.out]
    refine RelM.step HI.out.rel nu d o' HAt.out (fun p hp => ?_)
    have h := pCallW_lost (k := (k : Int)) (kd := kd) (wh := wh) (us := us) (nu := nu) (ep := ep) (sr := sr) (by_ := by_) (by omega) (fun p hp => (HI.out.rel.ok _ (lookM_some hp)).2.2) p (by rw [HRr.out]; exact hp)
    exact h
end Go.Proofs.YtijfdgoeppehlaaGreatDoor

namespace Go.Proofs.YtijfdgoeppehlaaGreatDoor
open Go.RowKit
attribute [local go_sem ↓] Go.wp_at_zero Go.wp_at_succ

set_option maxRecDepth 100000 in
set_option maxHeartbeats 3200000 in
theorem view_any37 {w0 w : World} {b m : Nat} {V : AV} {a : Option Addr} {n c : Nat} {es : List EntT} {k : Nat} (I : ML w0 w b m V a n c es k) (hk : k < 1000) :
    Calls Tryz.prog 10 #[.agg #[.slice a n c], .pointer (some ⟨b, 0, none⟩)] w (TruePost w) := by
  have HI := Lib.hid I
  have hkn := I.len
  clear I
  have Bw : Hid (∀ o, Below w.heap.size w (w.alloc o)) := fun o => (Below.refl _ _).alloc (Nat.le_refl _) _
  have Ow : Hid (∀ o, (w.alloc o).heap[w.heap.size]? = some o) := fun o => heap_alloc_new w o
  go_enter Tryz.func10, Tryz.ntmps10
  go_wp2_with fail
  have B1 := Lib.hid (Bw.out (.cells #[.slice a n c] 30))
  have O1 := Lib.hid (Ow.out (.cells #[.slice a n c] 30))
  clear Bw Ow
  generalize w.alloc (.cells #[.slice a n c] 30) = w1 at *
  have HF : Hid (0 + V.calls.length < 60000) := by show _ < _; have := HI.out.calls; omega
  refine (qmAfter (HI.out.qm.later B1.out) HF.out).mono ?_
  rintro r w2 ⟨sp, rfl, hb2, t, hst, -, hf⟩
  have B2 := Lib.hid (B1.out.trans (hb2.mono B1.out.size))
  have O2 := Lib.hid ((hb2.block _ (lt_of_heap O1.out)).trans O1.out)
  have hsz : t.sz = n := (HI.out.rel.sz hst.good hf).trans (by rw [List.length_map]; exact HI.out.ent.1)
  have HL : Hid (∀ W, Below w2.heap.size w2 W → Calls Tryz.prog 23 #[.pointer (some ⟨sp, 0, none⟩)] W fun e W' => e = .returned (.int .i64 n) ∧ W = W') := fun W hW => by
    have h := stateLen_any _ sp t W (hst.later hW)
    rw [hsz] at h
    exact h
  have HG : Hid (∀ e ∈ es, ∀ W, Below w2.heap.size w2 W → Calls Tryz.prog 24 #[.pointer (some ⟨sp, 0, none⟩), .agg #[.int .i64 16, .string ⟨#[]⟩, .int .i64 e.nu, .int .i64 0, .string ⟨#[]⟩]] W fun r W' => r = .returned (.tuple #[.string (strOf (encQB e.p)), .bool true]) ∧ Below W.heap.size W W') := fun e he W hW => by
    have h := stateGet_any _ sp t (ofPortN e.nu) W (hst.later hW) ⟨emp_le, emp_le⟩
    rw [← hf, show stOf V (ofPortN e.nu) = some (strOf (encQB e.p)) from HI.out.rel.st (x := keyE e) (List.mem_map.2 ⟨e, he, rfl⟩)] at h
    exact h
  clear hb2 hst hf hsz B1 O1
  have hx := cell_of_heap O2.out 0
  go_wp2_with fail
  go_quiet ((go_at_call 23; exact Calls.quiet_of_same ((HL.out (w2.drewN _) (below_toDrewN (Below.refl _ _) _)).mono fun _ _ h => ⟨h.1, h.2.symm⟩)))
  have B3 : Hid (Below w2.heap.size w2 (w2.drewN nq)) := below_toDrewN (Below.refl _ _) nq
  clear HL hx
  generalize w2.drewN nq = w3 at *
  go_wp2_with fail
  go_loopg [7] n (fun gk iv wr => ∃ j : Nat, j + gk = n ∧ iv = .int .i64 j ∧ Hid (Below w2.heap.size w2 wr))
  case atStart => exact ⟨0, by omega, rfl, B3.out⟩
  case round =>
    clear B3
    obtain ⟨j, hj, rfl, HB⟩ := hrel
    have Hj := Lib.hid hj
    have hx : wr.cell? ⟨w.heap.size, 0, none⟩ = some (.slice a n c) := cell_of_heap ((HB.out.block _ (lt_of_heap O2.out)).trans O2.out) 0
    have hjn : j ≤ n := by omega
    clear hj
    by_cases hlt : j < n
    · have hjl : j < es.length := by have := HI.out.ent.1; omega
      have he : es[j]? = some es[j] := List.getElem?_eq_getElem hjl
      have hmem : es[j] ∈ es := List.getElem_mem hjl
      have HBw : Hid (Below w.heap.size w wr) := B2.out.trans (HB.out.mono B2.out.size)
      obtain ⟨g, rfl, c0, c1, c2, c3, c4⟩ := (HI.out.ent.later HBw.out).2.1 j _ he
      have HGe := Lib.hid (HG.out _ hmem)
      obtain ⟨k1, k2, -⟩ := HI.out.rel.ok (keyE es[j]) (List.mem_map.2 ⟨_, hmem, rfl⟩)
      have He := Lib.hid he
      clear he hmem
      generalize es[j] = e at *
      obtain ⟨xn, ⟨ow, pe, lo, ls⟩, qa, qn, qc⟩ := e
      dsimp only [keyE] at *
      have How := Lib.hid k2
      have Hck := Lib.hid k1
      clear k1 k2
      go_wp2_with fail
      refine (ofPort_any _ _).mono ?_
      rintro r w5 ⟨rfl, hb5⟩
      have HB5 : Hid (Below w2.heap.size w2 w5) := HB.out.trans (hb5.mono HB.out.size)
      clear HB hb5 hx c0 c1 c2 c3 c4
      go_wp2_with fail
      refine (HGe.out _ HB5.out).mono ?_
      rintro r w6 ⟨rfl, hb6⟩
      have HB6 : Hid (Below w2.heap.size w2 w6) := HB5.out.trans (hb6.mono HB5.out.size)
      have HBx : Hid (Below w.heap.size w w6) := B2.out.trans (HB6.out.mono B2.out.size)
      obtain ⟨g', hg', -, d1, d2, d3, d4⟩ := (HI.out.ent.later HBx.out).2.1 j _ He.out
      cases hg'
      have d0 : w6.cell? ⟨w.heap.size, 0, none⟩ = some (.slice (some ⟨g, 0, none⟩) n c) := cell_of_heap ((HB6.out.block _ (lt_of_heap O2.out)).trans O2.out) 0
      have Hps6 : Hid (PSl w6 qa qn ls) := ((HI.out.ent.later HBx.out).2.2 _ (List.mem_of_getElem? He.out)).1
      dsimp only at d1 d2 d3 d4
      clear HB5 hb6 HGe
      go_wp2_with fail
      refine (lEncode_any ow pe lo qa qn qc ls _ Hps6.out How.out Hck.out).mono ?_
      rintro r w8 ⟨rfl, hb8⟩
      have HB8 : Hid (Below w2.heap.size w2 w8) := HB6.out.trans (hb8.mono HB6.out.size)
      clear hb8 d0 d1 d2 d3 d4
      go_wp2
      go_roundg (n - (j + 1))
      case measure => have := Hj.out; omega
      case rel => exact ⟨j + 1, by have := Hj.out; omega, by go_num, HB8.out⟩
    · go_wp2
      go_ret
      exact ⟨rfl, B2.out.trans (HB.out.mono B2.out.size)⟩
end Go.Proofs.YtijfdgoeppehlaaGreatDoor

namespace Go.Proofs.YtijfdgoeppehlaaGreatDoor
open Go.RowKit
attribute [local go_sem ↓] Go.wp_at_zero Go.wp_at_succ

set_option maxRecDepth 100000 in
set_option maxHeartbeats 3200000 in
theorem operations37_any (a : Option Addr) (n c : Nat) (fo : Nat → OpP) (w : World) (hu : Usages w) (hn : n ≤ 9223372036854775807) (hl : OpSlP w a n fo) :
    Calls Tryz.prog 3 #[.slice a n c] w (TruePost w) := by
  have Hl := Lib.hid hl; clear hl
  have Hu := Lib.hid hu; clear hu
  go_enter Tryz.func3, Tryz.ntmps3
  go_wp2_with fail
  refine (qKnown_any _ Hu.out).mono ?_
  rintro r wk ⟨rfl, hbk⟩
  have HBk := Lib.hid hbk
  clear hbk
  go_wp2_with fail
  refine (qmEmpty wk (Hu.out.below HBk.out Hu.out.pos)).mono ?_
  rintro r w1 ⟨rfl, hnext⟩
  have Hnext := Lib.hid hnext; clear hnext
  go_wp2_with fail
  refine Hnext.out.mono ?_
  rintro r w2 ⟨rfl, s2⟩
  have I0 := Lib.hid (ML.start s2)
  clear s2 Hnext
  generalize wk.heap.size + 3 = b at *
  go_wp2_with fail
  generalize w2.alloc (.cells #[.slice none 0 0] 30) = w3 at *
  generalize w2.heap.size = m at *
  go_loopg [5] n (fun gk iv wr => ∃ (k : Nat) (V : AV) (a' : Option Addr) (n' c' : Nat) (es : List EntT), k + gk = n ∧ iv = .int .i64 k ∧ k ≤ 40 ∧ Hid (ML wk wr b m V a' n' c' es k))
  case atStart => exact ⟨0, _, _, _, _, _, by omega, rfl, by omega, I0.out⟩
  case round =>
    clear I0
    obtain ⟨k, V, a', n', c', es, hk, rfl, hk40, HI⟩ := hrel
    have Hk := Lib.hid hk
    have hkn : k ≤ n := by omega
    clear hk
    by_cases hlt : k < n ∧ k < 40
    · obtain ⟨hlt, hlt40⟩ := hlt
      obtain ⟨g, off, rfl, hc⟩ := Hl.out.later (HBk.out.trans (HI.out.qm.below.mono HBk.out.size)) (by omega)
      obtain ⟨c0, c1, c2, c3, c4, c5, c6, hwh, hsr, hby⟩ := hc k hlt
      clear hc
      generalize fo k = o at *
      obtain ⟨kd, wh, us, nu, ep, sr, by_⟩ := o
      dsimp only at *
      go_wp2_with fail
      refine (do_any37 HI.out (by omega) kd wh us nu ep sr by_ hwh hsr hby).mono ?_
      rintro r w4 ⟨rfl, V', a2, n2, c2', es2, I4⟩
      have HI4 := Lib.hid I4
      clear I4 HI c0 c1 c2 c3 c4 c5 c6
      go_wp2
      go_roundg (n - (k + 1))
      case measure => have := Hk.out; omega
      case rel => exact ⟨k + 1, V', a2, n2, c2', es2, by have := Hk.out; omega, by go_num, by omega, HI4.out⟩
    · have hways : ¬ k < n ∨ (k < n ∧ ¬ k < 40) := by omega
      clear hlt
      have hm := cell_of_heap HI.out.mo 0
      have HB : Hid (Below w.heap.size w wr) := HBk.out.trans (HI.out.qm.below.mono HBk.out.size)
      rcases hways with h5 | ⟨h5, h5'⟩
      all_goals
        go_wp2_with fail
        refine (view_any37 HI.out (by omega)).mono ?_
        rintro r w7 ⟨rfl, hb7⟩
        have HP : Hid (Below w.heap.size w w7) := HB.out.trans (hb7.mono HB.out.size)
        clear hb7
        go_wp2
        go_ret
        exact ⟨rfl, HP.out⟩
end Go.Proofs.YtijfdgoeppehlaaGreatDoor
