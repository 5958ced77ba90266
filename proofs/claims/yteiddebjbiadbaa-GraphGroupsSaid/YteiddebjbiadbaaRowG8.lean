/- The frame of a graph law's row: its last step; its arguments. -/
import Derived.Test.YteiddebjbiadbaaGmA
import Derived.Test.YteiddebjbiadbaaRows
import Derived.Test.YteiddebjbiadbaaMem
import Derived.ProofKit
import Derived.OpenShut
import Derived.Deep.DeepHandedRow
import Derived.ChangeSame
import Derived.ChangeMaps5
import Derived.Carry
import Derived.Deep.Slices
namespace Go.Proofs.Yteiddebjbiadbaa
open Go.ChangeShapes Go.WideShapes Go.ChangeAt Go.ChangeMaps Go.RowKit

/-- The last step of a law: its world is as it was below the heap's old end, its result holds no memory. -/
theorem law_post {H : Type} {enc : TypeId × Value → H} {P : Program} {f : Func} {s : ChangeSpec} {apart fresh handsOn again : Bool} {W X : World} {args : Array Value} {v : Value} {ds gs : List (DataW H)} {was there : List MemPlace}
    (whole : DataW.Whole enc P f.params.toList s.vars apart W args.toList ds gs was) (low : Below W.heap.size W X)
    (result : ∀ (base : Nat) (spare : Nat → Bool) (held : Bool), DataW.TrodAll enc P X base spare held f.resultTypes.toList (v.resultList f.resultTypes.size) (s.fn H (ds ++ gs)).results [])
    (same : ∀ spare : Nat → Bool, (∀ p ∈ was, spare p.block = true) → DataW.TrodAll enc P X 0 spare true f.params.toList args.toList (s.fn H (ds ++ gs)).args there)
    (none : ∀ spare : Nat → Bool, (∀ p ∈ was, spare p.block = true) → DataW.TrodVars enc P X spare s.vars (s.fn H (ds ++ gs)).vars [])
    (eq : was = there)
    (fine : ∀ (j : Nat) (t : TypeId) (r : Value), f.resultTypes[j]? = some t → (v.resultList f.resultTypes.size)[j]? = some r → Value.okWide P X .any 0 t r) :
    s.post enc P f apart fresh handsOn again W args v X := by
  subst eq
  have old := fun p (hp : p ∈ was) => whole.lt p hp
  have spares : ∀ p ∈ was, (fun b => decide (b < W.heap.size)) p.block = true := fun p hp => decide_eq_true (old p hp)
  have kept := World.keptBut_mono (may' := fun p => p ∈ was ∧ (p ∈ ([] : List MemPlace) ∨ p ∈ was ∨ p ∈ ([] : List MemPlace))) (fun p hp => ⟨hp, .inr (.inl hp)⟩) (low.frame (· ∈ was))
  refine ⟨ds, gs, was, [], was, [], whole, result _ _ _, same _ spares, none _ spares, kept, fun _ => ⟨fine, _, _, ([] ++ was) ++ [], ⟨[] ++ was, [], trodAll_append (same _ (fun _ _ => rfl)) (result _ _ _), none _ (fun _ _ => rfl), rfl, ?_, ?_⟩, fun p hp _ => by simpa using hp⟩⟩
  · obtain ⟨_, _, _, _, _, fz, _⟩ := whole
    intro b off hp
    have hm : MemPlace.cell b off ∈ was := by simpa using hp
    rw [low.frozen (old _ hm)]
    exact fz b off hm
  · obtain ⟨_, _, _, _, _, _, nd⟩ := whole
    intro ha
    simpa using nd ha
theorem own : ownKnob Try.prog.godebug = none := by kernel_rfl
/-- A world for the witness. -/
noncomputable def laidWorld (os : Os) : World := World.holding Try.prog os ⟨#[], #[], []⟩
theorem Try.laidOut : laidOutB Try.prog = true := by kernel_rfl
theorem trodAll_stays {H : Type} {enc : TypeId × Value → H} {P : Program} (hl : laidOutB P = true) {W X : World} {sp : Nat → Bool} : ∀ {ts : List TypeId} {vs : List Value} {ds : List (DataW H)} {ps : List MemPlace}, (∀ t ∈ ts, P.readableRec t = true ∧ t < P.types.size) →
    DataW.TrodAll enc P W 0 (fun _ => true) true ts vs ds ps → (∀ p ∈ ps, W.sameAt X p) → (∀ p ∈ ps, sp p.block = true) → DataW.TrodAll enc P X 0 sp true ts vs ds ps
  | [], vs, ds, ps, _, h, _, _ => by
    obtain ⟨rfl, rfl, rfl⟩ := trodAll_nil h
    exact trodAll_mk0
  | t :: ts, vs, ds, ps, ht, h, hsame, hs => by
    obtain ⟨v, vs', d, ds', p, q, rfl, rfl, rfl, h0, hr⟩ := trodAll_cons h
    exact trodAll_cons_mk (WideElems.Trod_stays hl (ht t (by simp)).1 (ht t (by simp)).2 h0 (fun x hx => hsame x (by simp [hx])) (fun x hx => hs x (by simp [hx])))
      (trodAll_stays hl (fun t' h' => ht t' (by simp [h'])) hr (fun x hx => hsame x (by simp [hx])) (fun x hx => hs x (by simp [hx])))
set_option maxRecDepth 100000 in
/-- The last step of a law that answers true and leaves its arguments. -/
theorem law_done {H : Type} {enc : TypeId × Value → H} {f : Func} {s : ChangeSpec} {apart fresh handsOn again : Bool} {W X : World} {args : Array Value} {ds gs : List (DataW H)} {was : List MemPlace}
    (hts : ∀ t ∈ f.params.toList, Try.prog.readableRec t = true ∧ t < Try.prog.types.size) (hvars : s.vars = []) (hfn : ∀ ds' : List (DataW H), ds'.length = f.params.toList.length → s.fn H ds' = { results := [.lit (.bool true)], args := ds' }) (hres : f.resultTypes = #[4])
    (whole : DataW.Whole enc Try.prog f.params.toList s.vars apart W args.toList ds gs was) (low : Below W.heap.size W X) (hlen : ds.length = f.params.toList.length) :
    s.post enc Try.prog f apart fresh handsOn again W args (.bool true) X := by
  have whole' := whole
  obtain ⟨p, q, hA, hV, rfl, hfz, hnd⟩ := whole
  rw [hvars] at hV
  obtain ⟨rfl, rfl⟩ := trodVars_none hV
  have hf := hfn ds hlen
  have hold : ∀ x ∈ p, x.block < W.heap.size := fun x hx => whole'.lt x (by simp [hx])
  refine law_post (there := p) whole' low (fun _ _ _ => ?_) (fun sp hsp => ?_) (fun _ _ => ?_) (by simp) ?_
  · rw [List.append_nil, hf, hres]
    exact trodAll_cons_mk (shut_bool Try.underlying4 _) trodAll_mk0
  · rw [List.append_nil, hf]
    exact trodAll_stays Try.laidOut hts hA (fun x hx => low.same (hold x hx)) (fun x hx => hsp x (by simp [hx]))
  · rw [List.append_nil, hf, hvars]
    rfl
  · exact ok_one hres rfl (okWide_bool_mk Try.underlying4 _)
theorem trod_fields {H : Type} {enc : TypeId × Value → H} {W : World} {t : TypeId} {ps : List (TypeId × Nat)} {fuel : Nat} {cs : List Value} {x : DataW H × List MemPlace}
    (hu : ∃ fs, Try.prog.underlying t = some (.struct fs) ∧ fs.toList.map (fun f => (f.type, f.offset)) = ps) (h : DataW.trod enc Try.prog W 0 (fun _ => true) true fuel t cs = some x) :
    ∃ k, ∀ (j : Nat) (ty : TypeId) (off : Nat), ps[j]? = some (ty, off) → ∃ y, DataW.trod enc Try.prog W 0 (fun _ => true) true k ty ((cs.drop off).take (Try.prog.cellsOf ty)) = some y := by
  obtain ⟨fs, hfs, hmap⟩ := hu
  obtain ⟨xs, k, _, _, _, hxl, hg⟩ := DataW.trod_struct hfs h
  refine ⟨k, fun j ty off hj => ?_⟩
  rw [← hmap] at hj
  simp only [List.getElem?_map, Option.map_eq_some_iff, Prod.mk.injEq] at hj
  obtain ⟨f, hf', rfl, rfl⟩ := hj
  have hjj : j < fs.size := by
    have := (List.getElem?_eq_some_iff.1 hf').1
    simpa using this
  exact ⟨xs[j]'(by omega), by rw [hg j f (by simpa using hf')]; exact List.getElem?_eq_getElem _⟩
theorem gadd_at (g off j : Nat) : (⟨g, off, none⟩ : Addr).add j = ⟨g, off + j, none⟩ := by unfold Addr.add; split <;> simp_all
set_option maxRecDepth 100000 in
theorem slice_spot {W : World} {base : Nat} {t e : TypeId} (ht : Try.prog.underlying t = some (.slice e)) {a : Addr} {n c : Nat} (h : Value.okWide Try.prog W .any base t (.slice (some a) n c)) : ∃ g off, a = ⟨g, off, none⟩ := by
  simp only [Value.okWide, ht, Cell.okWide, Cell.ok, World.has] at h
  obtain ⟨g, off, el⟩ := a
  exact ⟨g, off, by simpa using h.2.2.2.1⟩
theorem cellsGInt : Try.prog.cellsOf 3 = 1 := by kernel_rfl
theorem cellsGU8 : Try.prog.cellsOf 5 = 1 := by kernel_rfl
theorem cellsGE : Try.prog.cellsOf 71 = 2 := by kernel_rfl
theorem cellsGInts : Try.prog.cellsOf 30 = 1 := by kernel_rfl
theorem underGE : ∃ fs, Try.prog.underlying 71 = some (.struct fs) ∧ fs.toList.map (fun f => (f.type, f.offset)) = [(3, 0), (3, 1)] := ⟨_, Try.underlying71, by kernel_rfl⟩
set_option maxRecDepth 100000 in
/-- A slice of edges as an argument. -/
theorem open_es {H : Type} {enc : TypeId × Value → H} {W : World} {base : Nat} {a : Option Addr} {n c : Nat} {d : DataW H} {p : List MemPlace} (hv : Value.okWide Try.prog W .any base 22 (.slice a n c)) (h : DataW.Trod enc Try.prog W 0 (fun _ => true) true 22 (.slice a n c) d p) :
    ∃ l : List (Int × Int), RowK kE W (.slice a n c) l ∧ l.length = n ∧ n ≤ maxLen := by
  obtain ⟨fuel, hf⟩ := h
  rcases Deep.open_slice Try.underlying22 hf with ⟨hcs, hx⟩ | ⟨a1, len, cap, m, fu, D, Pl, hcs, _, hl, hm, hmm, hx, hall⟩
  · have : (Value.slice a n c) = .slice none 0 0 := by simpa [Value.cells] using hcs
    cases this
    exact ⟨[], RowK.nil _, rfl, Nat.zero_le _⟩
  · have : (Value.slice a n c) = .slice (some a1) len cap := by simpa [Value.cells] using hcs
    cases this
    simp only [if_true] at hmm
    subst hmm
    rw [cellsGE] at hall
    have each : ∀ i, i < n → ∃ z : Int × Int, W.cell? (a1.add (i * 2)) = some (.int .i64 z.1) ∧ W.cell? (a1.add (i * 2 + 1)) = some (.int .i64 z.2) := by
      intro i hi
      obtain ⟨cs', h1, h2⟩ := hall i (by omega)
      obtain ⟨_, hlen, hcell⟩ := World.cells?_some h1
      obtain ⟨k, hk⟩ := trod_fields underGE h2
      match cs', hlen with
      | [v0, v1], _ =>
        obtain ⟨y0, g0⟩ := hk 0 _ _ rfl
        obtain ⟨y1, g1⟩ := hk 1 _ _ rfl
        rw [cellsGInt] at g0 g1
        obtain ⟨z0, e0, _, _⟩ := DataW.trod_int Try.underlying3 g0
        obtain ⟨z1, e1, _, _⟩ := DataW.trod_int Try.underlying3 g1
        obtain rfl : v0 = .int .i64 z0 := by simpa using e0
        obtain rfl : v1 = .int .i64 z1 := by simpa using e1
        have c0 := hcell 0 (by decide)
        have c1 := hcell 1 (by decide)
        rw [Deep.add_add] at c0 c1
        exact ⟨(z0, z1), by simpa using c0, by simpa using c1⟩
    obtain ⟨f, hf'⟩ := Deep.choose_lt each
    refine ⟨(List.range n).map f, ?_, by simp, Nat.le_trans hl hm⟩
    obtain ⟨g, off, rfl⟩ := slice_spot Try.underlying22 hv
    · refine .inr ⟨g, off, m, by simp, by simpa using hl, fun j x hj i u hu => ?_⟩
      rw [List.getElem?_map] at hj
      obtain ⟨j', hj', rfl⟩ := Option.map_eq_some_iff.1 hj
      have hjn := (List.getElem?_eq_some_iff.1 hj').1
      rw [List.length_range] at hjn
      rw [List.getElem?_range hjn] at hj'
      obtain rfl := Option.some.inj hj'
      have h1 := hf' j hjn
      rw [gadd_at, gadd_at] at h1
      rcases i with _ | _ | i
      · obtain rfl : Value.int .i64 (f j).1 = u := by simpa [kE] using hu
        exact h1.1
      · obtain rfl : Value.int .i64 (f j).2 = u := by simpa [kE] using hu
        exact h1.2
      · simp [kE] at hu
set_option maxRecDepth 100000 in
theorem cellW_spot {W : World} {base : Nat} {t e : TypeId} (ht : Try.prog.underlying t = some (.slice e)) {a : Addr} {n c : Nat} (h : Cell.okWide Try.prog W .any base t (.slice (some a) n c)) : ∃ g off, a = ⟨g, off, none⟩ := by
  simp only [Cell.okWide, ht, Cell.ok, World.has] at h
  obtain ⟨g, off, el⟩ := a
  exact ⟨g, off, by simpa using h.2.2.2.1⟩
set_option maxRecDepth 100000 in
theorem okWide_arr {W : World} {base : Nat} {t e : TypeId} {k : Nat} (ht : Try.prog.underlying t = some (.array k e)) {v : Value} (h : Value.okWide Try.prog W .any base t v) : ∃ cs, v = .agg cs ∧ cs.size = Try.prog.cellsOf t ∧ Row.okWide Try.prog W .any base t cs := by
  simp only [Value.okWide, ht] at h
  exact h
theorem two_of {cs : Array Value} (h : cs.size = 2) : ∃ v0 v1, cs = #[v0, v1] := by
  obtain ⟨l⟩ := cs
  match l, h with
  | [v0, v1], _ => exact ⟨v0, v1, rfl⟩
theorem cellsG2i : Try.prog.cellsOf 23 = 2 := by kernel_rfl
theorem cellsG2u : Try.prog.cellsOf 62 = 2 := by kernel_rfl
theorem cellsG2s : Try.prog.cellsOf 36 = 2 := by kernel_rfl
set_option maxRecDepth 100000 in
theorem open_int2 {H : Type} {enc : TypeId × Value → H} {W : World} {base : Nat} {v : Value} {d : DataW H} {p : List MemPlace} (hv : Value.okWide Try.prog W .any base 23 v) (h : DataW.Trod enc Try.prog W 0 (fun _ => true) true 23 v d p) :
    ∃ x y : Int, v = .agg #[.int .i64 x, .int .i64 y] := by
  obtain ⟨cs, rfl, hs, -⟩ := okWide_arr Try.underlying23 hv
  rw [cellsG2i] at hs
  obtain ⟨v0, v1, rfl⟩ := two_of hs
  obtain ⟨fuel, hf⟩ := h
  obtain ⟨xs, m, _, _, _, hxl, hg⟩ := DataW.trod_array Try.underlying23 hf
  have h0 := hg 0 (by decide)
  have h1 := hg 1 (by decide)
  rw [cellsGInt, List.getElem?_eq_getElem (by omega)] at h0 h1
  obtain ⟨z0, e0, _, _⟩ := DataW.trod_int Try.underlying3 h0
  obtain ⟨z1, e1, _, _⟩ := DataW.trod_int Try.underlying3 h1
  obtain rfl : v0 = .int .i64 z0 := by simpa [Value.cells] using e0
  obtain rfl : v1 = .int .i64 z1 := by simpa [Value.cells] using e1
  exact ⟨z0, z1, rfl⟩
set_option maxRecDepth 100000 in
theorem open_u82 {H : Type} {enc : TypeId × Value → H} {W : World} {base : Nat} {v : Value} {d : DataW H} {p : List MemPlace} (hv : Value.okWide Try.prog W .any base 62 v) (h : DataW.Trod enc Try.prog W 0 (fun _ => true) true 62 v d p) :
    ∃ x y : Nat, v = .agg #[.int .u8 x, .int .u8 y] ∧ x ≤ 255 ∧ y ≤ 255 := by
  obtain ⟨cs, rfl, hs, -⟩ := okWide_arr Try.underlying62 hv
  rw [cellsG2u] at hs
  obtain ⟨v0, v1, rfl⟩ := two_of hs
  obtain ⟨fuel, hf⟩ := h
  obtain ⟨xs, m, _, _, _, hxl, hg⟩ := DataW.trod_array Try.underlying62 hf
  have h0 := hg 0 (by decide)
  have h1 := hg 1 (by decide)
  rw [cellsGU8, List.getElem?_eq_getElem (by omega)] at h0 h1
  obtain ⟨z0, e0, _, w0⟩ := DataW.trod_int Try.underlying5 h0
  obtain ⟨z1, e1, _, w1⟩ := DataW.trod_int Try.underlying5 h1
  obtain rfl : v0 = .int .u8 z0 := by simpa [Value.cells] using e0
  obtain rfl : v1 = .int .u8 z1 := by simpa [Value.cells] using e1
  have b0 := bounds_u8 w0
  have b1 := bounds_u8 w1
  obtain ⟨m0, rfl⟩ := Int.eq_ofNat_of_zero_le b0.1
  obtain ⟨m1, rfl⟩ := Int.eq_ofNat_of_zero_le b1.1
  exact ⟨m0, m1, rfl, by omega, by omega⟩
set_option maxRecDepth 100000 in
/-- A slice of numbers, from its cell. -/
theorem open_intsG {H : Type} {enc : TypeId × Value → H} {W : World} {base : Nat} {v : Value} {fuel : Nat} {x : DataW H × List MemPlace} (hv : Cell.okWide Try.prog W .any base 30 v) (hf : DataW.trod enc Try.prog W 0 (fun _ => true) true fuel 30 [v] = some x) :
    ∃ l : List Int, RowK kInt W v l ∧ l.length ≤ maxLen := by
  rcases Deep.open_slice Try.underlying30 hf with ⟨hcs, hx⟩ | ⟨a1, len, cap, m, fu, D, Pl, hcs, _, hl, hm, hmm, hx, hall⟩
  · obtain rfl : v = .slice none 0 0 := by simpa using hcs
    exact ⟨[], RowK.nil _, Nat.zero_le _⟩
  · obtain rfl : v = .slice (some a1) len cap := by simpa using hcs
    simp only [if_true] at hmm
    subst hmm
    rw [cellsGInt] at hall
    have each : ∀ i, i < len → ∃ z : Int, W.cell? (a1.add i) = some (.int .i64 z) := by
      intro i hi
      obtain ⟨cs', h1, h2⟩ := hall i (by omega)
      obtain ⟨_, hlen, hcell⟩ := World.cells?_some h1
      match cs', hlen with
      | [v0], _ =>
        obtain ⟨z0, e0, _, _⟩ := DataW.trod_int Try.underlying3 h2
        obtain rfl : v0 = .int .i64 z0 := by simpa using e0
        have c0 := hcell 0 (by decide)
        rw [Deep.add_add] at c0
        exact ⟨z0, by simpa using c0⟩
    obtain ⟨f, hf'⟩ := Deep.choose_lt each
    obtain ⟨g, off, rfl⟩ := cellW_spot Try.underlying30 hv
    refine ⟨(List.range len).map f, .inr ⟨g, off, m, by simp, by simpa using hl, fun j x hj i u hu => ?_⟩, by simp; omega⟩
    rw [List.getElem?_map] at hj
    obtain ⟨j', hj', rfl⟩ := Option.map_eq_some_iff.1 hj
    have hjn := (List.getElem?_eq_some_iff.1 hj').1
    rw [List.length_range] at hjn
    rw [List.getElem?_range hjn] at hj'
    obtain rfl := Option.some.inj hj'
    have h1 := hf' j hjn
    rw [gadd_at] at h1
    cases i with
    | zero =>
      obtain rfl : Value.int .i64 (f j) = u := by simpa [kInt] using hu
      simpa [kInt] using h1
    | succ i => simp [kInt] at hu
set_option maxRecDepth 100000 in
theorem open_sl2 {H : Type} {enc : TypeId × Value → H} {W : World} {base : Nat} {v : Value} {d : DataW H} {p : List MemPlace} (hv : Value.okWide Try.prog W .any base 36 v) (h : DataW.Trod enc Try.prog W 0 (fun _ => true) true 36 v d p) :
    ∃ (v0 v1 : Value) (l0 l1 : List Int), v = .agg #[v0, v1] ∧ RowK kInt W v0 l0 ∧ RowK kInt W v1 l1 ∧ l0.length ≤ maxLen ∧ l1.length ≤ maxLen := by
  obtain ⟨cs, rfl, hs, ts, ht, -, hrow⟩ := okWide_arr Try.underlying36 hv
  rw [cellsG2s] at hs
  obtain ⟨v0, v1, rfl⟩ := two_of hs
  obtain ⟨fuel, hf⟩ := h
  obtain ⟨xs, m, _, _, _, hxl, hg⟩ := DataW.trod_array Try.underlying36 hf
  have h0 := hg 0 (by decide)
  have h1 := hg 1 (by decide)
  rw [cellsGInts, List.getElem?_eq_getElem (by omega)] at h0 h1
  have hts : Try.prog.cellTypes Try.prog.depth 36 = some [30, 30] := by kernel_rfl
  rw [hts] at ht
  cases ht
  obtain ⟨u0, q0, k0⟩ := hrow 0 v0 rfl
  obtain ⟨u1, q1, k1⟩ := hrow 1 v1 rfl
  cases q0
  cases q1
  obtain ⟨l0, r0, n0⟩ := open_intsG (x := xs[0]'(by omega)) k0 (by simpa [Value.cells] using h0)
  obtain ⟨l1, r1, n1⟩ := open_intsG (x := xs[1]'(by omega)) k1 (by simpa [Value.cells] using h1)
  exact ⟨v0, v1, l0, l1, rfl, r0, r1, n0, n1⟩
end Go.Proofs.Yteiddebjbiadbaa
