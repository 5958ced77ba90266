/- graph: known. -/
import Derived.Test.YteiddebjbiadbaaGmZ
import Derived.Test.YteiddebjbiadbaaGmO
namespace Go.Proofs.Yteiddebjbiadbaa
open Go.RowKit Gr
attribute [local go_sem ↓] Go.wp_at_zero Go.wp_at_succ

def E1 : List (Int × Int) := [(2, 3), (0, 1), (0, 2), (1, 3)]
def E2 : List (Int × Int) := E1 ++ [(3, 1)]
theorem good1 : ∀ e ∈ E1, goodE 4 e := by decide
theorem good2 : ∀ e ∈ E2, goodE 4 e := by decide
theorem k_left : at_ (leftF (bef (esOf E1)) 4 3) 0 = 2 := by decide +kernel
theorem k_path : pathF (aft (esOf E1)) (leftF (bef (esOf E1)) 4 3) 3 2 0 = [0, 1, 3] := by decide +kernel
theorem k_ord1 : orderF (aft (esOf E1)) (bef (esOf E1)) 4 = [0, 1, 2, 3] := by decide +kernel
theorem k_ord2 : (orderF (aft (esOf E2)) (bef (esOf E2)) 4).length < 4 := by decide +kernel
theorem k_comp : componentsF (aft (esOf E2)) (bef (esOf E2)) 4 = [[0], [1, 3], [2]] := by decide +kernel
theorem k_betw : bothL (reachedF (aft (esOf E1)) 4 (nodesF 4 [2])) (reachedF (bef (esOf E1)) 4 (nodesF 4 [3])) 4 = [2, 3] := by decide +kernel
#print axioms k_comp
/-- What is known of the edges of a graph that New has made. -/
theorem es_ges {n : Nat} {l : List (Int × Int)} (h : ∀ e ∈ l, goodE n e) : GEs (esOf l) n (aft (esOf l)) (bef (esOf l)) := ⟨fun _ _ => mem_aft, fun _ _ => mem_bef, es_ins h⟩
theorem aft_nodup (l : List (Int × Int)) (i : Nat) : (aft (esOf l) i).Nodup := (aft_sort (refNew_ok (l.map toEd)).1 i).imp (fun h => Nat.ne_of_lt h)
theorem bef_nodup (l : List (Int × Int)) (i : Nat) : (bef (esOf l) i).Nodup := (bef_sort (refNew_ok (l.map toEd)).1 i).imp (fun h => Nat.ne_of_lt h)
theorem new_ok {w : World} {n : Nat} {v : Value} {l : List (Int × Int)} (h : RowK kEdge w v l) (hl : l.length ≤ 65536) (hn : n ≤ 4096) (hg : ∀ e ∈ l, goodE n e) : Calls Try.prog 20 #[.int .i64 (n : Int), v] w fun r w' => Below w.heap.size w w' ∧ NewOk w n l r w' := by
  refine (new_any h (by omega)).mono ?_
  rintro r w' ⟨hb, q⟩
  refine ⟨hb, ?_⟩
  have e : ((n : Int)).toNat = n := by simp
  rcases q with ⟨q, -⟩ | ⟨-, q, -⟩ | ⟨-, -, ⟨x, hx, q⟩, -⟩ | ⟨-, -, -, q⟩
  · omega
  · omega
  · rw [e] at q; exact absurd (hg x hx) q
  · rw [e] at q; exact q
/-- append of one upon a full row: a new row, and nothing that lay is touched. -/
theorem run_append_full {α : Type} {K : KindK α} (w : World) (ty : TypeId) (g off : Nat) (xs : List α) (h : RowK K w (.slice (some ⟨g, off, none⟩) xs.length xs.length) xs) (x : α) (B : Nat) (cs : Array Value) (T : TypeId) (hB : w.heap[B]? = some (.cells cs T (0, 0))) (hc : K.cells x = cs.toList) (hlen : xs.length + 1 ≤ 1000000) :
    ∃ v' w', (Builtin.append_ #[K.sl, K.sl] ty #[.slice (some ⟨g, off, none⟩) xs.length xs.length, .slice (some ⟨B, 0, none⟩) 1 1]).run Try.prog w = .ok v' w' ∧ OwnK K w.heap.size w' v' (xs ++ [x]) ∧ Below w.heap.size w w' := by
  obtain ⟨i0, hi, hz0, hz1, hz2⟩ := info_parts K.info
  have hpc := K.len x
  have hnl : (K.cells x).length = 1 * i0.size := by rw [hz1, hpc, Nat.one_mul]
  have hnews : ∀ j u, (K.cells x)[j]? = some u → w.cell? ((⟨B, 0, none⟩ : Addr).add j) = some u := by rw [hc]; exact World.news_of_block hB
  have hol : (xs.flatMap K.cells).length = xs.length * i0.size := by rw [hz1]; exact K.flat_len xs
  have hcells : ∀ j u, (xs.flatMap K.cells)[j]? = some u → w.cell? ((⟨g, off, none⟩ : Addr).add j) = some u := fun j u hu => by
    obtain ⟨y, hy, hyu⟩ := K.flat_back xs j u hu
    obtain ⟨g', off', e, hx⟩ := h.at_ hy
    cases e
    have h3 := hx _ u hyu
    rw [Addr.add_lit]
    rw [show off + j / K.S * K.S + j % K.S = off + j by have := Nat.div_add_mod' j K.S; omega] at h3
    exact h3
  have hBd : (xs.length + 1) * i0.bytes ≤ 140737488355328 := by
    rw [hz2]
    have := K.hB
    calc (xs.length + 1) * K.B ≤ 1000000 * 1000 := Nat.mul_le_mul hlen this
      _ ≤ 140737488355328 := by decide
  have hr := run_append_grow (P := Try.prog) w K.sl ty K.T i0 _ K.und hi hz0 ⟨g, off, none⟩ xs.length xs.length (xs.flatMap K.cells) hol hcells ⟨B, 0, none⟩ 1 1 (K.cells x) hnl hnews (by omega) (by omega) (growslice_fits (by omega) hBd)
  have hge := grownCap_ge w (xs.length + 1) xs.length K.T
  have hl2 : (xs.flatMap K.cells ++ K.cells x) = (xs ++ [x]).flatMap K.cells := by simp
  refine ⟨_, _, hr, ⟨K.flat_len _, .inr ⟨w.heap.size, grownCap w (xs.length + 1) xs.length K.T, _, by simp, Nat.le_refl _, heap_alloc_new w.drew _, by simpa using hge, grownCap_le_maxLen w _ _ _ (by unfold maxLen; omega), ?_, ?_⟩⟩, ?_⟩
  · rw [hz1] at hol
    simp only [Array.size_append, List.size_toArray, size_zeroCells, hpc, hol, K.zs]
    generalize grownCap w (xs.length + 1) xs.length K.T = G at hge
    obtain ⟨d, rfl⟩ : ∃ d, G = xs.length + 1 + d := ⟨G - (xs.length + 1), by omega⟩
    rw [Nat.add_sub_cancel_left, Nat.add_mul, Nat.add_mul, Nat.one_mul]
  · have hl3 : (xs.flatMap K.cells ++ K.cells x).length = (xs ++ [x]).length * K.S := by rw [hl2]; exact K.flat_len _
    simp only [Array.toList_append]
    rw [← hl3]
    show (xs.flatMap K.cells ++ K.cells x ++ _).take _ = _
    rw [List.take_left]
    exact hl2
  · exact (Below.refl _ _).drew.alloc (Nat.le_refl _) _
theorem wpList_append_full {α : Type} {K : KindK α} {ops : Array Oper} {rest : List Oper} {o : Oper} {a : Act} {Q : Exit → Act → World → Prop} (hgd : o.guard = none) (s y : Operand)
    (ho : o.op = .call { callee := .builtin .append, args := #[s, y], argTypes := #[K.sl, K.sl] }) {w : World} (g off n : Nat) (xs : List α) (hs : a.eval s = .slice (some ⟨g, off, none⟩) n n) (hn : xs.length = n) (h : RowK K w (.slice (some ⟨g, off, none⟩) n n) xs) (x : α) (B : Nat) (cs : Array Value) (T : TypeId) (hy : a.eval y = .slice (some ⟨B, 0, none⟩) 1 1) (hB : w.heap[B]? = some (.cells cs T (0, 0))) (hc : K.cells x = cs.toList) (hlen : xs.length + 1 ≤ 1000000)
    (hk : ∀ v' w', OwnK K w.heap.size w' v' (xs ++ [x]) → Below w.heap.size w w' → wpList Try.prog ops Q rest (a.put o.dst v') w') :
    wpList Try.prog ops Q (o :: rest) a w := by
  subst hn
  refine wpList_plain hgd fun _ hK => ?_
  obtain ⟨v', w', hr, h2, h3⟩ := run_append_full w o.type g off xs h x B cs T hB hc hlen
  unfold Oper.wp execOp
  simp only [ho, resolve, invoke, builtin, Sem.run_bind, Sem.run_pure, Result.andThen_ok, List.map_toArray, List.map_cons, List.map_nil, hs, hy, hr]
  exact hK _ _ (hk v' w' h2 h3)
theorem path_k {w : World} {p : Nat} (h : GOk w p 4 (aft (esOf E1)) (bef (esOf E1))) : Calls Try.prog 13 #[.pointer (some ⟨p, 0, none⟩), .int .i64 0, .int .i64 3] w fun r w' => Below w.heap.size w w' ∧ ∃ v, r = .returned (.tuple #[v, .bool true]) ∧ OwnK kNat w.heap.size w' v [0, 1, 3] := by
  refine (path_any h (es_ges good1) 0 3).mono ?_
  rintro r w' ⟨hb, q⟩
  refine ⟨hb, ?_⟩
  rcases q with ⟨q, -⟩ | ⟨a, b, ha, hb, -, -, q⟩
  · exact absurd q (by decide)
  · obtain rfl : a = 0 := by omega
    obtain rfl : b = 3 := by omega
    rcases q with ⟨q, -⟩ | ⟨-, v, rfl, ho⟩
    · rw [k_left] at q; omega
    · have e2 : (2 : Int).toNat = 2 := rfl
      rw [k_left, e2, k_path] at ho
      exact ⟨v, rfl, ho⟩
theorem order_k1 {w : World} {p : Nat} (h : GOk w p 4 (aft (esOf E1)) (bef (esOf E1))) : Calls Try.prog 29 #[.pointer (some ⟨p, 0, none⟩)] w fun r w' => Below w.heap.size w w' ∧ ∃ v, r = .returned (.tuple #[v, .bool true]) ∧ OwnK kNat w.heap.size w' v [0, 1, 2, 3] := by
  refine (order_any h (es_ges good1) (aft_nodup _) (bef_nodup _)).mono ?_
  rintro r w' ⟨hb, q⟩
  refine ⟨hb, ?_⟩
  rw [k_ord1] at q
  rcases q with ⟨q, -⟩ | ⟨-, q⟩
  · exact absurd q (by decide)
  · exact q
theorem order_k2 {w : World} {p : Nat} (h : GOk w p 4 (aft (esOf E2)) (bef (esOf E2))) : Calls Try.prog 29 #[.pointer (some ⟨p, 0, none⟩)] w fun r w' => Below w.heap.size w w' ∧ r = .returned nilT := by
  refine (order_any h (es_ges good2) (aft_nodup _) (bef_nodup _)).mono ?_
  rintro r w' ⟨hb, ⟨-, q⟩ | ⟨q, -⟩⟩
  · exact ⟨hb, q⟩
  · exact absurd k_ord2 q
theorem lit_int (w : World) (l : List Int) (cs : Array Value) (n : Nat) (hn : l.length = n) (hc : cs.toList = l.flatMap kInt.cells) (hl : l.length ≤ 1000) : RowK kInt (w.alloc (.cells cs 3)) (.slice (some ⟨w.heap.size, 0, none⟩) n n) l := by
  subst hn
  have h := World.ownsRow_lit (e := 3) (size := 1) w cs l.length (Nat.le_refl w.heap.size) (by unfold maxLen; omega) (by rw [← Array.length_toList, hc, kInt.flat_len]; rfl)
  rw [hc] at h
  exact OwnK.row (K := kInt) (base := w.heap.size) h
theorem same_k {W : World} {v vb : Value} {l : List Nat} (h : RowK kNat W v l) (hb : RowK kInt W vb (ints l)) (hs : l.length ≤ 1000) : Calls Try.prog 15 #[v, vb] W fun r w' => r = .returned (.bool true) ∧ Below W.heap.size W w' := by
  refine (same_any (row_ints.1 h) hb (by unfold ints; rw [List.length_map]; omega)).mono ?_
  rintro r w' ⟨rfl, h2⟩
  exact ⟨by simp, h2⟩
set_option maxHeartbeats 3200000 in
theorem known_any (w : World) : Calls Try.prog 11 #[] w fun r w' => r = .returned (.bool true) ∧ Below w.heap.size w w' := by
  go_enter Try.func11, Try.ntmps11
  go_upto_region 2 with fail
  obtain ⟨w1, hw1⟩ : ∃ w1, w.alloc (.cells #[.int .i64 2, .int .i64 3, .int .i64 0, .int .i64 1, .int .i64 0, .int .i64 2, .int .i64 1, .int .i64 3] 60) = w1 := ⟨_, rfl⟩
  rw [hw1]
  have HB1 : Hid (Below w.heap.size w w1) := by rw [← hw1]; exact (Below.refl _ _).alloc (Nat.le_refl _) _
  have HO1 : Hid (OwnK kEdge w.heap.size w1 (.slice (some ⟨w.heap.size, 0, none⟩) 4 4) E1) := by
    rw [← hw1]
    exact World.ownsRow_lit w _ 4 (Nat.le_refl _) (by unfold maxLen; decide) rfl
  clear hw1
  have HN1 := Lib.hid (new_ok (n := 4) HO1.out.row (by decide) (by decide) good1)
  go_wp2_with fail
  refine HN1.out.mono ?_
  rintro r w2 ⟨hb2, p1, rfl, hG1, -⟩
  have HB2 := Lib.hid hb2
  have HG1 := Lib.hid hG1
  have HO2 := Lib.hid (HO1.out.later hb2)
  have Hs2 : Hid (w.heap.size ≤ w2.heap.size) := Nat.le_trans HB1.out.size hb2.size
  clear hb2 hG1 HN1
  go_upto_region 3 with fail
  have HW3 : Hid (Below w2.heap.size w2 (w2.alloc (.cells #[.int .i64 3, .int .i64 1] 60))) := (Below.refl _ _).alloc (Nat.le_refl _) _
  go_wp2_with (first
    | (at_builtin; refine wpList_append_full (K := kEdge) rfl _ _ rfl w.heap.size 0 4 E1 rfl rfl (HO2.out.row.later HW3.out) (3, 1) w2.heap.size _ _ rfl (heap_alloc_new w2 _) rfl (by decide) ?_; intro v9 w9 ho9 hb9; obtain ⟨a9, c9, rfl⟩ : (∃ a c, v9 = Value.slice a 5 c) := (by obtain ⟨a, c, h, -⟩ := (OwnK.row ho9).form; exact ⟨a, c, h⟩); have HO9 := Lib.hid ho9; have HB9 : Hid (Below w2.heap.size w2 w9) := HW3.out.trans (hb9.mono HW3.out.size); clear ho9 hb9)
    | fail)
  have HG9 := Lib.hid (HG1.out.later HB9.out)
  have HN2 := Lib.hid (new_ok (n := 4) (l := E2) HO9.out.row (by decide) (by decide) good2)
  go_at_call 20
  refine HN2.out.mono ?_
  rintro r w3 ⟨hb3, p2, rfl, hG2, -⟩
  have HB3 := Lib.hid (HB2.out.mono (Nat.le_refl _) |>.trans ((HB9.out.mono HB2.out.size).trans (hb3.mono (Nat.le_trans HB2.out.size HB9.out.size))))
  have HG1 := Lib.hid (HG9.out.later hb3)
  have HG2 := Lib.hid hG2
  clear hb3 hG2 HN2 HG9 HO9 HB9 HW3
  have HP := Lib.hid (path_k HG1.out)
  go_wp2_with fail
  refine HP.out.mono ?_
  rintro r w4 ⟨hb4, v1, rfl, ho4⟩
  obtain ⟨a1, c1, rfl, -⟩ := ho4.row.form
  have HO4 := Lib.hid ho4
  have HG1 := Lib.hid (HG1.out.later hb4)
  have HG2 := Lib.hid (HG2.out.later hb4)
  have HB4 := Lib.hid (HB3.out.trans (hb4.mono HB3.out.size))
  clear ho4 hb4 HP
  have HQ := Lib.hid (order_k1 HG1.out)
  go_wp2_with fail
  refine HQ.out.mono ?_
  rintro r w5 ⟨hb5, v2, rfl, ho5⟩
  obtain ⟨a2, c2, rfl, -⟩ := ho5.row.form
  have HO5 := Lib.hid ho5
  have HO4 := Lib.hid (HO4.out.later hb5)
  have HG1 := Lib.hid (HG1.out.later hb5)
  have HG2 := Lib.hid (HG2.out.later hb5)
  have HB5 := Lib.hid (HB4.out.trans (hb5.mono HB4.out.size))
  clear ho5 hb5 HQ
  have HQ := Lib.hid (order_k2 HG2.out)
  unfold nilT at HQ
  go_wp2_with fail
  refine HQ.out.mono ?_
  rintro r w6 ⟨hb6, rfl⟩
  have HO5 := Lib.hid (HO5.out.later hb6)
  have HO4 := Lib.hid (HO4.out.later hb6)
  have HG1 := Lib.hid (HG1.out.later hb6)
  have HG2 := Lib.hid (HG2.out.later hb6)
  have HB6 := Lib.hid (HB5.out.trans (hb6.mono HB5.out.size))
  clear hb6 HQ
  have HC := Lib.hid (components_any HG2.out (es_ges good2))
  rw [k_comp] at HC
  go_wp2_with fail
  refine HC.out.mono ?_
  rintro r w7 ⟨v3, rows, rfl, hb7, hr7, hl7, hrow⟩
  obtain ⟨a3, c3, rfl, -⟩ := hr7.form
  have hl3 : rows.length = 3 := hl7
  have HO5 := Lib.hid (HO5.out.later hb7)
  have HO4 := Lib.hid (HO4.out.later hb7)
  have HG1 := Lib.hid (HG1.out.later hb7)
  have HB7 := Lib.hid (HB6.out.trans (hb7.mono HB6.out.size))
  obtain ⟨e1, he1⟩ : ∃ e, rows[1]? = some e := ⟨_, List.getElem?_eq_getElem (by omega)⟩
  have HR := Lib.hid (hrow 1 e1 [1, 3] he1 rfl)
  obtain ⟨ga, go, rfl, hcl⟩ := hr7.at_ he1
  have d1 := hcl 0 _ rfl
  have HD1 := Lib.hid d1
  clear hb7 HC hrow hr7 hl7 he1 hcl d1 HG2
  go_upto_region 10 with fail
  have K8 : Below w7.heap.size w7 (w7.alloc (.cells #[.int .i64 0, .int .i64 1, .int .i64 3] 3)) := (Below.refl _ _).alloc (Nat.le_refl _) _
  have HS := Lib.hid (same_k (HO4.out.row.later K8) (lit_int w7 [0, 1, 3] _ 3 rfl rfl (by decide)) (by decide))
  have HK8 := Lib.hid K8
  clear K8
  go_wp2_with fail
  refine HS.out.mono ?_
  rintro r w8 ⟨rfl, hb8⟩
  have HB8 : Hid (Below w7.heap.size w7 w8) := HK8.out.trans (hb8.mono HK8.out.size)
  clear hb8 HS HK8 HO4
  have K9 : Below w7.heap.size w7 (w8.alloc (.cells #[.int .i64 0, .int .i64 1, .int .i64 2, .int .i64 3] 3)) := HB8.out.alloc HB8.out.size _
  have HS := Lib.hid (same_k (HO5.out.row.later K9) (lit_int w8 [0, 1, 2, 3] _ 4 rfl rfl (by decide)) (by decide))
  have HK9 := Lib.hid K9
  clear K9
  go_wp2_with fail
  refine HS.out.mono ?_
  rintro r w9 ⟨rfl, hb9⟩
  have HB9 : Hid (Below w7.heap.size w7 w9) := HK9.out.trans (hb9.mono HK9.out.size)
  clear hb9 HS HK9 HO5 HB8
  obtain ⟨y1, hy1⟩ : ∃ y, w9.alloc (.cells #[.int .i64 2] 3) = y := ⟨_, rfl⟩
  have b1 : Below w9.heap.size w9 y1 := by rw [← hy1]; exact (Below.refl _ _).alloc (Nat.le_refl _) _
  have z1 : y1.heap.size = w9.heap.size + 1 := by rw [← hy1, World.size_alloc]
  have r1 : RowK kInt y1 (.slice (some ⟨w9.heap.size, 0, none⟩) 1 1) [2] := by rw [← hy1]; exact lit_int w9 [2] _ 1 rfl rfl (by decide)
  obtain ⟨y2, hy2⟩ : ∃ y, y1.alloc (.cells #[.int .i64 3] 3) = y := ⟨_, rfl⟩
  have b2 : Below y1.heap.size y1 y2 := by rw [← hy2]; exact (Below.refl _ _).alloc (Nat.le_refl _) _
  have r2 : RowK kInt y2 (.slice (some ⟨w9.heap.size + 1, 0, none⟩) 1 1) [3] := by rw [← hy2, ← z1]; exact lit_int y1 [3] _ 1 rfl rfl (by decide)
  have K10 : Below w7.heap.size w7 y2 := HB9.out.trans ((b1.mono HB9.out.size).trans (b2.mono (by have := HB9.out.size; omega)))
  have HT := between_any (HG1.out.later K10) (r1.later b2) (by decide) r2 (by decide)
  rw [k_betw] at HT
  have HT := Lib.hid HT
  have HK10 := Lib.hid K10
  go_wp2_with fail
  clear hy1 hy2 b1 b2 z1 r1 r2 K10
  refine HT.out.mono ?_
  rintro r w10 ⟨v4, rfl, ho10, hb10⟩
  obtain ⟨a4, c4, rfl, -⟩ := ho10.row.form
  have HO10 := Lib.hid ho10
  have HB10 : Hid (Below w7.heap.size w7 w10) := HK10.out.trans (hb10.mono HK10.out.size)
  clear ho10 hb10 HT HK10 HB9
  have K11 : Below w10.heap.size w10 (w10.alloc (.cells #[.int .i64 2, .int .i64 3] 3)) := (Below.refl _ _).alloc (Nat.le_refl _) _
  have HS := Lib.hid (same_k (HO10.out.row.later K11) (lit_int w10 [2, 3] _ 2 rfl rfl (by decide)) (by decide))
  have HK11 : Hid (Below w7.heap.size w7 _) := HB10.out.trans (K11.mono HB10.out.size)
  clear K11
  go_wp2_with fail
  refine HS.out.mono ?_
  rintro r w11 ⟨rfl, hb11⟩
  have HB11 : Hid (Below w7.heap.size w7 w11) := HK11.out.trans (hb11.mono HK11.out.size)
  clear hb11 HS HK11 HO10 HB10
  have d1 := cellL HD1.out HB11.out
  simp only [kRow, Nat.mul_one, Nat.add_zero] at d1
  have K12 : Below w7.heap.size w7 (w11.alloc (.cells #[.int .i64 1, .int .i64 3] 3)) := HB11.out.alloc HB11.out.size _
  have HS := Lib.hid (same_k (HR.out.later K12) (lit_int w11 [1, 3] _ 2 rfl rfl (by decide)) (by decide))
  have HK12 := Lib.hid K12
  clear K12
  go_wp2_with fail
  refine HS.out.mono ?_
  rintro r w12 ⟨rfl, hb12⟩
  have HB12 : Hid (Below w7.heap.size w7 w12) := HK12.out.trans (hb12.mono HK12.out.size)
  clear hb12 HS HK12 d1 HB11
  go_wp2
  go_ret
  exact ⟨rfl, HB1.out.trans ((HB7.out.mono HB1.out.size).trans (HB12.out.mono (Nat.le_trans HB1.out.size HB7.out.size)))⟩
end Go.Proofs.Yteiddebjbiadbaa
