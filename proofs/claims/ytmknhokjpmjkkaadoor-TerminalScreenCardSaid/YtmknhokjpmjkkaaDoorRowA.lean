/- Rows of strings: append of readable strings; views with guarded rows. -/
import Derived.Test.YtmknhokjpmjkkaaDoorKnown
namespace Go.Proofs.YtmknhokjpmjkkaaDoor
open Go.RowKit

theorem run_append_nil (w : World) (ty : TypeId) (v : Value) (ls : List ByteArray) (hrow : SRow w v ls) (c : Nat) : (Builtin.append_ #[22, 22] ty #[v, .slice none 0 c]).run Tryd.prog w = .ok v w := by
  obtain ⟨i0, hi, hz0, hz1, hz2⟩ := info_parts Tryd.infoStr
  rcases hrow.2 with ⟨rfl, _⟩ | ⟨g, cap, cur, rfl, _, _, hnc, _⟩
  · simp [Builtin.append_, run_underlying Tryd.underlying22, sizeOf, typeInfo, hi, Builtin.lenOf, Builtin.firstCells]
  · simp [Builtin.append_, run_underlying Tryd.underlying22, sizeOf, typeInfo, hi, Builtin.lenOf, Builtin.firstCells, hnc, storeCells]

/-- append of readable strings to a row of strings. -/
theorem wpList_append_strs {ops : Array Oper} {rest : List Oper} {o : Oper} {a : Act} {Q : Exit → Act → World → Prop} (hgd : o.guard = none) (s x : Operand)
    (ho : o.op = .call { callee := .builtin .append, args := #[s, x], argTypes := #[22, 22] }) {w : World} (v : Value) (ls : List ByteArray) (hs : a.eval s = v) (hrow : SRow w v ls)
    (A : Option Addr) (m c : Nat) (news : List ByteArray) (hx : a.eval x = .slice A m c) (hsl : SSl w A m news) (hlen : ls.length + news.length ≤ 1000000)
    (h : ∀ A' n' c' w', SRow w' (.slice A' n' c') (ls ++ news) → w.grownBy w' v.ownBlock → ((Value.slice A' n' c').ownBlock = v.ownBlock ∨ (Value.slice A' n' c').ownBlock = some w.heap.size) → wpList Tryd.prog ops Q rest (a.put o.dst (.slice A' n' c')) w') :
    wpList Tryd.prog ops Q (o :: rest) a w := by
  have form : ∀ (v' : Value) (w' : World) (l : List ByteArray), SRow w' v' l → ∃ A' n' c', v' = .slice A' n' c' := fun v' w' l hr => by
    rcases hr.2 with ⟨hv, _⟩ | ⟨g, cap, cur, hv, _⟩
    · exact ⟨_, _, _, hv⟩
    · exact ⟨_, _, _, hv⟩
  cases A with
  | none =>
    have hm : m = 0 := by
      rcases Nat.eq_zero_or_pos m with h0 | h0
      · exact h0
      · obtain ⟨g, off, h1, _⟩ := hsl.2 h0
        cases h1
    subst hm
    have hn : news = [] := List.eq_nil_of_length_eq_zero hsl.1
    subst hn
    obtain ⟨A', n', c', rfl⟩ := form v w ls hrow
    have hr := run_append_nil w o.type _ ls hrow c
    refine wpList_plain hgd fun K hK => ?_
    unfold Oper.wp execOp
    simp only [ho, resolve, invoke, builtin, Sem.run_bind, Sem.run_pure, Result.andThen_ok, List.map_toArray, List.map_cons, List.map_nil, hs, hx, hr]
    exact hK _ _ (h A' n' c' w (by simpa using hrow) (grown_refl _ _) (.inl rfl))
  | some ad =>
    obtain ⟨i0, hi, hz0, hz1, hz2⟩ := info_parts Tryd.infoStr
    have hcell : ∀ j u, (news.map Value.string)[j]? = some u → w.cell? (ad.add j) = some u := fun j u hu => by
      simp only [List.getElem?_map, Option.map_eq_some_iff] at hu
      obtain ⟨b, hb, rfl⟩ := hu
      obtain ⟨hj, hb'⟩ := List.getElem?_eq_some_iff.1 hb
      obtain ⟨g, off, h1, h2⟩ := hsl.2 (by have := hsl.1; omega)
      cases h1
      have h3 := h2 j (by have := hsl.1; omega)
      have hadd : (⟨g, off, none⟩ : Addr).add j = ⟨g, off + j, none⟩ := by unfold Addr.add; split <;> simp_all
      rw [hadd, h3]
      simp [hb]
    have hlm := hsl.1
    refine wpList_append_own_at _ hgd s x 22 ho 0 9 i0 (.string ⟨#[]⟩) 1 16 Tryd.underlying22 hi hz0 hz1 hz2 rfl (by decide) v ls.length (ls.map Value.string) hs hrow ad m c (news.map Value.string) hx (by simp [hlm])
      hcell (by intro u hu; obtain ⟨b, _, rfl⟩ := List.mem_map.1 hu; rfl) (by unfold maxLen; omega) (by omega) (Nat.zero_le _) ?_
    intro v' w' h2 h3 h4 h5
    have hr : SRow w' v' (ls ++ news) := by
      unfold SRow
      simpa [hlm] using h2
    obtain ⟨A', n', c', rfl⟩ := form v' w' _ hr
    exact h A' n' c' w' hr h3 h5

end Go.Proofs.YtmknhokjpmjkkaaDoor
