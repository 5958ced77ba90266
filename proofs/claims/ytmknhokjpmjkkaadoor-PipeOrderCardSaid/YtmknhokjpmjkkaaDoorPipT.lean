/- PipeOrder: the walk. -/
import Derived.Test.YtmknhokjpmjkkaaDoorPipR
import Derived.Test.YtmknhokjpmjkkaaDoorPipL
namespace Go.Proofs.YtmknhokjpmjkkaaDoor
open Go.RowKit
attribute [local go_sem ↓] Go.wp_at_zero Go.wp_at_succ

structure OpT where
  kd : Nat
  e : Int
  n : Int
  s : ByteArray
  x : Bool
/-- A slice of operations that can be read. -/
def OpSl (w : World) (a : Option Addr) (n : Nat) (f : Nat → OpT) : Prop :=
  0 < n → ∃ g off, a = some ⟨g, off, none⟩ ∧ ∀ j, j < n → w.cell? ⟨g, off + j * 5, none⟩ = some (.int .u8 (f j).kd) ∧ w.cell? ⟨g, off + j * 5 + 1, none⟩ = some (.int .i64 (f j).e) ∧ w.cell? ⟨g, off + j * 5 + 2, none⟩ = some (.int .i64 (f j).n) ∧ w.cell? ⟨g, off + j * 5 + 3, none⟩ = some (.string (f j).s) ∧ w.cell? ⟨g, off + j * 5 + 4, none⟩ = some (.bool (f j).x) ∧
    (f j).kd ≤ 255 ∧ (f j).n ≤ 9223372036854775807 ∧ (f j).s.size ≤ 9223372036854775807
theorem OpSl.later {w w' : World} {a : Option Addr} {n : Nat} {f : Nat → OpT} (h : OpSl w a n f) (hb : Below w.heap.size w w') : OpSl w' a n f := fun h0 => by
  obtain ⟨g, off, ha, hc⟩ := h h0
  refine ⟨g, off, ha, fun j hj => ?_⟩
  have hlt := World.block_lt_of_cell? w ⟨g, _, none⟩ (hc j hj).1
  obtain ⟨h1, h2, h3, h4, h5, h6⟩ := hc j hj
  exact ⟨((bcell hb).1 g _ hlt).trans h1, ((bcell hb).1 g _ hlt).trans h2, ((bcell hb).1 g _ hlt).trans h3, ((bcell hb).1 g _ hlt).trans h4, ((bcell hb).1 g _ hlt).trans h5, h6⟩
def OInv (w0 w : World) (b k : Nat) (inn out : ByteArray) : Prop := ∃ N p, N ≤ k + 1 ∧ SP w0 w b N (some p) (fun _ => False) ∧ p.epoch = 1 ∧ inn = out ++ p.bytes
theorem po_ep : pEpochB 1 = true := by decide +kernel
theorem po_make : (if (none : Option PipeT).isSome = true then ((none : Option PipeT), 13, 0) else (some ⟨1, 1, 1, ⟨#[]⟩⟩, 0, 1)) = (some ⟨1, 1, 1, ⟨#[]⟩⟩, 0, 1) := rfl

set_option maxRecDepth 100000 in
set_option maxHeartbeats 2000000 in
theorem order_any (a : Option Addr) (n c : Nat) (f : Nat → OpT) (w : World) (hu : Usages w) (hn : n ≤ 9223372036854775807) (hl : OpSl w a n f) : Calls Tryd.prog 11 #[.slice a n c] w (TruePost w) := by
  have Hu := Lib.hid hu; clear hu
  have Hl := Lib.hid hl; clear hl
  go_enter Tryd.func11, Tryd.ntmps11
  go_wp2_with fail
  refine (pKnown_any _ Hu.out).mono ?_
  rintro e w1 ⟨rfl, hb1⟩
  have Hb1 := Lib.hid hb1; clear hb1
  have Hu1 := Lib.hid (Hu.out.below Hb1.out Hu.out.pos)
  go_wp2_with fail
  refine (spNew w1 Hu1.out).mono ?_
  rintro e w2 ⟨rfl, hnew⟩
  have Hnew := Lib.hid hnew; clear hnew
  go_wp2_with fail
  refine Hnew.out.mono ?_
  rintro e w3 ⟨rfl, s0⟩
  clear Hnew Hu1
  have S0 := Lib.hid s0; clear s0
  go_wp2_with fail
  refine (one_any _).mono ?_
  rintro e w4 ⟨rfl, hb⟩
  have S1 := Lib.hid (S0.out.later hb); clear hb S0
  go_wp2_with fail
  refine (spMake w1 w4 _ 0 none _ 1 S1.out (by decide) po_ep _ 0 1 po_make).mono ?_
  rintro e w5 ⟨rfl, s, -⟩
  have A0 : Hid (OInv w1 w5 (w1.heap.size + 3) 0 ⟨#[]⟩ ⟨#[]⟩) := ⟨_, _, Nat.le_refl _, s, rfl, rfl⟩
  clear s S1
  go_wp2_with fail
  go_loopg [4, 5, 6] n (fun gk iv ov i wr => ∃ (k : Nat) (inn out : ByteArray), k + gk = n ∧ i = .int .i64 k ∧ iv = .string inn ∧ ov = .string out ∧ inn.size ≤ 256 * k ∧ out.size ≤ 256 * k ∧ k ≤ 40 ∧ Hid (OInv w1 wr (w1.heap.size + 3) k inn out))
  case atStart => exact ⟨0, ⟨#[]⟩, ⟨#[]⟩, by omega, rfl, rfl, rfl, Nat.zero_le _, Nat.zero_le _, by omega, A0.out⟩
  case round =>
    clear A0
    obtain ⟨k, inn, out, hk, rfl, rfl, rfl, hin, hout, hk40, HA⟩ := hrel
    have Hk := Lib.hid hk
    have hkn : k ≤ n := by omega
    clear hk
    obtain ⟨N, p, hN, sp, hp, hio⟩ := HA.out
    have S := Lib.hid sp; clear sp
    have Hp := Lib.hid hp; clear hp
    have Hio := Lib.hid hio; clear hio
    have HB : Hid (Below w.heap.size w wr) := Hb1.out.trans (S.out.below.mono Hb1.out.size)
    by_cases hlt : k < n ∧ k < 40
    · obtain ⟨hlt, hlt40⟩ := hlt
      obtain ⟨g, off, rfl, hc⟩ := Hl.out.later HB.out (by omega)
      obtain ⟨c0, c1, c2, c3, c4, hkd, hnn, hss⟩ := hc k hlt
      clear hc
      generalize f k = o at *
      obtain ⟨kd, oe, on, os_, ox⟩ := o
      dsimp only at *
      by_cases h6 : kd % 8 = 6
      · have h6' : (kd : Int) % 8 = 6 := by omega
        have HA2 : Hid (∀ o, OInv w1 (wr.alloc o) (w1.heap.size + 3) (k + 1) inn out) := fun o => ⟨N, p, by omega, S.out.later ((Below.refl _ _).alloc (Nat.le_refl _) _), Hp.out, Hio.out⟩
        clear HA
        go_wp2
        go_roundg (n - (k + 1))
        case measure => have := Hk.out; omega
        case rel => exact ⟨k + 1, inn, out, by have := Hk.out; omega, by go_num, rfl, rfl, by omega, by omega, by omega, HA2.out _⟩
      · have h6' : ((kd : Int) % 8 == 6) = false := beq_eq_false_iff_ne.2 (by omega)
        have hdo := ostep kd on os_ ox p Hp.out S.out.check h6
        obtain ⟨o', r, d, hR⟩ : ∃ o' r d, doR kd 1 on os_ ox (some p) = (o', r, d) := ⟨_, _, _, rfl⟩
        rw [hR] at hdo
        have HR := Lib.hid hR; clear hR
        dsimp only at hdo
        obtain ⟨⟨p', rfl, hp', hw, hr⟩, ⟨hn1, hn2⟩, hbz, hd⟩ := hdo
        have Hp' := Lib.hid hp'; clear hp'
        have Hw := Lib.hid hw; clear hw
        have Hr := Lib.hid hr; clear hr
        have S2 : Hid (∀ o, SP w1 (wr.alloc o) (w1.heap.size + 3) N (some p) (fun j => j = wr.heap.size)) := fun o => S.out.fresh ((Below.refl _ _).alloc (Nat.le_refl _) _) (fun j hj => .inr (by subst hj; simp))
        have HX : Hid (∀ o, (wr.alloc o).heap[wr.heap.size]? = some o) := fun o => heap_alloc_new wr o
        clear HA
        obtain ⟨er, nr, br, pr⟩ := r
        dsimp only at *
        go_wp2_with fail
        refine (do_any w1 _ _ N _ _ kd 1 on os_ ox hkd (S2.out _) (by omega) po_ep hnn hss _ _ d HR.out).mono ?_
        rintro e w6 ⟨rfl, s6, hk6⟩
        have hX6 := (hk6 _ rfl).trans (HX.out _)
        have b0 : w6.cell? ⟨wr.heap.size, 0, none⟩ = some (.int .u8 kd) := cell_of_heap hX6 0
        have b3 : w6.cell? ⟨wr.heap.size, 3, none⟩ = some (.string os_) := cell_of_heap hX6 3
        have hlt6 := lt_of_heap hX6
        have hne6 := World.new_ne w6 ⟨wr.heap.size, 0, none⟩ b0
        have S6 : Hid (∀ o, SP w1 (w6.alloc o) (w1.heap.size + 3) (N + d) (some p') (fun _ => False)) := fun o => s6.fresh ((Below.refl _ _).alloc (Nat.le_refl _) _) (fun j hj => hj.elim)
        clear s6 hk6 hX6 HX S2 S
        simp only [resV]
        by_cases hwr : kd % 8 = 3 ∨ kd % 8 = 4
        · obtain ⟨hbr, hby⟩ := Hw.out hwr
          have HA6 : Hid (∀ o, OInv w1 (w6.alloc o) (w1.heap.size + 3) (k + 1) (inn ++ os_.extract 0 nr) (out ++ br)) := fun o => ⟨N + d, p', by omega, S6.out o, Hp'.out, by
            have e1 : out ++ br = out := append_emp (by rw [hbr]; rfl)
            rw [Hio.out, e1, hby, ByteArray.append_assoc]⟩
          clear hbr hby
          have hez : (os_.extract 0 nr).size ≤ 256 := by rw [ByteArray.size_extract]; omega
          have hways : ((kd : Int) % 8 == 3) = true ∨ (((kd : Int) % 8 == 3) = false ∧ ((kd : Int) % 8 == 4) = true) := by
            rcases hwr with h | h
            · exact .inl (beq_iff_eq.2 (by omega))
            · exact .inr ⟨beq_eq_false_iff_ne.2 (by omega), beq_iff_eq.2 (by omega)⟩
          clear hwr h6
          have hnr : (nr : Int) ≤ (os_.size : Int) := by omega
          rcases hways with h7 | ⟨h7, h8⟩
          all_goals
            go_wp2
            go_roundg (n - (k + 1))
            case measure => have := Hk.out; omega
            case rel => exact ⟨k + 1, _, _, by have := Hk.out; omega, by go_num, rfl, rfl, by rw [ByteArray.size_append]; omega, by rw [ByteArray.size_append]; omega, by omega, HA6.out _⟩
        · have hrr := Hr.out hwr
          have HA6 : Hid (∀ o, OInv w1 (w6.alloc o) (w1.heap.size + 3) (k + 1) inn (out ++ br)) := fun o => ⟨N + d, p', by omega, S6.out o, Hp'.out, by
            rw [Hio.out, ← hrr, ByteArray.append_assoc]⟩
          clear hrr
          have h7 : ((kd : Int) % 8 == 3) = false := beq_eq_false_iff_ne.2 (by omega)
          have h8 : ((kd : Int) % 8 == 4) = false := beq_eq_false_iff_ne.2 (by omega)
          clear hwr h6
          go_wp2
          go_roundg (n - (k + 1))
          case measure => have := Hk.out; omega
          case rel => exact ⟨k + 1, _, _, by have := Hk.out; omega, by go_num, rfl, rfl, by omega, by rw [ByteArray.size_append]; omega, by omega, HA6.out _⟩
    · have hways : ¬ k < n ∨ (k < n ∧ ¬ k < 40) := by omega
      clear hlt HA
      have hck := S.out.check
      have hpb : p.bytes.size ≤ 256 := (checkP_ok hck).2.2.2.2
      have Hph := Lib.hid (pHas_at Hp.out)
      obtain ⟨ep, re, wr_, by_⟩ := p
      dsimp only at *
      have hx : (inn.toList == (out ++ by_).toList) = true := by rw [Hio.out]; exact beq_self_eq_true _
      have hlen : decide ((by_.size : Int) ≤ 256) = true := decide_eq_true (by omega)
      clear hck
      rcases hways with h5 | ⟨h5, h5'⟩
      all_goals
        go_wp2_with fail
        refine (one_any _).mono ?_
        rintro e w6 ⟨rfl, hb⟩
        have S2 := Lib.hid (S.out.later hb); clear hb S
        go_wp2_with fail
        refine (spGet4 w1 w6 _ N _ _ 1 S2.out po_ep ep re wr_ by_ 0 Hph.out).mono ?_
        rintro e w7 ⟨rfl, s7, -⟩
        have Hfin : Hid (∀ o, Below w.heap.size w (w7.alloc o)) := fun o => (Hb1.out.trans (s7.below.mono Hb1.out.size)).trans (((Below.refl _ _).alloc (Nat.le_refl _) _).mono (Nat.le_trans Hb1.out.size s7.below.size))
        clear s7 S2
        go_wp2
        go_ret
        exact ⟨rfl, Hfin.out _⟩

end Go.Proofs.YtmknhokjpmjkkaaDoor
