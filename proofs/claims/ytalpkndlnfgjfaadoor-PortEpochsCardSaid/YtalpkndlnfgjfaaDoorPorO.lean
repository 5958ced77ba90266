/- PortEpochs: the walk. -/
import Derived.Test.YtalpkndlnfgjfaaDoorPorN
namespace Go.Proofs.YtalpkndlnfgjfaaDoor
open Go.RowKit
attribute [local go_sem ↓] Go.wp_at_zero Go.wp_at_succ

theorem u64_nonneg (x : Int) : 0 ≤ IntKind.u64.wrap x := by
  simp [IntKind.wrap, IntKind.signed, IntKind.bits]
  omega
theorem u64_tmod (x : Int) (d : Nat) (hd : 0 < d) : ∃ k : Nat, k < d ∧ (IntKind.u64.wrap x).tmod d = k := by
  obtain ⟨n, hn⟩ := Int.eq_ofNat_of_zero_le (u64_nonneg x)
  refine ⟨n % d, Nat.mod_lt _ hd, ?_⟩
  rw [hn]
  rfl
def n1 : ByteArray := ⟨#[49]⟩
def n2 : ByteArray := ⟨#[50]⟩
theorem n1_valid : validB ⟨#[49]⟩ = true := by decide +kernel
theorem n2_valid : validB ⟨#[50]⟩ = true := by decide +kernel
theorem n21 : (⟨#[50]⟩ : ByteArray) ≠ ⟨#[49]⟩ := by decide
theorem ep_args {who : ByteArray} {m : Int} {k : Nat} (hw : validB who = true) (hm : 100 ≤ m ∧ m ≤ 9999) (hk : k < 1000) : qArgs who m k = 0 := by
  unfold qArgs
  rw [if_neg (by rw [hw]; simp), if_neg (by simp [numB]; omega)]
theorem ep_open {who : ByteArray} {us m : Int} {k : Nat} {o : Option PortT} (hw : validB who = true) (hm : 100 ≤ m ∧ m ≤ 9999) (hk : k < 1000) (ho : (qHas k o).2 ≠ 0) : openStep who us m k o = (some ⟨who, k, 0, []⟩, 0, 1) := by
  unfold openStep
  rw [ep_args hw hm hk, if_neg (by simp), if_neg (by omega), if_neg ho]
theorem ep_busy {who : ByteArray} {us m : Int} {k : Nat} {p : PortT} (hw : validB who = true) (hm : 100 ≤ m ∧ m ≤ 9999) (hk : k < 1000) (hp : p.epoch = k) : openStep who us m k (some p) = (some p, 19, 0) := by
  unfold openStep
  rw [ep_args hw hm hk, if_neg (by simp), if_neg (by omega), if_pos (by simp [qHas, hp])]
theorem ep_has {k : Nat} {p : PortT} (hp : p.epoch = k) : qHas k (some p) = (p, 0) := by simp [qHas, hp]
theorem ep_hasnot {k : Nat} {p : PortT} (hp : p.epoch ≠ k) : qHas k (some p) = (zeroQ, 8) := by simp [qHas, hp]
theorem ep_close8 {who : ByteArray} {m : Int} {k : Nat} {p : PortT} (hw : validB who = true) (hm : 100 ≤ m ∧ m ≤ 9999) (hk : k < 1000) (hp : p.epoch ≠ k) : closeStep who m k (some p) = (some p, 8, 0) := by
  unfold closeStep
  rw [ep_args hw hm hk, if_neg (by simp), ep_hasnot hp, if_pos (by simp)]
theorem ep_close14 {who : ByteArray} {m : Int} {k : Nat} {p : PortT} (hw : validB who = true) (hm : 100 ≤ m ∧ m ≤ 9999) (hk : k < 1000) (hp : p.epoch = k) (ho : p.owner ≠ who) : closeStep who m k (some p) = (some p, 14, 0) := by
  unfold closeStep
  rw [ep_args hw hm hk, if_neg (by simp), ep_has hp, if_neg (by simp), if_pos ho]
theorem ep_close0 {who : ByteArray} {m : Int} {k : Nat} {p : PortT} (hw : validB who = true) (hm : 100 ≤ m ∧ m ≤ 9999) (hk : k < 1000) (hp : p.epoch = k) (ho : p.owner = who) : closeStep who m k (some p) = (none, 0, 1) := by
  unfold closeStep
  rw [ep_args hw hm hk, if_neg (by simp), ep_has hp, if_neg (by simp), if_neg (by simp [ho])]

set_option maxRecDepth 100000 in
set_option maxHeartbeats 1600000 in
theorem epochs_any (x y z : Int) (w : World) (hu : Usages w) : Calls Tryd.prog 6 #[.int .i64 x, .int .i64 y, .int .i64 z] w (TruePost w) := by
  have Hu := Lib.hid hu; clear hu
  obtain ⟨kx, hkx, ex⟩ := u64_tmod x 9900 (by decide)
  obtain ⟨ky, hky, ey⟩ := u64_tmod y 1000 (by decide)
  obtain ⟨kz, hkz, ez⟩ := u64_tmod z 1000 (by decide)
  have ex : (IntKind.u64.wrap x).tmod 9900 = (kx : Int) := ex
  have ey : (IntKind.u64.wrap y).tmod 1000 = (ky : Int) := ey
  have ez : (IntKind.u64.wrap z).tmod 1000 = (kz : Int) := ez
  obtain ⟨m, hm, em⟩ : ∃ m : Int, (100 ≤ m ∧ m ≤ 9999) ∧ 100 + (kx : Int) = m := ⟨_, by omega, rfl⟩
  go_enter Tryd.func6, Tryd.ntmps6
  go_wp2_with fail
  refine (qKnown_any _ Hu.out).mono ?_
  rintro e w1 ⟨rfl, hb⟩
  have HB1 := Lib.hid hb; clear hb
  have Hu1 := Lib.hid (Hu.out.below HB1.out Hu.out.pos)
  go_wp2_with fail
  refine (sqNew w1 Hu1.out m).mono ?_
  rintro e w2 ⟨rfl, hnew⟩
  have Hnew := Lib.hid hnew; clear hnew
  go_wp2_with fail
  refine Hnew.out.mono ?_
  rintro e w3 ⟨rfl, s⟩
  clear Hnew
  have S0 := Lib.hid s; clear s
  go_wp2_with fail
  refine (sqOpen w1 w3 _ 0 m none _ S0.out (by decide) ⟨#[49]⟩ 1 ky (kq_sz _) _ 0 1 (ep_open n1_valid hm hky (by simp [qHas]))).mono ?_
  rintro e w4 ⟨rfl, s, -⟩
  have S1 := Lib.hid s
  clear s S0
  by_cases hyz : ky = kz
  · subst hyz
    go_wp2_with fail
    refine (sqOpen w1 w4 _ _ m _ _ S1.out (by decide) ⟨#[50]⟩ 2 ky (kq_sz _) _ 19 0 (ep_busy n2_valid hm hky rfl)).mono ?_
    rintro e w5 ⟨rfl, s, -⟩
    have S2 := Lib.hid s
    clear s S1
    go_wp2_with fail
    refine (sqGet w1 w5 _ _ m _ _ S2.out ky (by omega) (by simp [numB]; omega) _ 0 (ep_has rfl)).mono ?_
    rintro e w6 ⟨a, n, c, rfl, -, -, s, -⟩
    have HB6 : Hid (∀ o', Below w.heap.size w (w6.alloc o')) := fun o' => HB1.out.trans ((s.below.alloc s.below.size _).mono HB1.out.size)
    clear s S2
    dsimp only
    go_wp2
    go_ret
    exact ⟨rfl, HB6.out _⟩
  · have hyz' : ((ky : Int) == (kz : Int)) = false := beq_eq_false_iff_ne.2 (by omega)
    have hne : ((ky : Nat) : Int) ≠ (kz : Nat) := by omega
    have hne' : ((kz : Nat) : Int) ≠ (ky : Nat) := by omega
    have Hne := Lib.hid hne
    have Hne' := Lib.hid hne'
    clear hne hne' hyz
    go_wp2_with fail
    refine (sqOpen w1 w4 _ _ m _ _ S1.out (by decide) ⟨#[50]⟩ 2 kz (kq_sz _) _ 0 1 (ep_open n2_valid hm hkz (by rw [ep_hasnot Hne.out]; simp))).mono ?_
    rintro e w5 ⟨rfl, s, -⟩
    have S2 := Lib.hid s
    clear s S1
    go_wp2_with fail
    refine (sqGet w1 w5 _ _ m _ _ S2.out ky (by omega) (by simp [numB]; omega) _ 8 (ep_hasnot Hne'.out)).mono ?_
    rintro e w6 ⟨a, n, c, rfl, -, -, s, -⟩
    have S3 : Hid (∀ o', SQ w1 (w6.alloc o') (w1.heap.size + 3) _ m _ (fun _ => False)) := fun o' => s.fresh ((Below.refl _ _).alloc (Nat.le_refl _) _) (fun k hk => hk.elim)
    clear s S2
    dsimp only [zeroQ]
    go_wp2_with fail
    refine (sqGet w1 _ _ _ m _ _ (S3.out _) kz (by omega) (by simp [numB]; omega) _ 0 (ep_has rfl)).mono ?_
    rintro e w7 ⟨a2, n2, c2, rfl, -, -, s, -⟩
    have S4 : Hid (∀ o', SQ w1 (w7.alloc o') (w1.heap.size + 3) _ m _ (fun k => k = w7.heap.size)) := fun o' => s.fresh ((Below.refl _ _).alloc (Nat.le_refl _) _) (fun k hk => .inr (by subst hk; simp))
    clear s S3
    dsimp only
    go_wp2_with fail
    refine (sqClose w1 _ _ _ m _ _ (S4.out _) (by decide) ⟨#[49]⟩ ky (kq_sz _) _ 8 0 (ep_close8 n1_valid hm hky Hne'.out)).mono ?_
    rintro e w8 ⟨rfl, s, -⟩
    have S5 := Lib.hid s
    clear s S4
    go_wp2_with fail
    refine (sqClose w1 w8 _ _ m _ _ S5.out (by decide) ⟨#[49]⟩ kz (kq_sz _) _ 14 0 (ep_close14 n1_valid hm hkz rfl n21)).mono ?_
    rintro e w9 ⟨rfl, s, -⟩
    have S6 := Lib.hid s
    clear s S5
    go_wp2_with fail
    refine (sqClose w1 w9 _ _ m _ _ S6.out (by decide) ⟨#[50]⟩ kz (kq_sz _) _ 0 1 (ep_close0 n2_valid hm hkz rfl rfl)).mono ?_
    rintro e w10 ⟨rfl, s, -⟩
    have HB10 : Hid (Below w.heap.size w w10) := HB1.out.trans (s.below.mono HB1.out.size)
    clear s S6
    go_wp2
    go_ret
    exact ⟨rfl, HB10.out⟩

end Go.Proofs.YtalpkndlnfgjfaaDoor
