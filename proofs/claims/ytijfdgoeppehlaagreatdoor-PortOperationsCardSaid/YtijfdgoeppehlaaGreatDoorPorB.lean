/- port: Check; Encode, plain. -/
import Derived.Test.YtijfdgoeppehlaaGreatDoorPorA
import Derived.Test.YtijfdgoeppehlaaGreatDoorPlainN
namespace Go.Proofs.YtijfdgoeppehlaaGreatDoor
open Go.RowKit

theorem packsE_ok {ls : List PackT} (h : ∀ j, j < ls.length → packE (ls.getD j zeroPk) = 0) : packsE ls = 0 := by
  induction ls with
  | nil => rfl
  | cons s r ih =>
    have h0 : packE s = 0 := by simpa using h 0 (by simp)
    simp only [packsE, h0]
    exact ih (fun j hj => by simpa using h (j + 1) (by simpa using hj))
theorem packsE_bad {ls : List PackT} {k : Nat} (hk : k < ls.length) (h : ∀ j, j < k → packE (ls.getD j zeroPk) = 0) (hb : packE (ls.getD k zeroPk) ≠ 0) : packsE ls = packE (ls.getD k zeroPk) := by
  induction ls generalizing k with
  | nil => simp at hk
  | cons s r ih =>
    cases k with
    | zero => simp at hb ⊢; simp [packsE, hb]
    | succ k =>
      have h0 : packE s = 0 := by simpa using h 0 (by omega)
      simp only [packsE, h0]
      have := ih (k := k) (by simpa using hk) (fun j hj => by simpa using h (j + 1) (by omega)) (by simpa using hb)
      simpa using this
theorem packsE_size {ls : List PackT} (h : packsE ls = 0) : ∀ s ∈ ls, packE s = 0 := by
  induction ls with
  | nil => simp
  | cons s r ih =>
    intro x hx
    simp only [packsE] at h
    by_cases h0 : packE s ≠ 0
    · rw [if_pos h0] at h; exact absurd h h0
    · rw [if_neg h0] at h
      rcases List.mem_cons.1 hx with rfl | hx
      · omega
      · exact ih h x hx
theorem packE_size {p : PackT} (h : packE p = 0) : p.src.size ≤ 32 ∧ p.bytes.size ≤ 512 := by
  unfold packE at h
  split at h
  · cases h
  · rename_i h1
    split at h
    · cases h
    · rename_i h2
      have h3 : wordB p.src = true := by simpa using h1
      simp only [wordB, Bool.and_eq_true, decide_eq_true_eq] at h3
      omega
theorem checkQ_ok {p : PortT} (h : checkQ p = 0) : validB p.owner = true ∧ (0 ≤ p.epoch ∧ p.epoch ≤ 1073741824) ∧ (0 ≤ p.lost ∧ p.lost ≤ 1073741824) ∧ p.queue.length ≤ 16 ∧ packsE p.queue = 0 := by
  unfold checkQ at h
  by_cases h1 : validB p.owner = false
  · rw [if_pos h1] at h; cases h
  rw [if_neg h1] at h
  by_cases h2 : numB p.epoch = false ∨ numB p.lost = false
  · rw [if_pos h2] at h; cases h
  rw [if_neg h2] at h
  by_cases h3 : 16 < p.queue.length
  · rw [if_pos h3] at h; cases h
  rw [if_neg h3] at h
  simp [numB] at h2
  exact ⟨by simpa using h1, h2.1, h2.2, by omega, h⟩

/-- The encoding. -/
def packB (p : PackT) : List UInt8 := textB p.src ++ textB p.bytes
def packsB (ls : List PackT) : List UInt8 := ls.flatMap packB
def headQ (p : PortT) : List UInt8 := textB p.owner ++ natBytes p.epoch.toNat ++ natBytes p.lost.toNat ++ natBytes p.queue.length
def encQB (p : PortT) : List UInt8 := headQ p ++ packsB p.queue
def encQ (p : PortT) : ByteArray × Nat := if checkQ p = 0 then (strOf (encQB p), 0) else (⟨#[]⟩, checkQ p)
theorem packsB_snoc (ls : List PackT) (k : Nat) (hk : k < ls.length) : packsB (ls.take (k + 1)) = packsB (ls.take k) ++ natBytes (ls.getD k zeroPk).src.size ++ (ls.getD k zeroPk).src.data.toList ++ natBytes (ls.getD k zeroPk).bytes.size ++ (ls.getD k zeroPk).bytes.data.toList := by
  rw [List.take_succ_eq_append_getElem hk, List.getD_eq_getElem?_getD, List.getElem?_eq_getElem hk]
  simp only [packsB, List.flatMap_append, List.flatMap_cons, List.flatMap_nil, List.append_nil, packB, textB, Option.getD_some, List.append_assoc]
theorem packsB_length {ls : List PackT} (h : ∀ s ∈ ls, s.src.size ≤ 32 ∧ s.bytes.size ≤ 512) : (packsB ls).length ≤ ls.length * 564 := by
  induction ls with
  | nil => simp [packsB]
  | cons s r ih =>
    have h1 := ih (fun x hx => h x (List.mem_cons_of_mem _ hx))
    have h2 := textB_length s.src
    have h2' := textB_length s.bytes
    have h3 := h s (by simp)
    simp only [packsB, List.flatMap_cons, List.length_append, List.length_cons, packB] at h1 ⊢
    omega
theorem encQB_length {p : PortT} (h : checkQ p = 0) (ho : p.owner.size ≤ 1000) : (encQB p).length ≤ 65536 := by
  obtain ⟨_, _, _, h4, h5⟩ := checkQ_ok h
  have h1 := packsB_length (ls := p.queue) (fun s hs => packE_size (packsE_size h5 s hs))
  have h2 := textB_length p.owner
  have e1 := natBytes_length p.epoch.toNat
  have e2 := natBytes_length p.lost.toNat
  have e3 := natBytes_length p.queue.length
  simp only [encQB, headQ, List.length_append]
  omega
theorem encQ_size {p : PortT} (ho : p.owner.size ≤ 1000) : (encQ p).1.size ≤ 65536 := by
  unfold encQ
  split
  · rename_i h
    have : (strOf (encQB p)).size = (encQB p).length := by rw [← size_toList]; rfl
    rw [this]
    exact encQB_length h ho
  · exact Nat.zero_le _

set_option maxRecDepth 100000 in
set_option maxHeartbeats 2000000 in
theorem portCheck_any (ow : ByteArray) (ep lo : Int) (a : Option Addr) (n c : Nat) (ls : List PackT) (w : World) (hs : PSl w a n ls) (how : ow.size ≤ 70368744177664) (hn : n ≤ 70368744177664) (hls : ∀ s ∈ ls, s.src.size ≤ 70368744177664 ∧ s.bytes.size ≤ 70368744177664) :
    Calls Tryz.prog 77 #[.agg #[.string ow, .int .i64 ep, .int .i64 lo, .slice a n c]] w fun r w' => r = .returned (.int .i64 (checkQ ⟨ow, ep, lo, ls⟩)) ∧ Below w.heap.size w w' := by
  have Hs := Lib.hid hs; clear hs
  have Hls := Lib.hid hls; clear hls
  have Hbx : Hid (∀ v t, Below w.heap.size w (w.alloc (.cells v t))) := fun v t => (Below.refl _ _).alloc (Nat.le_refl _) _
  go_enter Tryz.func77, Tryz.ntmps77
  go_wp2_with fail
  cases h2 : validB ow with
  | false =>
    refine (valid_is ow _ how h2 _).mono ?_
    rintro e w1 ⟨rfl, hb1⟩
    have he : Hid (checkQ ⟨ow, ep, lo, ls⟩ = 12) := by show _ = _; simp [checkQ, h2]
    go_wp2
    go_ret
    rw [he.out]
    exact ⟨rfl, (Hbx.out _ _).trans (hb1.mono (by simp))⟩
  | true =>
    refine (valid_is ow _ how h2 _).mono ?_
    rintro e w1 ⟨rfl, hb1⟩
    have q : ∀ j, w1.cell? ⟨w.heap.size, j, none⟩ = (#[.string ow, .int .i64 ep, .int .i64 lo, .slice a n c] : Array Value)[j]? := fun j => ((bcell hb1).1 _ _ (by simp)).trans (cell_of_heap (World.alloc_heap_new w _) j)
    have q1 := q 1
    have q2 := q 2
    have q3 := q 3
    dsimp at q1 q2 q3
    have Hb1 : Hid (Below w.heap.size w w1) := (Hbx.out _ _).trans (hb1.mono (by simp))
    have HS1 : Hid (PSl w1 a n ls) := Hs.out.later Hb1.out
    have hln := HS1.out.1
    have Hln := Lib.hid hln; clear hln
    clear q hb1 Hs Hbx
    go_wp2_with fail
    cases h1 : numB ep with
    | false =>
      refine (isNumber_is ep _ h1 _).mono ?_
      rintro e w2 ⟨rfl, rfl⟩
      have he : Hid (checkQ ⟨ow, ep, lo, ls⟩ = 2) := by show _ = _; simp [checkQ, h2, h1]
      go_wp2
      go_ret
      rw [he.out]
      exact ⟨rfl, Hb1.out⟩
    | true =>
      refine (isNumber_is ep _ h1 _).mono ?_
      rintro e w2 ⟨rfl, rfl⟩
      go_wp2_with fail
      cases h3 : numB lo with
      | false =>
        refine (isNumber_is lo _ h3 _).mono ?_
        rintro e w2 ⟨rfl, rfl⟩
        have he : Hid (checkQ ⟨ow, ep, lo, ls⟩ = 2) := by show _ = _; simp [checkQ, h2, h3]
        go_wp2
        go_ret
        rw [he.out]
        exact ⟨rfl, Hb1.out⟩
      | true =>
        refine (isNumber_is lo _ h3 _).mono ?_
        rintro e w2 ⟨rfl, rfl⟩
        by_cases h4 : 16 < n
        · have he : Hid (checkQ ⟨ow, ep, lo, ls⟩ = 9) := by show _ = _; simp [checkQ, h1, h2, h3, Hln.out, h4]
          go_wp2
          go_ret
          rw [he.out]
          exact ⟨rfl, Hb1.out⟩
        · have Hck : Hid (checkQ ⟨ow, ep, lo, ls⟩ = packsE ls) := by show _ = _; simp [checkQ, h1, h2, h3, Hln.out, h4]
          go_wp2
          go_loopw [27] (fun i wr => ∃ k : Nat, k ≤ n ∧ i = .int .i64 k ∧ Hid (∀ j, j < k → packE (ls.getD j zeroPk) = 0) ∧ Hid (Below w1.heap.size w1 wr)) (fun i _ => n - (intOf i).toNat)
          case atStart => exact ⟨0, by omega, rfl, fun j hj => by omega, Below.refl _ _⟩
          case round =>
            obtain ⟨k, hk, rfl, Hd, HB⟩ := hrel
            have HBe : Hid (Below w.heap.size w wr) := Hb1.out.trans (HB.out.mono Hb1.out.size)
            by_cases h5 : k < n
            · obtain ⟨g, off, rfl, hcell⟩ := HS1.out.2 (by omega)
              have hlt := World.block_lt_of_cell? w1 ⟨g, _, none⟩ (hcell k h5).1
              have hck1 : wr.cell? ⟨g, off + k * 2, none⟩ = some (.string (ls.getD k zeroPk).src) := ((bcell HB.out).1 _ _ hlt).trans (hcell k h5).1
              have hck2 : wr.cell? ⟨g, off + k * 2 + 1, none⟩ = some (.string (ls.getD k zeroPk).bytes) := ((bcell HB.out).1 _ _ hlt).trans (hcell k h5).2
              clear hcell hlt
              have hszk : (ls.getD k zeroPk).src.size ≤ 70368744177664 ∧ (ls.getD k zeroPk).bytes.size ≤ 70368744177664 := by
                rw [List.getD_eq_getElem?_getD, List.getElem?_eq_getElem (by rw [Hln.out]; exact h5)]
                exact Hls.out _ (List.getElem_mem _)
              have HBa : Hid (∀ o, Below w1.heap.size w1 (wr.alloc o)) := fun o => HB.out.alloc HB.out.size _
              by_cases h6 : packE (ls.getD k zeroPk) = 0
              · have Hstep : Hid (∀ j, j < k + 1 → packE (ls.getD j zeroPk) = 0) := fun j hj => by
                  by_cases hjk : j = k
                  · subst hjk; exact h6
                  · exact Hd.out j (by omega)
                generalize ls.getD k zeroPk = lk at *
                obtain ⟨src, by_⟩ := lk
                dsimp only at hck1 hck2 hszk
                go_wp2_with fail
                refine (packCheck_is src by_ 0 h6 _ (by omega) (by omega)).mono ?_
                rintro e w2 ⟨rfl, hb2⟩
                have HBn : Hid (Below w1.heap.size w1 w2) := (HBa.out _).trans (hb2.mono (HBa.out _).size)
                clear hb2
                go_wp2
                go_roundw
                case rel => exact ⟨k + 1, by omega, by go_num, Hstep.out, HBn.out⟩
                case measure => simp [intOf]; omega
              · have he : Hid (packsE ls = packE (ls.getD k zeroPk)) := packsE_bad (by rw [Hln.out]; exact h5) Hd.out h6
                generalize ls.getD k zeroPk = lk at *
                obtain ⟨src, by_⟩ := lk
                dsimp only at hck1 hck2 hszk
                generalize hq : packE ⟨src, by_⟩ = q at *
                have Hq := Lib.hid hq; clear hq
                have h6' : ((q : Int) != 0) = true := bne_iff_ne.2 (by omega)
                go_wp2_with fail
                refine (packCheck_is src by_ q Hq.out _ (by omega) (by omega)).mono ?_
                rintro e w2 ⟨rfl, hb2⟩
                have HBn : Hid (Below w1.heap.size w1 w2) := (HBa.out _).trans (hb2.mono (HBa.out _).size)
                clear hb2
                go_wp2
                go_ret
                rw [Hck.out, he.out]
                exact ⟨rfl, Hb1.out.trans (HBn.out.mono Hb1.out.size)⟩
            · have hall : Hid (packsE ls = 0) := packsE_ok (fun j hj => Hd.out j (by rw [Hln.out] at hj; omega))
              go_wp2
              go_ret
              rw [Hck.out, hall.out]
              exact ⟨rfl, HBe.out⟩
theorem portCheck_is (ow : ByteArray) (ep lo : Int) (a : Option Addr) (n c : Nat) (ls : List PackT) (q : Nat) (hq : checkQ ⟨ow, ep, lo, ls⟩ = q) (w : World) (hs : PSl w a n ls) (how : ow.size ≤ 70368744177664) (hn : n ≤ 70368744177664) (hls : ∀ s ∈ ls, s.src.size ≤ 70368744177664 ∧ s.bytes.size ≤ 70368744177664) :
    Calls Tryz.prog 77 #[.agg #[.string ow, .int .i64 ep, .int .i64 lo, .slice a n c]] w fun r w' => r = .returned (.int .i64 q) ∧ Below w.heap.size w w' := by
  subst hq; exact portCheck_any ow ep lo a n c ls w hs how hn hls

end Go.Proofs.YtijfdgoeppehlaaGreatDoor
