/- Law 24: Do, whatever the operation. (printed by wip/gen_do24.py) -/
import Derived.Test.YthghfhnicdoebaaGreatDoorDoB
import Derived.Test.YthghfhnicdoebaaGreatDoorDoC
import Derived.Test.YthghfhnicdoebaaGreatDoorDoD
namespace Go.Proofs.YthghfhnicdoebaaGreatDoor
open Go.RowKit

/-- Do, whatever the operation. -/
theorem do_any (w0 w : World) (b M : Nat) (V : AV) (G : Nat → Prop) (s : QM w0 w b M V G) (ab ar ac : Option Addr) (nb nr nc kb kr kc : Nat) (l : List (NameT × ByteArray)) (rs : List NameT) (cs : List ChangeT) (hl : RowK kE w (.slice ab nb kb) l) (hr : RowK kN w (.slice ar nr kr) rs) (hc : RowK kC w (.slice ac nc kc) cs) (hlG : ∀ k, (Value.slice ab nb kb).ownBlock = some k → G k ∨ k < w0.heap.size) (hrG : ∀ k, (Value.slice ar nr kr).ownBlock = some k → G k) (hcG : ∀ k, (Value.slice ac nc kc).ownBlock = some k → G k)
    (o : OpV) (hkd : o.kd ≤ 255) (ho : o.c.name.owner.size ≤ 9223372036854775807) (ht : o.c.name.text.size ≤ 9223372036854775807) (hv : o.c.value.size ≤ 9223372036854775807) (hl1 : l.length ≤ 1000000) (hl2 : rs.length ≤ 100000) (hl3 : cs.length ≤ 100000) (hs : SortL cmpN l) (hfe : ∀ e ∈ l, FitN e.1) (hcV : V.calls = cs) (hgot : o.kd % 8 ≤ 2 → gotA V (shortO o).c.name = (getR l rs cs (shortO o).c.name).2) :
    Calls Tryz.prog 11 #[.pointer (some ⟨b, 0, none⟩), .agg #[.slice ab nb kb, .slice ar nr kr, .slice ac nc kc], .agg #[.int .u8 o.kd, .int .i64 o.c.name.kind, .string o.c.name.owner, .int .i64 o.c.name.number, .int .i64 o.c.name.index, .string o.c.name.text, .string o.c.value, .bool o.c.absent, .int .i64 o.n]] w (DoPost w0 w b M (stepA V (shortO o)) G (.slice ab nb kb) (.slice ar nr kr) (.slice ac nc kc) (stepR l rs cs (shortO o))) := by
  have hf : FitN (shortC o.c).name := by
    have h1 := cutB_size o.c.name.owner 100
    have h2 := cutB_size o.c.name.text 100
    unfold FitN shortC
    dsimp only
    omega
  have hx : (shortC o.c).value.size ≤ 65536 := by have := short_size o.c; omega
  have e0 : (shortO o).kd % 8 ≤ 2 → stepA V (shortO o) = seenA V (shortC o.c).name ∧ stepR l rs cs (shortO o) = ((getR l rs cs (shortC o.c).name).1, cs) := fun h => ⟨if_pos h, if_pos h⟩
  have e3 : (shortO o).kd % 8 = 3 ∨ (shortO o).kd % 8 = 4 → stepA V (shortO o) = (putA V ⟨(shortC o.c).name, (shortC o.c).value, false⟩).1 ∧ stepR l rs cs (shortO o) = (rs, (callR cs ⟨(shortC o.c).name, (shortC o.c).value, false⟩).1) := fun h => ⟨(if_neg (by omega)).trans (if_pos (by omega)), (if_neg (by omega)).trans (if_pos (by omega))⟩
  have e5 : (shortO o).kd % 8 = 5 → stepA V (shortO o) = (putA V ⟨(shortC o.c).name, ⟨#[]⟩, true⟩).1 ∧ stepR l rs cs (shortO o) = (rs, (callR cs ⟨(shortC o.c).name, (shortC o.c).value, true⟩).1) := fun h => ⟨(if_neg (by omega)).trans ((if_neg (by omega)).trans (if_pos h)), (if_neg (by omega)).trans ((if_neg (by omega)).trans (if_pos h))⟩
  have e6 : (shortO o).kd % 8 = 6 → stepA V (shortO o) = (rolA V o.n).1 ∧ stepR l rs cs (shortO o) = (rs, (rolR cs o.n).1) := fun h => ⟨(if_neg (by omega)).trans ((if_neg (by omega)).trans ((if_neg (by omega)).trans (if_pos h))), (if_neg (by omega)).trans ((if_neg (by omega)).trans ((if_neg (by omega)).trans (if_pos h)))⟩
  have e7 : (shortO o).kd % 8 = 7 → stepA V (shortO o) = V ∧ stepR l rs cs (shortO o) = (rs, cs) := fun h => ⟨(if_neg (by omega)).trans ((if_neg (by omega)).trans ((if_neg (by omega)).trans (if_neg (by omega)))), (if_neg (by omega)).trans ((if_neg (by omega)).trans ((if_neg (by omega)).trans (if_neg (by omega))))⟩
  have hkk : (shortO o).kd = o.kd := rfl
  rw [hkk] at e0 e3 e5 e6 e7
  rcases (by omega : o.kd % 8 = 0 ∨ o.kd % 8 = 1 ∨ o.kd % 8 = 2 ∨ o.kd % 8 = 3 ∨ o.kd % 8 = 4 ∨ o.kd % 8 = 5 ∨ o.kd % 8 = 6 ∨ o.kd % 8 = 7) with hk | hk | hk | hk | hk | hk | hk | hk
  · rw [(e0 (by omega)).1, (e0 (by omega)).2]
    exact do_k0 w0 w b M V G s ab ar ac nb nr nc kb kr kc rs cs l hl hr hc hlG hrG hcG o.kd o.c.name.kind o.c.name.owner o.c.name.number o.c.name.index o.c.name.text o.c.value o.c.absent o.n ho ht hv _ _ _ rfl rfl rfl hf hkd hk hl1 hl2 (by omega) hs hfe (hgot (by omega))
  · rw [(e0 (by omega)).1, (e0 (by omega)).2]
    exact do_k1 w0 w b M V G s ab ar ac nb nr nc kb kr kc rs cs l hl hr hc hlG hrG hcG o.kd o.c.name.kind o.c.name.owner o.c.name.number o.c.name.index o.c.name.text o.c.value o.c.absent o.n ho ht hv _ _ _ rfl rfl rfl hf hkd hk hl1 hl2 (by omega) hs hfe (hgot (by omega))
  · rw [(e0 (by omega)).1, (e0 (by omega)).2]
    exact do_k2 w0 w b M V G s ab ar ac nb nr nc kb kr kc rs cs l hl hr hc hlG hrG hcG o.kd o.c.name.kind o.c.name.owner o.c.name.number o.c.name.index o.c.name.text o.c.value o.c.absent o.n ho ht hv _ _ _ rfl rfl rfl hf hkd hk hl1 hl2 (by omega) hs hfe (hgot (by omega))
  · rw [(e3 (.inl hk)).1, (e3 (.inl hk)).2]
    exact do_k3 w0 w b M V G s ab ar ac nb nr nc kb kr kc rs cs hr hc hrG hcG o.kd o.c.name.kind o.c.name.owner o.c.name.number o.c.name.index o.c.name.text o.c.value o.c.absent o.n ho ht hv _ _ _ rfl rfl rfl hf hkd hk hl3 hcV hx
  · rw [(e3 (.inr hk)).1, (e3 (.inr hk)).2]
    exact do_k4 w0 w b M V G s ab ar ac nb nr nc kb kr kc rs cs hr hc hrG hcG o.kd o.c.name.kind o.c.name.owner o.c.name.number o.c.name.index o.c.name.text o.c.value o.c.absent o.n ho ht hv _ _ _ rfl rfl rfl hf hkd hk hl3 hcV hx
  · rw [(e5 hk).1, (e5 hk).2]
    exact do_k5 w0 w b M V G s ab ar ac nb nr nc kb kr kc rs cs hr hc hrG hcG o.kd o.c.name.kind o.c.name.owner o.c.name.number o.c.name.index o.c.name.text o.c.value o.c.absent o.n ho ht hv _ _ _ rfl rfl rfl hf hkd hk hl3 hcV hx
  · rw [(e6 hk).1, (e6 hk).2]
    exact do_k6 w0 w b M V G s ab ar ac nb nr nc kb kr kc rs cs hr hc hrG hcG o.kd o.c.name.kind o.c.name.owner o.c.name.number o.c.name.index o.c.name.text o.c.value o.c.absent o.n ho ht hv _ _ _ rfl rfl rfl hkd hk hcV
  · rw [(e7 hk).1, (e7 hk).2]
    exact do_k7 w0 w b M V G s ab ar ac nb nr nc kb kr kc rs cs hr hc hrG hcG o.kd o.c.name.kind o.c.name.owner o.c.name.number o.c.name.index o.c.name.text o.c.value o.c.absent o.n ho ht hv _ _ _ rfl rfl rfl hkd hk hcV
end Go.Proofs.YthghfhnicdoebaaGreatDoor
