/- The contract of pure_b5calc, or plain lemmas on the printed functions. -/
import Derived.Test.YtojkaiholofmfaaA0
import Derived.Test.YtojkaiholofmfaaA0x5
import Derived.Test.YtojkaiholofmfaaA0x6
import Derived.Test.YtojkaiholofmfaaA0x7
import Derived.Test.YtojkaiholofmfaaHpureb0lv
import Derived.Test.YtojkaiholofmfaaHpureb2red
import Derived.Test.YtojkaiholofmfaaHpureb4red
namespace Go.Proofs.Ytojkaiholofmfaa.A
open Go.RowKit Go.Proofs.YtojkaiholofmfaaW.PrintWords Go.Proofs.YtojkaiholofmfaaW.PrintLast Go.Proofs.YtojkaiholofmfaaW.PrintMore
attribute [local go_sem] max2_int min2_int max_two min_two max_three min_three max_four min_four   -- for this text's walks alone
set_option linter.unusedVariables false
set_option linter.unusedSimpArgs false
theorem mulB {a b : Int} (ha : -1000000000 ≤ a ∧ a ≤ 1000000000) (hb : -1000000000 ≤ b ∧ b ≤ 1000000000) : -1000000000000000000 ≤ a * b ∧ a * b ≤ 1000000000000000000 := by
  have := mul_le_of (A := 1000000000) (B := 1000000000) ha.1 ha.2 hb.1 hb.2
  omega
theorem BF.p {a b : Int} (h : BF a b) : -1000000000 ≤ a ∧ a ≤ 1000000000 := h.2.2
theorem BF.q {a b : Int} (h : BF a b) : -1000000000 ≤ b ∧ b ≤ 1000000000 := ⟨by have := h.1; omega, h.2.1⟩
theorem mul_pos_ne {b d : Int} (h : 1 ≤ b) (k : 1 ≤ d) : 1 ≤ b * d := by
  have := Int.mul_pos (a := b) (b := d) (by omega) (by omega)
  omega
theorem told_eta (t : Int × Int × Bool) : (t.1, t.2.1, t.2.2) = t := rfl
theorem impl_add_eq {k : Nat} (hk : Lv 2 k) (bad : Bool) {a b c d : Int} (h : BF a b) (h' : BF c d) : impl_calc_add.f k bad a b c d = some (toldR bad (redF (a * d + c * b) (b * d))) := by
  unfold impl_calc_add.f
  have m1 := mulB h.p h'.q
  have m2 := mulB h'.p h.q
  have m3 := mulB h.q h'.q
  have m4 := mul_pos_ne h.1 h'.1
  rw [wrap64_id (x := a * d) (by omega) (by omega), wrap64_id (x := c * b) (by omega) (by omega), wrap64_id (x := b * d) (by omega) (by omega), wrap64_id (by omega) (by omega), impl_told_eq hk bad _ _ (by omega) (by omega) (by omega) (by omega) (by omega)]
  rfl
theorem impl_sub_eq {k : Nat} (hk : Lv 2 k) (bad : Bool) {a b c d : Int} (h : BF a b) (h' : BF c d) : impl_calc_sub.f k bad a b c d = some (toldR bad (redF (a * d - c * b) (b * d))) := by
  unfold impl_calc_sub.f
  have m1 := mulB h.p h'.q
  have m2 := mulB h'.p h.q
  have m3 := mulB h.q h'.q
  have m4 := mul_pos_ne h.1 h'.1
  rw [wrap64_id (x := a * d) (by omega) (by omega), wrap64_id (x := c * b) (by omega) (by omega), wrap64_id (x := b * d) (by omega) (by omega), wrap64_id (by omega) (by omega), impl_told_eq hk bad _ _ (by omega) (by omega) (by omega) (by omega) (by omega)]
  rfl
theorem impl_div_eq {k : Nat} (hk : Lv 2 k) (bad : Bool) {a b c d : Int} (h : BF a b) (h' : BF c d) (hc : c ≠ 0) : impl_calc_div.f k bad a b c d = some (toldR bad (redF (a * d) (b * c))) := by
  unfold impl_calc_div.f
  have m1 := mulB h.p h'.q
  have m3 := mulB h.q h'.p
  have m4 : b * c ≠ 0 := Int.mul_ne_zero (by have := h.1; omega) hc
  rw [if_neg hc, wrap64_id (x := a * d) (by omega) (by omega), wrap64_id (x := b * c) (by omega) (by omega), impl_told_eq hk bad _ _ (by omega) (by omega) m4 (by omega) (by omega)]
  rfl
theorem impl_div_zero {k : Nat} (bad : Bool) {a b d : Int} : impl_calc_div.f k bad a b 0 d = some (0, 1, true) := by
  unfold impl_calc_div.f
  rw [if_pos rfl]
  rfl
theorem impl_compare_eq {a b c d : Int} (h : BF a b) (h' : BF c d) : impl_compare.f a b c d = some (if a * d < c * b then -1 else if a * d > c * b then 1 else 0) := by
  unfold impl_compare.f
  have m1 := mulB h.p h'.q
  have m2 := mulB h'.p h.q
  rw [wrap64_id (x := a * d) (by omega) (by omega), wrap64_id (x := c * b) (by omega) (by omega)]
  split
  · rfl
  · split <;> rfl
end Go.Proofs.Ytojkaiholofmfaa.A
