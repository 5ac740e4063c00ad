/- The contract of pure_b3ord, or plain lemmas on the printed functions. -/
import Derived.Test.YtojkaiholofmfaaA0
import Derived.Test.YtojkaiholofmfaaHpureb2red
namespace Go.Proofs.Ytojkaiholofmfaa.A
open Go.RowKit Go.Proofs.YtojkaiholofmfaaW.PrintWords Go.Proofs.YtojkaiholofmfaaW.PrintLast Go.Proofs.YtojkaiholofmfaaW.PrintMore
attribute [local go_sem] max2_int min2_int max_two min_two max_three min_three max_four min_four   -- for this text's walks alone
set_option linter.unusedVariables false
set_option linter.unusedSimpArgs false
/-- The lesser one, or as great. -/
def leS (x y : S24) : Bool := decide (x.f0 * y.f1 ≤ y.f0 * x.f1)
def vfS (x : S24) : Bool := decide (VF x.f0 x.f1)
theorem vf_mul_bound {a b c d : Int} (h : BF a b) (k : BF c d) : -1000000000000000000 ≤ a * d ∧ a * d ≤ 1000000000000000000 := by
  obtain ⟨h1, h2, h3, h4⟩ := h
  obtain ⟨k1, k2, k3, k4⟩ := k
  constructor
  · have : -(1000000000 * 1000000000) ≤ a * d := by
      have h5 : -1000000000 * d ≤ a * d := Int.mul_le_mul_of_nonneg_right h3 (by omega)
      omega
    omega
  · have : a * d ≤ 1000000000 * d := Int.mul_le_mul_of_nonneg_right h4 (by omega)
    omega
theorem cross_lt {a b c d e f : Int} (hb : 0 < b) (hd : 0 < d) (hf : 0 < f) (h1 : a * d < c * b) (h2 : c * f < e * d) : a * f < e * b := by
  have e1 : a * d * f < c * b * f := Int.mul_lt_mul_of_pos_right h1 hf
  have e2 : c * f * b < e * d * b := Int.mul_lt_mul_of_pos_right h2 hb
  have e3 : c * b * f = c * f * b := by rw [Int.mul_assoc, Int.mul_comm b f, ← Int.mul_assoc]
  have e4 : a * d * f = a * f * d := by rw [Int.mul_assoc, Int.mul_comm d f, ← Int.mul_assoc]
  have e5 : e * d * b = e * b * d := by rw [Int.mul_assoc, Int.mul_comm d b, ← Int.mul_assoc]
  have : a * f * d < e * b * d := by omega
  exact Int.lt_of_mul_lt_mul_right this (by omega)
theorem cross_le {a b c d e f : Int} (hb : 0 < b) (hd : 0 < d) (hf : 0 < f) (h1 : a * d ≤ c * b) (h2 : c * f ≤ e * d) : a * f ≤ e * b := by
  have e1 : a * d * f ≤ c * b * f := Int.mul_le_mul_of_nonneg_right h1 (by omega)
  have e2 : c * f * b ≤ e * d * b := Int.mul_le_mul_of_nonneg_right h2 (by omega)
  have e3 : c * b * f = c * f * b := by rw [Int.mul_assoc, Int.mul_comm b f, ← Int.mul_assoc]
  have e4 : a * d * f = a * f * d := by rw [Int.mul_assoc, Int.mul_comm d f, ← Int.mul_assoc]
  have e5 : e * d * b = e * b * d := by rw [Int.mul_assoc, Int.mul_comm d b, ← Int.mul_assoc]
  have : a * f * d ≤ e * b * d := by omega
  exact Int.le_of_mul_le_mul_right this hd
/-- Fractions in lowest terms are equal if they have the same value. -/
theorem vf_unique {a b c d : Int} (h : VF a b) (k : VF c d) (e : a * d = c * b) : a = c ∧ b = d := by
  obtain ⟨h1, _, _, _, h5⟩ := h
  obtain ⟨k1, _, _, _, k5⟩ := k
  have en : a.natAbs * d.natAbs = c.natAbs * b.natAbs := by rw [← Int.natAbs_mul, ← Int.natAbs_mul, e]
  have d1 : b.natAbs ∣ d.natAbs := by
    have : b.natAbs ∣ a.natAbs * d.natAbs := by rw [en]; exact Nat.dvd_mul_left _ _
    exact Nat.Coprime.dvd_of_dvd_mul_left (Nat.Coprime.symm h5) this
  have d2 : d.natAbs ∣ b.natAbs := by
    have : d.natAbs ∣ c.natAbs * b.natAbs := by rw [← en]; exact Nat.dvd_mul_left _ _
    exact Nat.Coprime.dvd_of_dvd_mul_left (Nat.Coprime.symm k5) this
  have hbd : b = d := by have := Nat.dvd_antisymm d1 d2; omega
  subst hbd
  exact ⟨Int.eq_of_mul_eq_mul_right (by omega) e, rfl⟩
end Go.Proofs.Ytojkaiholofmfaa.A
