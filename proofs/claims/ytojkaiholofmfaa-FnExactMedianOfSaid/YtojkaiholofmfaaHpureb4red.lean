/- The contract of pure_b4red, or plain lemmas on the printed functions. -/
import Derived.Test.YtojkaiholofmfaaA0
import Derived.Test.YtojkaiholofmfaaHpureb2red
namespace Go.Proofs.Ytojkaiholofmfaa.A
open Go.RowKit Go.Proofs.YtojkaiholofmfaaW.PrintWords Go.Proofs.YtojkaiholofmfaaW.PrintLast Go.Proofs.YtojkaiholofmfaaW.PrintMore
attribute [local go_sem] max2_int min2_int max_two min_two max_three min_three max_four min_four   -- for this text's walks alone
set_option linter.unusedVariables false
set_option linter.unusedSimpArgs false
theorem redA_abs (p q : Int) : (redA p q).natAbs = p.natAbs / Nat.gcd p.natAbs q.natAbs := by
  unfold redA
  generalize p.natAbs / Nat.gcd p.natAbs q.natAbs = x
  split <;> omega
theorem redB_abs (p q : Int) : (redB p q).natAbs = q.natAbs / Nat.gcd p.natAbs q.natAbs := by
  unfold redB
  generalize q.natAbs / Nat.gcd p.natAbs q.natAbs = x
  omega
theorem red_cop {p q : Int} (hq : q ≠ 0) : Nat.gcd (redA p q).natAbs (redB p q).natAbs = 1 := by
  have hg := gcd_pos_of (p := p) hq
  have h := Nat.coprime_div_gcd_div_gcd (m := p.natAbs) (n := q.natAbs) hg
  have hA : (redA p q).natAbs = p.natAbs / Nat.gcd p.natAbs q.natAbs := redA_abs p q
  have hB : (redB p q).natAbs = q.natAbs / Nat.gcd p.natAbs q.natAbs := redB_abs p q
  rw [hA, hB]
  exact h
/-- Parts without a common divisor, the second positive: they are told by the value. -/
theorem cop_unique {a b c d : Int} (hb : 0 < b) (hd : 0 < d) (h : Nat.gcd a.natAbs b.natAbs = 1) (k : Nat.gcd c.natAbs d.natAbs = 1) (e : a * d = c * b) : a = c ∧ b = d := by
  have en : a.natAbs * d.natAbs = c.natAbs * b.natAbs := by rw [← Int.natAbs_mul, ← Int.natAbs_mul, e]
  have d1 : b.natAbs ∣ d.natAbs := by
    have : b.natAbs ∣ a.natAbs * d.natAbs := by rw [en]; exact Nat.dvd_mul_left _ _
    exact Nat.Coprime.dvd_of_dvd_mul_left (Nat.Coprime.symm h) this
  have d2 : d.natAbs ∣ b.natAbs := by
    have : d.natAbs ∣ c.natAbs * b.natAbs := by rw [← en]; exact Nat.dvd_mul_left _ _
    exact Nat.Coprime.dvd_of_dvd_mul_left (Nat.Coprime.symm k) this
  have hbd : b = d := by have := Nat.dvd_antisymm d1 d2; omega
  subst hbd
  exact ⟨Int.eq_of_mul_eq_mul_right (by omega) e, rfl⟩
theorem red_unique {a b p q : Int} (hq : q ≠ 0) (hb : 0 < b) (h : Nat.gcd a.natAbs b.natAbs = 1) (e : a * q = p * b) : redA p q = a ∧ redB p q = b := by
  have hv := red_val (p := p) hq
  have hB := redB_pos (p := p) hq
  apply cop_unique (by omega) hb (red_cop hq) h
  apply Int.eq_of_mul_eq_mul_right hq
  calc redA p q * b * q = redA p q * q * b := by rw [Int.mul_assoc, Int.mul_comm b q, ← Int.mul_assoc]
    _ = p * redB p q * b := by rw [hv]
    _ = p * b * redB p q := by rw [Int.mul_assoc, Int.mul_comm (redB p q) b, ← Int.mul_assoc]
    _ = a * q * redB p q := by rw [e]
    _ = a * redB p q * q := by rw [Int.mul_assoc, Int.mul_comm q (redB p q), ← Int.mul_assoc]
theorem red_congr {p q p' q' : Int} (hq : q ≠ 0) (hq' : q' ≠ 0) (e : p * q' = p' * q) : redA p q = redA p' q' ∧ redB p q = redB p' q' := by
  have hv := red_val (p := p') hq'
  have hB := redB_pos (p := p') hq'
  refine red_unique hq (by omega) (red_cop hq') ?_
  apply Int.eq_of_mul_eq_mul_right hq'
  calc redA p' q' * q * q' = redA p' q' * q' * q := by rw [Int.mul_assoc, Int.mul_comm q q', ← Int.mul_assoc]
    _ = p' * redB p' q' * q := by rw [hv]
    _ = p' * q * redB p' q' := by rw [Int.mul_assoc, Int.mul_comm (redB p' q') q, ← Int.mul_assoc]
    _ = p * q' * redB p' q' := by rw [e]
    _ = p * redB p' q' * q' := by rw [Int.mul_assoc, Int.mul_comm q' (redB p' q'), ← Int.mul_assoc]
theorem redF_congr {p q p' q' : Int} (hq : q ≠ 0) (hq' : q' ≠ 0) (e : p * q' = p' * q) : redF p q = redF p' q' := by
  obtain ⟨h1, h2⟩ := red_congr hq hq' e
  unfold redF
  rw [h1, h2]
theorem red_small {p q : Int} (hq : 1 ≤ q) (hq1 : q ≤ 1000000000) (hp : -1000000000 ≤ p) (hp1 : p ≤ 1000000000) : VF (redA p q) (redB p q) := by
  have h0 := redB_pos (p := p) (q := q) (by omega)
  have hc := red_cop (p := p) (q := q) (by omega)
  have hx := div_le_abs p.natAbs (Nat.gcd p.natAbs q.natAbs)
  have hy := div_le_abs q.natAbs (Nat.gcd p.natAbs q.natAbs)
  have hA : (redA p q).natAbs = p.natAbs / Nat.gcd p.natAbs q.natAbs := redA_abs p q
  have hB : (redB p q).natAbs = q.natAbs / Nat.gcd p.natAbs q.natAbs := redB_abs p q
  refine ⟨h0, by omega, by omega, by omega, hc⟩
theorem redF_small {p q : Int} (hq : 1 ≤ q) (hq1 : q ≤ 1000000000) (hp : -1000000000 ≤ p) (hp1 : p ≤ 1000000000) : redF p q = some (redA p q, redB p q) := by
  unfold redF
  rw [if_pos (red_small hq hq1 hp hp1)]
theorem red_self {a b : Int} (h : VF a b) : redA a b = a ∧ redB a b = b := red_unique (by have := h.1; omega) (by have := h.1; omega) h.2.2.2.2 rfl
theorem redF_self {a b : Int} (h : VF a b) : redF a b = some (a, b) := by
  obtain ⟨h1, h2⟩ := red_self h
  unfold redF
  rw [h1, h2, if_pos h]
/-- A fraction's value in lowest terms, as a struct. -/
def frS (p q : Int) : S24 := ⟨redA p q, redB p q⟩
theorem mul_le_of {a b A B : Int} (ha : -A ≤ a) (ha1 : a ≤ A) (hb : -B ≤ b) (hb1 : b ≤ B) : -(A * B) ≤ a * b ∧ a * b ≤ A * B := by
  have h : (a * b).natAbs ≤ A.natAbs * B.natAbs := by
    rw [Int.natAbs_mul]
    exact Nat.mul_le_mul (by omega) (by omega)
  have h2 : ((A.natAbs * B.natAbs : Nat) : Int) = A * B := by
    rw [Int.natCast_mul, Int.natAbs_of_nonneg (by omega), Int.natAbs_of_nonneg (by omega)]
  omega
end Go.Proofs.Ytojkaiholofmfaa.A
