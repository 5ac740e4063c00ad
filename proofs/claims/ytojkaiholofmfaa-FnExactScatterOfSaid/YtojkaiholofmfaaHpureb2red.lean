/- The contract of pure_b2red, or plain lemmas on the printed functions. -/
import Derived.Test.YtojkaiholofmfaaA0
import Derived.Test.YtojkaiholofmfaaA0x0
import Derived.Test.YtojkaiholofmfaaA0x1
import Derived.Test.YtojkaiholofmfaaA0x3
import Derived.Test.YtojkaiholofmfaaA0x4
import Derived.Test.YtojkaiholofmfaaHpureb0lv
import Derived.Test.YtojkaiholofmfaaHpureb1frac
namespace Go.Proofs.Ytojkaiholofmfaa.A
open Go.RowKit Go.Proofs.YtojkaiholofmfaaW.PrintWords Go.Proofs.YtojkaiholofmfaaW.PrintLast Go.Proofs.YtojkaiholofmfaaW.PrintMore
attribute [local go_sem] max2_int min2_int max_two min_two max_three min_three max_four min_four   -- for this text's walks alone
set_option linter.unusedVariables false
set_option linter.unusedSimpArgs false
/-- The parts of a valid fraction. -/
def VF (p q : Int) : Prop := 1 ≤ q ∧ q ≤ 1000000000 ∧ -1000000000 ≤ p ∧ p ≤ 1000000000 ∧ Nat.gcd p.natAbs q.natAbs = 1
instance (p q : Int) : Decidable (VF p q) := by unfold VF; infer_instance
/-- Parts within the bounds. -/
def BF (p q : Int) : Prop := 1 ≤ q ∧ q ≤ 1000000000 ∧ -1000000000 ≤ p ∧ p ≤ 1000000000
theorem VF.bf {p q : Int} (h : VF p q) : BF p q := ⟨h.1, h.2.1, h.2.2.1, h.2.2.2.1⟩
def vfB (p q : Int) : Bool := decide (VF p q)
theorem vfB_true {p q : Int} : vfB p q = true ↔ VF p q := by simp [vfB]
/-- A quotient in lowest terms, if its parts are within the bounds. -/
def redA (p q : Int) : Int := if (p < 0) = (q < 0) then ((p.natAbs / Nat.gcd p.natAbs q.natAbs : Nat) : Int) else -((p.natAbs / Nat.gcd p.natAbs q.natAbs : Nat) : Int)
def redB (p q : Int) : Int := ((q.natAbs / Nat.gcd p.natAbs q.natAbs : Nat) : Int)
def redF (p q : Int) : Option (Int × Int) := if VF (redA p q) (redB p q) then some (redA p q, redB p q) else none
def specR (o : Option (Int × Int)) : Int × Int × Int := match o with | some (p, q) => (p, q, 0) | none => (0, 0, 3)
def toldR (bad : Bool) (o : Option (Int × Int)) : Int × Int × Bool := match o with | some (p, q) => (p, q, bad) | none => (0, 1, true)
theorem toldR_some (bad : Bool) (p q : Int) : toldR bad (some (p, q)) = (p, q, bad) := by rw [toldR]
theorem toldR_none (bad : Bool) : toldR bad none = (0, 1, true) := by rw [toldR]
theorem redF_vf {p q a b : Int} (h : redF p q = some (a, b)) : VF a b := by
  unfold redF at h
  split at h
  · rename_i hv; simp only [Option.some.injEq, Prod.mk.injEq] at h; rw [← h.1, ← h.2]; exact hv
  · cases h
theorem toldR_vf (bad : Bool) (p q : Int) : VF (toldR bad (redF p q)).1 (toldR bad (redF p q)).2.1 := by
  cases h : redF p q with
  | none => simp only [toldR]; decide
  | some x => obtain ⟨a, b⟩ := x; exact redF_vf h
theorem tdiv_nat (p : Int) (g : Nat) : Int.tdiv p (g : Int) = if p < 0 then -((p.natAbs / g : Nat) : Int) else ((p.natAbs / g : Nat) : Int) := by
  cases p with
  | ofNat n => rw [if_neg (by simp)]; rfl
  | negSucc n =>
    rw [if_pos (Int.negSucc_lt_zero n)]
    show Int.tdiv (Int.negSucc n) (Int.ofNat g) = _
    simp [Int.tdiv]
theorem gcd_pos_of {p q : Int} (hq : q ≠ 0) : 0 < Nat.gcd p.natAbs q.natAbs := Nat.gcd_pos_of_pos_right _ (by omega)
theorem quo_pos {p q : Int} (hq : q ≠ 0) : 0 < q.natAbs / Nat.gcd p.natAbs q.natAbs := Nat.div_pos (Nat.gcd_le_right _ (by omega)) (gcd_pos_of hq)
theorem redB_pos {p q : Int} (hq : q ≠ 0) : 1 ≤ redB p q := by have := quo_pos (p := p) hq; unfold redB; omega
theorem div_le_abs (n g : Nat) : n / g ≤ n := Nat.div_le_self n g
/-- It is the quotient. -/
theorem red_val {p q : Int} (hq : q ≠ 0) : redA p q * q = p * redB p q := by
  unfold redA redB
  obtain ⟨x, hx⟩ := Nat.gcd_dvd_left p.natAbs q.natAbs
  obtain ⟨y, hy⟩ := Nat.gcd_dvd_right p.natAbs q.natAbs
  have hg := gcd_pos_of (p := p) hq
  generalize Nat.gcd p.natAbs q.natAbs = g at *
  have hx' : p.natAbs / g = x := by rw [hx, Nat.mul_div_cancel_left _ hg]
  have hy' : q.natAbs / g = y := by rw [hy, Nat.mul_div_cancel_left _ hg]
  rw [hx', hy']
  have e : x * q.natAbs = p.natAbs * y := by rw [hx, hy, Nat.mul_comm g x, Nat.mul_assoc, ]
  have e' : (x : Int) * (q.natAbs : Int) = (p.natAbs : Int) * (y : Int) := by exact_mod_cast e
  by_cases h1 : p < 0 <;> by_cases h2 : q < 0
  · have ep : (p.natAbs : Int) = -p := by omega
    have eq : (q.natAbs : Int) = -q := by omega
    rw [ep, eq] at e'
    simp only [h1, h2, if_true]
    rw [Int.mul_neg, Int.neg_mul] at e'
    omega
  · have ep : (p.natAbs : Int) = -p := by omega
    have eq : (q.natAbs : Int) = q := by omega
    rw [ep, eq] at e'
    simp only [h1, h2, eq_iff_iff, true_iff, not_false_iff, if_false, iff_false, not_true]
    rw [Int.neg_mul] at *
    omega
  · have ep : (p.natAbs : Int) = p := by omega
    have eq : (q.natAbs : Int) = -q := by omega
    rw [ep, eq] at e'
    simp only [h1, h2, eq_iff_iff, iff_true, if_false]
    rw [Int.mul_neg] at e'
    rw [Int.neg_mul]
    omega
  · have ep : (p.natAbs : Int) = p := by omega
    have eq : (q.natAbs : Int) = q := by omega
    rw [ep, eq] at e'
    simp only [h1, h2, if_true]
    exact e'
theorem spec_abs_eq (a : Int) (h : -9223372036854775807 ≤ a) (h1 : a ≤ 9223372036854775807) : spec_l01Abs.f a = some (a.natAbs : Int) := by
  unfold spec_l01Abs.f
  by_cases e : a < 0
  · rw [if_pos e, wrap64_id (by omega) (by omega)]; congr 1; omega
  · rw [if_neg e]; congr 1; omega
theorem spec_in_eq (a b c : Int) : spec_l00In.f a b c = some (decide (b ≤ a ∧ a ≤ c)) := by
  unfold spec_l00In.f
  by_cases e : a ≥ b
  · have e' : b ≤ a := e
    rw [if_pos e]; simp [e']
  · have e' : ¬ b ≤ a := e
    rw [if_neg e]; simp [e']
theorem spec_ok_eq {k : Nat} (hk : Lv 1 k) (p q : Int) : spec_l01Ok.f k p q = some (vfB p q) := by
  unfold spec_l01Ok.f
  rw [spec_in_eq, spec_in_eq]
  simp only [Option.bind_some]
  by_cases h1 : 1 ≤ q ∧ q ≤ 1000000000
  · by_cases h2 : -1000000000 ≤ p ∧ p ≤ 1000000000
    · rw [if_pos (by simpa using h1), if_pos (by simpa using h2), spec_abs_eq p (by omega) (by omega)]
      simp only [Option.bind_some]
      rw [spec_gcd_eq hk _ _ (by omega) (by omega) (by omega)]
      simp only [Option.bind_some, Int.natAbs_natCast]
      congr 1
      unfold vfB
      rw [Bool.eq_iff_iff]
      simp only [beq_iff_eq, decide_eq_true_eq]
      unfold VF
      omega
    · rw [if_pos (by simpa using h1), if_neg (by simpa using h2)]
      congr 1; symm; unfold vfB; rw [decide_eq_false_iff_not]; unfold VF; omega
  · rw [if_neg (by simpa using h1)]
    congr 1; symm; unfold vfB; rw [decide_eq_false_iff_not]; unfold VF; omega
theorem spec_reduced_eq {k : Nat} (hk : Lv 1 k) (p q : Int) (hp : -9223372036854775807 ≤ p) (hp1 : p ≤ 9223372036854775807) (hq0 : q ≠ 0) (hq : -9223372036854775807 ≤ q) (hq1 : q ≤ 9223372036854775807) :
    spec_l01Reduced.f k p q = some (specR (redF p q)) := by
  unfold spec_l01Reduced.f
  rw [spec_abs_eq p hp hp1, spec_abs_eq q hq hq1]
  simp only [Option.bind_some]
  rw [spec_gcd_eq hk _ _ (by omega) (by omega) (by omega)]
  simp only [Option.bind_some, Int.natAbs_natCast]
  have hg := gcd_pos_of (p := p) hq0
  have hyp := quo_pos (p := p) hq0
  have hx := div_le_abs p.natAbs (Nat.gcd p.natAbs q.natAbs)
  have hy := div_le_abs q.natAbs (Nat.gcd p.natAbs q.natAbs)
  have hA : redA p q = if (p < 0) = (q < 0) then ((p.natAbs / Nat.gcd p.natAbs q.natAbs : Nat) : Int) else -((p.natAbs / Nat.gcd p.natAbs q.natAbs : Nat) : Int) := rfl
  have hB : redB p q = ((q.natAbs / Nat.gcd p.natAbs q.natAbs : Nat) : Int) := rfl
  rw [if_neg (by omega), tdiv_nat p, tdiv_nat q]
  generalize Nat.gcd p.natAbs q.natAbs = g at *
  generalize p.natAbs / g = x at *
  generalize q.natAbs / g = y at *
  have fin : ∀ a b : Int, a = redA p q → b = redB p q → ((spec_l01Ok.f k a b).bind fun t => if t = true then some (a, b, (0 : Int)) else some (0, 0, 3)) = some (specR (redF p q)) := by
    intro a b ha hb
    rw [spec_ok_eq hk a b, ha, hb]
    simp only [Option.bind_some]
    unfold redF vfB
    by_cases hv : VF (redA p q) (redB p q)
    · rw [if_pos (by simpa using hv), if_pos hv]; rfl
    · rw [if_neg (by simpa using hv), if_neg hv]; rfl
  by_cases h1 : p < 0 <;> by_cases h2 : q < 0
  all_goals simp only [h1, h2, if_true, if_false, eq_iff_iff, iff_true, iff_false, not_true, not_false_iff, true_iff, false_iff, eq_self_iff_true] at *
  · rw [wrap64_id (x := -(x : Int)) (by omega) (by omega), wrap64_id (x := -(y : Int)) (by omega) (by omega), if_pos (by omega), Int.neg_neg, Int.neg_neg, wrap64_id (x := (x : Int)) (by omega) (by omega), wrap64_id (x := (y : Int)) (by omega) (by omega)]
    exact fin _ _ hA.symm hB.symm
  · rw [wrap64_id (x := -(x : Int)) (by omega) (by omega), wrap64_id (x := (y : Int)) (by omega) (by omega), if_neg (by omega)]
    exact fin _ _ hA.symm hB.symm
  · rw [wrap64_id (x := (x : Int)) (by omega) (by omega), wrap64_id (x := -(y : Int)) (by omega) (by omega), if_pos (by omega), Int.neg_neg, wrap64_id (x := -(x : Int)) (by omega) (by omega), wrap64_id (x := (y : Int)) (by omega) (by omega)]
    exact fin _ _ hA.symm hB.symm
  · rw [wrap64_id (x := (x : Int)) (by omega) (by omega), wrap64_id (x := (y : Int)) (by omega) (by omega), if_neg (by omega)]
    exact fin _ _ hA.symm hB.symm
theorem impl_within_eq (a b c : Int) : impl_within.f a b c = some (decide (b ≤ a ∧ a ≤ c)) := by
  unfold impl_within.f
  by_cases e : b ≤ a
  · rw [if_pos e]; simp [e]
  · rw [if_neg e]; simp [e]
theorem impl_vf_eq {k : Nat} (hk : Lv 1 k) (p q : Int) : impl_ValidFrac.f k p q = some (vfB p q) := by
  unfold impl_ValidFrac.f
  rw [impl_within_eq, impl_within_eq]
  simp only [Option.bind_some]
  by_cases h1 : 1 ≤ q ∧ q ≤ 1000000000
  · by_cases h2 : -1000000000 ≤ p ∧ p ≤ 1000000000
    · rw [if_pos (by simpa using h1), if_pos (by simpa using h2), impl_gcd_eq hk _ _ (by omega) (by omega)]
      simp only [Option.bind_some]
      congr 1
      unfold vfB
      rw [Bool.eq_iff_iff]
      simp only [beq_iff_eq, decide_eq_true_eq]
      unfold VF
      omega
    · rw [if_pos (by simpa using h1), if_neg (by simpa using h2)]
      congr 1; symm; unfold vfB; rw [decide_eq_false_iff_not]; unfold VF; omega
  · rw [if_neg (by simpa using h1)]
    congr 1; symm; unfold vfB; rw [decide_eq_false_iff_not]; unfold VF; omega
def fracR (o : Option (Int × Int)) : Int × Int × Bool := match o with | some (p, q) => (p, q, true) | none => (0, 0, false)
theorem impl_fracOf_eq {k : Nat} (hk : Lv 2 k) (p q : Int) (hp : -9223372036854775807 ≤ p) (hp1 : p ≤ 9223372036854775807) (hq0 : q ≠ 0) (hq : -9223372036854775807 ≤ q) (hq1 : q ≤ 9223372036854775807) :
    impl_fracOf.f k p q = some (fracR (redF p q)) := by
  obtain ⟨k, rfl, hk1⟩ := hk.succ
  have key : ∀ a b : Int, a.natAbs = p.natAbs → b.natAbs = q.natAbs → 0 < b → ((a < 0) ↔ ¬ ((p < 0) ↔ (q < 0)) ∨ (a = 0 ∧ False)) ∨ a = 0 → impl_fracOf.j0 (k + 1) a b = some (fracR (redF p q)) := by
    intro a b ha hb hb0 hs
    simp only [impl_fracOf.j0]
    rw [impl_gcd_eq hk1 _ _ (by omega) (by omega)]
    simp only [Option.bind_some]
    have hg := gcd_pos_of (p := p) hq0
    have hyp := quo_pos (p := p) hq0
    have hx := div_le_abs p.natAbs (Nat.gcd p.natAbs q.natAbs)
    have hy := div_le_abs q.natAbs (Nat.gcd p.natAbs q.natAbs)
    have hA : redA p q = if (p < 0) = (q < 0) then ((p.natAbs / Nat.gcd p.natAbs q.natAbs : Nat) : Int) else -((p.natAbs / Nat.gcd p.natAbs q.natAbs : Nat) : Int) := rfl
    have hB : redB p q = ((q.natAbs / Nat.gcd p.natAbs q.natAbs : Nat) : Int) := rfl
    have h0 : p.natAbs = 0 → p.natAbs / Nat.gcd p.natAbs q.natAbs = 0 := fun h => by rw [h]; exact Nat.zero_div _
    rw [ha, hb, if_neg (by omega), tdiv_nat a, tdiv_nat b, if_neg (by omega : ¬ b < 0), ha, hb]
    generalize Nat.gcd p.natAbs q.natAbs = g at *
    generalize p.natAbs / g = x at *
    generalize q.natAbs / g = y at *
    have hAe : (if a < 0 then -(x : Int) else (x : Int)) = redA p q := by
      rw [hA]
      by_cases hz : p.natAbs = 0
      · have := h0 hz
        subst this
        simp
      · have hs' : (a < 0) ↔ ¬ ((p < 0) ↔ (q < 0)) := by
          rcases hs with hs | hs
          · simpa using hs
          · omega
        by_cases e : (p < 0) = (q < 0)
        · rw [if_pos e, if_neg (by rw [hs']; simpa using e)]
        · rw [if_neg e, if_pos (by rw [hs']; simpa using e)]
    have hw : wrap64 (if a < 0 then -(x : Int) else (x : Int)) = redA p q := by
      rw [← hAe]
      by_cases e : a < 0
      · rw [if_pos e]; exact wrap64_id (by omega) (by omega)
      · rw [if_neg e]; exact wrap64_id (by omega) (by omega)
    rw [hw, wrap64_id (x := (y : Int)) (by omega) (by omega), ← hB, impl_vf_eq hk1]
    simp only [Option.bind_some]
    unfold redF vfB
    by_cases hv : VF (redA p q) (redB p q)
    · rw [if_pos (by simpa using hv), if_pos hv]; rfl
    · rw [if_neg (by simpa using hv), if_neg hv]; rfl
  unfold impl_fracOf.f
  by_cases e : q < 0
  · rw [if_pos e, wrap64_id (by omega) (by omega), wrap64_id (by omega) (by omega)]
    exact key _ _ (by omega) (by omega) (by omega) (by by_cases h : p = 0 <;> simp <;> omega)
  · rw [if_neg e]
    exact key _ _ rfl rfl (by omega) (by by_cases h : p = 0 <;> simp <;> omega)
theorem impl_told_eq {k : Nat} (hk : Lv 2 k) (bad : Bool) (p q : Int) (hp : -9223372036854775807 ≤ p) (hp1 : p ≤ 9223372036854775807) (hq0 : q ≠ 0) (hq : -9223372036854775807 ≤ q) (hq1 : q ≤ 9223372036854775807) :
    impl_calc_told.f k bad p q = some (toldR bad (redF p q)) := by
  unfold impl_calc_told.f
  rw [impl_fracOf_eq hk p q hp hp1 hq0 hq hq1]
  simp only [Option.bind_some]
  cases redF p q with
  | none => rfl
  | some x => obtain ⟨a, b⟩ := x; rfl
end Go.Proofs.Ytojkaiholofmfaa.A
