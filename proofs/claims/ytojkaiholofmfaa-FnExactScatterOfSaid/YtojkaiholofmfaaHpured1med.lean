/- The contract of pure_d1med, or plain lemmas on the printed functions. -/
import Derived.Test.YtojkaiholofmfaaA0
import Derived.Test.YtojkaiholofmfaaA0x0
import Derived.Test.YtojkaiholofmfaaA0x2
import Derived.Test.YtojkaiholofmfaaA0x3
import Derived.Test.YtojkaiholofmfaaA0x6
import Derived.Test.YtojkaiholofmfaaA0x7
import Derived.Test.YtojkaiholofmfaaA5x0
import Derived.Test.YtojkaiholofmfaaA5x1
import Derived.Test.YtojkaiholofmfaaA5x2
import Derived.Test.YtojkaiholofmfaaA5x3
import Derived.Test.YtojkaiholofmfaaHimplareReadings
import Derived.Test.YtojkaiholofmfaaHimplascending
import Derived.Test.YtojkaiholofmfaaHpureb0list
import Derived.Test.YtojkaiholofmfaaHpureb0lv
import Derived.Test.YtojkaiholofmfaaHpureb2red
import Derived.Test.YtojkaiholofmfaaHpureb3ord
import Derived.Test.YtojkaiholofmfaaHpureb4red
import Derived.Test.YtojkaiholofmfaaHpureb5calc
import Derived.Test.YtojkaiholofmfaaHpurec0sort
namespace Go.Proofs.Ytojkaiholofmfaa.A
open Go.RowKit Go.Proofs.YtojkaiholofmfaaW.PrintWords Go.Proofs.YtojkaiholofmfaaW.PrintLast Go.Proofs.YtojkaiholofmfaaW.PrintMore
attribute [local go_sem] max2_int min2_int max_two min_two max_three min_three max_four min_four   -- for this text's walks alone
set_option linter.unusedVariables false
set_option linter.unusedSimpArgs false
/-- Numbers are readings. -/
def rdsB (l : List Int) : Bool := decide (1 ≤ l.length ∧ l.length ≤ 64) && l.all (fun n => decide (-1000000 ≤ n ∧ n ≤ 1000000))
theorem l06List_l0 (m : Nat) : ∀ (k n : Nat) (l : List Int), n + m = l.length → l.length ≤ 1000000000 → m + 1 ≤ k → spec_l06List.l0 k l (n : Int) = some (if (l.drop n).all (fun n => decide (-1000000 ≤ n ∧ n ≤ 1000000)) = true then 0 else 2) := by
  induction m with
  | zero =>
    intro k n l h hl hk
    obtain ⟨k, rfl⟩ : ∃ j, k = j + 1 := ⟨k - 1, by omega⟩
    simp only [spec_l06List.l0]
    rw [if_neg (by omega), List.drop_eq_nil_of_le (by omega)]
    simp
  | succ m ih =>
    intro k n l h hl hk
    obtain ⟨k, rfl⟩ : ∃ j, k = j + 1 := ⟨k - 1, by omega⟩
    simp only [spec_l06List.l0]
    rw [if_pos (by omega), if_pos (by omega), wsucc (by omega), ih k (n + 1) l (by omega) hl (by omega), drop_rd (l := l) (n := n) (by omega)]
    unfold spec_l06Plain.f
    rw [spec_in_eq]
    simp only [bsome, List.all_cons]
    by_cases e : -1000000 ≤ rd l (n : Int) ∧ rd l (n : Int) ≤ 1000000
    · rw [if_pos (by simpa using e)]
      simp [e]
    · rw [if_neg (by simpa using e)]
      have : decide (-1000000 ≤ rd l (n : Int) ∧ rd l (n : Int) ≤ 1000000) = false := decide_eq_false e
      simp [this]
theorem l06List_eq {k : Nat} (hk : Lv 1 k) (l : List Int) (hl : l.length ≤ 1000000000) : spec_l06List.f k l = some (if rdsB l = true then 0 else 2) := by
  unfold spec_l06List.f spec_l06Many.f rdsB
  rw [spec_in_eq]
  simp only [bsome]
  by_cases e : 1 ≤ l.length ∧ l.length ≤ 64
  · rw [if_pos (by simp; omega)]
    have := l06List_l0 l.length k 0 l (by omega) hl (hk.rounds (by omega))
    simp only [List.drop_zero] at this
    rw [show ((0 : Int)) = ((0 : Nat) : Int) from rfl, this]
    simp [e]
  · rw [if_neg (by simp; omega)]
    simp [e]
theorem rdsB_iff {l : List Int} (h : rdsB l = true) : 1 ≤ l.length ∧ l.length ≤ 64 ∧ ∀ x ∈ l, -1000000 ≤ x ∧ x ≤ 1000000 := by
  unfold rdsB at h
  simp only [Bool.and_eq_true, decide_eq_true_eq, List.all_eq_true] at h
  exact ⟨h.1.1, h.1.2, h.2⟩
/-- Two times the median. -/
def twice (l : List Int) : Int := rd (sortI l) (((l.length - 1) / 2 : Nat) : Int) + rd (sortI l) ((l.length / 2 : Nat) : Int)
theorem rd_sort_mem {l : List Int} {n : Nat} (h : n < l.length) : rd (sortI l) (n : Int) ∈ l := (sortI_perm l).mem_iff.1 (rd_mem (by rw [sortI_length]; exact h))
theorem l06Twice_eq {k : Nat} (hk : Lv 1 k) (l : List Int) (h1 : 1 ≤ l.length) (hl : l.length ≤ 1000000) (hb : ∀ x ∈ l, -1000000000 ≤ x ∧ x ≤ 1000000000) : spec_l06Twice.f k l = some (twice l) := by
  unfold spec_l06Twice.f
  rw [spec_sorted_eq hk l hl]
  simp only [bsome, sortI_length]
  have e1 : wrap64 (Int.tdiv (wrap64 ((l.length : Int) - 1)) 2) = (((l.length - 1) / 2 : Nat) : Int) := by
    rw [wrap64_id (x := (l.length : Int) - 1) (by omega) (by omega), show (l.length : Int) - 1 = ((l.length - 1 : Nat) : Int) by omega]
    rw [show Int.tdiv ((l.length - 1 : Nat) : Int) 2 = (((l.length - 1) / 2 : Nat) : Int) from rfl, wrap64_id (by omega) (by omega)]
  have e2 : wrap64 ((l.length : Int) / 2) = ((l.length / 2 : Nat) : Int) := by rw [wrap64_id (by omega) (by omega)]; omega
  rw [e1, e2, if_pos (by omega), if_pos (by omega), if_pos (by omega), if_pos (by omega)]
  have b1 := hb _ (rd_sort_mem (l := l) (n := (l.length - 1) / 2) (by omega))
  have b2 := hb _ (rd_sort_mem (l := l) (n := l.length / 2) (by omega))
  rw [wrap64_id (by omega) (by omega)]
  rfl
theorem twice_bound {l : List Int} {B : Int} (h1 : 1 ≤ l.length) (hb : ∀ x ∈ l, -B ≤ x ∧ x ≤ B) : -(2 * B) ≤ twice l ∧ twice l ≤ 2 * B := by
  have b1 := hb _ (rd_sort_mem (l := l) (n := (l.length - 1) / 2) (by omega))
  have b2 := hb _ (rd_sort_mem (l := l) (n := l.length / 2) (by omega))
  unfold twice
  omega
theorem num_eq (n : Int) : impl_num.f n = some (n, 1) := by rw [impl_num.f]
theorem le_frS {D : Int} (hD : 1 ≤ D) (a b : Int) : leS (frS a D) (frS b D) = decide (a ≤ b) := by
  unfold leS frS
  have ha := red_val (p := a) (q := D) (by omega)
  have hb := red_val (p := b) (q := D) (by omega)
  have ba := redB_pos (p := a) (q := D) (by omega)
  have bb := redB_pos (p := b) (q := D) (by omega)
  simp only
  generalize redA a D = A at *
  generalize redB a D = B at *
  generalize redA b D = C at *
  generalize redB b D = E at *
  have hBE : 0 < B * E := Int.mul_pos (by omega) (by omega)
  have e1 : A * E * D = a * (B * E) := by
    calc A * E * D = A * D * E := by rw [Int.mul_assoc, Int.mul_comm E D, ← Int.mul_assoc]
      _ = a * B * E := by rw [ha]
      _ = a * (B * E) := by rw [Int.mul_assoc]
  have e2 : C * B * D = b * (B * E) := by
    calc C * B * D = C * D * B := by rw [Int.mul_assoc, Int.mul_comm B D, ← Int.mul_assoc]
      _ = b * E * B := by rw [hb]
      _ = b * (B * E) := by rw [Int.mul_assoc, Int.mul_comm E B]
  have key : A * E ≤ C * B ↔ a ≤ b := by
    constructor
    · intro h
      have := Int.mul_le_mul_of_nonneg_right h (show 0 ≤ D by omega)
      rw [e1, e2] at this
      exact Int.le_of_mul_le_mul_right this hBE
    · intro h
      have := Int.mul_le_mul_of_nonneg_right h (show 0 ≤ B * E by omega)
      rw [← e1, ← e2] at this
      exact Int.le_of_mul_le_mul_right this (by omega)
  by_cases h : a ≤ b
  · simp [h, key.2 h]
  · have : ¬ A * E ≤ C * B := fun x => h (key.1 x)
    simp [h, this]
theorem ascending_eq {D : Int} (hD : 1 ≤ D) (hD1 : D ≤ 1000000000) (l : List Int) (h1 : 1 ≤ l.length) (hl : l.length ≤ 1000000) (hb : ∀ x ∈ l, -1000000000 ≤ x ∧ x ≤ 1000000000) : impl_ascending.f (l.map (frS · D)) = some ((sortI l).map (frS · D)) := by
  unfold impl_ascending.f
  rw [if_pos]
  · congr 1
    symm
    apply List.map_mergeSort
    intro a _ b _
    rw [le_frS hD]
  · refine ⟨by intro e; rw [List.map_eq_nil_iff] at e; rw [e] at h1; simp at h1, ?_, by simp; omega⟩
    rw [List.all_eq_true]
    intro x hx
    obtain ⟨a, ha, rfl⟩ := List.mem_map.1 hx
    have := hb a ha
    exact decide_eq_true (red_small hD hD1 this.1 this.2)
theorem rd_map_frS (l : List Int) (D : Int) {n : Nat} (h : n < l.length) : rd_T24 (l.map (frS · D)) (n : Int) = frS (rd l (n : Int)) D := by
  rw [rd_nat]
  simp [rd_T24, List.getD, h]
theorem median_eq {k : Nat} (hk : Lv 2 k) (bad : Bool) {D : Int} (hD : 1 ≤ D) (hD1 : D ≤ 100000000) (l : List Int) (h1 : 1 ≤ l.length) (hl : l.length ≤ 1000000) (hb : ∀ x ∈ l, -100000000 ≤ x ∧ x ≤ 100000000) : impl_calc_median.f k bad (l.map (frS · D)) = some (toldR bad (redF (twice l) (2 * D))) := by
  unfold impl_calc_median.f
  rw [ascending_eq hD (by omega) l h1 hl (fun x hx => by have := hb x hx; omega)]
  simp only [bsome, List.length_map, sortI_length]
  have e2 : wrap64 ((l.length : Int) / 2) = ((l.length / 2 : Nat) : Int) := by rw [wrap64_id (by omega) (by omega)]; omega
  have b2 := hb _ (rd_sort_mem (l := l) (n := l.length / 2) (by omega))
  rw [e2]
  by_cases odd : (l.length : Int) % 2 = 1
  · rw [if_pos odd, if_pos (by omega), if_pos (by omega), rd_map_frS _ _ (by rw [sortI_length]; omega)]
    have ee : (l.length - 1) / 2 = l.length / 2 := by omega
    have ht : twice l = 2 * rd (sortI l) ((l.length / 2 : Nat) : Int) := by unfold twice; rw [ee]; omega
    rw [ht]
    generalize rd (sortI l) ((l.length / 2 : Nat) : Int) = s at *
    rw [redF_congr (p' := s) (q' := D) (by omega) (by omega) (by rw [Int.mul_assoc, Int.mul_left_comm]), redF_small hD (by omega) (by omega) (by omega)]
    rfl
  · rw [if_neg odd]
    have e1 : wrap64 (((l.length / 2 : Nat) : Int) - 1) = (((l.length - 1) / 2 : Nat) : Int) := by rw [wrap64_id (by omega) (by omega)]; omega
    have b1 := hb _ (rd_sort_mem (l := l) (n := (l.length - 1) / 2) (by omega))
    rw [e1, if_pos (by omega), if_pos (by omega), if_pos (by omega), if_pos (by omega), rd_map_frS _ _ (by rw [sortI_length]; omega), rd_map_frS _ _ (by rw [sortI_length]; omega)]
    have ht : twice l = rd (sortI l) (((l.length - 1) / 2 : Nat) : Int) + rd (sortI l) ((l.length / 2 : Nat) : Int) := rfl
    rw [ht]
    generalize rd (sortI l) (((l.length - 1) / 2 : Nat) : Int) = s at *
    generalize rd (sortI l) ((l.length / 2 : Nat) : Int) = t at *
    have vs := red_small (p := s) hD (by omega) (by omega) (by omega)
    have vt := red_small (p := t) hD (by omega) (by omega) (by omega)
    have hs := red_val (p := s) (q := D) (by omega)
    have ht' := red_val (p := t) (q := D) (by omega)
    unfold frS
    simp only
    rw [impl_add_eq hk bad vs.bf vt.bf]
    have c1 : redF (redA s D * redB t D + redA t D * redB s D) (redB s D * redB t D) = redF (s + t) D := by
      have p1 := vs.1
      have p2 := vt.1
      have p3 := mul_pos_ne p1 p2
      refine redF_congr (by omega) (by omega) ?_
      generalize redA s D = A at *
      generalize redB s D = B at *
      generalize redA t D = C at *
      generalize redB t D = E at *
      rw [Int.add_mul, Int.add_mul]
      have x1 : A * E * D = s * (B * E) := by
        calc A * E * D = A * D * E := by rw [Int.mul_assoc, Int.mul_comm E D, ← Int.mul_assoc]
          _ = s * B * E := by rw [hs]
          _ = s * (B * E) := by rw [Int.mul_assoc]
      have x2 : C * B * D = t * (B * E) := by
        calc C * B * D = C * D * B := by rw [Int.mul_assoc, Int.mul_comm B D, ← Int.mul_assoc]
          _ = t * E * B := by rw [ht']
          _ = t * (B * E) := by rw [Int.mul_assoc, Int.mul_comm E B]
      rw [x1, x2]
    rw [c1, redF_small hD (by omega) (by omega) (by omega)]
    simp only [bsome, toldR_some, num_eq]
    have vu := red_small (p := s + t) hD (by omega) (by omega) (by omega)
    rw [impl_div_eq hk bad vu.bf (c := 2) (d := 1) ⟨by omega, by omega, by omega, by omega⟩ (by omega)]
    have c2 : redF (redA (s + t) D * 1) (redB (s + t) D * 2) = redF (s + t) (2 * D) := by
      have p1 := vu.1
      have hu := red_val (p := s + t) (q := D) (by omega)
      refine redF_congr (by omega) (by omega) ?_
      generalize redA (s + t) D = A at *
      generalize redB (s + t) D = B at *
      generalize s + t = u at *
      calc A * 1 * (2 * D) = 2 * (A * D) := by rw [Int.mul_one, Int.mul_left_comm]
        _ = 2 * (u * B) := by rw [hu]
        _ = u * (B * 2) := by rw [Int.mul_comm 2, Int.mul_assoc]
    rw [c2]
    rfl
theorem fracs_l0 (m : Nat) : ∀ (k n : Nat) (l : List Int), n + m = l.length → l.length ≤ 1000000000 → m + 1 ≤ k → impl_fracs.l0 k ((l.take n).map fun x => (⟨x, 1⟩ : S24)) l (l.length : Int) (n : Int) = some (l.map fun x => (⟨x, 1⟩ : S24)) := by
  induction m with
  | zero =>
    intro k n l h hl hk
    obtain ⟨k, rfl⟩ : ∃ j, k = j + 1 := ⟨k - 1, by omega⟩
    simp only [impl_fracs.l0]
    rw [if_neg (by omega), List.take_of_length_le (by omega)]
  | succ m ih =>
    intro k n l h hl hk
    obtain ⟨k, rfl⟩ : ∃ j, k = j + 1 := ⟨k - 1, by omega⟩
    simp only [impl_fracs.l0, impl_num.f, bsome]
    rw [if_pos (by omega), if_pos (by omega), if_pos (by omega), if_pos (by simp; omega), wsucc (by omega), ← ih k (n + 1) l (by omega) hl (by omega), take_rd (by omega)]
    simp
theorem fracs_eq {k : Nat} (hk : Lv 1 k) (l : List Int) (hl : l.length ≤ 1000000000) : impl_fracs.f k l = some (l.map fun x => (⟨x, 1⟩ : S24)) := by
  unfold impl_fracs.f
  have := fracs_l0 l.length k 0 l (by omega) hl (hk.rounds (by omega))
  simpa using this
theorem frS_one {x : Int} : frS x 1 = ⟨x, 1⟩ := by
  have h := red_unique (p := x) (q := 1) (a := x) (b := 1) (by omega) (by omega) (by simp) rfl
  unfold frS
  rw [h.1, h.2]
theorem fracs_frS {k : Nat} (hk : Lv 1 k) (l : List Int) (hl : l.length ≤ 1000000000) : impl_fracs.f k l = some (l.map (frS · 1)) := by
  rw [fracs_eq hk l hl]
  congr 1
  apply List.map_congr_left
  intro x _
  rw [frS_one]
theorem one_told (o : Option (Int × Int)) : impl_calc_one.f (toldR false o).2.2 (toldR false o).1 (toldR false o).2.1 = some ((specR o).1, (specR o).2.1, (specR o).2.2, (toldR false o).2.2) := by
  unfold impl_calc_one.f
  cases o with
  | none => rfl
  | some x => rfl
theorem spec_MedianOf_eq {k : Nat} (hk : Lv 2 k) (l : List Int) (hl : l.length ≤ 1000000000) : spec_MedianOf.f k l = some (if rdsB l = true then specR (redF (twice l) 2) else (0, 0, 2)) := by
  unfold spec_MedianOf.f
  rw [l06List_eq (hk.le (by omega)) l hl]
  simp only [bsome]
  cases h : rdsB l with
  | false => rfl
  | true =>
    obtain ⟨h1, h2, h3⟩ := rdsB_iff h
    have hb := twice_bound h1 h3
    rw [if_pos rfl, if_pos rfl, if_pos rfl, l06Twice_eq (hk.le (by omega)) l h1 (by omega) (fun x hx => by have := h3 x hx; omega)]
    simp only [bsome]
    rw [spec_reduced_eq (hk.le (by omega)) _ _ (by omega) (by omega) (by omega) (by omega) (by omega)]
    rfl
theorem impl_MedianOf_eq {k : Nat} (hk : Lv 2 k) (l : List Int) (hl : l.length ≤ 1000000000) : impl_MedianOf.f k l = some (if rdsB l = true then specR (redF (twice l) 2) else (0, 0, 2)) := by
  unfold impl_MedianOf.f
  have e : impl_areReadings.f l = some (rdsB l) := rfl
  rw [e]
  simp only [bsome]
  cases h : rdsB l with
  | false => rfl
  | true =>
    obtain ⟨h1, h2, h3⟩ := rdsB_iff h
    rw [if_pos rfl, if_pos rfl, fracs_frS (hk.le (by omega)) l hl]
    simp only [bsome]
    rw [median_eq hk false (by omega) (by omega) l h1 (by omega) (fun x hx => by have := h3 x hx; omega)]
    simp only [bsome]
    rw [one_told]
    rfl
/-- Two times the distances from the median. -/
def dist (l : List Int) : List Int := l.map fun x => ((2 * x - twice l).natAbs : Int)
theorem specDist_l0 (m : Nat) : ∀ (k n : Nat) (l : List Int) (t : Int), n + m = l.length → l.length ≤ 1000000000 → (∀ x ∈ l, -1000000000 ≤ x ∧ x ≤ 1000000000) → -2000000000 ≤ t → t ≤ 2000000000 → m + 1 ≤ k → spec_l06Distances.l0 k l t ((l.take n).map fun x => ((2 * x - t).natAbs : Int)) (n : Int) = some (l.map fun x => ((2 * x - t).natAbs : Int)) := by
  induction m with
  | zero =>
    intro k n l t h hl hb ht ht1 hk
    obtain ⟨k, rfl⟩ : ∃ j, k = j + 1 := ⟨k - 1, by omega⟩
    simp only [spec_l06Distances.l0]
    rw [if_neg (by omega), List.take_of_length_le (by omega)]
  | succ m ih =>
    intro k n l t h hl hb ht ht1 hk
    obtain ⟨k, rfl⟩ : ∃ j, k = j + 1 := ⟨k - 1, by omega⟩
    simp only [spec_l06Distances.l0]
    have hx := hb _ (rd_mem (l := l) (n := n) (by omega))
    rw [if_pos (by omega), if_pos (by omega), wrap64_id (x := 2 * rd l (n : Int)) (by omega) (by omega), wrap64_id (by omega) (by omega), spec_abs_eq _ (by omega) (by omega)]
    simp only [bsome]
    rw [if_pos (by simp; omega), wsucc (by omega), ← ih k (n + 1) l t (by omega) hl hb ht ht1 (by omega), take_rd (by omega)]
    simp
theorem specDist_eq {k : Nat} (hk : Lv 1 k) (l : List Int) (h1 : 1 ≤ l.length) (hl : l.length ≤ 1000000) (hb : ∀ x ∈ l, -1000000000 ≤ x ∧ x ≤ 1000000000) : spec_l06Distances.f k l = some (dist l) := by
  unfold spec_l06Distances.f
  rw [l06Twice_eq hk l h1 hl hb]
  simp only [bsome]
  have ht := twice_bound h1 hb
  have := specDist_l0 l.length k 0 l (twice l) (by omega) (by omega) hb (by omega) (by omega) (hk.rounds (by omega))
  exact this
theorem dist_bound {l : List Int} {B : Int} (h1 : 1 ≤ l.length) (hb : ∀ x ∈ l, -B ≤ x ∧ x ≤ B) : ∀ x ∈ dist l, -(4 * B) ≤ x ∧ x ≤ 4 * B := by
  intro x hx
  obtain ⟨a, ha, rfl⟩ := List.mem_map.1 hx
  have h2 := hb a ha
  have h3 := twice_bound h1 hb
  omega
theorem dist_length (l : List Int) : (dist l).length = l.length := by simp [dist]
theorem spec_ScatterOf_eq {k : Nat} (hk : Lv 2 k) (l : List Int) (hl : l.length ≤ 1000000000) : spec_ScatterOf.f k l = some (if rdsB l = true then specR (redF (twice (dist l)) 4) else (0, 0, 2)) := by
  unfold spec_ScatterOf.f
  rw [l06List_eq (hk.le (by omega)) l hl]
  simp only [bsome]
  cases h : rdsB l with
  | false => rfl
  | true =>
    obtain ⟨h1, h2, h3⟩ := rdsB_iff h
    have hd := dist_bound h1 h3
    have hb := twice_bound (l := dist l) (by rw [dist_length]; exact h1) hd
    rw [if_pos rfl, if_pos rfl, if_pos rfl, specDist_eq (hk.le (by omega)) l h1 (by omega) (fun x hx => by have := h3 x hx; omega)]
    simp only [bsome]
    rw [l06Twice_eq (hk.le (by omega)) (dist l) (by rw [dist_length]; exact h1) (by rw [dist_length]; omega) (fun x hx => by have := hd x hx; omega)]
    simp only [bsome]
    rw [spec_reduced_eq (hk.le (by omega)) _ _ (by omega) (by omega) (by omega) (by omega) (by omega)]
    rfl
theorem size_eq (a b : Int) : impl_size.f a b = some (mx a (wrap64 (-a)), b) := by rw [impl_size.f]
theorem implDist_l0 (m : Nat) : ∀ (k n : Nat) (l : List Int) (t : Int) (bad : Bool), n + m = l.length → l.length ≤ 1000000 → (∀ x ∈ l, -10000000 ≤ x ∧ x ≤ 10000000) → -20000000 ≤ t → t ≤ 20000000 → Lv 3 k → impl_calc_distances.l0 (k + m) ((l.take n).map fun x => frS ((2 * x - t).natAbs : Int) 2) (l.map (frS · 1)) (l.length : Int) (n : Int) bad (redA t 2) (redB t 2) = some (l.map (fun x => frS ((2 * x - t).natAbs : Int) 2), bad) := by
  induction m with
  | zero =>
    intro k n l t bad h hl hb ht ht1 hk
    obtain ⟨k, rfl, hk'⟩ := hk.succ
    rw [Nat.add_zero]
    simp only [impl_calc_distances.l0]
    rw [if_neg (by omega), List.take_of_length_le (by omega)]
  | succ m ih =>
    intro k n l t bad h hl hb ht ht1 hk
    rw [← Nat.add_assoc]
    simp only [impl_calc_distances.l0]
    have hx := hb _ (rd_mem (l := l) (n := n) (by omega))
    rw [if_pos (by omega), if_pos (by omega), if_pos (by simp; omega), rd_map_frS _ _ (by omega)]
    have vt := red_small (p := t) (q := 2) (by omega) (by omega) (by omega) (by omega)
    have v1 := red_small (p := rd l (n : Int)) (q := 1) (by omega) (by omega) (by omega) (by omega)
    have q1 : ∀ x D, (frS x D).f0 = redA x D := fun _ _ => rfl
    have q2 : ∀ x D, (frS x D).f1 = redB x D := fun _ _ => rfl
    rw [q1, q2]
    have hk2 : Lv 2 (k + m) := Nat.le_trans (hk.le (n := 2) (by omega)) (Nat.le_add_right _ _)
    rw [impl_sub_eq hk2 bad v1.bf vt.bf]
    have c1 : redF (redA (rd l (n : Int)) 1 * redB t 2 - redA t 2 * redB (rd l (n : Int)) 1) (redB (rd l (n : Int)) 1 * redB t 2) = redF (2 * rd l (n : Int) - t) 2 := by
      have hf := frS_one (x := rd l (n : Int))
      unfold frS at hf
      injection hf with hf1 hf2
      rw [hf1, hf2]
      have p1 := vt.1
      have hv := red_val (p := t) (q := 2) (by omega)
      refine redF_congr (by omega) (by omega) ?_
      generalize redA t 2 = A at *
      generalize redB t 2 = B at *
      generalize rd l (n : Int) = s at *
      rw [Int.one_mul, Int.mul_one, Int.sub_mul, Int.sub_mul, hv]
      have : s * B * 2 = 2 * s * B := by rw [Int.mul_comm (s * B) 2, Int.mul_assoc]
      rw [this]
    rw [c1, redF_small (by omega) (by omega) (by omega) (by omega)]
    simp only [bsome, toldR_some, size_eq]
    have vd := red_small (p := 2 * rd l (n : Int) - t) (q := 2) (by omega) (by omega) (by omega) (by omega)
    have hA1 := vd.2.2.1
    have hA2 := vd.2.2.2.1
    rw [mx_nat _ (by omega) (by omega), if_pos (by simp; omega), wsucc (by omega)]
    have hab : redA ((2 * rd l (n : Int) - t).natAbs : Int) 2 = ((redA (2 * rd l (n : Int) - t) 2).natAbs : Int) ∧ redB ((2 * rd l (n : Int) - t).natAbs : Int) 2 = redB (2 * rd l (n : Int) - t) 2 := by
      refine red_unique (by omega) (by have := vd.1; omega) (by simpa using vd.2.2.2.2) ?_
      have hv := red_val (p := 2 * rd l (n : Int) - t) (q := 2) (by omega)
      have h0 := vd.1
      generalize redA (2 * rd l (n : Int) - t) 2 = A at *
      generalize redB (2 * rd l (n : Int) - t) 2 = B at *
      generalize 2 * rd l (n : Int) - t = u at *
      have : (A * 2).natAbs = (u * B).natAbs := by rw [hv]
      rw [Int.natAbs_mul, Int.natAbs_mul] at this
      have e3 : ((A.natAbs * (2 : Int).natAbs : Nat) : Int) = ((u.natAbs * B.natAbs : Nat) : Int) := by rw [this]
      rw [Int.natCast_mul, Int.natCast_mul, Int.natAbs_of_nonneg (a := B) (by omega)] at e3
      exact e3
    have := ih k (n + 1) l t bad (by omega) hl hb ht ht1 hk
    rw [take_rd (by omega)] at this
    simp only [List.map_append, List.map_cons, List.map_nil] at this
    rw [← this]
    have : frS ((2 * rd l (n : Int) - t).natAbs : Int) 2 = ⟨((redA (2 * rd l (n : Int) - t) 2).natAbs : Int), redB (2 * rd l (n : Int) - t) 2⟩ := by
      unfold frS
      rw [hab.1, hab.2]
    rw [this]
theorem implDist_eq {k : Nat} (hk : Lv 4 k) (bad : Bool) (l : List Int) (h1 : 1 ≤ l.length) (hl : l.length ≤ 1000000) (hb : ∀ x ∈ l, -10000000 ≤ x ∧ x ≤ 10000000) : impl_calc_distances.f k bad l = some ((dist l).map (frS · 2), bad) := by
  unfold impl_calc_distances.f
  have ht := twice_bound h1 hb
  rw [fracs_frS (hk.le (by omega)) l (by omega)]
  simp only [bsome, List.length_map]
  rw [median_eq (hk.le (by omega)) bad (by omega) (by omega) l h1 (by omega) (fun x hx => by have := hb x hx; omega), redF_small (by omega) (by omega) (by omega) (by omega)]
  simp only [bsome, toldR_some]
  have hkm : k = (k - l.length) + l.length := by have := hk.rounds (j := l.length) (by omega); omega
  have hl3 : Lv 3 (k - l.length) := Lv.sub' hk (by omega)
  have := implDist_l0 l.length (k - l.length) 0 l (twice l) bad (by omega) hl hb (by omega) (by omega) hl3
  rw [← hkm] at this
  rw [show (2 * 1 : Int) = 2 from rfl]
  simp only [List.take_zero, List.map_nil] at this
  rw [show ((0 : Int)) = ((0 : Nat) : Int) from rfl, this]
  simp [dist, Function.comp_def]
theorem impl_ScatterOf_eq {k : Nat} (hk : Lv 4 k) (l : List Int) (hl : l.length ≤ 1000000000) : impl_ScatterOf.f k l = some (if rdsB l = true then specR (redF (twice (dist l)) 4) else (0, 0, 2)) := by
  unfold impl_ScatterOf.f
  have e : impl_areReadings.f l = some (rdsB l) := rfl
  rw [e]
  simp only [bsome]
  cases h : rdsB l with
  | false => rfl
  | true =>
    obtain ⟨h1, h2, h3⟩ := rdsB_iff h
    have hd := dist_bound h1 h3
    rw [if_pos rfl, if_pos rfl, implDist_eq hk false l h1 (by omega) (fun x hx => by have := h3 x hx; omega)]
    simp only [bsome]
    rw [median_eq (hk.le (by omega)) false (by omega) (by omega) (dist l) (by rw [dist_length]; exact h1) (by rw [dist_length]; omega) (fun x hx => by have := hd x hx; omega)]
    simp only [bsome]
    rw [one_told]
    rfl
end Go.Proofs.Ytojkaiholofmfaa.A
