/- The contract of pure_c0sort, or plain lemmas on the printed functions. -/
import Derived.Test.YtojkaiholofmfaaA0
import Derived.Test.YtojkaiholofmfaaA0x2
import Derived.Test.YtojkaiholofmfaaHpureb0lv
namespace Go.Proofs.Ytojkaiholofmfaa.A
open Go.RowKit Go.Proofs.YtojkaiholofmfaaW.PrintWords Go.Proofs.YtojkaiholofmfaaW.PrintLast Go.Proofs.YtojkaiholofmfaaW.PrintMore
attribute [local go_sem] max2_int min2_int max_two min_two max_three min_three max_four min_four   -- for this text's walks alone
set_option linter.unusedVariables false
set_option linter.unusedSimpArgs false
/-- Numbers in ascending order. -/
def sortI (l : List Int) : List Int := l.mergeSort (fun a b => decide (a ≤ b))
theorem sortI_perm (l : List Int) : (sortI l).Perm l := List.mergeSort_perm l _
theorem sortI_sorted (l : List Int) : (sortI l).Pairwise (· ≤ ·) := by
  have h := List.pairwise_mergeSort (le := fun (a b : Int) => decide (a ≤ b)) (fun a b c h1 h2 => by simp at *; omega) (fun a b => by simp; omega) l
  exact h.imp (fun {a b} hab => by simpa using hab)
theorem sortI_length (l : List Int) : (sortI l).length = l.length := List.length_mergeSort l
theorem sortI_unique {l p : List Int} (hp : p.Perm l) (hs : p.Pairwise (· ≤ ·)) : p = sortI l :=
  (hp.trans (sortI_perm l).symm).eq_of_pairwise (fun a b _ _ h1 h2 => by omega) hs (sortI_sorted l)
theorem sortI_congr {l p : List Int} (hp : p.Perm l) : sortI p = sortI l := sortI_unique ((sortI_perm p).trans hp) (sortI_sorted p)
theorem swap_at (a b : List Int) (c v : Int) : ((a ++ c :: v :: b).set (a.length + 1) c).set a.length v = a ++ v :: c :: b := by
  rw [List.set_append_right _ _ (by omega), List.set_append_right _ _ (by omega)]
  simp
theorem rd_mid (a b : List Int) (c : Int) (i : Int) (h : i = (a.length : Int)) : rd (a ++ c :: b) i = c := by
  subst h
  simp [rd]
theorem sorted_l1 (n : Nat) : ∀ (k : Nat) (a : List Int) (v : Int) (b rest : List Int) (x4 : Int), a.length = n → (a ++ v :: (b ++ rest)).length ≤ 1000000000 → (a ++ b).Pairwise (· ≤ ·) → (∀ y ∈ b, v < y) → n + 1 ≤ k →
    ∃ (p : List Int) (j : Nat), p.Perm (a ++ v :: b) ∧ p.Pairwise (· ≤ ·) ∧ j ≤ n + 1 ∧ spec_l06Sorted.l1 k (a ++ v :: (b ++ rest)) x4 (n : Int) = spec_l06Sorted.l0 (k - j) (p ++ rest) (wrap64 (x4 + 1)) := by
  induction n with
  | zero =>
    intro k a v b rest x4 ha hlen hs hv hk
    obtain ⟨k, rfl⟩ : ∃ m, k = m + 1 := ⟨k - 1, by omega⟩
    obtain rfl := List.eq_nil_of_length_eq_zero ha
    refine ⟨v :: b, 1, List.Perm.refl _, ?_, by omega, ?_⟩
    · exact List.pairwise_cons.2 ⟨fun y hy => Int.le_of_lt (hv y hy), by simpa using hs⟩
    · simp [spec_l06Sorted.l1]
  | succ n ih =>
    intro k a v b rest x4 ha hlen hs hv hk
    obtain ⟨k, rfl⟩ : ∃ m, k = m + 1 := ⟨k - 1, by omega⟩
    obtain ⟨a', c, rfl⟩ : ∃ a' c, a = a' ++ [c] := ⟨a.dropLast, a.getLast (by intro e; rw [e] at ha; simp at ha), (List.dropLast_concat_getLast _).symm⟩
    have ha' : a'.length = n := by simpa using ha
    have hshape : a' ++ [c] ++ v :: (b ++ rest) = a' ++ c :: v :: (b ++ rest) := by simp
    have hL : ((a' ++ [c] ++ v :: (b ++ rest)).length : Int) = (n : Int) + 2 + b.length + rest.length := by simp [ha']; omega
    have hw : wrap64 (((n + 1 : Nat) : Int) - 1) = (n : Int) := by rw [wrap64_id (by omega) (by simp at hlen; omega)]; omega
    have hb : (n : Int) ≤ 1000000000 := by simp at hlen; omega
    simp only [spec_l06Sorted.l1]
    rw [if_pos (by omega), if_pos (by omega), if_pos (by rw [hL]; omega), hw, if_pos (by omega), if_pos (by rw [hL]; omega)]
    have r1 : rd (a' ++ [c] ++ v :: (b ++ rest)) ((n + 1 : Nat) : Int) = v := rd_mid (a' ++ [c]) (b ++ rest) v _ (by simp [ha'])
    have r2 : rd (a' ++ [c] ++ v :: (b ++ rest)) (n : Int) = c := by rw [hshape]; exact rd_mid a' (v :: (b ++ rest)) c _ (by rw [ha'])
    rw [r1, r2]
    by_cases hlt : v < c
    · rw [if_pos hlt]
      have hset : ((a' ++ [c] ++ v :: (b ++ rest)).set (((n + 1 : Nat) : Int)).toNat c).set ((n : Int)).toNat v = a' ++ v :: ((c :: b) ++ rest) := by
        rw [hshape]
        have := swap_at a' (b ++ rest) c v
        rw [ha'] at this
        simpa using this
      rw [hset]
      have hs' : (a' ++ (c :: b)).Pairwise (· ≤ ·) := by simpa using hs
      obtain ⟨p, j, hp, hps, hj, he⟩ := ih k a' v (c :: b) rest x4 ha' (by simp at hlen ⊢; omega) hs' (fun y hy => by rcases List.mem_cons.1 hy with rfl | hy; exact hlt; exact hv y hy) (by omega)
      refine ⟨p, j + 1, hp.trans ?_, hps, by omega, ?_⟩
      · rw [List.append_assoc]
        exact List.Perm.append_left _ (List.Perm.swap c v b)
      · rw [he]; congr 1; omega
    · rw [if_neg hlt]
      refine ⟨a' ++ [c] ++ v :: b, 1, List.Perm.refl _, ?_, by omega, by simp⟩
      rw [List.pairwise_append] at hs ⊢
      obtain ⟨h1, h2, h3⟩ := hs
      have hcv : ∀ x ∈ a' ++ [c], x ≤ c := by
        intro x hx
        rcases List.mem_append.1 hx with hx | hx
        · exact (List.pairwise_append.1 h1).2.2 x hx c (by simp)
        · simp at hx; omega
      refine ⟨h1, List.pairwise_cons.2 ⟨fun y hy => Int.le_of_lt (hv y hy), h2⟩, fun x hx y hy => ?_⟩
      rcases List.mem_cons.1 hy with rfl | hy
      · have := hcv x hx; omega
      · exact h3 x hx y hy
theorem sorted_l0 (m : Nat) : ∀ (k : Nat) (p rest : List Int), rest.length = m → (p ++ rest).length ≤ 1000000 → p ≠ [] → p.Pairwise (· ≤ ·) → m * 2000000 + 1 ≤ k →
    spec_l06Sorted.l0 k (p ++ rest) (p.length : Int) = some (sortI (p ++ rest)) := by
  induction m with
  | zero =>
    intro k p rest hm hlen hne hs hk
    obtain ⟨k, rfl⟩ : ∃ m, k = m + 1 := ⟨k - 1, by omega⟩
    obtain rfl := List.eq_nil_of_length_eq_zero hm
    simp only [spec_l06Sorted.l0, List.append_nil]
    rw [if_neg (by omega), ← sortI_unique (List.Perm.refl p) hs]
  | succ m ih =>
    intro k p rest hm hlen hne hs hk
    obtain ⟨k, rfl⟩ : ∃ m, k = m + 1 := ⟨k - 1, by omega⟩
    match rest, hm with
    | v :: rest, hm =>
      simp only [spec_l06Sorted.l0]
      rw [if_pos (by simp; omega)]
      obtain ⟨q, j, hq, hqs, hj, he⟩ := sorted_l1 p.length k p v [] rest p.length rfl (by simp at hlen ⊢; omega) (by simpa using hs) (by simp) (by simp at hlen; omega)
      simp only [List.nil_append] at he
      rw [he]
      have hql : q.length = p.length + 1 := by rw [hq.length_eq]; simp
      have hw : wrap64 ((p.length : Int) + 1) = (q.length : Int) := by rw [wrap64_id (by omega) (by simp at hlen; omega), hql]; omega
      have hl2 : p.length + (rest.length + 1) ≤ 1000000 := by simpa using hlen
      have hk2 : m * 2000000 + 2000000 + 1 ≤ k + 1 := by rw [← Nat.succ_mul]; exact hk
      have hk3 : m * 2000000 + 1 ≤ k - j := by
        clear hk he hw ih
        generalize m * 2000000 = mm at hk2 ⊢
        omega
      rw [hw, ih (k - j) q rest (by simpa using hm) (by simp at hlen ⊢; omega) (by intro e; rw [e] at hql; simp at hql) hqs hk3]
      congr 1
      apply sortI_congr
      have := hq.append_right rest
      simpa using this
theorem spec_sorted_eq {k : Nat} (hk : Lv 1 k) (l : List Int) (hl : l.length ≤ 1000000) : spec_l06Sorted.f k l = some (sortI l) := by
  unfold spec_l06Sorted.f
  simp only [Option.bind_some, List.nil_append, List.length_nil]
  rw [if_pos (by omega)]
  have hk' := hk.ge
  match l with
  | [] =>
    obtain ⟨k, rfl⟩ : ∃ m, k = m + 1 := ⟨k - 1, by omega⟩
    simp [spec_l06Sorted.l0, sortI]
  | v :: rest =>
    have := sorted_l0 rest.length k [v] rest rfl (by simpa using hl) (by simp) (by simp) (by simp at hl; omega)
    simpa using this
end Go.Proofs.Ytojkaiholofmfaa.A
