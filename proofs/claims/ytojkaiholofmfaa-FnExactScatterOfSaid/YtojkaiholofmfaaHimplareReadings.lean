/- The contract of impl_areReadings, or plain lemmas on the printed functions. -/
import Derived.Test.YtojkaiholofmfaaA0
import Derived.Test.YtojkaiholofmfaaA0x3
import Derived.Test.YtojkaiholofmfaaHpurea0idx
import Derived.Test.YtojkaiholofmfaaHpurea1idx64
namespace Go.Proofs.Ytojkaiholofmfaa.A
open Go.RowKit Go.Proofs.YtojkaiholofmfaaW.PrintWords Go.Proofs.YtojkaiholofmfaaW.PrintLast Go.Proofs.YtojkaiholofmfaaW.PrintMore
attribute [local go_sem] max2_int min2_int max_two min_two max_three min_three max_four min_four   -- for this text's walks alone
set_option linter.unusedVariables false
set_option linter.unusedSimpArgs false
/-! ### impl_areReadings: function 75 -/
def impl_areReadings.f (l0 : List Int) : Option (Bool) := some (decide (1 ≤ l0.length ∧ l0.length ≤ 64) && l0.all (fun n => decide (-1000000 ≤ n ∧ n ≤ 1000000)))
theorem areReadings_closure (x : Int) (W : World) : Calls Try.prog 161 (#[.int .i64 x] ++ #[]) W fun e w' => e = .returned (.bool (!(decide (-1000000 ≤ x ∧ x ≤ 1000000)))) ∧ Drawn0 W w' := by
  have hc : impl_within.f x (-1000000) 1000000 = some (decide (-1000000 ≤ x ∧ x ≤ 1000000)) := by
    unfold impl_within.f
    by_cases h : -1000000 ≤ x <;> simp [h]
  generalize decide (-1000000 ≤ x ∧ x ≤ 1000000) = b at hc
  show Calls Try.prog 161 #[.int .i64 x] W _
  go_enter Try.func161, Try.ntmps161
  go_wp2_with (go_at_call 98; refine (impl_within.calls x (-1000000) 1000000 b _ hc).mono ?_; rintro e w' ⟨rfl, hd⟩)
  go_ret
  exact ⟨rfl, hd⟩
theorem impl_areReadings.calls (A0 : Option Addr) (c0 : Nat) (l0 : List Int) (r : Bool) (w : World) (hr0 : Kd.C (Kd.int .i64) w A0 l0.length l0) (hc0 : l0.length ≤ c0) (h : impl_areReadings.f l0 = some r) :
    Calls Try.prog 75 #[.slice A0 l0.length c0] w fun e w' => e = .returned (.bool r) ∧ Drawn0 w w' := by
  unfold impl_areReadings.f at h
  have hlen : l0.length ≤ 9223372036854775807 := hr0.2.1
  have hcnt : impl_isCount.f (l0.length : Int) = some (decide (1 ≤ l0.length ∧ l0.length ≤ 64)) := by
    unfold impl_isCount.f impl_within.f
    by_cases h1 : 1 ≤ l0.length
    · have h1' : (1 : Int) ≤ (l0.length : Int) := by omega
      rw [if_pos h1']
      simp only [Option.bind_some, Option.some.injEq]
      rw [decide_eq_decide]
      omega
    · have h1' : ¬ (1 : Int) ≤ (l0.length : Int) := by omega
      rw [if_neg h1']
      simp only [Option.bind_some, Option.some.injEq]
      symm
      rw [decide_eq_false_iff_not]
      omega
  have hany := fun W (hW : Kd.C (Kd.int .i64) W A0 l0.length l0) => any_i64 (fun x => !(decide (-1000000 ≤ x ∧ x ≤ 1000000))) 161 #[] (enters_of Try.func161 (by kernel_rfl) rfl) A0 c0 l0 W hW (fun W' x hd _ => (areReadings_closure x W').mono fun e w' ⟨he, hd'⟩ => ⟨he, drawn_trans hd hd'⟩)
  have hall : (l0.any fun x => !(decide (-1000000 ≤ x ∧ x ≤ 1000000))) = !(l0.all fun n => decide (-1000000 ≤ n ∧ n ≤ 1000000)) := by
    rw [List.any_eq_not_all_not]; simp
  rw [hall] at hany
  generalize (l0.all fun n => decide (-1000000 ≤ n ∧ n ≤ 1000000)) = b at h hany
  have HR0 := Aside0.mk hr0
  have HANY := Aside0.mk hany
  clear hr0 hany hall
  generalize hbc : decide (1 ≤ l0.length ∧ l0.length ≤ 64) = bc at hcnt h
  clear hbc
  have HCNT := Aside0.mk hcnt
  clear hcnt
  cases bc with
  | true =>
    simp only [Bool.true_and] at h
    obtain rfl := Option.some.inj h
    clear h
    go_enter Try.func75, Try.ntmps75
    go_wp2_with (first | (go_at_call 159; refine (impl_isCount.calls (l0.length : Int) true _ HCNT.out).mono ?_; rintro e w' ⟨rfl, ⟨n1, rfl⟩⟩) | (go_at_call 160; refine (HANY.out _ (Kd.C_drewN HR0.out _)).mono ?_; rintro e w' ⟨rfl, ⟨n2, rfl⟩⟩))
    go_ret
    exact ⟨by simp, by repeat (first | exact Drawn0.refl _ | apply Drawn0.step)⟩
  | false =>
    simp only [Bool.false_and] at h
    obtain rfl := Option.some.inj h
    clear h
    go_enter Try.func75, Try.ntmps75
    go_wp2_with (first | (go_at_call 159; refine (impl_isCount.calls (l0.length : Int) false _ HCNT.out).mono ?_; rintro e w' ⟨rfl, ⟨n1, rfl⟩⟩))
    go_ret
    exact ⟨rfl, by repeat (first | exact Drawn0.refl _ | apply Drawn0.step)⟩

end Go.Proofs.Ytojkaiholofmfaa.A
