/- The contract of impl_ascending, or plain lemmas on the printed functions. -/
import Derived.Test.YtojkaiholofmfaaA0
import Derived.Test.YtojkaiholofmfaaHimplFrac
import Derived.Test.YtojkaiholofmfaaHpurea2sortrow
import Derived.Test.YtojkaiholofmfaaHpureb0lv
import Derived.Test.YtojkaiholofmfaaHpureb2red
import Derived.Test.YtojkaiholofmfaaHpureb3ord
import Derived.Shelf.SlSortCmp.NoneTotal
import Derived.Ground.SlsfProg
import Derived.Shelf.SlGeneric
import Derived.Shelf.SlSortCmp.NoneTotal
import Derived.Ground.SlsfProg
namespace Go.Proofs.Ytojkaiholofmfaa.A
open Go.RowKit Go.Proofs.YtojkaiholofmfaaW.PrintWords Go.Proofs.YtojkaiholofmfaaW.PrintLast Go.Proofs.YtojkaiholofmfaaW.PrintMore
attribute [local go_sem] max2_int min2_int max_two min_two max_three min_three max_four min_four   -- for this text's walks alone
set_option linter.unusedVariables false
set_option linter.unusedSimpArgs false
/-! ### impl_ascending: function 162 -/
def impl_ascending.f (l0 : List S24) : Option (List S24) := if l0 ≠ [] ∧ l0.all vfS = true ∧ l0.length < 1000000000 then some (l0.mergeSort leS) else none
section
open Go.Shelf
def sortFrac_ren : Go.Shelf.Ren := ⟨fun | 6 => 220 | 15 => 254 | 14 => 253 | 28 => 279 | 29 => 280 | 20 => 271 | 21 => 272 | 22 => 273 | 23 => 274 | 24 => 275 | 25 => 276 | 26 => 277 | 27 => 278 | 46 => 289 | 47 => 290 | 48 => 291 | 49 => 292 | 50 => 293 | 57 => 295 | n => n, fun | 22 => 59 | 24 => 24 | 25 => 231 | 3 => 3 | 39 => 242 | 0 => 0 | 53 => 290 | 55 => 188 | 4 => 4 | 46 => 283 | 45 => 282 | 50 => 287 | 5 => 5 | 9 => 9 | 66 => 297 | 70 => 301 | 76 => 305 | 77 => 306 | n => n, fun | n => n⟩
theorem sortFrac : Go.Proofs.SlLaysF0.n6 Try.prog sortFrac_ren := {
  mixed := by kernel_rfl
  f6 := ⟨Try.f220.name, by decide, Try.func220.trans (congrArg some (by kernel_rfl))⟩
  f14 := ⟨Try.f253.name, by decide, Try.func253.trans (congrArg some (by kernel_rfl))⟩
  f15 := Try.func254.trans (congrArg some (by kernel_rfl))
  f20 := ⟨Try.f271.name, by decide, Try.func271.trans (congrArg some (by kernel_rfl))⟩
  f21 := ⟨Try.f272.name, by decide, Try.func272.trans (congrArg some (by kernel_rfl))⟩
  f22 := ⟨Try.f273.name, by decide, Try.func273.trans (congrArg some (by kernel_rfl))⟩
  f23 := ⟨Try.f274.name, by decide, Try.func274.trans (congrArg some (by kernel_rfl))⟩
  f24 := ⟨Try.f275.name, by decide, Try.func275.trans (congrArg some (by kernel_rfl))⟩
  f25 := ⟨Try.f276.name, by decide, Try.func276.trans (congrArg some (by kernel_rfl))⟩
  f26 := ⟨Try.f277.name, by decide, Try.func277.trans (congrArg some (by kernel_rfl))⟩
  f27 := ⟨Try.f278.name, by decide, Try.func278.trans (congrArg some (by kernel_rfl))⟩
  f28 := Try.func279.trans (congrArg some (by kernel_rfl))
  f29 := Try.func280.trans (congrArg some (by kernel_rfl))
  f46 := ⟨Try.f289.name, by decide, Try.func289.trans (congrArg some (by kernel_rfl))⟩
  f47 := Try.func290.trans (congrArg some (by kernel_rfl))
  f48 := Try.func291.trans (congrArg some (by kernel_rfl))
  f49 := ⟨Try.f292.name, by decide, Try.func292.trans (congrArg some (by kernel_rfl))⟩
  f50 := ⟨Try.f293.name, by decide, Try.func293.trans (congrArg some (by kernel_rfl))⟩
  f57 := ⟨Try.f295.name, by decide, Try.func295.trans (congrArg some (by kernel_rfl))⟩
  t0 := Try.underlying0
  a0 := Try.isAgg0
  z0 := Try.sizeOf0
  v0 := Try.zeroValue0
  t3 := Try.underlying3
  a3 := Try.isAgg3
  z3 := Try.sizeOf3
  v3 := Try.zeroValue3
  t4 := Try.underlying4
  a4 := Try.isAgg4
  z4 := Try.sizeOf4
  v4 := Try.zeroValue4
  t5 := Try.underlying5
  a5 := Try.isAgg5
  z5 := Try.sizeOf5
  v5 := Try.zeroValue5
  t9 := Try.underlying9
  a9 := Try.isAgg9
  z9 := Try.sizeOf9
  v9 := Try.zeroValue9
  t22 := Try.underlying59
  a22 := Try.isAgg59
  z22 := Try.sizeOf59
  v22 := Try.zeroValue59
  t25 := Try.underlying231
  a25 := Try.isAgg231
  z25 := Try.sizeOf231
  v25 := Try.zeroValue231
  t39 := Try.underlying242
  a39 := Try.isAgg242
  z39 := Try.sizeOf242
  v39 := Try.zeroValue242
  t45 := Try.underlying282
  a45 := Try.isAgg282
  z45 := Try.sizeOf282
  v45 := Try.zeroValue282
  t46 := Try.underlying283
  a46 := Try.isAgg283
  z46 := Try.sizeOf283
  v46 := Try.zeroValue283
  t50 := Try.underlying287
  a50 := Try.isAgg287
  z50 := Try.sizeOf287
  v50 := Try.zeroValue287
  t53 := Try.underlying290
  a53 := Try.isAgg290
  z53 := Try.sizeOf290
  v53 := Try.zeroValue290
  t55 := Try.underlying188
  a55 := Try.isAgg188
  z55 := Try.sizeOf188
  v55 := Try.zeroValue188
  t66 := Try.underlying297
  a66 := Try.isAgg297
  z66 := Try.sizeOf297
  v66 := Try.zeroValue297
  t70 := Try.underlying301
  a70 := Try.isAgg301
  z70 := Try.sizeOf301
  v70 := Try.zeroValue301
  t76 := Try.underlying305
  a76 := Try.isAgg305
  z76 := Try.sizeOf305
  v76 := Try.zeroValue305
  t77 := Try.underlying306
  a77 := Try.isAgg306
  z77 := Try.sizeOf306
  v77 := Try.zeroValue306 }
end
/-- Fractions that are valid. -/
structure VS where
  v : S24
  h : VF v.f0 v.f1
instance : Inhabited VS := ⟨⟨⟨0, 1⟩, by decide⟩⟩
def encVS (x : VS) : List Value := [.int .i64 x.v.f0, .int .i64 x.v.f1]
/-- -1, 0 or 1. -/
def cmpI (a b : Int) : Int := if a < b then -1 else if b < a then 1 else 0
def cfVS (x y : VS) : Int := cmpI (x.v.f0 * y.v.f1) (y.v.f0 * x.v.f1)
theorem grow_ex (W : World) (o1 o2 : Obj) (n : Nat) : ∃ q os, ((W.alloc o1).alloc o2).drewN n = Go.Sort.grow (W.drewN q) os :=
  ⟨n, #[o1] ++ #[o2], by rw [Go.Sort.alloc_eq_grow, Go.Sort.alloc_eq_grow, Go.Sort.grow_grow]; rfl⟩
theorem compare_exact (a b c d : Int) (h : BF a b) (k : BF c d) (W : World) : Calls Try.prog 120 #[.agg #[.int .i64 a, .int .i64 b], .agg #[.int .i64 c, .int .i64 d]] W fun e w' => e = .returned (.int .i64 (cmpI (a * d) (c * b))) ∧ ∃ q os, w' = Go.Sort.grow (W.drewN q) os := by
  have b1 := vf_mul_bound h k
  have b2 := vf_mul_bound k h
  obtain ⟨x, hx⟩ : ∃ x, x = a * d := ⟨_, rfl⟩
  obtain ⟨y, hy⟩ : ∃ y, y = c * b := ⟨_, rfl⟩
  have e1 : wrap64 (a * d) = x := by rw [wrap64_id (by omega) (by omega), hx]
  have e2 : wrap64 (c * b) = y := by rw [wrap64_id (by omega) (by omega), hy]
  unfold cmpI
  rw [← hx, ← hy]
  clear h k hx hy b1 b2
  by_cases h1 : x < y
  · rw [if_pos h1]
    have g1 : decide (x < y) = true := decide_eq_true h1
    clear h1
    go_enter Try.func120, Try.ntmps120
    go_wp2
    repeat (go_quiet (fail); try go_wp2)
    go_ret
    exact ⟨rfl, grow_ex _ _ _ _⟩
  · rw [if_neg h1]
    have g1 : decide (x < y) = false := decide_eq_false h1
    by_cases h2 : y < x
    · rw [if_pos h2]
      have g2 : decide (y < x) = true := decide_eq_true h2
      clear h1 h2
      go_enter Try.func120, Try.ntmps120
      go_wp2
      repeat (go_quiet (fail); try go_wp2)
      go_ret
      exact ⟨rfl, grow_ex _ _ _ _⟩
    · rw [if_neg h2]
      have g2 : decide (y < x) = false := decide_eq_false h2
      clear h1 h2
      go_enter Try.func120, Try.ntmps120
      go_wp2
      repeat (go_quiet (fail); try go_wp2)
      go_ret
      exact ⟨rfl, grow_ex _ _ _ _⟩
theorem asc_closure (x y : VS) (W : World) : Calls Try.prog 221 (#[.agg (encVS x).toArray, .agg (encVS y).toArray] ++ #[]) W fun e w' => e = .returned (.int .i64 (cfVS x y)) ∧ ∃ q os, w' = Go.Sort.grow (W.drewN q) os := by
  show Calls Try.prog 221 #[.agg #[.int .i64 x.v.f0, .int .i64 x.v.f1], .agg #[.int .i64 y.v.f0, .int .i64 y.v.f1]] W _
  have hcon := fun W' => compare_exact x.v.f0 x.v.f1 y.v.f0 y.v.f1 x.h.bf y.h.bf W'
  unfold cfVS
  have hr : ∀ u v : Int, cmpI u v = -1 ∨ cmpI u v = 0 ∨ cmpI u v = 1 := fun u v => by unfold cmpI; split; exact Or.inl rfl; split; exact Or.inr (Or.inr rfl); exact Or.inr (Or.inl rfl)
  have hb := hr (x.v.f0 * y.v.f1) (y.v.f0 * x.v.f1)
  generalize cmpI (x.v.f0 * y.v.f1) (y.v.f0 * x.v.f1) = r at hcon hb ⊢
  have hb0 : -1 ≤ r := by omega
  have hb1 : r ≤ 1 := by omega
  clear hb hr
  go_enter Try.func221, Try.ntmps221
  go_wp2_with (go_at_call 120; refine (hcon _).mono ?_; rintro e w' ⟨rfl, q, os, rfl⟩)
  go_ret
  exact ⟨rfl, q, _, by rw [Go.Sort.alloc_eq_grow, Go.Sort.alloc_eq_grow, Go.Sort.grow_grow]; show Go.Sort.grow (Go.Sort.grow (W.drewN q) _) os = _; exact Go.Sort.grow_grow _ _ _⟩
theorem ltOf_cf (x y : VS) : Go.Proofs.ltOf cfVS x y = decide (x.v.f0 * y.v.f1 < y.v.f0 * x.v.f1) := by
  unfold Go.Proofs.ltOf cfVS cmpI
  by_cases h : x.v.f0 * y.v.f1 < y.v.f0 * x.v.f1
  · rw [if_pos h]; simp [h]
  · rw [if_neg h]
    split <;> simp [h]
theorem swoVS : Go.Sort.SWO (Go.Proofs.ltOf cfVS) where
  irrefl x := by rw [ltOf_cf]; simp
  trans x y z h1 h2 := by
    rw [ltOf_cf, decide_eq_true_eq] at *
    have hx := x.h.1; have hy := y.h.1; have hz := z.h.1
    exact cross_lt (by omega) (by omega) (by omega) h1 h2
  ntrans x y z h1 h2 := by
    rw [ltOf_cf, decide_eq_false_iff_not] at *
    have hx := x.h.1; have hy := y.h.1; have hz := z.h.1
    have := cross_le (by omega) (by omega) (by omega) (Int.not_lt.1 h2) (Int.not_lt.1 h1)
    omega
theorem totVS (x y : VS) (h1 : Go.Proofs.ltOf cfVS x y = false) (h2 : Go.Proofs.ltOf cfVS y x = false) : x = y := by
  rw [ltOf_cf, decide_eq_false_iff_not] at *
  have := vf_unique x.h y.h (by omega)
  obtain ⟨⟨a, b⟩, hx⟩ := x
  obtain ⟨⟨c, d⟩, hy⟩ := y
  obtain ⟨h3, h4⟩ := this
  cases h3
  cases h4
  rfl
theorem vs_of (l : List S24) (h : l.all vfS = true) : ∃ m : List VS, m.map VS.v = l := by
  induction l with
  | nil => exact ⟨[], rfl⟩
  | cons a r ih =>
    simp only [List.all_cons, Bool.and_eq_true] at h
    obtain ⟨m, hm⟩ := ih h.2
    exact ⟨⟨a, of_decide_eq_true h.1⟩ :: m, by simp [hm]⟩
theorem sort_val (m : List VS) : (m.mergeSort fun x y => !(Go.Proofs.ltOf cfVS) y x).map VS.v = (m.map VS.v).mergeSort leS := by
  apply List.map_mergeSort
  intro a _ b _
  rw [ltOf_cf]
  unfold leS
  by_cases h : b.v.f0 * a.v.f1 < a.v.f0 * b.v.f1
  · simp [h]
  · simp [h]; omega
theorem sortFrac_calls (w W0 : World) (base : Nat) (v : Value) (l : List S24) (hne : l ≠ []) (hv : l.all vfS = true) (hlen : l.length < 4611686018427387904) (hR : Kd.R k24 24 w base (fun _ => True) v l) (hB : Below base W0 w) :
    Calls Try.prog 220 #[v, .func (.func 221) #[] #[]] w fun e w' => e = .returned (.tuple #[]) ∧ Kd.R k24 24 w' base (fun _ => True) v (l.mergeSort leS) ∧ Below base W0 w' := by
  obtain ⟨m, rfl⟩ := vs_of l hv
  have hne' : m ≠ [] := by rintro rfl; exact hne rfl
  obtain ⟨g, cap, rfl, hg, hbg, hcap, hH, hback⟩ := sorted_row (α := VS) k24 24 VS.v encVS (fun _ => rfl) (fun w base ok x cs h => k24_openM h) (fun w base ok x => k24_mkM w base ok x.v) hR hne'
  have hml : (m.map VS.v).length = m.length := by simp
  have hs : m.toArray.size = m.length := by simp
  have h := Go.Proofs.AnyQ.slices_SortFunc_total sortFrac 2 (fun w => Try.isAgg24 w) (fun w => Try.sizeOf24 w) encVS (fun _ => rfl) (fun x v hv => by
      simp only [encVS, List.mem_cons, List.not_mem_nil, or_false] at hv
      rcases hv with rfl | rfl <;> rfl) cfVS swoVS 221 #[] g 0 cap m.toArray w (enters_of Try.func221 (by kernel_rfl) rfl) (fun n os dk hdk x y => asc_closure x y _) hH hg (by rw [hs]; simpa using hlen) totVS
  rw [hs] at h
  refine h.mono ?_
  rintro e w' ⟨rfl, n, os, rfl⟩
  have hb := hback n os (m.mergeSort fun x y => !(Go.Proofs.ltOf cfVS) y x) (List.length_mergeSort m)
  rw [sort_val] at hb
  exact ⟨rfl, hb.1, hB.trans hb.2⟩
theorem impl_ascending.calls (A0 : Option Addr) (c0 : Nat) (l0 : List (S24)) (r : List (S24)) (w : World) (hr0 : Kd.C k24 w A0 l0.length l0) (hc0 : l0.length ≤ c0) (h : impl_ascending.f l0 = some r) :
    Calls Try.prog 162 #[.slice A0 l0.length c0] w fun e w' => ∃ v0_ : Value, e = .returned (v0_) ∧ Kd.R k24 24 w' w.heap.size (fun _ => True) v0_ r ∧ Below w.heap.size w w' := by
  unfold impl_ascending.f at h
  split at h
  · rename_i hh
    obtain ⟨hne, hv, hlen⟩ := hh
    obtain rfl := Option.some.inj h
    clear h
    have HC := Aside0.mk (impl_Frac.calls A0 c0 l0 l0 w hr0 hc0 (by unfold impl_Frac.f; rw [if_pos (by omega)]))
    have HS := Aside0.mk (fun (W : World) (v : Value) => sortFrac_calls W w w.heap.size v l0 hne hv (by omega))
    clear hr0 hc0 hne hv hlen
    go_enter Try.func162, Try.ntmps162
    go_wp2_with (first | (go_at_call 139; refine HC.out.mono ?_; rintro e w1 ⟨v1, rfl, ho, hb⟩; have HO := Aside0.mk ho; have HB := Aside0.mk hb; clear ho hb) | (go_at_call 220; refine (HS.out _ _ HO.out HB.out).mono ?_; rintro e w2 ⟨rfl, ho2, hb2⟩; have HO2 := Aside0.mk ho2; have HB2 := Aside0.mk hb2; clear ho2 hb2))
    go_ret
    exact ⟨_, rfl, HO2.out, HB2.out⟩
  · cases h

end Go.Proofs.Ytojkaiholofmfaa.A
