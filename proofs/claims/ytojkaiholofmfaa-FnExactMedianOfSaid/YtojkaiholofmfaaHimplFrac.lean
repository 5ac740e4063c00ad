/- The contract of impl_Frac, or plain lemmas on the printed functions. -/
import Derived.Test.YtojkaiholofmfaaA0
import Derived.Lib.SliceRun
namespace Go.Proofs.Ytojkaiholofmfaa.A
open Go.RowKit Go.Proofs.YtojkaiholofmfaaW.PrintWords Go.Proofs.YtojkaiholofmfaaW.PrintLast Go.Proofs.YtojkaiholofmfaaW.PrintMore
attribute [local go_sem] max2_int min2_int max_two min_two max_three min_three max_four min_four   -- for this text's walks alone
set_option linter.unusedVariables false
set_option linter.unusedSimpArgs false
/-! ### impl_Frac: function 139 -/
def impl_Frac.f (l0 : List (S24)) : Option (List (S24)) := if l0.length < 8796093021952 then some l0 else none
theorem impl_Frac.info : (Try.prog.info? 24).map (fun i => (i.zero, i.size, i.bytes)) = some (some (.agg #[(.int .i64 0), (.int .i64 0)]), 2, 16) := by kernel_rfl
theorem impl_Frac.calls (A0 : Option Addr) (c0 : Nat) (l0 : List (S24)) (r : List (S24)) (w : World) (hr0 : Kd.C k24 w A0 l0.length l0) (hc0 : l0.length ≤ c0) (h : impl_Frac.f l0 = some r) :
    Calls Try.prog 139 #[.slice A0 l0.length c0] w fun e w' => ∃ v0_ : Value, e = .returned (v0_) ∧ Kd.R k24 24 w' w.heap.size (fun _ => True) v0_ r ∧ Below w.heap.size w w' := by
  unfold impl_Frac.f at h
  split at h
  · rename_i hlt
    obtain rfl := Option.some.inj h
    clear h
    have HR0 := Aside0.mk hr0
    have HC0 := Aside0.mk hc0
    have HL := Aside0.mk hlt
    have HB := Aside0.mk (Below.refl w.heap.size w)
    have hN := hr0.2.2
    have hsz := hr0.1
    clear hr0 hc0 hlt
    cases A0 with
    | none =>
      have hl0 : l0 = [] := by
        match l0, hN with
        | [], _ => rfl
        | x :: r, hN => obtain ⟨ad, e, _⟩ := hN (by simp); cases e
      subst hl0
      clear hN hsz
      have q := fun (W : World) (n c : Nat) => Lib.run_eql_slice_nil (P := Try.prog) W 59 24 none n c 0 0 Try.underlying59
      go_enter Try.func139, Try.ntmps139
      go_wp2
      go_ret
      exact ⟨_, rfl, Kd.R_nil _ _ _ _ _, HB.out⟩
    | some ad =>
      clear hN hsz
      have q := fun (W : World) (n c : Nat) => Lib.run_eql_slice_nil (P := Try.prog) W 59 24 (some ad) n c 0 0 Try.underlying59
      go_enter Try.func139, Try.ntmps139
      go_wp2_with (first | ((with_reducible refine gate_dst (N := 5) rfl ?_); refine Kd.R_lit k24 _ 24 ?hg (N := 5) ?hd (xs := ([] : List (S24))) (inner := []) (ok := fun _ => True) (okp := fun _ => True) ?hr ?hp (fun _ hk => hk) trivial (Below.refl _ _) (Nat.le_refl _) (by simp) ?_; (case hd => rfl); (case hg => rfl); (case hr => first | (go_simp; done) | (go_simp; rfl)); (case hp => exact (Reps.none _ _)); intro v120 w3 ho4 hb hg_ hnew_; clear hg_ hnew_; have HO121 := Aside0.mk (Kd.R_lower ho4 (Nat.le_refl _)); have HB2 := Aside0.mk hb; clear hb ho4) | ((with_reducible refine gate_builtin (b := .append) (xs := #[.tmp 5, .tmp 6]) rfl ?_); at_builtin; refine Kd.R_append_rows k24 (w0 := w) w.heap.size rfl (.tmp 5) (.tmp 6) 59 24 (.agg #[(.int .i64 0), (.int .i64 0)]) 16 rfl Try.underlying59 impl_Frac.info rfl (by decide) (by omega) v120 [] l0 _ _ _ (fun _ => True) (fun _ => False) rfl rfl ?aO ?aR (fun _ _ h => h) (fun _ h => h.elim) ?aF ?aB ?aS ?aL ?_; (case aR => exact Kd.C_below HR0.out HB2.out); (case aB => exact HB2.out); (case aF => exact (fun _ _ => trivial)); (case aO => exact HO121.out); (case aS => exact HB2.out.size); (case aL => have := HL.out; simp only [List.length_nil, Nat.zero_add]; omega); intro v123 w5 ho hb hg hat; have HO124 := Aside0.mk ho; clear HB; have HB := Aside0.mk hb; clear ho hb hg hat))
      go_ret
      exact ⟨_, rfl, by simpa using HO124.out, HB.out⟩
  · cases h

end Go.Proofs.Ytojkaiholofmfaa.A
