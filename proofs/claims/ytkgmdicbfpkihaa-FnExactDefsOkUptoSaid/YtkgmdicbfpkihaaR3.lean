/- The law FnExactDefsOk holds of every list of terms whose bulk is at most 1048576: it returns true, and the list reads as before. -/
import Derived.Test.YtkgmdicbfpkihaaU0
import Derived.Test.YtkgmdicbfpkihaaL2
import Derived.JoinedCond
import Derived.Carry
namespace Go.Proofs.Ytkgmdicbfpkihaa.fnExactDefsOk
open Go.ChangeShapes Go.WideShapes Go.ChangeAt Go.RowKit Go.Proofs.Ytkgmdicbfpkihaa.Asl
set_option linter.unusedVariables false
theorem own : ownKnob Try.prog.godebug = none := by kernel_rfl
theorem laidOut : laidOutB Try.prog = true := by kernel_rfl
theorem termTy : TermTy Try.prog T_s_laws_Term T_laws_Term := ⟨by kernel_rfl, ⟨_, _, _, Try.underlying24, rfl, rfl, rfl, by kernel_rfl, by kernel_rfl, rfl, by kernel_rfl, by kernel_rfl⟩, by kernel_rfl, by kernel_rfl⟩

theorem contract (H : Type) (enc : TypeId × Value → H) (W : World) (base : Nat) (args : Array Value) (ds gs : List (DataW H)) (before : List MemPlace)
    (hval : ∀ (j : Nat) t v, Try.f5.params[j]? = some t → args[j]? = some v → Value.okWide Try.prog W .any base t v)
    (hW : DataW.Whole enc Try.prog Try.f5.params.toList Rows.fnExactDefsOkSpec.vars false W args.toList ds gs before) (hk : Rows.uptoSmall H (ds ++ gs) = true) :
    Calls Try.prog F_laws_FnExactDefsOk args W fun e W' => ∃ v, e = .returned v ∧ Rows.fnExactDefsOkSpec.post enc Try.prog Try.f5 false true false false W args v W' := by
  have hW' := hW
  obtain ⟨p, q, hA0, hV, rfl, hfz, hnd⟩ := hW
  have hA : DataW.TrodAll enc Try.prog W 0 (fun _ => true) true Try.f5.params.toList args.toList ds p := hA0
  rw [Try.params5] at hA hval
  obtain ⟨v0, vs0, d0, ds0, p0, q0, hargs, rfl, rfl, h0, r0⟩ := trodAll_cons hA
  obtain ⟨rfl, rfl, rfl⟩ := trodAll_nil r0
  obtain rfl : args = #[v0] := by cases args; simp_all
  obtain ⟨rfl, rfl⟩ := trodVars_none hV
  clear hA0
  have hlt : ∀ x ∈ p0, x.block < W.heap.size := fun x hx => by simpa using hW'.lt x (by simp [hx])
  have hb : Rows.uptoBulk d0 ≤ 1048576 := by simpa [Rows.uptoSmall, Rows.uptoBulkAll] using hk
  obtain ⟨ts, hopen⟩ := open_terms_arg termTy (okWide_slice Try.underlying22 (hval 0 22 v0 rfl rfl)) h0 hb
  obtain ⟨s, σ', ρ', hR, hT, hS, _, _⟩ := hopen _ _ (sim_empty W)
  refine (calls_ret (c_FnExactDefsOk ts σ' s) hS (.cons hR .nil)).mono fun e W' ⟨he, bel⟩ => ?_
  subst he
  exact ⟨_, rfl, _, _, _, [], _, [], hW', trodAll_mk1 (shut_bool Try.underlying4 _), trodAll_cons_mk (Below.trod laidOut (by kernel_rfl) (of_decide_eq_true (by kernel_rfl)) h0 bel hlt) trodAll_mk0, rfl, bel.frame _, fun h => by cases h⟩

set_option maxRecDepth 100000 in
theorem lifted (os : Os) (started : os.Started) (H : Type) (enc : TypeId × Value → H) (F : Stop.Interp) :
    ReturnsInHanded {} Try.checked os F_laws_FnExactDefsOk .any ((Rows.OpenSpec.upto Rows.fnExactDefsOkSpec).pre6 enc Try.prog Try.f5 Rows.fnExactDefsOkUptoRow.domain false) (((Rows.OpenSpec.upto Rows.fnExactDefsOkSpec).at F).post enc Try.prog Try.f5 false true false false) := by
  refine returnsInHanded_of_cond (C := Try.checked) (s := Rows.OpenSpec.upto Rows.fnExactDefsOkSpec) (k := Rows.uptoSmall) rfl own started (by kernel_rfl) Try.func5
    (OpenSpec.witness (enc := enc) (C := Try.checked) (s := Rows.OpenSpec.upto Rows.fnExactDefsOkSpec) (k := Rows.uptoSmall) rfl false ⟨#[], #[.slice none 0 0], []⟩ 8 (by kernel_rfl) (by kernel_rfl) (by kernel_rfl)
      (x := ([.nil], [], [])) (by kernel_rfl) rfl (by kernel_rfl)) ?_
  intro W base args ds gs before hval hW _ hk _
  exact contract H enc W base args ds gs before hval hW hk

theorem over : Rows.fnExactDefsOkUptoRow.holds Try.pinned (Rows.OpenSpec.upto Rows.fnExactDefsOkSpec) :=
  OpenClaim.holds_of_cond F_laws_FnExactDefsOk Try.f5 rfl rfl rfl rfl rfl rfl rfl ⟨rfl, rfl, rfl, rfl, rfl⟩ rfl rfl rfl rfl rfl (by kernel_rfl) Try.func5 (by kernel_rfl)
    (of_decide_eq_true (by kernel_rfl)) (by unfold Func.isWrapper; first | (rw [if_pos (by decide +kernel)]; kernel_rfl) | (rw [if_neg (by decide +kernel)]; exact ⟨rfl, rfl⟩))
    (fun os started H enc _ F => lifted os started H enc F)
theorem proved : Rows.FnExactDefsOkUptoSaid := over
#print axioms proved
end Go.Proofs.Ytkgmdicbfpkihaa.fnExactDefsOk
namespace Go.Proofs.Ytkgmdicbfpkihaa
theorem fnExactDefsOkUpto_holds : Rows.FnExactDefsOkUptoSaid := fnExactDefsOk.proved
end Go.Proofs.Ytkgmdicbfpkihaa
