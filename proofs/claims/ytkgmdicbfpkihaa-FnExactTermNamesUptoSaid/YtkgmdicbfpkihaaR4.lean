/- The law FnExactTermNames holds of every term whose bulk is at most 1048576: it returns true, and the term reads as before. -/
import Derived.Test.YtkgmdicbfpkihaaU0
import Derived.Test.YtkgmdicbfpkihaaL4
import Derived.JoinedCond
import Derived.Carry
namespace Go.Proofs.Ytkgmdicbfpkihaa.fnExactTermNames
open Go.ChangeShapes Go.WideShapes Go.ChangeAt Go.RowKit Go.Proofs.Ytkgmdicbfpkihaa.Asl
set_option linter.unusedVariables false
theorem own : ownKnob Try.prog.godebug = none := by kernel_rfl
theorem laidOut : laidOutB Try.prog = true := by kernel_rfl
theorem termTy : TermTy Try.prog T_s_laws_Term T_laws_Term := ⟨by kernel_rfl, ⟨_, _, _, Try.underlying24, rfl, rfl, rfl, by kernel_rfl, by kernel_rfl, rfl, by kernel_rfl, by kernel_rfl⟩, by kernel_rfl, by kernel_rfl⟩

theorem contract (H : Type) (enc : TypeId × Value → H) (W : World) (base : Nat) (args : Array Value) (ds gs : List (DataW H)) (before : List MemPlace)
    (hval : ∀ (j : Nat) t v, Try.f7.params[j]? = some t → args[j]? = some v → Value.okWide Try.prog W .any base t v)
    (hW : DataW.Whole enc Try.prog Try.f7.params.toList Rows.fnExactTermNamesSpec.vars false W args.toList ds gs before) (hk : Rows.uptoSmall H (ds ++ gs) = true) :
    Calls Try.prog F_laws_FnExactTermNames args W fun e W' => ∃ v, e = .returned v ∧ Rows.fnExactTermNamesSpec.post enc Try.prog Try.f7 false true false false W args v W' := by
  have hW' := hW
  obtain ⟨p, q, hA0, hV, rfl, hfz, hnd⟩ := hW
  have hA : DataW.TrodAll enc Try.prog W 0 (fun _ => true) true Try.f7.params.toList args.toList ds p := hA0
  rw [Try.params7] at hA
  obtain ⟨v0, vs0, d0, ds0, p0, q0, hargs, rfl, rfl, h0, r0⟩ := trodAll_cons hA
  obtain ⟨rfl, rfl, rfl⟩ := trodAll_nil r0
  obtain rfl : args = #[v0] := by cases args; simp_all
  obtain ⟨rfl, rfl⟩ := trodVars_none hV
  clear hA0
  have hlt : ∀ x ∈ p0, x.block < W.heap.size := fun x hx => by simpa using hW'.lt x (by simp [hx])
  have hb : Rows.uptoBulk d0 ≤ 1048576 := by simpa [Rows.uptoSmall, Rows.uptoBulkAll] using hk
  obtain ⟨op, n, v', ts, rfl, hcn, hopen⟩ := open_term_arg termTy h0 hb
  obtain ⟨s, σ', ρ', hR, hT, hS, _, _⟩ := hopen _ _ (sim_empty W)
  refine (calls_ret (c_FnExactTermNames (.node op n ts) hcn σ' s) hS (.cons (.agg (.cons (.lit _) (.cons (.lit _) (.cons hR .nil)))) .nil)).mono fun e W' ⟨he, bel⟩ => ?_
  subst he
  exact ⟨_, rfl, _, _, _, [], _, [], hW', trodAll_mk1 (shut_bool Try.underlying4 _), trodAll_cons_mk (Below.trod laidOut (by kernel_rfl) (of_decide_eq_true (by kernel_rfl)) h0 bel hlt) trodAll_mk0, rfl, bel.frame _, fun h => by cases h⟩

set_option maxRecDepth 100000 in
theorem lifted (os : Os) (started : os.Started) (H : Type) (enc : TypeId × Value → H) (F : Stop.Interp) :
    ReturnsInHanded {} Try.checked os F_laws_FnExactTermNames .any ((Rows.OpenSpec.upto Rows.fnExactTermNamesSpec).pre6 enc Try.prog Try.f7 Rows.fnExactTermNamesUptoRow.domain false) (((Rows.OpenSpec.upto Rows.fnExactTermNamesSpec).at F).post enc Try.prog Try.f7 false true false false) := by
  refine returnsInHanded_of_cond (C := Try.checked) (s := Rows.OpenSpec.upto Rows.fnExactTermNamesSpec) (k := Rows.uptoSmall) rfl own started (by kernel_rfl) Try.func7
    (OpenSpec.witness (enc := enc) (C := Try.checked) (s := Rows.OpenSpec.upto Rows.fnExactTermNamesSpec) (k := Rows.uptoSmall) rfl false ⟨#[], #[.agg #[.int .i64 0, .int .i64 0, .slice none 0 0]], []⟩ 8 (by kernel_rfl) (by kernel_rfl) (by kernel_rfl)
      (x := ([.agg [.lit (.int .i64 0), .lit (.int .i64 0), .nil]], [], [])) (by kernel_rfl) rfl (by kernel_rfl)) ?_
  intro W base args ds gs before hval hW _ hk _
  exact contract H enc W base args ds gs before hval hW hk

theorem over : Rows.fnExactTermNamesUptoRow.holds Try.pinned (Rows.OpenSpec.upto Rows.fnExactTermNamesSpec) :=
  OpenClaim.holds_of_cond F_laws_FnExactTermNames Try.f7 rfl rfl rfl rfl rfl rfl rfl ⟨rfl, rfl, rfl, rfl, rfl⟩ rfl rfl rfl rfl rfl (by kernel_rfl) Try.func7 (by kernel_rfl)
    (of_decide_eq_true (by kernel_rfl)) (by unfold Func.isWrapper; first | (rw [if_pos (by decide +kernel)]; kernel_rfl) | (rw [if_neg (by decide +kernel)]; exact ⟨rfl, rfl⟩))
    (fun os started H enc _ F => lifted os started H enc F)
theorem proved : Rows.FnExactTermNamesUptoSaid := over
#print axioms proved
end Go.Proofs.Ytkgmdicbfpkihaa.fnExactTermNames
namespace Go.Proofs.Ytkgmdicbfpkihaa
theorem fnExactTermNamesUpto_holds : Rows.FnExactTermNamesUptoSaid := fnExactTermNames.proved
end Go.Proofs.Ytkgmdicbfpkihaa
