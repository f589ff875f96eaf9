/- The law FnExactTermFits holds of every term and number whose bulk is at most 1048576: it returns true, and the arguments read as before. -/
import Derived.Test.YtkgmdicbfpkihaaU0
import Derived.Test.YtkgmdicbfpkihaaL2
import Derived.JoinedCond
import Derived.Carry
namespace Go.Proofs.Ytkgmdicbfpkihaa.fnExactTermFits
open Go.ChangeShapes Go.WideShapes Go.ChangeAt Go.RowKit Go.Proofs.Ytkgmdicbfpkihaa.Asl
set_option linter.unusedVariables false
theorem own : ownKnob Try.prog.godebug = none := by kernel_rfl
theorem laidOut : laidOutB Try.prog = true := by kernel_rfl
theorem termTy : TermTy Try.prog T_s_laws_Term T_laws_Term := ⟨by kernel_rfl, ⟨_, _, _, Try.underlying24, rfl, rfl, rfl, by kernel_rfl, by kernel_rfl, rfl, by kernel_rfl, by kernel_rfl⟩, by kernel_rfl, by kernel_rfl⟩

theorem contract (H : Type) (enc : TypeId × Value → H) (W : World) (base : Nat) (args : Array Value) (ds gs : List (DataW H)) (before : List MemPlace)
    (hval : ∀ (j : Nat) t v, Try.f4.params[j]? = some t → args[j]? = some v → Value.okWide Try.prog W .any base t v)
    (hW : DataW.Whole enc Try.prog Try.f4.params.toList Rows.fnExactTermFitsSpec.vars false W args.toList ds gs before) (hk : Rows.uptoSmall H (ds ++ gs) = true) :
    Calls Try.prog F_laws_FnExactTermFits args W fun e W' => ∃ v, e = .returned v ∧ Rows.fnExactTermFitsSpec.post enc Try.prog Try.f4 false true false false W args v W' := by
  have hW' := hW
  obtain ⟨p, q, hA0, hV, rfl, hfz, hnd⟩ := hW
  have hA : DataW.TrodAll enc Try.prog W 0 (fun _ => true) true Try.f4.params.toList args.toList ds p := hA0
  rw [Try.params4] at hA hval
  obtain ⟨v0, vs0, d0, ds0, p0, q0, hargs, rfl, rfl, h0, r0⟩ := trodAll_cons hA
  obtain ⟨v1, vs1, d1, ds1, p1, q1, rfl, rfl, rfl, h1, r1⟩ := trodAll_cons r0
  obtain ⟨rfl, rfl, rfl⟩ := trodAll_nil r1
  obtain rfl : args = #[v0, v1] := by cases args; simp_all
  obtain ⟨rfl, rfl⟩ := trodVars_none hV
  obtain ⟨m, rfl, rfl, rfl, hm⟩ := open_int Try.underlying3 (hval 1 3 v1 rfl rfl) h1
  clear hA0
  have hlt : ∀ x ∈ p0, x.block < W.heap.size := fun x hx => by simpa using hW'.lt x (by simp [hx])
  have hb : Rows.uptoBulk d0 ≤ 1048576 := by
    have := hk
    simp only [Rows.uptoSmall, Rows.uptoBulkAll, List.append_nil, List.cons_append, List.nil_append, decide_eq_true_eq] at this
    omega
  obtain ⟨op, n, v', ts, rfl, hopen⟩ := open_term_arg termTy h0 hb
  obtain ⟨s, σ', ρ', hR, hT, hS, _, _⟩ := hopen _ _ (sim_empty W)
  refine (calls_ret (c_FnExactTermFits (.node op n ts) m σ' s) hS (.cons (.agg (.cons (.lit _) (.cons (.lit _) (.cons hR .nil)))) (.cons (.lit _) .nil))).mono fun e W' ⟨he, bel⟩ => ?_
  subst he
  exact ⟨_, rfl, _, _, _, [], _, [], hW', trodAll_mk1 (shut_bool Try.underlying4 _), trodAll_cons_mk (Below.trod laidOut (by kernel_rfl) (of_decide_eq_true (by kernel_rfl)) h0 bel hlt) (trodAll_cons_mk (shut_int Try.underlying3 hm) trodAll_mk0), rfl, bel.frame _, fun h => by cases h⟩

set_option maxRecDepth 100000 in
theorem lifted (os : Os) (started : os.Started) (H : Type) (enc : TypeId × Value → H) (F : Stop.Interp) :
    ReturnsInHanded {} Try.checked os F_laws_FnExactTermFits .any ((Rows.OpenSpec.upto Rows.fnExactTermFitsSpec).pre6 enc Try.prog Try.f4 Rows.fnExactTermFitsUptoRow.domain false) (((Rows.OpenSpec.upto Rows.fnExactTermFitsSpec).at F).post enc Try.prog Try.f4 false true false false) := by
  refine returnsInHanded_of_cond (C := Try.checked) (s := Rows.OpenSpec.upto Rows.fnExactTermFitsSpec) (k := Rows.uptoSmall) rfl own started (by kernel_rfl) Try.func4
    (OpenSpec.witness (enc := enc) (C := Try.checked) (s := Rows.OpenSpec.upto Rows.fnExactTermFitsSpec) (k := Rows.uptoSmall) rfl false ⟨#[], #[.agg #[.int .i64 0, .int .i64 0, .slice none 0 0], .int .i64 0], []⟩ 8 (by kernel_rfl) (by kernel_rfl) (by kernel_rfl)
      (x := ([.agg [.lit (.int .i64 0), .lit (.int .i64 0), .nil], .lit (.int .i64 0)], [], [])) (by kernel_rfl) rfl (by kernel_rfl)) ?_
  intro W base args ds gs before hval hW _ hk _
  exact contract H enc W base args ds gs before hval hW hk

theorem over : Rows.fnExactTermFitsUptoRow.holds Try.pinned (Rows.OpenSpec.upto Rows.fnExactTermFitsSpec) :=
  OpenClaim.holds_of_cond F_laws_FnExactTermFits Try.f4 rfl rfl rfl rfl rfl rfl rfl ⟨rfl, rfl, rfl, rfl, rfl⟩ rfl rfl rfl rfl rfl (by kernel_rfl) Try.func4 (by kernel_rfl)
    (of_decide_eq_true (by kernel_rfl)) (by unfold Func.isWrapper; first | (rw [if_pos (by decide +kernel)]; kernel_rfl) | (rw [if_neg (by decide +kernel)]; exact ⟨rfl, rfl⟩))
    (fun os started H enc _ F => lifted os started H enc F)
theorem proved : Rows.FnExactTermFitsUptoSaid := over
#print axioms proved
end Go.Proofs.Ytkgmdicbfpkihaa.fnExactTermFits
namespace Go.Proofs.Ytkgmdicbfpkihaa
theorem fnExactTermFitsUpto_holds : Rows.FnExactTermFitsUptoSaid := fnExactTermFits.proved
end Go.Proofs.Ytkgmdicbfpkihaa
