/- The law FnExactTermSwap holds of all arguments whose bulk is at most 1048576: it returns true, and the arguments read as before. -/
import Derived.Test.YtkgmdicbfpkihaaU0
import Derived.Test.YtkgmdicbfpkihaaL5
import Derived.JoinedCond
import Derived.Carry
namespace Go.Proofs.Ytkgmdicbfpkihaa.fnExactTermSwap
open Go.ChangeShapes Go.WideShapes Go.ChangeAt Go.RowKit Go.Proofs.Ytkgmdicbfpkihaa.Asl
set_option linter.unusedVariables false
set_option linter.unusedSimpArgs false
theorem own : ownKnob Try.prog.godebug = none := by kernel_rfl
theorem laidOut : laidOutB Try.prog = true := by kernel_rfl
theorem termTy : TermTy Try.prog T_s_laws_Term T_laws_Term := ⟨by kernel_rfl, ⟨_, _, _, Try.underlying24, rfl, rfl, rfl, by kernel_rfl, by kernel_rfl, rfl, by kernel_rfl, by kernel_rfl⟩, by kernel_rfl, by kernel_rfl⟩

set_option maxRecDepth 100000 in
theorem contract (H : Type) (enc : TypeId × Value → H) (W : World) (base : Nat) (args : Array Value) (ds gs : List (DataW H)) (before : List MemPlace)
    (hval : ∀ (j : Nat) t v, Try.f9.params[j]? = some t → args[j]? = some v → Value.okWide Try.prog W .any base t v)
    (hW : DataW.Whole enc Try.prog Try.f9.params.toList Rows.fnExactTermSwapSpec.vars false W args.toList ds gs before) (hk : Rows.uptoSmall H (ds ++ gs) = true) :
    Calls Try.prog F_laws_FnExactTermSwap args W fun e W' => ∃ v, e = .returned v ∧ Rows.fnExactTermSwapSpec.post enc Try.prog Try.f9 false true false false W args v W' := by
  have hW' := hW
  obtain ⟨p, q, hA0, hV, rfl, hfz, hnd⟩ := hW
  have hA : DataW.TrodAll enc Try.prog W 0 (fun _ => true) true Try.f9.params.toList args.toList ds p := hA0
  rw [Try.params9] at hA hval
  obtain ⟨v0, vs0, d0, ds0, p0, q0, hargs, rfl, rfl, h0, r0⟩ := trodAll_cons hA
  obtain ⟨v1, vs1, d1, ds1, p1, q1, rfl, rfl, rfl, h1, r1⟩ := trodAll_cons r0
  obtain ⟨v2, vs2, d2, ds2, p2, q2, rfl, rfl, rfl, h2, r2⟩ := trodAll_cons r1
  obtain ⟨rfl, rfl, rfl⟩ := trodAll_nil r2
  obtain rfl : args = #[v0, v1, v2] := by cases args; simp_all
  obtain ⟨rfl, rfl⟩ := trodVars_none hV
  obtain ⟨m1, rfl, rfl, rfl, hm1⟩ := open_int Try.underlying3 (hval 1 3 v1 rfl rfl) h1
  obtain ⟨m2, rfl, rfl, rfl, hm2⟩ := open_int Try.underlying3 (hval 2 3 v2 rfl rfl) h2
  clear hA0
  have hlt0 : ∀ x ∈ p0, x.block < W.heap.size := fun x hx => by simpa using hW'.lt x (by simp [hx])
  have hb0 : Rows.uptoBulk d0 ≤ 1048576 := by
    have := hk
    simp only [Rows.uptoSmall, Rows.uptoBulkAll, List.append_nil, List.cons_append, List.nil_append, decide_eq_true_eq] at this
    omega
  obtain ⟨op0, n0, v0', ts0, rfl, b0, hopen0⟩ := open_term_arg termTy h0 hb0
  obtain ⟨s0, σ0, ρ0, hR0, hw0, hS0, hle0, hls0⟩ := hopen0 _ _ (sim_empty W)
  refine (calls_ret (c_FnExactTermSwap (.node op0 n0 ts0) b0 m1 m2 σ0 s0) hS0 (.cons (.agg (.cons (.lit _) (.cons (.lit _) (.cons hR0 .nil)))) (.cons (.lit _) (.cons (.lit _) .nil)))).mono fun e W' ⟨he, bel⟩ => ?_
  subst he
  exact ⟨_, rfl, _, _, _, [], _, [], hW', trodAll_mk1 (shut_bool Try.underlying4 _), (trodAll_cons_mk (Below.trod laidOut (by kernel_rfl) (of_decide_eq_true (by kernel_rfl)) h0 bel hlt0) (trodAll_cons_mk (shut_int Try.underlying3 hm1) (trodAll_cons_mk (shut_int Try.underlying3 hm2) trodAll_mk0))), rfl, bel.frame _, fun h => by cases h⟩

set_option maxRecDepth 100000 in
theorem lifted (os : Os) (started : os.Started) (H : Type) (enc : TypeId × Value → H) (F : Stop.Interp) :
    ReturnsInHanded {} Try.checked os F_laws_FnExactTermSwap .any ((Rows.OpenSpec.upto Rows.fnExactTermSwapSpec).pre6 enc Try.prog Try.f9 Rows.fnExactTermSwapUptoRow.domain false) (((Rows.OpenSpec.upto Rows.fnExactTermSwapSpec).at F).post enc Try.prog Try.f9 false true false false) := by
  refine returnsInHanded_of_cond (C := Try.checked) (s := Rows.OpenSpec.upto Rows.fnExactTermSwapSpec) (k := Rows.uptoSmall) rfl own started (by kernel_rfl) Try.func9
    (OpenSpec.witness (enc := enc) (C := Try.checked) (s := Rows.OpenSpec.upto Rows.fnExactTermSwapSpec) (k := Rows.uptoSmall) rfl false ⟨#[], #[.agg #[.int .i64 0, .int .i64 0, .slice none 0 0], .int .i64 0, .int .i64 0], []⟩ 8 (by kernel_rfl) (by kernel_rfl) (by kernel_rfl)
      (x := ([.agg [.lit (.int .i64 0), .lit (.int .i64 0), .nil], .lit (.int .i64 0), .lit (.int .i64 0)], [], [])) (by kernel_rfl) rfl (by kernel_rfl)) ?_
  intro W base args ds gs before hval hW _ hk _
  exact contract H enc W base args ds gs before hval hW hk

theorem over : Rows.fnExactTermSwapUptoRow.holds Try.pinned (Rows.OpenSpec.upto Rows.fnExactTermSwapSpec) :=
  OpenClaim.holds_of_cond F_laws_FnExactTermSwap Try.f9 rfl rfl rfl rfl rfl rfl rfl ⟨rfl, rfl, rfl, rfl, rfl⟩ rfl rfl rfl rfl rfl (by kernel_rfl) Try.func9 (by kernel_rfl)
    (of_decide_eq_true (by kernel_rfl)) (by unfold Func.isWrapper; first | (rw [if_pos (by decide +kernel)]; kernel_rfl) | (rw [if_neg (by decide +kernel)]; exact ⟨rfl, rfl⟩))
    (fun os started H enc _ F => lifted os started H enc F)
theorem proved : Rows.FnExactTermSwapUptoSaid := over
#print axioms proved
end Go.Proofs.Ytkgmdicbfpkihaa.fnExactTermSwap
namespace Go.Proofs.Ytkgmdicbfpkihaa
theorem fnExactTermSwapUpto_holds : Rows.FnExactTermSwapUptoSaid := fnExactTermSwap.proved
end Go.Proofs.Ytkgmdicbfpkihaa
