/- The law FnTermSwap holds of all arguments whose bulk is at most 1048576: it returns true, and the arguments read as before. -/
import Derived.Test.YtkgmdicbfpkihaaUC
import Derived.Test.YtkgmdicbfpkihaaL7
import Derived.JoinedCond
import Derived.Carry
namespace Go.Proofs.Ytkgmdicbfpkihaa.fnTermSwap
open Go.ChangeShapes Go.WideShapes Go.ChangeAt Go.RowKit Go.Proofs.Ytkgmdicbfpkihaa.Asl
set_option linter.unusedVariables false
set_option linter.unusedSimpArgs false
theorem own : ownKnob Try.prog.godebug = none := by kernel_rfl
theorem laidOut : laidOutB Try.prog = true := by kernel_rfl

set_option maxRecDepth 100000 in
theorem contract (H : Type) (enc : TypeId × Value → H) (W : World) (base : Nat) (args : Array Value) (ds gs : List (DataW H)) (before : List MemPlace)
    (hval : ∀ (j : Nat) t v, Try.f10.params[j]? = some t → args[j]? = some v → Value.okWide Try.prog W .any base t v)
    (hW : DataW.Whole enc Try.prog Try.f10.params.toList Rows.fnTermSwapSpec.vars false W args.toList ds gs before) (hk : Rows.uptoSmall H (ds ++ gs) = true) :
    Calls Try.prog F_laws_FnTermSwap args W fun e W' => ∃ v, e = .returned v ∧ Rows.fnTermSwapSpec.post enc Try.prog Try.f10 false true false false W args v W' := by
  have hW' := hW
  obtain ⟨p, q, hA0, hV, rfl, hfz, hnd⟩ := hW
  have hA : DataW.TrodAll enc Try.prog W 0 (fun _ => true) true Try.f10.params.toList args.toList ds p := hA0
  rw [Try.params10] at hA hval
  obtain ⟨v0, vs0, d0, ds0, p0, q0, hargs, rfl, rfl, h0, r0⟩ := trodAll_cons hA
  obtain ⟨rfl, rfl, rfl⟩ := trodAll_nil r0
  obtain rfl : args = #[v0] := by cases args; simp_all
  obtain ⟨rfl, rfl⟩ := trodVars_none hV
  clear hA0
  have hlt0 : ∀ x ∈ p0, x.block < W.heap.size := fun x hx => by simpa using hW'.lt x (by simp [hx])
  have hb0 : Rows.uptoBulk d0 ≤ 1048576 := by
    have := hk
    simp only [Rows.uptoSmall, Rows.uptoBulkAll, List.append_nil, List.cons_append, List.nil_append, decide_eq_true_eq] at this
    omega
  obtain ⟨g0, b0, hopen0⟩ := open_bytes_arg Try.underlying40 Try.underlying5 (by kernel_rfl) (okWide_slice Try.underlying40 (hval 0 40 v0 rfl rfl)) h0 hb0
  obtain ⟨s0, σ0, ρ0, hR0, hw0, hS0, hle0, hls0⟩ := hopen0 _ _ (sim_empty W)
  refine (calls_ret (c_FnTermSwap s0 g0 σ0) hS0 (.cons hR0 .nil)).mono fun e W' ⟨he, bel⟩ => ?_
  subst he
  exact ⟨_, rfl, _, _, _, [], _, [], hW', trodAll_mk1 (shut_bool Try.underlying4 _), (trodAll_cons_mk (Below.trod laidOut (by kernel_rfl) (of_decide_eq_true (by kernel_rfl)) h0 bel hlt0) trodAll_mk0), rfl, bel.frame _, fun h => by cases h⟩

set_option maxRecDepth 100000 in
theorem lifted (os : Os) (started : os.Started) (H : Type) (enc : TypeId × Value → H) (F : Stop.Interp) :
    ReturnsInHanded {} Try.checked os F_laws_FnTermSwap .any ((Rows.OpenSpec.upto Rows.fnTermSwapSpec).pre6 enc Try.prog Try.f10 Rows.fnTermSwapUptoRow.domain false) (((Rows.OpenSpec.upto Rows.fnTermSwapSpec).at F).post enc Try.prog Try.f10 false true false false) := by
  refine returnsInHanded_of_cond (C := Try.checked) (s := Rows.OpenSpec.upto Rows.fnTermSwapSpec) (k := Rows.uptoSmall) rfl own started (by kernel_rfl) Try.func10
    (OpenSpec.witness (enc := enc) (C := Try.checked) (s := Rows.OpenSpec.upto Rows.fnTermSwapSpec) (k := Rows.uptoSmall) rfl false ⟨#[], #[.slice none 0 0], []⟩ 8 (by kernel_rfl) (by kernel_rfl) (by kernel_rfl)
      (x := ([.nil], [], [])) (by kernel_rfl) rfl (by kernel_rfl)) ?_
  intro W base args ds gs before hval hW _ hk _
  exact contract H enc W base args ds gs before hval hW hk

theorem over : Rows.fnTermSwapUptoRow.holds Try.pinned (Rows.OpenSpec.upto Rows.fnTermSwapSpec) :=
  OpenClaim.holds_of_cond F_laws_FnTermSwap Try.f10 rfl rfl rfl rfl rfl rfl rfl ⟨rfl, rfl, rfl, rfl, rfl⟩ rfl rfl rfl rfl rfl (by kernel_rfl) Try.func10 (by kernel_rfl)
    (of_decide_eq_true (by kernel_rfl)) (by unfold Func.isWrapper; first | (rw [if_pos (by decide +kernel)]; kernel_rfl) | (rw [if_neg (by decide +kernel)]; exact ⟨rfl, rfl⟩))
    (fun os started H enc _ F => lifted os started H enc F)
theorem proved : Rows.FnTermSwapUptoSaid := over
#print axioms proved
end Go.Proofs.Ytkgmdicbfpkihaa.fnTermSwap
namespace Go.Proofs.Ytkgmdicbfpkihaa
theorem fnTermSwapUpto_holds : Rows.FnTermSwapUptoSaid := fnTermSwap.proved
end Go.Proofs.Ytkgmdicbfpkihaa
