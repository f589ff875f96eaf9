/- The law FnExactTermSteps holds of all arguments whose bulk is at most 1048576: it returns true, and the arguments read as before. -/
import Derived.Test.YtpkgcdpebomalaaU0
import Derived.Test.YtpkgcdpebomalaaL17
import Derived.Test.YtpkgcdpebomalaaRX
import Derived.JoinedCond
import Derived.Carry
namespace Go.Proofs.Ytpkgcdpebomalaa.fnExactTermSteps
open Go.ChangeShapes Go.WideShapes Go.ChangeAt Go.RowKit Go.Proofs.Ytpkgcdpebomalaa.Asl
set_option linter.unusedVariables false
set_option linter.unusedSimpArgs false
theorem own : ownKnob Try.prog.godebug = none := by kernel_rfl
theorem laidOut : laidOutB Try.prog = true := rx.laid
theorem termTy : TermTy Try.prog T_s_laws_Term T_laws_Term := ⟨by kernel_rfl, ⟨_, _, _, Try.underlying24, rfl, rfl, rfl, by kernel_rfl, by kernel_rfl, rfl, by kernel_rfl, by kernel_rfl⟩, by kernel_rfl, by kernel_rfl⟩

set_option maxRecDepth 100000 in
theorem contract (H : Type) (enc : TypeId × Value → H) (W : World) (base : Nat) (args : Array Value) (ds gs : List (DataW H)) (before : List MemPlace)
    (hval : ∀ (j : Nat) t v, Try.f3.params[j]? = some t → args[j]? = some v → Value.okWide Try.prog W .any base t v)
    (hW : DataW.Whole enc Try.prog Try.f3.params.toList Rows.fnExactTermStepsSpec.vars false W args.toList ds gs before) (hk : Rows.uptoSmall H (ds ++ gs) = true) :
    Calls Try.prog F_laws_FnExactTermSteps args W fun e W' => ∃ v, e = .returned v ∧ Rows.fnExactTermStepsSpec.post enc Try.prog Try.f3 false true false false W args v W' := by
  have hW' := hW
  obtain ⟨p, q, hA0, hV, rfl, hfz, hnd⟩ := hW
  have hA : DataW.TrodAll enc Try.prog W 0 (fun _ => true) true Try.f3.params.toList args.toList ds p := hA0
  rw [Try.params3] at hA hval
  obtain ⟨v0, vs0, d0, ds0, p0, q0, hargs, rfl, rfl, h0, r0⟩ := trodAll_cons hA
  obtain ⟨v1, vs1, d1, ds1, p1, q1, rfl, rfl, rfl, h1, r1⟩ := trodAll_cons r0
  obtain ⟨rfl, rfl, rfl⟩ := trodAll_nil r1
  obtain rfl : args = #[v0, v1] := by cases args; simp_all
  obtain ⟨rfl, rfl⟩ := trodVars_none hV
  clear hA0
  have hlt0 : ∀ x ∈ p0, x.block < W.heap.size := fun x hx => by simpa using hW'.lt x (by simp [hx])
  have hb0 : Rows.uptoBulk d0 ≤ 1048576 := by
    have := hk
    simp only [Rows.uptoSmall, Rows.uptoBulkAll, List.append_nil, List.cons_append, List.nil_append, decide_eq_true_eq] at this
    omega
  have hlt1 : ∀ x ∈ p1, x.block < W.heap.size := fun x hx => by simpa using hW'.lt x (by simp [hx])
  have hb1 : Rows.uptoBulk d1 ≤ 1048576 := by
    have := hk
    simp only [Rows.uptoSmall, Rows.uptoBulkAll, List.append_nil, List.cons_append, List.nil_append, decide_eq_true_eq] at this
    omega
  obtain ⟨op0, n0, v0', ts0, rfl, b0, hopen0⟩ := open_term_arg termTy h0 hb0
  obtain ⟨ts1, b1, hopen1⟩ := open_terms_arg termTy (okWide_slice Try.underlying22 (hval 1 22 v1 rfl rfl)) h1 hb1
  obtain ⟨s0, σ0, ρ0, hR0, hw0, hS0, hle0, hls0⟩ := hopen0 _ _ (sim_empty W)
  obtain ⟨s1, σ1, ρ1, hR1, hw1, hS1, hle1, hls1⟩ := hopen1 _ _ hS0
  replace hR0 := hR0.mono hle1
  replace hw0 := hw0.les hls1
  have σe : σ1 = σ1 := rfl
  refine (calls_ret (c_FnExactTermSteps (.node op0 n0 ts0) b0 ts1 b1 σ1 s0 s1) hS1 (.cons (.agg (.cons (.lit _) (.cons (.lit _) (.cons hR0 .nil)))) (.cons hR1 .nil))).mono fun e W' ⟨he, bel⟩ => ?_
  subst he
  exact ⟨_, rfl, _, _, _, [], _, [], hW', trodAll_mk1 (shut_bool Try.underlying4 _), (trodAll_cons_mk (Below.trod laidOut (by kernel_rfl) (of_decide_eq_true (by kernel_rfl)) h0 bel hlt0) (trodAll_cons_mk (Below.trod laidOut (by kernel_rfl) (of_decide_eq_true (by kernel_rfl)) h1 bel hlt1) trodAll_mk0)), rfl, bel.frame _, fun h => by cases h⟩

set_option maxRecDepth 100000 in
theorem lifted (os : Os) (started : os.Started) (H : Type) (enc : TypeId × Value → H) (F : Stop.Interp) :
    ReturnsInHanded {} Try.checked os F_laws_FnExactTermSteps .any ((Rows.OpenSpec.upto Rows.fnExactTermStepsSpec).pre6 enc Try.prog Try.f3 Rows.fnExactTermStepsUptoRow.domain false) (((Rows.OpenSpec.upto Rows.fnExactTermStepsSpec).at F).post enc Try.prog Try.f3 false true false false) := by
  refine returnsInHanded_of_cond (C := Try.checked) (s := Rows.OpenSpec.upto Rows.fnExactTermStepsSpec) (k := Rows.uptoSmall) rfl own started (by kernel_rfl) Try.func3
    (OpenSpec.witness (enc := enc) (C := Try.checked) (s := Rows.OpenSpec.upto Rows.fnExactTermStepsSpec) (k := Rows.uptoSmall) rfl false ⟨#[], #[.agg #[.int .i64 0, .int .i64 0, .slice none 0 0], .slice none 0 0], []⟩ 8 (by kernel_rfl) (by kernel_rfl) (by kernel_rfl)
      (x := ([.agg [.lit (.int .i64 0), .lit (.int .i64 0), .nil], .nil], [], [])) (by kernel_rfl) rfl (by kernel_rfl)) ?_
  intro W base args ds gs before hval hW _ hk _
  exact contract H enc W base args ds gs before hval hW hk

theorem j0 : (Rows.fnExactTermStepsUptoRow.wf (OpenSpec.ofChange (Rows.OpenSpec.upto Rows.fnExactTermStepsSpec).bare)) = true := by kernel_rfl
theorem j1 : (laidOutB Try.prog) = true := rx.laid
theorem j2 : (mapsRowed Try.prog) = true := rx.maps
theorem j3 : (Try.f3.params.all (Try.prog.readableRec ·)) = true := by kernel_rfl
theorem j4 : (namedTie Try.prog Rows.fnExactTermStepsUptoRow.named (Rows.OpenSpec.upto Rows.fnExactTermStepsSpec).bare.vars) = true := by kernel_rfl
theorem j5 : ((Rows.fnExactTermStepsUptoRow.stops == [])) = true := by kernel_rfl
theorem j6 : ((Try.prog.stops == [])) = true := rx.stops
theorem j7 : ((Rows.fnExactTermStepsUptoRow.knobs == [])) = true := by kernel_rfl
theorem j8 : ((Try.prog.stopKnobs == [])) = true := rx.knobs
theorem j9 : ((Rows.fnExactTermStepsUptoRow.inPlace == Try.prog.inPlace F_laws_FnExactTermSteps)) = true := by kernel_rfl
theorem j10 : ((Rows.fnExactTermStepsUptoRow.unfollowed == Try.prog.unfollowed F_laws_FnExactTermSteps)) = true := by kernel_rfl
theorem j11 : ((Rows.fnExactTermStepsUptoRow.recurses == Try.prog.recurses F_laws_FnExactTermSteps)) = true := by kernel_rfl
theorem j12 : ((Rows.fnExactTermStepsUptoRow.named == Try.prog.varsNamed F_laws_FnExactTermSteps)) = true := by kernel_rfl
theorem j13 : ((Rows.fnExactTermStepsUptoRow.maps == (Try.f3.params.toList ++ (Rows.OpenSpec.upto Rows.fnExactTermStepsSpec).bare.plain.varTypes Try.prog).any (Try.prog.mapsRec ·))) = true := by kernel_rfl
theorem j14 : ((Rows.fnExactTermStepsUptoRow.ifaces == (Try.f3.params.toList ++ (Rows.OpenSpec.upto Rows.fnExactTermStepsSpec).bare.plain.varTypes Try.prog).any (Try.prog.ifacesRec ·))) = true := by kernel_rfl
theorem j15 : ((Rows.fnExactTermStepsUptoRow.mapsOut == Try.prog.mapsAmong Try.f3.resultTypes.toList)) = true := by kernel_rfl
theorem j16 : ((Rows.fnExactTermStepsUptoRow.loops == (Try.f3.params.toList ++ (Rows.OpenSpec.upto Rows.fnExactTermStepsSpec).bare.plain.varTypes Try.prog).any (Try.prog.loopsFrom ·))) = true := by kernel_rfl
theorem j17 : ((Rows.fnExactTermStepsUptoRow.wideKeys == (Try.f3.params.toList ++ (Rows.OpenSpec.upto Rows.fnExactTermStepsSpec).bare.plain.varTypes Try.prog ++ Try.f3.resultTypes.toList).any (Try.prog.wideKeysFrom ·))) = true := by kernel_rfl
theorem j18 : ((Rows.OpenSpec.upto Rows.fnExactTermStepsSpec).bare.vars.all (Try.prog.varReadable ·)) = true := by kernel_rfl
theorem j19 : (Try.f3.resultTypes.all (fun t => Try.prog.readableRec t && decide (t < Try.prog.types.size))) = true := by kernel_rfl
theorem j20 : ((Rows.fnExactTermStepsUptoRow.ifacesOut == Try.f3.resultTypes.toList.any (Try.prog.ifacesRec ·))) = true := by kernel_rfl
theorem j21 : ((Rows.fnExactTermStepsUptoRow.loopsOut == Try.f3.resultTypes.toList.any (Try.prog.loopsFrom ·))) = true := by kernel_rfl
theorem j22 : ((Rows.fnExactTermStepsUptoRow.plainKeys == Try.prog.plainKeys)) = true := rx.plain
theorem j23 : (Rows.fnExactTermStepsUptoRow.shortTexts.isNone) = true := by kernel_rfl
theorem j24 : (Try.prog.stopsHeard) = true := rx.heard
theorem j25 : (Try.prog.mayEnter) = true := rx.enter
theorem j26 : ((Rows.fnExactTermStepsUptoRow.lifted == Try.prog.liftsFinal)) = true := rx.lifted
theorem j27 : ((Try.prog.make == some Rows.fnExactTermStepsUptoRow.make)) = true := rx.make
theorem j29 : ((Rows.fnExactTermStepsUptoRow.pinned == Rows.fnExactTermStepsUptoRow.pinnedBy)) = true := by kernel_rfl
theorem j30 : ((Rows.fnExactTermStepsUptoRow.veiled == (Try.f3.params.toList ++ (Rows.OpenSpec.upto Rows.fnExactTermStepsSpec).bare.plain.varTypes Try.prog ++ Try.f3.resultTypes.toList).any (Try.prog.veiledRec ·))) = true := by kernel_rfl
theorem j31 : (Rows.fnExactTermStepsUptoRow.veiledFits Try.prog Try.f3.params.toList (Try.f3.params.toList ++ (Rows.OpenSpec.upto Rows.fnExactTermStepsSpec).bare.plain.varTypes Try.prog ++ Try.f3.resultTypes.toList)) = true := by kernel_rfl
theorem jall : joinedFacts Try.prog F_laws_FnExactTermSteps Try.f3 (Rows.OpenSpec.upto Rows.fnExactTermStepsSpec).bare Rows.fnExactTermStepsUptoRow = true := by
  unfold joinedFacts
  exact rx.andt (rx.andt (rx.andt (rx.andt (rx.andt (rx.andt (rx.andt (rx.andt (rx.andt (rx.andt (rx.andt (rx.andt (rx.andt (rx.andt (rx.andt (rx.andt (rx.andt (rx.andt (rx.andt (rx.andt (rx.andt (rx.andt (rx.andt (rx.andt (rx.andt (rx.andt (rx.andt (rx.andt (rx.andt (rx.andt (rx.andt (j0) j1) j2) j3) j4) j5) j6) j7) j8) j9) j10) j11) j12) j13) j14) j15) j16) j17) j18) j19) j20) j21) j22) j23) j24) j25) j26) j27) (by kernel_rfl)) j29) j30) j31
theorem jwr : Try.f3.isWrapper Try.prog Rows.fnExactTermStepsUptoRow.wrapper Rows.fnExactTermStepsUptoRow.mainSum := by unfold Func.isWrapper; first | (rw [if_pos (by decide +kernel)]; kernel_rfl) | (rw [if_neg (by decide +kernel)]; exact ⟨rfl, rfl⟩)
theorem jin : Try.f3.isInstance Try.prog Rows.fnExactTermStepsUptoRow.origin Rows.fnExactTermStepsUptoRow.targs := of_decide_eq_true (by kernel_rfl)
theorem jnm : Try.prog.funcNamed Rows.fnExactTermStepsUptoRow.func = some F_laws_FnExactTermSteps := by kernel_rfl
theorem over : Rows.fnExactTermStepsUptoRow.holds Try.pinned (Rows.OpenSpec.upto Rows.fnExactTermStepsSpec) :=
  OpenClaim.holds_of_cond F_laws_FnExactTermSteps Try.f3 rfl rfl rfl rfl rfl rfl rfl ⟨rfl, rfl, rfl, rfl, rfl⟩ rfl rfl rfl rfl rfl jnm Try.func3 jall
    jin jwr
    (fun os started H enc _ F => lifted os started H enc F)
theorem proved : Rows.FnExactTermStepsUptoSaid := over
#print axioms proved
end Go.Proofs.Ytpkgcdpebomalaa.fnExactTermSteps
namespace Go.Proofs.Ytpkgcdpebomalaa
theorem fnExactTermStepsUpto_holds : Rows.FnExactTermStepsUptoSaid := fnExactTermSteps.proved
end Go.Proofs.Ytpkgcdpebomalaa
