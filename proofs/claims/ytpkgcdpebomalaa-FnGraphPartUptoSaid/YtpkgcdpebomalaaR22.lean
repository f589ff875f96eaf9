/- The law FnGraphPart holds of all arguments whose bulk is at most 1048576: it returns true, and the arguments read as before. -/
import Derived.Test.YtpkgcdpebomalaaUC
import Derived.Test.YtpkgcdpebomalaaL16
import Derived.Test.YtpkgcdpebomalaaRX
import Derived.JoinedCond
import Derived.Carry
namespace Go.Proofs.Ytpkgcdpebomalaa.fnGraphPart
open Go.ChangeShapes Go.WideShapes Go.ChangeAt Go.RowKit Go.Proofs.Ytpkgcdpebomalaa.Asl
set_option linter.unusedVariables false
set_option linter.unusedSimpArgs false
theorem own : ownKnob Try.prog.godebug = none := by kernel_rfl
theorem laidOut : laidOutB Try.prog = true := rx.laid

set_option maxRecDepth 100000 in
theorem contract (H : Type) (enc : TypeId × Value → H) (W : World) (base : Nat) (args : Array Value) (ds gs : List (DataW H)) (before : List MemPlace)
    (hval : ∀ (j : Nat) t v, Try.f4.params[j]? = some t → args[j]? = some v → Value.okWide Try.prog W .any base t v)
    (hW : DataW.Whole enc Try.prog Try.f4.params.toList Rows.fnGraphPartSpec.vars false W args.toList ds gs before) (hk : Rows.uptoSmall H (ds ++ gs) = true) :
    Calls Try.prog F_laws_FnGraphPart args W fun e W' => ∃ v, e = .returned v ∧ Rows.fnGraphPartSpec.post enc Try.prog Try.f4 false true false false W args v W' := by
  have hW' := hW
  obtain ⟨p, q, hA0, hV, rfl, hfz, hnd⟩ := hW
  have hA : DataW.TrodAll enc Try.prog W 0 (fun _ => true) true Try.f4.params.toList args.toList ds p := hA0
  rw [Try.params4] at hA hval
  obtain ⟨v0, vs0, d0, ds0, p0, q0, hargs, rfl, rfl, h0, r0⟩ := trodAll_cons hA
  obtain ⟨rfl, rfl, rfl⟩ := trodAll_nil r0
  obtain rfl : args = #[v0] := by cases args; simp_all
  obtain ⟨rfl, rfl⟩ := trodVars_none hV
  clear hA0
  have hlt0 : ∀ x ∈ p0, x.block < W.heap.size := fun x hx => by simpa using hW'.lt x (by simp [hx])
  have hb0 : Rows.uptoBulk d0 ≤ 1048576 := by
    have := hk
    simp only [Rows.uptoSmall, Rows.uptoBulkAll, List.append_nil, List.cons_append, List.nil_append, decide_eq_true_eq] at this
    omega
  obtain ⟨g0, b0, hopen0⟩ := open_bytes_arg Try.underlying42 Try.underlying5 (by kernel_rfl) (okWide_slice Try.underlying42 (hval 0 42 v0 rfl rfl)) h0 hb0
  obtain ⟨s0, σ0, ρ0, hR0, hw0, hS0, hle0, hls0⟩ := hopen0 _ _ (sim_empty W)
  have σe : σ0 = σ0 := rfl
  refine (calls_ret (c_FnGraphPart s0 g0 σ0) hS0 (.cons hR0 .nil)).mono fun e W' ⟨he, bel⟩ => ?_
  subst he
  exact ⟨_, rfl, _, _, _, [], _, [], hW', trodAll_mk1 (shut_bool Try.underlying4 _), (trodAll_cons_mk (Below.trod laidOut (by kernel_rfl) (of_decide_eq_true (by kernel_rfl)) h0 bel hlt0) trodAll_mk0), rfl, bel.frame _, fun h => by cases h⟩

set_option maxRecDepth 100000 in
theorem lifted (os : Os) (started : os.Started) (H : Type) (enc : TypeId × Value → H) (F : Stop.Interp) :
    ReturnsInHanded {} Try.checked os F_laws_FnGraphPart .any ((Rows.OpenSpec.upto Rows.fnGraphPartSpec).pre6 enc Try.prog Try.f4 Rows.fnGraphPartUptoRow.domain false) (((Rows.OpenSpec.upto Rows.fnGraphPartSpec).at F).post enc Try.prog Try.f4 false true false false) := by
  refine returnsInHanded_of_cond (C := Try.checked) (s := Rows.OpenSpec.upto Rows.fnGraphPartSpec) (k := Rows.uptoSmall) rfl own started (by kernel_rfl) Try.func4
    (OpenSpec.witness (enc := enc) (C := Try.checked) (s := Rows.OpenSpec.upto Rows.fnGraphPartSpec) (k := Rows.uptoSmall) rfl false ⟨#[], #[.slice none 0 0], []⟩ 8 (by kernel_rfl) (by kernel_rfl) (by kernel_rfl)
      (x := ([.nil], [], [])) (by kernel_rfl) rfl (by kernel_rfl)) ?_
  intro W base args ds gs before hval hW _ hk _
  exact contract H enc W base args ds gs before hval hW hk

theorem j0 : (Rows.fnGraphPartUptoRow.wf (OpenSpec.ofChange (Rows.OpenSpec.upto Rows.fnGraphPartSpec).bare)) = true := by kernel_rfl
theorem j1 : (laidOutB Try.prog) = true := rx.laid
theorem j2 : (mapsRowed Try.prog) = true := rx.maps
theorem j3 : (Try.f4.params.all (Try.prog.readableRec ·)) = true := by kernel_rfl
theorem j4 : (namedTie Try.prog Rows.fnGraphPartUptoRow.named (Rows.OpenSpec.upto Rows.fnGraphPartSpec).bare.vars) = true := by kernel_rfl
theorem j5 : ((Rows.fnGraphPartUptoRow.stops == [])) = true := by kernel_rfl
theorem j6 : ((Try.prog.stops == [])) = true := rx.stops
theorem j7 : ((Rows.fnGraphPartUptoRow.knobs == [])) = true := by kernel_rfl
theorem j8 : ((Try.prog.stopKnobs == [])) = true := rx.knobs
theorem j9 : ((Rows.fnGraphPartUptoRow.inPlace == Try.prog.inPlace F_laws_FnGraphPart)) = true := by kernel_rfl
theorem j10 : ((Rows.fnGraphPartUptoRow.unfollowed == Try.prog.unfollowed F_laws_FnGraphPart)) = true := by kernel_rfl
theorem j11 : ((Rows.fnGraphPartUptoRow.recurses == Try.prog.recurses F_laws_FnGraphPart)) = true := by kernel_rfl
theorem j12 : ((Rows.fnGraphPartUptoRow.named == Try.prog.varsNamed F_laws_FnGraphPart)) = true := by kernel_rfl
theorem j13 : ((Rows.fnGraphPartUptoRow.maps == (Try.f4.params.toList ++ (Rows.OpenSpec.upto Rows.fnGraphPartSpec).bare.plain.varTypes Try.prog).any (Try.prog.mapsRec ·))) = true := by kernel_rfl
theorem j14 : ((Rows.fnGraphPartUptoRow.ifaces == (Try.f4.params.toList ++ (Rows.OpenSpec.upto Rows.fnGraphPartSpec).bare.plain.varTypes Try.prog).any (Try.prog.ifacesRec ·))) = true := by kernel_rfl
theorem j15 : ((Rows.fnGraphPartUptoRow.mapsOut == Try.prog.mapsAmong Try.f4.resultTypes.toList)) = true := by kernel_rfl
theorem j16 : ((Rows.fnGraphPartUptoRow.loops == (Try.f4.params.toList ++ (Rows.OpenSpec.upto Rows.fnGraphPartSpec).bare.plain.varTypes Try.prog).any (Try.prog.loopsFrom ·))) = true := by kernel_rfl
theorem j17 : ((Rows.fnGraphPartUptoRow.wideKeys == (Try.f4.params.toList ++ (Rows.OpenSpec.upto Rows.fnGraphPartSpec).bare.plain.varTypes Try.prog ++ Try.f4.resultTypes.toList).any (Try.prog.wideKeysFrom ·))) = true := by kernel_rfl
theorem j18 : ((Rows.OpenSpec.upto Rows.fnGraphPartSpec).bare.vars.all (Try.prog.varReadable ·)) = true := by kernel_rfl
theorem j19 : (Try.f4.resultTypes.all (fun t => Try.prog.readableRec t && decide (t < Try.prog.types.size))) = true := by kernel_rfl
theorem j20 : ((Rows.fnGraphPartUptoRow.ifacesOut == Try.f4.resultTypes.toList.any (Try.prog.ifacesRec ·))) = true := by kernel_rfl
theorem j21 : ((Rows.fnGraphPartUptoRow.loopsOut == Try.f4.resultTypes.toList.any (Try.prog.loopsFrom ·))) = true := by kernel_rfl
theorem j22 : ((Rows.fnGraphPartUptoRow.plainKeys == Try.prog.plainKeys)) = true := rx.plain
theorem j23 : (Rows.fnGraphPartUptoRow.shortTexts.isNone) = true := by kernel_rfl
theorem j24 : (Try.prog.stopsHeard) = true := rx.heard
theorem j25 : (Try.prog.mayEnter) = true := rx.enter
theorem j26 : ((Rows.fnGraphPartUptoRow.lifted == Try.prog.liftsFinal)) = true := rx.lifted
theorem j27 : ((Try.prog.make == some Rows.fnGraphPartUptoRow.make)) = true := rx.make
theorem j29 : ((Rows.fnGraphPartUptoRow.pinned == Rows.fnGraphPartUptoRow.pinnedBy)) = true := by kernel_rfl
theorem j30 : ((Rows.fnGraphPartUptoRow.veiled == (Try.f4.params.toList ++ (Rows.OpenSpec.upto Rows.fnGraphPartSpec).bare.plain.varTypes Try.prog ++ Try.f4.resultTypes.toList).any (Try.prog.veiledRec ·))) = true := by kernel_rfl
theorem j31 : (Rows.fnGraphPartUptoRow.veiledFits Try.prog Try.f4.params.toList (Try.f4.params.toList ++ (Rows.OpenSpec.upto Rows.fnGraphPartSpec).bare.plain.varTypes Try.prog ++ Try.f4.resultTypes.toList)) = true := by kernel_rfl
theorem jall : joinedFacts Try.prog F_laws_FnGraphPart Try.f4 (Rows.OpenSpec.upto Rows.fnGraphPartSpec).bare Rows.fnGraphPartUptoRow = true := by
  unfold joinedFacts
  exact rx.andt (rx.andt (rx.andt (rx.andt (rx.andt (rx.andt (rx.andt (rx.andt (rx.andt (rx.andt (rx.andt (rx.andt (rx.andt (rx.andt (rx.andt (rx.andt (rx.andt (rx.andt (rx.andt (rx.andt (rx.andt (rx.andt (rx.andt (rx.andt (rx.andt (rx.andt (rx.andt (rx.andt (rx.andt (rx.andt (rx.andt (j0) j1) j2) j3) j4) j5) j6) j7) j8) j9) j10) j11) j12) j13) j14) j15) j16) j17) j18) j19) j20) j21) j22) j23) j24) j25) j26) j27) (by kernel_rfl)) j29) j30) j31
theorem jwr : Try.f4.isWrapper Try.prog Rows.fnGraphPartUptoRow.wrapper Rows.fnGraphPartUptoRow.mainSum := by unfold Func.isWrapper; first | (rw [if_pos (by decide +kernel)]; kernel_rfl) | (rw [if_neg (by decide +kernel)]; exact ⟨rfl, rfl⟩)
theorem jin : Try.f4.isInstance Try.prog Rows.fnGraphPartUptoRow.origin Rows.fnGraphPartUptoRow.targs := of_decide_eq_true (by kernel_rfl)
theorem jnm : Try.prog.funcNamed Rows.fnGraphPartUptoRow.func = some F_laws_FnGraphPart := by kernel_rfl
theorem over : Rows.fnGraphPartUptoRow.holds Try.pinned (Rows.OpenSpec.upto Rows.fnGraphPartSpec) :=
  OpenClaim.holds_of_cond F_laws_FnGraphPart Try.f4 rfl rfl rfl rfl rfl rfl rfl ⟨rfl, rfl, rfl, rfl, rfl⟩ rfl rfl rfl rfl rfl jnm Try.func4 jall
    jin jwr
    (fun os started H enc _ F => lifted os started H enc F)
theorem proved : Rows.FnGraphPartUptoSaid := over
#print axioms proved
end Go.Proofs.Ytpkgcdpebomalaa.fnGraphPart
namespace Go.Proofs.Ytpkgcdpebomalaa
theorem fnGraphPartUpto_holds : Rows.FnGraphPartUptoSaid := fnGraphPart.proved
end Go.Proofs.Ytpkgcdpebomalaa
