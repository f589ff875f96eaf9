/- The law FnGraphBoth holds of all arguments whose bulk is at most 1048576: it returns true, and the arguments read as before. -/
import Derived.Test.YthbodgnoadlbcaaUC
import Derived.Test.YthbodgnoadlbcaaL25
import Derived.Test.YthbodgnoadlbcaaRX
import Derived.JoinedCond
import Derived.Carry
namespace Go.Proofs.Ythbodgnoadlbcaa.fnGraphBoth
open Go.ChangeShapes Go.WideShapes Go.ChangeAt Go.RowKit Go.Proofs.Ythbodgnoadlbcaa.Asl
set_option linter.unusedVariables false
set_option linter.unusedSimpArgs false
theorem own : ownKnob Try.prog.godebug = none := by kernel_rfl
theorem laidOut : laidOutB Try.prog = true := rx.laid

set_option maxRecDepth 100000 in
theorem contract (H : Type) (enc : TypeId × Value → H) (W : World) (base : Nat) (args : Array Value) (ds gs : List (DataW H)) (before : List MemPlace)
    (hval : ∀ (j : Nat) t v, Try.f3.params[j]? = some t → args[j]? = some v → Value.okWide Try.prog W .any base t v)
    (hW : DataW.Whole enc Try.prog Try.f3.params.toList Rows.fnGraphBothSpec.vars false W args.toList ds gs before) (hk : Rows.uptoSmall H (ds ++ gs) = true) :
    Calls Try.prog F_laws_FnGraphBoth args W fun e W' => ∃ v, e = .returned v ∧ Rows.fnGraphBothSpec.post enc Try.prog Try.f3 false true false false W args v W' := by
  have hW' := hW
  obtain ⟨p, q, hA0, hV, rfl, hfz, hnd⟩ := hW
  have hA : DataW.TrodAll enc Try.prog W 0 (fun _ => true) true Try.f3.params.toList args.toList ds p := hA0
  rw [Try.params3] at hA hval
  obtain ⟨v0, vs0, d0, ds0, p0, q0, hargs, rfl, rfl, h0, r0⟩ := trodAll_cons hA
  obtain ⟨rfl, rfl, rfl⟩ := trodAll_nil r0
  obtain rfl : args = #[v0] := by cases args; simp_all
  obtain ⟨rfl, rfl⟩ := trodVars_none hV
  clear hA0
  have hlt0 : ∀ x ∈ p0, x.block < W.heap.size := fun x hx => by simpa using hW'.lt x (by simp [hx])
  have hb0 : Rows.uptoBulk d0 ≤ 1048576 := by
    have := hk
    simp only [Rows.uptoSmall, Rows.uptoBulkAll, List.append_nil, List.cons_append, List.nil_append, decide_eq_true_eq] at this
    omega
  obtain ⟨g0, b0, hopen0⟩ := open_bytes_arg Try.underlying22 Try.underlying5 (by kernel_rfl) (okWide_slice Try.underlying22 (hval 0 22 v0 rfl rfl)) h0 hb0
  obtain ⟨s0, σ0, ρ0, hR0, hw0, hS0, hle0, hls0⟩ := hopen0 _ _ (sim_empty W)
  refine (calls_ret (c_FnGraphBoth s0 g0 σ0) hS0 (.cons hR0 .nil)).mono fun e W' ⟨he, bel⟩ => ?_
  subst he
  exact ⟨_, rfl, _, _, _, [], _, [], hW', trodAll_mk1 (shut_bool Try.underlying4 _), (trodAll_cons_mk (Below.trod laidOut (by kernel_rfl) (of_decide_eq_true (by kernel_rfl)) h0 bel hlt0) trodAll_mk0), rfl, bel.frame _, fun h => by cases h⟩

set_option maxRecDepth 100000 in
theorem lifted (os : Os) (started : os.Started) (H : Type) (enc : TypeId × Value → H) (F : Stop.Interp) :
    ReturnsInHanded {} Try.checked os F_laws_FnGraphBoth .any ((Rows.OpenSpec.upto Rows.fnGraphBothSpec).pre6 enc Try.prog Try.f3 Rows.fnGraphBothUptoRow.domain false) (((Rows.OpenSpec.upto Rows.fnGraphBothSpec).at F).post enc Try.prog Try.f3 false true false false) := by
  refine returnsInHanded_of_cond (C := Try.checked) (s := Rows.OpenSpec.upto Rows.fnGraphBothSpec) (k := Rows.uptoSmall) rfl own started (by kernel_rfl) Try.func3
    (OpenSpec.witness (enc := enc) (C := Try.checked) (s := Rows.OpenSpec.upto Rows.fnGraphBothSpec) (k := Rows.uptoSmall) rfl false ⟨#[], #[.slice none 0 0], []⟩ 8 (by kernel_rfl) (by kernel_rfl) (by kernel_rfl)
      (x := ([.nil], [], [])) (by kernel_rfl) rfl (by kernel_rfl)) ?_
  intro W base args ds gs before hval hW _ hk _
  exact contract H enc W base args ds gs before hval hW hk

theorem j0 : (Rows.fnGraphBothUptoRow.wf (OpenSpec.ofChange (Rows.OpenSpec.upto Rows.fnGraphBothSpec).bare)) = true := by kernel_rfl
theorem j1 : (laidOutB Try.prog) = true := rx.laid
theorem j2 : (mapsRowed Try.prog) = true := rx.maps
theorem j3 : (Try.f3.params.all (Try.prog.readableRec ·)) = true := by kernel_rfl
theorem j4 : (namedTie Try.prog Rows.fnGraphBothUptoRow.named (Rows.OpenSpec.upto Rows.fnGraphBothSpec).bare.vars) = true := by kernel_rfl
theorem j5 : ((Rows.fnGraphBothUptoRow.stops == [])) = true := by kernel_rfl
theorem j6 : ((Try.prog.stops == [])) = true := rx.stops
theorem j7 : ((Rows.fnGraphBothUptoRow.knobs == [])) = true := by kernel_rfl
theorem j8 : ((Try.prog.stopKnobs == [])) = true := rx.knobs
theorem j9 : ((Rows.fnGraphBothUptoRow.inPlace == Try.prog.inPlace F_laws_FnGraphBoth)) = true := by kernel_rfl
theorem j10 : ((Rows.fnGraphBothUptoRow.unfollowed == Try.prog.unfollowed F_laws_FnGraphBoth)) = true := by kernel_rfl
theorem j11 : ((Rows.fnGraphBothUptoRow.recurses == Try.prog.recurses F_laws_FnGraphBoth)) = true := by kernel_rfl
theorem j12 : ((Rows.fnGraphBothUptoRow.named == Try.prog.varsNamed F_laws_FnGraphBoth)) = true := by kernel_rfl
theorem j13 : ((Rows.fnGraphBothUptoRow.maps == (Try.f3.params.toList ++ (Rows.OpenSpec.upto Rows.fnGraphBothSpec).bare.plain.varTypes Try.prog).any (Try.prog.mapsRec ·))) = true := by kernel_rfl
theorem j14 : ((Rows.fnGraphBothUptoRow.ifaces == (Try.f3.params.toList ++ (Rows.OpenSpec.upto Rows.fnGraphBothSpec).bare.plain.varTypes Try.prog).any (Try.prog.ifacesRec ·))) = true := by kernel_rfl
theorem j15 : ((Rows.fnGraphBothUptoRow.mapsOut == Try.prog.mapsAmong Try.f3.resultTypes.toList)) = true := by kernel_rfl
theorem j16 : ((Rows.fnGraphBothUptoRow.loops == (Try.f3.params.toList ++ (Rows.OpenSpec.upto Rows.fnGraphBothSpec).bare.plain.varTypes Try.prog).any (Try.prog.loopsFrom ·))) = true := by kernel_rfl
theorem j17 : ((Rows.fnGraphBothUptoRow.wideKeys == (Try.f3.params.toList ++ (Rows.OpenSpec.upto Rows.fnGraphBothSpec).bare.plain.varTypes Try.prog ++ Try.f3.resultTypes.toList).any (Try.prog.wideKeysFrom ·))) = true := by kernel_rfl
theorem j18 : ((Rows.OpenSpec.upto Rows.fnGraphBothSpec).bare.vars.all (Try.prog.varReadable ·)) = true := by kernel_rfl
theorem j19 : (Try.f3.resultTypes.all (fun t => Try.prog.readableRec t && decide (t < Try.prog.types.size))) = true := by kernel_rfl
theorem j20 : ((Rows.fnGraphBothUptoRow.ifacesOut == Try.f3.resultTypes.toList.any (Try.prog.ifacesRec ·))) = true := by kernel_rfl
theorem j21 : ((Rows.fnGraphBothUptoRow.loopsOut == Try.f3.resultTypes.toList.any (Try.prog.loopsFrom ·))) = true := by kernel_rfl
theorem j22 : ((Rows.fnGraphBothUptoRow.plainKeys == Try.prog.plainKeys)) = true := rx.plain
theorem j23 : (Rows.fnGraphBothUptoRow.shortTexts.isNone) = true := by kernel_rfl
theorem j24 : (Try.prog.stopsHeard) = true := rx.heard
theorem j25 : (Try.prog.mayEnter) = true := rx.enter
theorem j26 : ((Rows.fnGraphBothUptoRow.lifted == Try.prog.liftsFinal)) = true := rx.lifted
theorem j27 : ((Try.prog.make == some Rows.fnGraphBothUptoRow.make)) = true := rx.make
theorem j29 : ((Rows.fnGraphBothUptoRow.pinned == Rows.fnGraphBothUptoRow.pinnedBy)) = true := by kernel_rfl
theorem j30 : ((Rows.fnGraphBothUptoRow.veiled == (Try.f3.params.toList ++ (Rows.OpenSpec.upto Rows.fnGraphBothSpec).bare.plain.varTypes Try.prog ++ Try.f3.resultTypes.toList).any (Try.prog.veiledRec ·))) = true := by kernel_rfl
theorem j31 : (Rows.fnGraphBothUptoRow.veiledFits Try.prog Try.f3.params.toList (Try.f3.params.toList ++ (Rows.OpenSpec.upto Rows.fnGraphBothSpec).bare.plain.varTypes Try.prog ++ Try.f3.resultTypes.toList)) = true := by kernel_rfl
theorem jall : joinedFacts Try.prog F_laws_FnGraphBoth Try.f3 (Rows.OpenSpec.upto Rows.fnGraphBothSpec).bare Rows.fnGraphBothUptoRow = true := by
  unfold joinedFacts
  exact rx.andt (rx.andt (rx.andt (rx.andt (rx.andt (rx.andt (rx.andt (rx.andt (rx.andt (rx.andt (rx.andt (rx.andt (rx.andt (rx.andt (rx.andt (rx.andt (rx.andt (rx.andt (rx.andt (rx.andt (rx.andt (rx.andt (rx.andt (rx.andt (rx.andt (rx.andt (rx.andt (rx.andt (rx.andt (rx.andt (rx.andt (j0) j1) j2) j3) j4) j5) j6) j7) j8) j9) j10) j11) j12) j13) j14) j15) j16) j17) j18) j19) j20) j21) j22) j23) j24) j25) j26) j27) (by kernel_rfl)) j29) j30) j31
theorem jwr : Try.f3.isWrapper Try.prog Rows.fnGraphBothUptoRow.wrapper Rows.fnGraphBothUptoRow.mainSum := by unfold Func.isWrapper; first | (rw [if_pos (by decide +kernel)]; kernel_rfl) | (rw [if_neg (by decide +kernel)]; exact ⟨rfl, rfl⟩)
theorem jin : Try.f3.isInstance Try.prog Rows.fnGraphBothUptoRow.origin Rows.fnGraphBothUptoRow.targs := of_decide_eq_true (by kernel_rfl)
theorem jnm : Try.prog.funcNamed Rows.fnGraphBothUptoRow.func = some F_laws_FnGraphBoth := by kernel_rfl
theorem over : Rows.fnGraphBothUptoRow.holds Try.pinned (Rows.OpenSpec.upto Rows.fnGraphBothSpec) :=
  OpenClaim.holds_of_cond F_laws_FnGraphBoth Try.f3 rfl rfl rfl rfl rfl rfl rfl ⟨rfl, rfl, rfl, rfl, rfl⟩ rfl rfl rfl rfl rfl jnm Try.func3 jall
    jin jwr
    (fun os started H enc _ F => lifted os started H enc F)
theorem proved : Rows.FnGraphBothUptoSaid := over
#print axioms proved
end Go.Proofs.Ythbodgnoadlbcaa.fnGraphBoth
namespace Go.Proofs.Ythbodgnoadlbcaa
theorem fnGraphBothUpto_holds : Rows.FnGraphBothUptoSaid := fnGraphBoth.proved
end Go.Proofs.Ythbodgnoadlbcaa
