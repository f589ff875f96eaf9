/- The law FnExactTermRead holds of all arguments whose bulk is at most 1048576: it returns true, and the arguments read as before. -/
import Derived.ShutString
import Derived.OpenShut
import Derived.Test.YthbodgnoadlbcaaDoorX3
import Derived.Test.YthbodgnoadlbcaaDoorL26
import Derived.Test.YthbodgnoadlbcaaDoorRXD
import Derived.JoinedCond
import Derived.Carry
import Derived.Test.YthbodgnoadlbcaaDoorCards
import Derived.Test.YthbodgnoadlbcaaDoorTie
import Derived.WalkKit
import Derived.ProofKit
import Derived.Deep.DeepHandedRow
import Derived.Lib.LaidTab
namespace Go.Proofs.YthbodgnoadlbcaaDoor.fnExactTermRead
open Go.ChangeShapes Go.WideShapes Go.ChangeAt Go.RowKit Go.Proofs.YthbodgnoadlbcaaDoor.Asl
set_option linter.unusedVariables false
set_option linter.unusedSimpArgs false
theorem own : ownKnob Tryd.prog.godebug = none := by kernel_rfl
theorem laidOut : laidOutB Tryd.prog = true := rx.laid

set_option maxRecDepth 100000 in
theorem contract (H : Type) (enc : TypeId × Value → H) (W : World) (base : Nat) (args : Array Value) (ds gs : List (DataW H)) (before : List MemPlace)
    (hval : ∀ (j : Nat) t v, Tryd.f4.params[j]? = some t → args[j]? = some v → Value.okWide Tryd.prog W .any base t v)
    (hW : DataW.Whole enc Tryd.prog Tryd.f4.params.toList Rows.fnExactTermReadSpec.vars false W args.toList ds gs before) (hk : Rows.uptoSmall H (ds ++ gs) = true) :
    Calls Tryd.prog F_laws_FnExactTermRead args W fun e W' => ∃ v, e = .returned v ∧ Rows.fnExactTermReadSpec.post enc Tryd.prog Tryd.f4 false true false false W args v W' := by
  have hW' := hW
  obtain ⟨p, q, hA0, hV, rfl, hfz, hnd⟩ := hW
  have hA : DataW.TrodAll enc Tryd.prog W 0 (fun _ => true) true Tryd.f4.params.toList args.toList ds p := hA0
  rw [Tryd.params4] at hA hval
  obtain ⟨v0, vs0, d0, ds0, p0, q0, hargs, rfl, rfl, h0, r0⟩ := trodAll_cons hA
  obtain ⟨rfl, rfl, rfl⟩ := trodAll_nil r0
  obtain rfl : args = #[v0] := by cases args; simp_all
  obtain ⟨rfl, rfl⟩ := trodVars_none hV
  obtain ⟨b0, rfl, rfl, rfl, hm0⟩ := Go.ChangeMaps.open_string Tryd.underlying9 (hval 0 9 v0 rfl rfl) h0
  obtain ⟨l0, rfl⟩ := ofL_all b0
  clear hA0
  refine (calls_ret (c_FnExactTermRead l0 []) (sim_empty W) (.cons (.lit _) .nil)).mono fun e W' ⟨he, bel⟩ => ?_
  subst he
  exact ⟨_, rfl, _, _, _, [], _, [], hW', trodAll_mk1 (shut_bool Tryd.underlying4 _), (trodAll_cons_mk (Go.ChangeMaps.shut_string Tryd.underlying9 hm0) trodAll_mk0), rfl, bel.frame _, fun h => by cases h⟩

noncomputable def laidWorld (os : Os) : World :=
  { World.holding Tryd.prog os ⟨#[], #[], []⟩ with heap := ((((World.holding Tryd.prog os ⟨#[], #[], []⟩).heap.modify 2 (fun
      | .cells _ t frozen => .cells #[.int .u8 0, .int .u8 1, .int .u8 28, .int .u8 2, .int .u8 29, .int .u8 14, .int .u8 24, .int .u8 3, .int .u8 30, .int .u8 22, .int .u8 20, .int .u8 15, .int .u8 25, .int .u8 17, .int .u8 4, .int .u8 8, .int .u8 31, .int .u8 27, .int .u8 13, .int .u8 23, .int .u8 21, .int .u8 19, .int .u8 16, .int .u8 7, .int .u8 26, .int .u8 12, .int .u8 18, .int .u8 6, .int .u8 11, .int .u8 5, .int .u8 10, .int .u8 9] t frozen
      | o => o)).modify 3 (fun
      | .cells _ t frozen => .cells #[.int .u8 0, .int .u8 1, .int .u8 56, .int .u8 2, .int .u8 57, .int .u8 49, .int .u8 28, .int .u8 3, .int .u8 61, .int .u8 58, .int .u8 42, .int .u8 50, .int .u8 38, .int .u8 29, .int .u8 17, .int .u8 4, .int .u8 62, .int .u8 47, .int .u8 59, .int .u8 36, .int .u8 45, .int .u8 43, .int .u8 51, .int .u8 22, .int .u8 53, .int .u8 39, .int .u8 33, .int .u8 30, .int .u8 24, .int .u8 18, .int .u8 12, .int .u8 5, .int .u8 63, .int .u8 55, .int .u8 48, .int .u8 27, .int .u8 60, .int .u8 41, .int .u8 37, .int .u8 16, .int .u8 46, .int .u8 35, .int .u8 44, .int .u8 21, .int .u8 52, .int .u8 32, .int .u8 23, .int .u8 11, .int .u8 54, .int .u8 26, .int .u8 40, .int .u8 15, .int .u8 34, .int .u8 20, .int .u8 31, .int .u8 10, .int .u8 25, .int .u8 14, .int .u8 19, .int .u8 9, .int .u8 13, .int .u8 8, .int .u8 7, .int .u8 6] t frozen
      | o => o)).modify 0 (fun
      | .cells _ t frozen => .cells #[.int .u64 1, .int .u64 10, .int .u64 100, .int .u64 1000, .int .u64 10000, .int .u64 100000, .int .u64 1000000, .int .u64 10000000, .int .u64 100000000, .int .u64 1000000000, .int .u64 10000000000, .int .u64 100000000000, .int .u64 1000000000000, .int .u64 10000000000000, .int .u64 100000000000000, .int .u64 1000000000000000, .int .u64 10000000000000000, .int .u64 100000000000000000, .int .u64 1000000000000000000, .int .u64 10000000000000000000] t frozen
      | o => o)) }
set_option maxRecDepth 100000 in
theorem laid_met (os : Os) : laidMet Tryd.prog Rows.fnExactTermReadUptoRow.laid ((laidWorld os).forCall (fun _ _ => 0) ⟨#[], #[.string ⟨#[]⟩], []⟩).memory :=
  laidMet_of_run' 8 (by kernel_rfl) (by kernel_rfl)
theorem reads (os : Os) {H : Type} (enc : TypeId × Value → H) : ∃ places, DataW.whole enc Tryd.prog ((laidWorld os).forCall (fun _ _ => 0) ⟨#[], #[.string ⟨#[]⟩], []⟩).memory Tryd.f4.params.toList Rows.fnExactTermReadSpec.vars false (#[.string ⟨#[]⟩] : Array Value).toList 8 = some ([.lit (.string [])], [], places) :=
  ⟨[], by kernel_rfl⟩

set_option maxRecDepth 100000 in
theorem lifted (os : Os) (started : os.Started) (H : Type) (enc : TypeId × Value → H) (F : Stop.Interp) :
    ReturnsInHanded {} Tryd.checked os F_laws_FnExactTermRead .any ((Rows.OpenSpec.upto Rows.fnExactTermReadSpec).preRow enc Tryd.prog Tryd.f4 Rows.fnExactTermReadUptoRow.domain false Rows.fnExactTermReadUptoRow.laid) (((Rows.OpenSpec.upto Rows.fnExactTermReadSpec).at F).post enc Tryd.prog Tryd.f4 false true false false) := by
  obtain ⟨places, hx⟩ := reads os enc
  refine returnsInHanded_of_row (C := Tryd.checked) (s := Rows.OpenSpec.upto Rows.fnExactTermReadSpec) own started (by kernel_rfl) Tryd.func4
    (witness_row_at (enc := enc) (C := Tryd.checked) false (laidWorld os) #[.string ⟨#[]⟩] rfl (by kernel_rfl) (by kernel_rfl) (by kernel_rfl)
      (OpenSpec.preRow_of_cond 8 hx (by kernel_rfl) (fun k hk => by cases hk; kernel_rfl) (by kernel_rfl) (laid_met os))) ?_
  intro W base args ds gs before hval hW _ hcond _ hL _ _
  exact contract H enc W base args ds gs before hval hW (hcond _ rfl)

theorem j0 : (Rows.fnExactTermReadUptoRow.wf (OpenSpec.ofChange (Rows.OpenSpec.upto Rows.fnExactTermReadSpec).bare)) = true := by kernel_rfl
theorem j1 : (laidOutB Tryd.prog) = true := rx.laid
theorem j2 : (mapsRowed Tryd.prog) = true := rx.maps
theorem j3 : (Tryd.f4.params.all (Tryd.prog.readableRec ·)) = true := by kernel_rfl
theorem j4 : (namedTie Tryd.prog Rows.fnExactTermReadUptoRow.named (Rows.OpenSpec.upto Rows.fnExactTermReadSpec).bare.vars) = true := by kernel_rfl
theorem j5 : ((Rows.fnExactTermReadUptoRow.stops == [])) = true := by kernel_rfl
theorem j6 : ((Tryd.prog.stops == [])) = true := rx.stops
theorem j7 : ((Rows.fnExactTermReadUptoRow.knobs == [])) = true := by kernel_rfl
theorem j8 : ((Tryd.prog.stopKnobs == [])) = true := rx.knobs
theorem j9 : ((Rows.fnExactTermReadUptoRow.inPlace == Tryd.prog.inPlace F_laws_FnExactTermRead)) = true := by kernel_rfl
theorem j10 : ((Rows.fnExactTermReadUptoRow.unfollowed == Tryd.prog.unfollowed F_laws_FnExactTermRead)) = true := by kernel_rfl
theorem j11 : ((Rows.fnExactTermReadUptoRow.recurses == Tryd.prog.recurses F_laws_FnExactTermRead)) = true := by kernel_rfl
theorem j12 : ((Rows.fnExactTermReadUptoRow.named == Tryd.prog.varsNamed F_laws_FnExactTermRead)) = true := by kernel_rfl
theorem j13 : ((Rows.fnExactTermReadUptoRow.maps == (Tryd.f4.params.toList ++ (Rows.OpenSpec.upto Rows.fnExactTermReadSpec).bare.plain.varTypes Tryd.prog).any (Tryd.prog.mapsRec ·))) = true := by kernel_rfl
theorem j14 : ((Rows.fnExactTermReadUptoRow.ifaces == (Tryd.f4.params.toList ++ (Rows.OpenSpec.upto Rows.fnExactTermReadSpec).bare.plain.varTypes Tryd.prog).any (Tryd.prog.ifacesRec ·))) = true := by kernel_rfl
theorem j15 : ((Rows.fnExactTermReadUptoRow.mapsOut == Tryd.prog.mapsAmong Tryd.f4.resultTypes.toList)) = true := by kernel_rfl
theorem j16 : ((Rows.fnExactTermReadUptoRow.loops == (Tryd.f4.params.toList ++ (Rows.OpenSpec.upto Rows.fnExactTermReadSpec).bare.plain.varTypes Tryd.prog).any (Tryd.prog.loopsFrom ·))) = true := by kernel_rfl
theorem j17 : ((Rows.fnExactTermReadUptoRow.wideKeys == (Tryd.f4.params.toList ++ (Rows.OpenSpec.upto Rows.fnExactTermReadSpec).bare.plain.varTypes Tryd.prog ++ Tryd.f4.resultTypes.toList).any (Tryd.prog.wideKeysFrom ·))) = true := by kernel_rfl
theorem j18 : ((Rows.OpenSpec.upto Rows.fnExactTermReadSpec).bare.vars.all (Tryd.prog.varReadable ·)) = true := by kernel_rfl
theorem j19 : (Tryd.f4.resultTypes.all (fun t => Tryd.prog.readableRec t && decide (t < Tryd.prog.types.size))) = true := by kernel_rfl
theorem j20 : ((Rows.fnExactTermReadUptoRow.ifacesOut == Tryd.f4.resultTypes.toList.any (Tryd.prog.ifacesRec ·))) = true := by kernel_rfl
theorem j21 : ((Rows.fnExactTermReadUptoRow.loopsOut == Tryd.f4.resultTypes.toList.any (Tryd.prog.loopsFrom ·))) = true := by kernel_rfl
theorem j22 : ((Rows.fnExactTermReadUptoRow.plainKeys == Tryd.prog.plainKeys)) = true := rx.plain
theorem j23 : (Rows.fnExactTermReadUptoRow.shortTexts.isNone) = true := by kernel_rfl
theorem j24 : (Tryd.prog.stopsHeard) = true := rx.heard
theorem j25 : (Tryd.prog.mayEnter) = true := rx.enter
theorem j26 : ((Rows.fnExactTermReadUptoRow.lifted == Tryd.prog.liftsFinal)) = true := rx.lifted
theorem j27 : ((Tryd.prog.make == some Rows.fnExactTermReadUptoRow.make)) = true := rx.make
theorem j29 : ((Rows.fnExactTermReadUptoRow.pinned == Rows.fnExactTermReadUptoRow.pinnedBy)) = true := by kernel_rfl
theorem j30 : ((Rows.fnExactTermReadUptoRow.veiled == (Tryd.f4.params.toList ++ (Rows.OpenSpec.upto Rows.fnExactTermReadSpec).bare.plain.varTypes Tryd.prog ++ Tryd.f4.resultTypes.toList).any (Tryd.prog.veiledRec ·))) = true := by kernel_rfl
theorem j31 : (Rows.fnExactTermReadUptoRow.veiledFits Tryd.prog Tryd.f4.params.toList (Tryd.f4.params.toList ++ (Rows.OpenSpec.upto Rows.fnExactTermReadSpec).bare.plain.varTypes Tryd.prog ++ Tryd.f4.resultTypes.toList)) = true := by kernel_rfl
theorem jall : joinedFacts Tryd.prog F_laws_FnExactTermRead Tryd.f4 (Rows.OpenSpec.upto Rows.fnExactTermReadSpec).bare Rows.fnExactTermReadUptoRow = true := by
  unfold joinedFacts
  exact rx.andt (rx.andt (rx.andt (rx.andt (rx.andt (rx.andt (rx.andt (rx.andt (rx.andt (rx.andt (rx.andt (rx.andt (rx.andt (rx.andt (rx.andt (rx.andt (rx.andt (rx.andt (rx.andt (rx.andt (rx.andt (rx.andt (rx.andt (rx.andt (rx.andt (rx.andt (rx.andt (rx.andt (rx.andt (rx.andt (rx.andt (j0) j1) j2) j3) j4) j5) j6) j7) j8) j9) j10) j11) j12) j13) j14) j15) j16) j17) j18) j19) j20) j21) j22) j23) j24) j25) j26) j27) (by kernel_rfl)) j29) j30) j31
theorem jwr : Tryd.f4.isWrapper Tryd.prog Rows.fnExactTermReadUptoRow.wrapper Rows.fnExactTermReadUptoRow.mainSum := by unfold Func.isWrapper; first | (rw [if_pos (by decide +kernel)]; kernel_rfl) | (rw [if_neg (by decide +kernel)]; exact ⟨rfl, rfl⟩)
theorem jin : Tryd.f4.isInstance Tryd.prog Rows.fnExactTermReadUptoRow.origin Rows.fnExactTermReadUptoRow.targs := of_decide_eq_true (by kernel_rfl)
theorem jnm : Tryd.prog.funcNamed Rows.fnExactTermReadUptoRow.func = some F_laws_FnExactTermRead := by kernel_rfl
theorem over : Rows.fnExactTermReadUptoRow.holds Tryd.pinned (Rows.OpenSpec.upto Rows.fnExactTermReadSpec) :=
  OpenClaim.holds_of_cond F_laws_FnExactTermRead Tryd.f4 rfl rfl rfl rfl rfl rfl rfl ⟨rfl, rfl, rfl, rfl, rfl⟩ rfl rfl rfl rfl rfl jnm Tryd.func4 jall
    jin jwr
    (fun os started H enc _ F => by rw [OpenClaim.pre_eq_preRow]; exact lifted os started H enc F)
theorem plain (f : FuncId) (fn : Func) (hf : Tryd.pinned.checked.prog.funcNamed "loop.example/mobilenames/laws.FnExactTermRead" = some f) (hfn : Tryd.pinned.checked.prog.funcs[f]? = some fn) :
    false = Tryd.pinned.checked.prog.looks [] ∧ ∀ (j : Nat) t, fn.params[j]? = some t → Tryd.pinned.checked.prog.wantsStandIn t = false := by
  obtain rfl : f = F_laws_FnExactTermRead := Option.some.inj ((show Tryd.prog.funcNamed "loop.example/mobilenames/laws.FnExactTermRead" = some F_laws_FnExactTermRead by kernel_rfl).symm.trans hf) |>.symm
  obtain rfl : fn = Tryd.f4 := (Option.some.inj (Tryd.func4.symm.trans hfn)).symm
  refine ⟨by kernel_rfl, fun j t ht => ?_⟩
  have h : Tryd.f4.params.all (fun t => !Tryd.prog.wantsStandIn t) = true := by kernel_rfl
  rw [Array.all_eq_true_iff_forall_mem] at h
  have h2 := h t (Array.mem_of_getElem? ht)
  simp only [Bool.not_eq_true'] at h2
  exact h2
theorem proved : Rows.FnExactTermReadUptoCardSaid :=
  Claim7.holds_tied_plain_at .later [] _ _ _ _ over (fun _ h => by cases h) (by kernel_rfl) (fun _ h => by cases h) fnExactTermReadUpto_row_tie rfl ⟨rfl, rfl⟩ (by kernel_rfl) rfl plain (by kernel_rfl)
#print axioms proved
end Go.Proofs.YthbodgnoadlbcaaDoor.fnExactTermRead
namespace Go.Proofs.YthbodgnoadlbcaaDoor
theorem fnExactTermReadUpto_holds : Rows.FnExactTermReadUptoCardSaid := fnExactTermRead.proved
end Go.Proofs.YthbodgnoadlbcaaDoor
