/- The drawn law FnGraphOf. -/
import Derived.Test.YthbodgnoadlbcaaGreatDoorT31
import Derived.Test.YthbodgnoadlbcaaGreatDoorK11
import Derived.Test.YthbodgnoadlbcaaGreatDoorK4
import Derived.Test.YthbodgnoadlbcaaGreatDoorM2
import Derived.Test.YthbodgnoadlbcaaGreatDoorG3
import Derived.Test.YthbodgnoadlbcaaGreatDoorG20
namespace Go.Proofs.YthbodgnoadlbcaaGreatDoor.Asl
open Go.RowKit Go.Proofs.YthbodgnoadlbcaaGreatDoorW.PrintLast
set_option linter.unusedVariables false
set_option linter.unusedSimpArgs false
attribute [local irreducible] WP WL andThen inBlock noGoto atEnd ACall DA DL PO Hold nodeOk Tm.shape Tm.ok Tm.askO graphO
set_option maxHeartbeats 4000000
set_option synthInstance.maxHeartbeats 400000
set_option synthInstance.maxSize 10000
section
variable {α : Type} [Enc α] {E : Env} {ops : Array Oper} {l : List Oper} {Q : Exit → Slots → Store → Prop} {S : Slots} {σ : Store} {d : Option Tmp} {ty : TypeId} {pos : String} {af : Array Edge} {x y : Operand}
/-- A call that gives a row of its own that is not empty: its value spelt out. -/
theorem wc_callOWs {args : Array Operand} {ats : Array TypeId} {f : FuncId} {rs caps : List AV} {L : List α} (hf : S.ev x = some (.fn f caps)) (hc : Callable E.P f) (hargs : evs S args.toList = some rs)
    (h : ACall E.P E.base f (rs ++ caps) σ (fun _ => False) (RetOW σ L)) (hne : L ≠ []) (hd : okd E d = true) (k : ∀ id σ', OW σ σ' (.sl id 0 L.length) L → Grow σ σ' → WL E ops l Q (S.put d (.sl id 0 L.length)) σ') :
    WL E ops (⟨d, .call ⟨.value x, args, ats⟩, ty, pos, af, none⟩ :: l) Q S σ :=
  wc_callOW hf hc hargs h hd fun u σ' _ how hg => by
    rcases how.rep with ⟨e, _⟩ | ⟨id, rfl, _, _⟩
    · exact absurd e hne
    · exact k id σ' how hg
end
section
variable {base : Nat}
theorem any_succ {α : Type} {l : List α} {i : Nat} {d : α} {p : α → Bool} (h : i < l.length) : (l.take (i + 1)).any p = ((l.take i).any p || p (l.getD i d)) := by
  rw [List.take_add_one, List.getElem?_eq_getElem h, List.any_append]
  simp [List.getD_eq_getElem?_getD, h]
theorem c_FnGraphOf (b : AV) (gb : List UInt8) (σ : Store) [hs : RW σ b gb] : ACall Tryz.prog base F_laws_FnGraphOf [b] σ (fun _ => False) (Ret σ (Bo true)) := by
  have := hs.one
  refine acall1 fun_laws_FnGraphOf rfl tmps_laws_FnGraphOf rfl fun N B w₀ ρ₀ => ?_
  repeat' (first
    | refine wl_pop rfl (pc_lenRow rfl hs inferInstance) ?_
    | (refine wc_callTDGr rfl inferInstance rfl (c_DrawGraphOf b gb _ (by omega)) rfl ?_; intro _ _ _ _ _ _ _ _ _ _ _)
    | refine wc_holdR 4 ?_
    | refine wp_seqA ?_
    | refine wp_region_seq ?_
    | refine thru_seq_next ?_
    | refine thru_seq_ret ?_
    | refine wp_skipA ?_
    | refine wp_retA ?_
    | refine wl_nil ?_
    | refine wl_pop rfl (po_move rfl) ?_
    | refine wl_pop rfl (po_assign rfl) ?_
    | refine wl_pop rfl (po_binOp rfl rfl rfl) ?_
    | (refine wc_storeA rfl rfl inferInstance inferInstance rfl inferInstance (Nat.le_of_ble_eq_true rfl) (.inr (may_new _)) ?_; intro _ _)
    | refine wl_pop rfl (po_extract rfl rfl) ?_
    | (refine wc_allocA (cs := [_, _, _]) inferInstance rfl inferInstance rfl ?_; intro _ _ _ _ _)
    | refine wp_condP rfl (fun _ => ?_) (fun _ => ?_)
    | refine at_ret (res1 rfl rfl) ?_
    | exact ret_ inferInstance rfl
    | fail)
  rename_i hlen t u v ds σ1 ou ov ru rv hds g1 i2 σ2 g2 n2 h2 σ3 u3
  refine hold_go ?_
  have l3 : LeS σ σ3 := inferInstance
  obtain ⟨o, ho⟩ : ∃ o, graphO ds t = o := ⟨_, rfl⟩
  cases o with
  | none =>
    repeat' (first
      | (refine wc_callGO rfl inferInstance rfl (ho ▸ c_GraphOf t ds _ _ _) rfl ?_; intro _ _ _ _ _ _ _)
      | (refine wc_callGO rfl inferInstance rfl (ho ▸ c_sGraphOf t ds _ _ _) rfl ?_; intro _ _ _ _ _ _ _)
      | (refine wc_callR rfl inferInstance rfl (c_mnGraphR _ _ _) rfl ?_; intro _ _)
      | refine wc_loadn rfl inferInstance (at_has (cs := [_]) (.inl rfl) rfl rfl) rfl ?_
      | refine wp_seqA ?_
      | refine wp_region_seq ?_
      | refine thru_seq_next ?_
      | refine thru_seq_ret ?_
      | refine wp_skipA ?_
      | refine wp_retA ?_
      | refine wl_nil ?_
      | refine wl_pop rfl (po_move rfl) ?_
      | refine wl_pop rfl (po_assign rfl) ?_
      | refine wl_pop rfl (pc_boolNeSelf rfl rfl inferInstance) ?_
      | refine wc_loadn rfl inferInstance (at_has (cs := [_, _, _]) (.inl rfl) rfl rfl) rfl ?_
      | refine wl_pop rfl (po_not rfl) ?_
      | (refine wc_storeA rfl rfl inferInstance inferInstance rfl inferInstance (Nat.le_of_ble_eq_true rfl) (.inr (may_new _)) ?_; intro _ _)
      | refine wl_pop rfl (po_extract rfl rfl) ?_
      | (refine wc_allocA (cs := [_]) inferInstance rfl inferInstance rfl ?_; intro _ _ _ _ _)
      | refine wl_pop rfl (po_pick rfl rfl) ?_
      | refine wc_guardT_false rfl rfl rfl ?_
      | refine wp_condT rfl ?_
      | refine wp_condF rfl ?_
      | refine at_ret (res1 rfl rfl) ?_
      | exact ret_ inferInstance rfl
      | fail)
  | some g =>
    obtain ⟨S, hP, hl, hd, hf⟩ := graphO_spec ho
    have hgok := hP.gok hd hl
    have hwhole := hP.whole hd hl
    have hacts := hP.acts hd hl
    have hst : t.askO ds = some (t.steps ds) := by unfold Tm.askO; rw [if_pos (by simp [hd, hf])]
    repeat' (first
      | (refine wc_callGO rfl inferInstance rfl (ho ▸ c_GraphOf t ds _ _ _) rfl ?_; intro _ _ _ _ _ _ _)
      | (refine wc_callGO rfl inferInstance rfl (ho ▸ c_sGraphOf t ds _ _ _) rfl ?_; intro _ _ _ _ _ _ _)
      | (refine wc_callR rfl inferInstance rfl (c_mnGraphR _ _ _) rfl ?_; intro _ _)
      | refine wc_holdR 10 ?_
      | refine wc_loadn rfl inferInstance (at_has (cs := [_]) (.inl rfl) rfl rfl) rfl ?_
      | refine wp_seqA ?_
      | refine wp_region_seq ?_
      | refine thru_seq_next ?_
      | refine wp_skipA ?_
      | refine wl_nil ?_
      | refine wl_pop rfl (po_move rfl) ?_
      | refine wl_pop rfl (po_assign rfl) ?_
      | refine wl_pop rfl (pc_boolNeSelf rfl rfl inferInstance) ?_
      | refine wc_loadn rfl inferInstance (at_has (cs := [_, _, _]) (.inl rfl) rfl rfl) rfl ?_
      | refine wl_pop rfl (po_not rfl) ?_
      | (refine wc_storeA rfl rfl inferInstance inferInstance rfl inferInstance (Nat.le_of_ble_eq_true rfl) (.inr (may_new _)) ?_; intro _ _)
      | refine wl_pop rfl (po_extract rfl rfl) ?_
      | (refine wc_allocA (cs := [_]) inferInstance rfl inferInstance rfl ?_; intro _ _ _ _ _)
      | refine wl_pop rfl (po_pick rfl rfl) ?_
      | refine wc_guardT_false rfl rfl rfl ?_
      | refine wp_condF rfl ?_
      | fail)
    rename_i w ws σ4 ow ww wr g4 i5 σ5 g5 n5 h5 σ6 u6 w' ws' σ7 ow' ww' wr' g7 i8 σ8 g8 n8 h8 σ9 u9 σ10 g10
    have l10 : LeS σ σ10 := inferInstance
    have rw10 : RW σ10 w ws := inferInstance
    have rr10 : RRs σ10 ws g := inferInstance
    have hi10 : Has σ10 i5 ⟨.own, 1, [w], []⟩ := inferInstance
    have h210 : Has σ10 i2 ⟨.own, 1, [I t.op, I t.n, u], []⟩ := inferInstance
    have hgl := rr10.len
    have hpos := hgok.pos
    have ru10 : RTs σ10 u t.ps := inferInstance
    have rv10 : RTs σ10 v ds := inferInstance
    clear u3 u6 u9 ww wr ww' wr'
    refine hold_go ?_
    repeat' (first
      | (refine wc_callSO rfl inferInstance rfl (hst ▸ c_TermSteps t ds _ _ _) rfl ?_; intro _ _ _ _ _ _ _)
      | refine wc_holdR 11 ?_
      | refine wp_seqA ?_
      | refine wp_region_seq ?_
      | refine thru_seq_next ?_
      | refine wl_nil ?_
      | refine wl_pop rfl (po_move rfl) ?_
      | refine wl_pop rfl (po_assign rfl) ?_
      | refine wc_loadn rfl inferInstance (at_has (cs := [_, _, _]) (.inl rfl) rfl rfl) rfl ?_
      | refine wl_pop rfl (po_extract rfl rfl) ?_
      | fail)
    rename_i y ys σ11 oy yw ysr g11
    have hyb := yw.bound
    have ysr' : SR (fun _ => True) σ11 ys ((some (t.steps ds)).getD []) := inferInstance
    refine hold_go ?_
    have hwz : ((reachL g).length : Int) = (ws.length : Int) := by omega
    have hrl : (optB (GOk g) (reachL g)).getD [] = reachL g := by unfold optB; rw [prB_true hgok]; rfl
    refine wc_drawn [] mixed_ rfl ?_
    all_goals refine da_takeC 0 rfl rfl (by kernel_rfl) (by first | exact po_move rfl | fail) ?_
    all_goals refine da_takeC 1 rfl rfl (by kernel_rfl) (by first | exact po_not rfl | fail) ?_
    all_goals refine da_takeC 2 rfl rfl (by kernel_rfl) (by first | exact po_move rfl | fail) ?_
    all_goals (first | refine da_onC 3 rfl rfl rfl rfl rfl (by kernel_rfl) (by first | exact pc_loadnL rfl inferInstance (at_has (cs := [_]) (.inl rfl) rfl rfl) inferInstance | fail) ?_ | refine da_offC 3 rfl rfl rfl rfl rfl rfl (by kernel_rfl) ?_ | refine da_offU 3 rfl rfl rfl rfl rfl (by kernel_rfl) ?_ | ((first | refine da_caseP (t := 55) rfl (fun _ => ?_) (fun _ => ?_) | refine da_caseNP (t := 55) rfl (fun _ => ?_) (fun _ => ?_) | refine da_caseEq (t := 55) rfl (fun _ => ?_) (fun _ => ?_) | refine da_caseNe (t := 55) rfl (fun _ => ?_) (fun _ => ?_) | refine da_caseNB (t := 55) rfl (fun _ => ?_) (fun _ => ?_) | refine da_case (t := 55) rfl (fun _ => ?_) (fun _ => ?_)) <;> (first | refine da_onC 3 rfl rfl rfl rfl rfl (by kernel_rfl) (by first | exact pc_loadnL rfl inferInstance (at_has (cs := [_]) (.inl rfl) rfl rfl) inferInstance | fail) ?_ | refine da_offC 3 rfl rfl rfl rfl rfl rfl (by kernel_rfl) ?_ | refine da_offU 3 rfl rfl rfl rfl rfl (by kernel_rfl) ?_)))
    all_goals (first | refine da_offC 4 rfl rfl rfl rfl rfl rfl (by kernel_rfl) ?_ | refine da_offU 4 rfl rfl rfl rfl rfl (by kernel_rfl) ?_ | (refine da_one 4 rfl (by kernel_rfl) (fun _ _ _ _ => ?_); (repeat' (first | (refine wc_callR rfl inferInstance rfl (prB_true hgok ▸ c_GraphOk (g := g) _ _) rfl ?_; intro _ _) | refine wc_guardT_false rfl rfl rfl ?_ | fail)); all_goals (first | refine wl_nil ⟨rfl, (by first | exact LeS.len inferInstance | exact App.len (by assumption)), ?_⟩ | trace_state)) | ((first | refine da_caseP (t := 55) rfl (fun _ => ?_) (fun _ => ?_) | refine da_caseNP (t := 55) rfl (fun _ => ?_) (fun _ => ?_) | refine da_caseEq (t := 55) rfl (fun _ => ?_) (fun _ => ?_) | refine da_caseNe (t := 55) rfl (fun _ => ?_) (fun _ => ?_) | refine da_caseNB (t := 55) rfl (fun _ => ?_) (fun _ => ?_) | refine da_case (t := 55) rfl (fun _ => ?_) (fun _ => ?_)) <;> (first | refine da_offC 4 rfl rfl rfl rfl rfl rfl (by kernel_rfl) ?_ | refine da_offU 4 rfl rfl rfl rfl rfl (by kernel_rfl) ?_ | (refine da_one 4 rfl (by kernel_rfl) (fun _ _ _ _ => ?_); (repeat' (first | (refine wc_callR rfl inferInstance rfl (prB_true hgok ▸ c_GraphOk (g := g) _ _) rfl ?_; intro _ _) | refine wc_guardT_false rfl rfl rfl ?_ | fail)); all_goals (first | refine wl_nil ⟨rfl, (by first | exact LeS.len inferInstance | exact App.len (by assumption)), ?_⟩ | trace_state)))))
    all_goals (first | refine da_onC 5 rfl rfl rfl rfl rfl (by kernel_rfl) (by first | exact po_not rfl | fail) ?_ | refine da_offC 5 rfl rfl rfl rfl rfl rfl (by kernel_rfl) ?_ | refine da_offU 5 rfl rfl rfl rfl rfl (by kernel_rfl) ?_ | ((first | refine da_caseP (t := 55) rfl (fun _ => ?_) (fun _ => ?_) | refine da_caseNP (t := 55) rfl (fun _ => ?_) (fun _ => ?_) | refine da_caseEq (t := 55) rfl (fun _ => ?_) (fun _ => ?_) | refine da_caseNe (t := 55) rfl (fun _ => ?_) (fun _ => ?_) | refine da_caseNB (t := 55) rfl (fun _ => ?_) (fun _ => ?_) | refine da_case (t := 55) rfl (fun _ => ?_) (fun _ => ?_)) <;> (first | refine da_onC 5 rfl rfl rfl rfl rfl (by kernel_rfl) (by first | exact po_not rfl | fail) ?_ | refine da_offC 5 rfl rfl rfl rfl rfl rfl (by kernel_rfl) ?_ | refine da_offU 5 rfl rfl rfl rfl rfl (by kernel_rfl) ?_)))
    all_goals refine da_takeC 6 rfl rfl (by kernel_rfl) (by first | exact po_pick rfl rfl | fail) ?_
    all_goals refine da_takeC 7 rfl rfl (by kernel_rfl) (by first | exact po_move rfl | fail) ?_
    all_goals (first | refine da_onC 8 rfl rfl rfl rfl rfl (by kernel_rfl) (by first | exact pc_loadnL rfl inferInstance (at_has (cs := [_]) (.inl rfl) rfl rfl) inferInstance | fail) ?_ | refine da_offC 8 rfl rfl rfl rfl rfl rfl (by kernel_rfl) ?_ | refine da_offU 8 rfl rfl rfl rfl rfl (by kernel_rfl) ?_ | ((first | refine da_caseP (t := 60) rfl (fun _ => ?_) (fun _ => ?_) | refine da_caseNP (t := 60) rfl (fun _ => ?_) (fun _ => ?_) | refine da_caseEq (t := 60) rfl (fun _ => ?_) (fun _ => ?_) | refine da_caseNe (t := 60) rfl (fun _ => ?_) (fun _ => ?_) | refine da_caseNB (t := 60) rfl (fun _ => ?_) (fun _ => ?_) | refine da_case (t := 60) rfl (fun _ => ?_) (fun _ => ?_)) <;> (first | refine da_onC 8 rfl rfl rfl rfl rfl (by kernel_rfl) (by first | exact pc_loadnL rfl inferInstance (at_has (cs := [_]) (.inl rfl) rfl rfl) inferInstance | fail) ?_ | refine da_offC 8 rfl rfl rfl rfl rfl rfl (by kernel_rfl) ?_ | refine da_offU 8 rfl rfl rfl rfl rfl (by kernel_rfl) ?_)))
    all_goals (first | refine da_onC 11 rfl rfl rfl rfl rfl (by kernel_rfl) (by first | exact po_fieldAddr rfl inferInstance | fail) ?_ | refine da_offC 11 rfl rfl rfl rfl rfl rfl (by kernel_rfl) ?_ | refine da_offU 11 rfl rfl rfl rfl rfl (by kernel_rfl) ?_ | ((first | refine da_caseP (t := 60) rfl (fun _ => ?_) (fun _ => ?_) | refine da_caseNP (t := 60) rfl (fun _ => ?_) (fun _ => ?_) | refine da_caseEq (t := 60) rfl (fun _ => ?_) (fun _ => ?_) | refine da_caseNe (t := 60) rfl (fun _ => ?_) (fun _ => ?_) | refine da_caseNB (t := 60) rfl (fun _ => ?_) (fun _ => ?_) | refine da_case (t := 60) rfl (fun _ => ?_) (fun _ => ?_)) <;> (first | refine da_onC 11 rfl rfl rfl rfl rfl (by kernel_rfl) (by first | exact po_fieldAddr rfl inferInstance | fail) ?_ | refine da_offC 11 rfl rfl rfl rfl rfl rfl (by kernel_rfl) ?_ | refine da_offU 11 rfl rfl rfl rfl rfl (by kernel_rfl) ?_)))
    all_goals (first | refine da_onC 12 rfl rfl rfl rfl rfl (by kernel_rfl) (by first | exact pc_load1L rfl inferInstance (at_has (.inl rfl) rfl rfl) inferInstance | fail) ?_ | refine da_offC 12 rfl rfl rfl rfl rfl rfl (by kernel_rfl) ?_ | refine da_offU 12 rfl rfl rfl rfl rfl (by kernel_rfl) ?_ | ((first | refine da_caseP (t := 60) rfl (fun _ => ?_) (fun _ => ?_) | refine da_caseNP (t := 60) rfl (fun _ => ?_) (fun _ => ?_) | refine da_caseEq (t := 60) rfl (fun _ => ?_) (fun _ => ?_) | refine da_caseNe (t := 60) rfl (fun _ => ?_) (fun _ => ?_) | refine da_caseNB (t := 60) rfl (fun _ => ?_) (fun _ => ?_) | refine da_case (t := 60) rfl (fun _ => ?_) (fun _ => ?_)) <;> (first | refine da_onC 12 rfl rfl rfl rfl rfl (by kernel_rfl) (by first | exact pc_load1L rfl inferInstance (at_has (.inl rfl) rfl rfl) inferInstance | fail) ?_ | refine da_offC 12 rfl rfl rfl rfl rfl rfl (by kernel_rfl) ?_ | refine da_offU 12 rfl rfl rfl rfl rfl (by kernel_rfl) ?_)))
    all_goals (first | refine da_onC 13 rfl rfl rfl rfl rfl (by kernel_rfl) (by first | exact pc_lenRow rfl inferInstance inferInstance | fail) ?_ | refine da_offC 13 rfl rfl rfl rfl rfl rfl (by kernel_rfl) ?_ | refine da_offU 13 rfl rfl rfl rfl rfl (by kernel_rfl) ?_ | ((first | refine da_caseP (t := 60) rfl (fun _ => ?_) (fun _ => ?_) | refine da_caseNP (t := 60) rfl (fun _ => ?_) (fun _ => ?_) | refine da_caseEq (t := 60) rfl (fun _ => ?_) (fun _ => ?_) | refine da_caseNe (t := 60) rfl (fun _ => ?_) (fun _ => ?_) | refine da_caseNB (t := 60) rfl (fun _ => ?_) (fun _ => ?_) | refine da_case (t := 60) rfl (fun _ => ?_) (fun _ => ?_)) <;> (first | refine da_onC 13 rfl rfl rfl rfl rfl (by kernel_rfl) (by first | exact pc_lenRow rfl inferInstance inferInstance | fail) ?_ | refine da_offC 13 rfl rfl rfl rfl rfl rfl (by kernel_rfl) ?_ | refine da_offU 13 rfl rfl rfl rfl rfl (by kernel_rfl) ?_)))
    all_goals (first | refine da_offC 9 rfl rfl rfl rfl rfl rfl (by kernel_rfl) ?_ | refine da_offU 9 rfl rfl rfl rfl rfl (by kernel_rfl) ?_ | (refine da_one 9 rfl (by kernel_rfl) (fun _ _ _ _ => ?_); (repeat' (first | (refine wc_callOWs rfl inferInstance rfl (hrl ▸ c_GraphReach (g := g) _ _) (by intro e; rw [e] at hwhole; simp at hwhole; omega) rfl ?_; intro _ _ _ _) | refine wc_guardT_false rfl rfl rfl ?_ | fail)); all_goals (first | refine wl_nil ⟨rfl, (by first | exact LeS.len inferInstance | exact App.len (by assumption)), ?_⟩ | trace_state)) | ((first | refine da_caseP (t := 60) rfl (fun _ => ?_) (fun _ => ?_) | refine da_caseNP (t := 60) rfl (fun _ => ?_) (fun _ => ?_) | refine da_caseEq (t := 60) rfl (fun _ => ?_) (fun _ => ?_) | refine da_caseNe (t := 60) rfl (fun _ => ?_) (fun _ => ?_) | refine da_caseNB (t := 60) rfl (fun _ => ?_) (fun _ => ?_) | refine da_case (t := 60) rfl (fun _ => ?_) (fun _ => ?_)) <;> (first | refine da_offC 9 rfl rfl rfl rfl rfl rfl (by kernel_rfl) ?_ | refine da_offU 9 rfl rfl rfl rfl rfl (by kernel_rfl) ?_ | (refine da_one 9 rfl (by kernel_rfl) (fun _ _ _ _ => ?_); (repeat' (first | (refine wc_callOWs rfl inferInstance rfl (hrl ▸ c_GraphReach (g := g) _ _) (by intro e; rw [e] at hwhole; simp at hwhole; omega) rfl ?_; intro _ _ _ _) | refine wc_guardT_false rfl rfl rfl ?_ | fail)); all_goals (first | refine wl_nil ⟨rfl, (by first | exact LeS.len inferInstance | exact App.len (by assumption)), ?_⟩ | trace_state)))))
    all_goals (first | refine da_onC 10 rfl rfl rfl rfl rfl (by kernel_rfl) (by first | exact po_len (ri := 0) rfl Un.eq | fail) ?_ | refine da_offC 10 rfl rfl rfl rfl rfl rfl (by kernel_rfl) ?_ | refine da_offU 10 rfl rfl rfl rfl rfl (by kernel_rfl) ?_ | ((first | refine da_caseP (t := 60) rfl (fun _ => ?_) (fun _ => ?_) | refine da_caseNP (t := 60) rfl (fun _ => ?_) (fun _ => ?_) | refine da_caseEq (t := 60) rfl (fun _ => ?_) (fun _ => ?_) | refine da_caseNe (t := 60) rfl (fun _ => ?_) (fun _ => ?_) | refine da_caseNB (t := 60) rfl (fun _ => ?_) (fun _ => ?_) | refine da_case (t := 60) rfl (fun _ => ?_) (fun _ => ?_)) <;> (first | refine da_onC 10 rfl rfl rfl rfl rfl (by kernel_rfl) (by first | exact po_len (ri := 0) rfl Un.eq | fail) ?_ | refine da_offC 10 rfl rfl rfl rfl rfl rfl (by kernel_rfl) ?_ | refine da_offU 10 rfl rfl rfl rfl rfl (by kernel_rfl) ?_)))
    all_goals (first | refine da_onC 14 rfl rfl rfl rfl rfl (by kernel_rfl) (by first | exact po_binOp rfl rfl rfl | fail) ?_ | refine da_offC 14 rfl rfl rfl rfl rfl rfl (by kernel_rfl) ?_ | refine da_offU 14 rfl rfl rfl rfl rfl (by kernel_rfl) ?_ | ((first | refine da_caseP (t := 60) rfl (fun _ => ?_) (fun _ => ?_) | refine da_caseNP (t := 60) rfl (fun _ => ?_) (fun _ => ?_) | refine da_caseEq (t := 60) rfl (fun _ => ?_) (fun _ => ?_) | refine da_caseNe (t := 60) rfl (fun _ => ?_) (fun _ => ?_) | refine da_caseNB (t := 60) rfl (fun _ => ?_) (fun _ => ?_) | refine da_case (t := 60) rfl (fun _ => ?_) (fun _ => ?_)) <;> (first | refine da_onC 14 rfl rfl rfl rfl rfl (by kernel_rfl) (by first | exact po_binOp rfl rfl rfl | fail) ?_ | refine da_offC 14 rfl rfl rfl rfl rfl rfl (by kernel_rfl) ?_ | refine da_offU 14 rfl rfl rfl rfl rfl (by kernel_rfl) ?_)))
    all_goals refine da_takeC 15 rfl rfl (by kernel_rfl) (by first | exact po_pick rfl rfl | fail) ?_
    all_goals refine da_done (by kernel_rfl) ?_
    rename_i _ _ _ _ σ12 g12 _ _ _ _ idz σ13 owz g13
    have l13 : LeS σ10 σ13 := inferInstance
    have l113 : LeS σ11 σ13 := inferInstance
    have rw13 : RW σ13 w ws := rw10.les l13
    have rr13 : RRs σ13 ws g := rr10.les l13
    have hi13 : Has σ13 i5 ⟨.own, 1, [w], []⟩ := ⟨l13.keep _ _ hi10.get⟩
    repeat' (first
      | refine wp_seqA ?_
      | refine wp_region_seq ?_
      | refine thru_seq_next ?_
      | refine thru_seq_ret ?_
      | refine wp_skipA ?_
      | refine wp_retA ?_
      | refine wp_blockA ?_
      | refine wl_nil ?_
      | refine wl_pop rfl (po_assign rfl) ?_
      | refine wp_condNP rfl (fun _ => ?_) (fun _ => ?_)
      | refine at_ret (res1 rfl rfl) ?_
      | fail)
    · exact absurd hwz (by assumption)
    have lY : LeS σ10 σ11 := inferInstance
    have ryw : RW σ13 y ys := yw.rw.les l113
    have hyl := ysr.len
    have hrow : RW σ13 (ws.getD (Int.toNat 0) nilS) (g.getD 0 []) := rr13.row 0
    have hrb := hrow.bound
    have hrone := hrow.one
    have hpw : 0 < ws.length := by omega
    have e0 : Int.toNat 0 < ws.length := hpw
    have ysrl : ys.length = (t.steps ds).length := hyl
    have hysA : ∀ i, i < (t.steps ds).length → (ys.getD i Enc.dflt).act = ((t.steps ds).getD i (0, nilT)).1 := fun i hi => (ysr'.at hi).1
    refine wc_loop [(5, _), (9, _)] (fun a : Int => [(11, I a)]) (fun a σ' => -4 ≤ a ∧ a ≤ 5 ∧ LeS σ13 σ') (fun a => (5 - a).toNat) (-4) ⟨by decide, by decide, inferInstance⟩ (by repeat' (first | exact sub_nil | refine sub_cons rfl ?_ | refine sub_int rfl (by first | rfl | omega | (push_cast; omega) | simp) ?_ | refine sub_eq rfl (by assumption) ?_)) ?_
    rintro a σ' ⟨ha1, ha2, hg⟩
    have := hg.grow
    repeat' (first
      | refine wp_seqA ?_
      | refine wp_region_seq ?_
      | refine thru_seq_next ?_
      | refine thru_seq ?_
      | refine exit_here ?_
      | refine wp_skipA ?_
      | refine wp_retA ?_
      | refine wp_exitA ?_
      | refine wp_blockA ?_
      | refine wl_nil ?_
      | refine wl_pop rfl (po_move rfl) ?_
      | refine wl_pop rfl (po_assign rfl) ?_
      | refine wl_pop rfl (po_binOp rfl rfl rfl) ?_
      | refine wp_condP rfl (fun _ => ?_) (fun _ => ?_)
      | refine at_ret (res1 rfl rfl) ?_
      | exact ret_ inferInstance rfl
      | fail)
    · refine wc_loop [(5, _), (9, _), (11, _), (13, _)] (fun i : Nat => [(12, Bo (((g.getD 0 []).take i).any fun m => m.1 == a)), (14, I i)]) (fun i σ'' => i ≤ (g.getD 0 []).length ∧ LeS σ13 σ'') (fun i => (g.getD 0 []).length - i) 0 ⟨Nat.zero_le _, hg⟩ (by repeat' (first | exact sub_nil | refine sub_cons rfl ?_ | refine sub_int rfl (by first | rfl | omega | (push_cast; omega) | simp) ?_ | refine sub_eq rfl (by assumption) ?_)) ?_
      rintro i σ'' ⟨hi, hg2⟩
      have := hg2.grow
      have hi'' : Has σ'' i5 ⟨.own, 1, [w], []⟩ := ⟨hg2.keep _ _ hi13.get⟩
      repeat' (first
        | refine wc_load1 rfl inferInstance (at_has (h := hi'') (.inl rfl) rfl rfl) rfl ?_
        | refine wl_pop rfl (pc_ldAV rfl inferInstance inferInstance (by omega) inferInstance) ?_
        | refine wl_pop rfl (pc_ldMv1 rfl inferInstance inferInstance (by omega) inferInstance) ?_
        | refine wl_pop rfl (pc_indexRow rfl rfl inferInstance inferInstance inferInstance (by omega)) ?_
        | refine wl_pop rfl (pc_lenRow rfl inferInstance inferInstance) ?_
        | refine wp_seqA ?_
        | refine wp_region_seq ?_
        | refine thru_seq_next ?_
        | refine thru_seq ?_
        | refine thru_block_next ?_
        | refine exit_here ?_
        | refine wp_skipA ?_
        | refine wp_exitA ?_
        | refine wp_blockA ?_
        | refine wl_nil ?_
        | refine wl_pop rfl (po_move rfl) ?_
        | refine wl_pop rfl (po_assign rfl) ?_
        | refine wl_pop rfl (pc_add rfl rfl (by omega) (by omega)) ?_
        | refine wl_pop rfl (po_binOp rfl rfl rfl) ?_
        | refine wl_pop rfl (po_fieldAddr rfl inferInstance) ?_
        | refine wl_pop rfl (po_pick rfl rfl) ?_
        | refine wc_guardT_false rfl rfl rfl ?_
        | refine wc_guardF_false rfl rfl rfl rfl ?_
        | refine wc_guard rfl rfl rfl rfl (fun _ => ?_) (fun _ => ?_)
        | refine wp_condP rfl (fun _ => ?_) (fun _ => ?_)
        | fail)
      · rename_i hlt hfl
        have hlt' : i < (g.getD 0 []).length := Int.ofNat_lt.mp hlt
        have e : (AV.lit (.bool (((g.getD 0 []).getD i (0, 0)).1 == a)) : AV) = Bo (((g.getD 0 []).take (i + 1)).any fun m => m.1 == a) := by
          rw [any_succ (d := ((0, 0) : Mv)) hlt', hfl, Bool.false_or]
        exact ⟨i + 1, Nat.sub_lt_sub_left hlt' (Nat.lt_succ_self i), ⟨hlt', hg2⟩, sub_eq rfl e (sub_int rfl (by push_cast; omega) (by repeat' (first | exact sub_nil | refine sub_cons rfl ?_ | refine sub_int rfl (by first | rfl | omega | (push_cast; omega) | simp) ?_ | refine sub_eq rfl (by assumption) ?_)))⟩
      · rename_i hlt hfl
        have hlt' : i < (g.getD 0 []).length := Int.ofNat_lt.mp hlt
        have hfl' : ((g.getD 0 []).take i).any (fun m => m.1 == a) = true := hfl
        have e : (AV.lit (.bool true) : AV) = Bo (((g.getD 0 []).take (i + 1)).any fun m => m.1 == a) := by
          rw [any_succ (d := ((0, 0) : Mv)) hlt', hfl', Bool.true_or]
        exact ⟨i + 1, Nat.sub_lt_sub_left hlt' (Nat.lt_succ_self i), ⟨hlt', hg2⟩, sub_eq rfl e (sub_int rfl (by push_cast; omega) (by repeat' (first | exact sub_nil | refine sub_cons rfl ?_ | refine sub_int rfl (by first | rfl | omega | (push_cast; omega) | simp) ?_ | refine sub_eq rfl (by assumption) ?_)))⟩
      rename_i hge
      have hil : i = (g.getD 0 []).length := Nat.le_antisymm hi (Int.ofNat_le.mp (Int.not_lt.mp hge))
      refine wc_loop [(5, _), (9, _), (11, _), (12, _)] (fun j : Nat => [(13, Bo (((t.steps ds).take j).any fun m => m.1 == a)), (15, I j)]) (fun j σ3 => j ≤ (t.steps ds).length ∧ LeS σ13 σ3) (fun j => (t.steps ds).length - j) 0 ⟨Nat.zero_le _, hg2⟩ (by repeat' (first | exact sub_nil | refine sub_cons rfl ?_ | refine sub_int rfl (by first | rfl | omega | (push_cast; omega) | simp) ?_ | refine sub_eq rfl (by assumption) ?_)) ?_
      clear hi'' hg2 this
      rintro j σ3 ⟨hj, hg3⟩
      have := hg3.grow
      have ry3 : RW σ3 y ys := ryw.les hg3
      repeat' (first
        | refine wl_pop rfl (pc_lenRow rfl ry3 inferInstance) ?_
        | refine wl_pop rfl (pc_indexRow rfl rfl inferInstance inferInstance ry3 (Int.ofNat_lt.mp (by assumption))) ?_
        | refine wl_pop rfl (pc_ldStA rfl inferInstance ry3 (Int.ofNat_lt.mp (by assumption)) inferInstance) ?_
        | refine wc_holdR 25 ?_
        | refine wp_seqA ?_
        | refine wp_region_seq ?_
        | refine thru_seq_next ?_
        | refine thru_seq ?_
        | refine thru_block_next ?_
        | refine exit_here ?_
        | refine wp_skipA ?_
        | refine wp_exitA ?_
        | refine wp_blockA ?_
        | refine wl_nil ?_
        | refine wl_pop rfl (po_move rfl) ?_
        | refine wl_pop rfl (po_assign rfl) ?_
        | refine wl_pop rfl (pc_add rfl rfl (by omega) (by omega)) ?_
        | refine wl_pop rfl (po_binOp rfl rfl rfl) ?_
        | refine wl_pop rfl (po_fieldAddr rfl inferInstance) ?_
        | refine wl_pop rfl (po_pick rfl rfl) ?_
        | refine wc_guardT_false rfl rfl rfl ?_
        | refine wc_guardF_false rfl rfl rfl rfl ?_
        | refine wc_guard rfl rfl rfl rfl (fun _ => ?_) (fun _ => ?_)
        | refine wp_condP rfl (fun _ => ?_) (fun _ => ?_)
        | fail)
      · rename_i hlt hfl
        have hjl : j < (t.steps ds).length := by rw [← ysrl]; exact Int.ofNat_lt.mp hlt
        have e : (AV.lit (.bool ((ys.getD j Enc.dflt).act == a)) : AV) = Bo (((t.steps ds).take (j + 1)).any fun m => m.1 == a) := by
          rw [any_succ (d := ((0, nilT) : Stp)) hjl, hfl, Bool.false_or, hysA j hjl]
        exact ⟨j + 1, Nat.sub_lt_sub_left hjl (Nat.lt_succ_self j), ⟨hjl, hg3⟩, sub_eq rfl e (sub_int rfl (by push_cast; omega) (by repeat' (first | exact sub_nil | refine sub_cons rfl ?_ | refine sub_int rfl (by first | rfl | omega | (push_cast; omega) | simp) ?_ | refine sub_eq rfl (by assumption) ?_)))⟩
      · rename_i hlt hfl
        have hjl : j < (t.steps ds).length := by rw [← ysrl]; exact Int.ofNat_lt.mp hlt
        have hfl' : ((t.steps ds).take j).any (fun m => m.1 == a) = true := hfl
        have e : (AV.lit (.bool true) : AV) = Bo (((t.steps ds).take (j + 1)).any fun m => m.1 == a) := by
          rw [any_succ (d := ((0, nilT) : Stp)) hjl, hfl', Bool.true_or]
        exact ⟨j + 1, Nat.sub_lt_sub_left hjl (Nat.lt_succ_self j), ⟨hjl, hg3⟩, sub_eq rfl e (sub_int rfl (by push_cast; omega) (by repeat' (first | exact sub_nil | refine sub_cons rfl ?_ | refine sub_int rfl (by first | rfl | omega | (push_cast; omega) | simp) ?_ | refine sub_eq rfl (by assumption) ?_)))⟩
      rename_i hge2
      have hjl : j = (t.steps ds).length := Nat.le_antisymm hj (by rw [← ysrl]; exact Int.ofNat_le.mp (Int.not_lt.mp hge2))
      have eA : (((g.getD 0 []).take i).any fun m => m.1 == a) = (((t.steps ds).take j).any fun m => m.1 == a) := by
        rw [hil, hjl, List.take_length, List.take_length, Bool.eq_iff_iff]
        simp only [List.any_eq_true, beq_iff_eq]
        exact hacts a
      rw [eA]
      refine hold_go ?_
      repeat' (first
        | refine wp_region_seq ?_
        | refine thru_seq_next ?_
        | refine thru_block_next ?_
        | refine wp_skipA ?_
        | refine wl_nil ?_
        | refine wl_pop rfl (po_move rfl) ?_
        | refine wl_pop rfl (po_assign rfl) ?_
        | refine wl_pop rfl (pc_add rfl rfl (by omega) (by omega)) ?_
        | refine wl_pop rfl (pc_boolNeSelf rfl rfl inferInstance) ?_
        | refine wp_condF rfl ?_
        | fail)
      exact ⟨a + 1, by omega, ⟨by omega, by omega, hg3⟩, (by repeat' (first | exact sub_nil | refine sub_cons rfl ?_ | refine sub_int rfl (by first | rfl | omega | (push_cast; omega) | simp) ?_ | refine sub_eq rfl (by assumption) ?_))⟩


end
end Go.Proofs.YthbodgnoadlbcaaGreatDoor.Asl
