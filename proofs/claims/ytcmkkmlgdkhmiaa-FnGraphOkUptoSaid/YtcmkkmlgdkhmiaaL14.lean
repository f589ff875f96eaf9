/- The drawn law FnGraphOk. -/
import Derived.Test.YtcmkkmlgdkhmiaaM3
import Derived.Test.YtcmkkmlgdkhmiaaG24
import Derived.Test.YtcmkkmlgdkhmiaaG20
namespace Go.Proofs.Ytcmkkmlgdkhmiaa.Asl
open Go.RowKit Go.Proofs.YtcmkkmlgdkhmiaaW.PrintLast
set_option linter.unusedVariables false
set_option linter.unusedSimpArgs false
attribute [local irreducible] WP WL andThen inBlock noGoto atEnd ACall DA DL PO Hold
set_option maxHeartbeats 4000000
set_option synthInstance.maxHeartbeats 400000
set_option synthInstance.maxSize 10000
theorem lim_ofP {g : Gr} (h : ∀ l ∈ g, l.length ≤ 331776) : ∀ k, (g.getD k []).length < 4294967296 := fun k => Nat.lt_of_le_of_lt (getD_all (p := fun (l : List Mv) => l.length ≤ 331776) h (by simp) k) (by decide)
theorem part_bnd {g : Gr} {s : Nat} (h : ∀ l ∈ g, l.length ≤ 331776) : ∀ l ∈ partL g s, l.length ≤ 331776 := by
  intro l hl
  simp only [partL, List.mem_map] at hl
  obtain ⟨k, _, rfl⟩ := hl
  have h1 := tidyL_lenK ((rowOf g k).map fun m => ((m.1, (((fromL g s).idxOf m.2.toNat : Nat) : Int)) : Mv))
  rw [List.length_map] at h1
  have h2 : (rowOf g k).length ≤ 331776 := getD_all (p := fun (l : List Mv) => l.length ≤ 331776) h (by simp) k
  omega
section
variable {base : Nat}
theorem c_FnGraphOk (b : AV) (gb : List UInt8) (σ : Store) [hs : RW σ b gb] : ACall Try.prog base F_laws_FnGraphOk [b] σ (fun _ => False) (Ret σ (Bo true)) := by
  have := hs.one
  refine acall1 fun_laws_FnGraphOk rfl tmps_laws_FnGraphOk rfl fun N B w₀ ρ₀ => ?_
  repeat' (first
    | refine wl_pop rfl (pc_lenRow rfl hs inferInstance) ?_
    | (refine wc_callG1 rfl inferInstance rfl (c_DrawGraphOk b gb _ (by omega)) rfl ?_; intro _ _ _ _ _ _ _ _)
    | refine wc_holdR 4 ?_
    | refine wp_seqA ?_
    | refine wp_region_seq ?_
    | refine thru_seq_next ?_
    | refine thru_seq_ret ?_
    | refine wp_skipA ?_
    | refine wp_retA ?_
    | refine wl_nil ?_
    | refine wl_pop rfl (po_move rfl) ?_
    | refine wl_pop rfl (po_assign rfl) ?_
    | refine wl_pop rfl (po_binOp rfl rfl rfl) ?_
    | (refine wc_storeA rfl rfl inferInstance inferInstance rfl inferInstance (Nat.le_of_ble_eq_true rfl) (.inr (may_new _)) ?_; intro _ _)
    | (refine wc_allocA (cs := [_]) inferInstance rfl inferInstance rfl ?_; intro _ _ _ _ _)
    | refine wp_condP rfl (fun _ => ?_) (fun _ => ?_)
    | refine at_ret (res1 rfl rfl) ?_
    | exact ret_ inferInstance rfl
    | fail)
  rename_i hlen u us g σ1 ou ng hgb g1 i2 σ2 g2 n2 h2 σ3 u3
  refine hold_go ?_
  have l3 : LeS σ σ3 := inferInstance
  have h3 : Has σ3 i2 ⟨.own, 1, [u], []⟩ := instHasUpd (g := u3)
  have ng3 : NG σ σ3 u us g := ng.keep fun x o hx ho => by
    have := Has.lt ⟨ho⟩
    have := n2.le
    rw [u3.eq, List.getElem?_set_ne (by omega)]; exact g2.keep x o ho
  have rw3 : RW σ3 u us := inferInstance
  have rr3 : RRs σ3 us g := ng3.rrs
  have hlim := lim_ofP hgb
  have hpl := lim_ofP (part_bnd (s := (0 : Int).toNat) hgb)
  clear ng ng3 u3 n2
  by_cases hok : GOk g
  · have hpos := hok.pos
    have e := optB_pos (p := GOk g ∧ (0 : Int) ≤ 0 ∧ (0 : Int) < g.length) (x := partL g (0 : Int).toNat) ⟨hok, by omega, by omega⟩
    have eR : (optB (GOk g) (reachL g)).getD [] = reachL g := by rw [optB_pos hok]; rfl
    have hpn : (partL g (0 : Int).toNat).length = (reachL g).length := by rw [part_len, reach_len hok]; rfl
    have hfi : g.length + (partL g (0 : Int).toNat).length ≤ 60 → (lastC (bothL g (partL g (0 : Int).toNat))).getD g.length 0 = 0 := fun q => by
      rw [← part_law hok (s := (0 : Int).toNat) hpos q]; exact last_zero _
    repeat' (first
      | (refine wc_callR rfl inferInstance rfl (prB_true hok ▸ c_GraphOk _ _) rfl ?_; intro _ _)
      | (refine wc_callR rfl inferInstance rfl (prB_true hok ▸ c_sGraphOk _ _) rfl ?_; intro _ _)
      | (refine wc_callGO rfl inferInstance rfl (e ▸ c_GraphPart _ _ 0 hlim) rfl ?_; intro _ _ _ _ _ _ _)
      | refine wc_loadn rfl inferInstance (at_has (cs := [_]) (.inl rfl) rfl rfl) rfl ?_
      | refine wp_seqA ?_
      | refine wp_region_seq ?_
      | refine thru_seq_next ?_
      | refine wp_skipA ?_
      | refine wl_nil ?_
      | refine wl_pop rfl (po_move rfl) ?_
      | refine wl_pop rfl (po_assign rfl) ?_
      | refine wl_pop rfl (pc_boolNeSelf rfl rfl inferInstance) ?_
      | refine wl_pop rfl (po_not rfl) ?_
      | (refine wc_storeA rfl rfl inferInstance inferInstance rfl inferInstance (Nat.le_of_ble_eq_true rfl) (.inr (may_new _)) ?_; intro _ _)
      | refine wl_pop rfl (po_extract rfl rfl) ?_
      | (refine wc_allocA (cs := [_]) inferInstance rfl inferInstance rfl ?_; intro _ _ _ _ _)
      | refine wp_condF rfl ?_
      | fail)
    rename_i σ4 g4 σ5 g5 v vs σ6 ov owv orv g6 i7 σ7 g7 n7 h7 σ8 u8
    have l38 : LeS σ3 σ8 := inferInstance
    have rv6 : RRs σ6 vs (partL g (0 : Int).toNat) := orv.rrs
    have rv8 : RRs σ8 vs (partL g (0 : Int).toNat) := inferInstance
    have rwv8 : RW σ8 v vs := inferInstance
    have rg8 : RRs σ8 us g := inferInstance
    have rw8 : RW σ8 u us := inferInstance
    have h8 : Has σ8 i7 ⟨.own, 1, [v], []⟩ := instHasUpd (g := u8)
    have h28 : Has σ8 i2 ⟨.own, 1, [u], []⟩ := inferInstance
    have l08 : LeS σ σ8 := inferInstance
    have hvl := rv8.len
    have hvl2 : (vs.length : Int) = ((reachL g).length : Int) := by omega
    refine wc_drawn [] mixed_ rfl ?_
    all_goals (first | refine da_takeC 0 rfl rfl (by kernel_rfl) (by first | exact po_move rfl | fail) ?_ | (refine da_one 0 rfl (by kernel_rfl) (fun _ _ _ _ => ?_); (repeat' (first | fail)); all_goals (first | refine wl_nil ⟨rfl, (by first | exact LeS.len inferInstance | exact App.len (by assumption)), ?_⟩ | fail)))
    all_goals (first | refine da_takeC 1 rfl rfl (by kernel_rfl) (by first | exact po_move rfl | fail) ?_ | (refine da_one 1 rfl (by kernel_rfl) (fun _ _ _ _ => ?_); (repeat' (first | fail)); all_goals (first | refine wl_nil ⟨rfl, (by first | exact LeS.len inferInstance | exact App.len (by assumption)), ?_⟩ | fail)))
    all_goals (first | refine da_onC 2 rfl rfl rfl rfl rfl (by kernel_rfl) (by first | exact po_fieldAddr rfl inferInstance | fail) ?_ | refine da_offC 2 rfl rfl rfl rfl rfl rfl (by kernel_rfl) ?_ | refine da_offU 2 rfl rfl rfl rfl rfl (by kernel_rfl) ?_ | ((first | refine da_caseP (t := 28) rfl (fun _ => ?_) (fun _ => ?_) | refine da_caseNP (t := 28) rfl (fun _ => ?_) (fun _ => ?_) | refine da_caseEq (t := 28) rfl (fun _ => ?_) (fun _ => ?_) | refine da_caseNe (t := 28) rfl (fun _ => ?_) (fun _ => ?_) | refine da_caseNB (t := 28) rfl (fun _ => ?_) (fun _ => ?_) | refine da_case (t := 28) rfl (fun _ => ?_) (fun _ => ?_)) <;> (first | refine da_onC 2 rfl rfl rfl rfl rfl (by kernel_rfl) (by first | exact po_fieldAddr rfl inferInstance | fail) ?_ | refine da_offC 2 rfl rfl rfl rfl rfl rfl (by kernel_rfl) ?_ | refine da_offU 2 rfl rfl rfl rfl rfl (by kernel_rfl) ?_)) | (refine da_one 2 rfl (by kernel_rfl) (fun _ _ _ _ => ?_); (repeat' (first | fail)); all_goals (first | refine wl_nil ⟨rfl, (by first | exact LeS.len inferInstance | exact App.len (by assumption)), ?_⟩ | fail)))
    all_goals (first | refine da_onC 3 rfl rfl rfl rfl rfl (by kernel_rfl) (by first | exact pc_load1L rfl inferInstance (at_has (.inl rfl) rfl rfl) inferInstance | fail) ?_ | refine da_offC 3 rfl rfl rfl rfl rfl rfl (by kernel_rfl) ?_ | refine da_offU 3 rfl rfl rfl rfl rfl (by kernel_rfl) ?_ | ((first | refine da_caseP (t := 28) rfl (fun _ => ?_) (fun _ => ?_) | refine da_caseNP (t := 28) rfl (fun _ => ?_) (fun _ => ?_) | refine da_caseEq (t := 28) rfl (fun _ => ?_) (fun _ => ?_) | refine da_caseNe (t := 28) rfl (fun _ => ?_) (fun _ => ?_) | refine da_caseNB (t := 28) rfl (fun _ => ?_) (fun _ => ?_) | refine da_case (t := 28) rfl (fun _ => ?_) (fun _ => ?_)) <;> (first | refine da_onC 3 rfl rfl rfl rfl rfl (by kernel_rfl) (by first | exact pc_load1L rfl inferInstance (at_has (.inl rfl) rfl rfl) inferInstance | fail) ?_ | refine da_offC 3 rfl rfl rfl rfl rfl rfl (by kernel_rfl) ?_ | refine da_offU 3 rfl rfl rfl rfl rfl (by kernel_rfl) ?_)) | (refine da_one 3 rfl (by kernel_rfl) (fun _ _ _ _ => ?_); (repeat' (first | fail)); all_goals (first | refine wl_nil ⟨rfl, (by first | exact LeS.len inferInstance | exact App.len (by assumption)), ?_⟩ | fail)))
    all_goals (first | refine da_onC 4 rfl rfl rfl rfl rfl (by kernel_rfl) (by first | exact pc_lenRow rfl inferInstance inferInstance | fail) ?_ | refine da_offC 4 rfl rfl rfl rfl rfl rfl (by kernel_rfl) ?_ | refine da_offU 4 rfl rfl rfl rfl rfl (by kernel_rfl) ?_ | ((first | refine da_caseP (t := 28) rfl (fun _ => ?_) (fun _ => ?_) | refine da_caseNP (t := 28) rfl (fun _ => ?_) (fun _ => ?_) | refine da_caseEq (t := 28) rfl (fun _ => ?_) (fun _ => ?_) | refine da_caseNe (t := 28) rfl (fun _ => ?_) (fun _ => ?_) | refine da_caseNB (t := 28) rfl (fun _ => ?_) (fun _ => ?_) | refine da_case (t := 28) rfl (fun _ => ?_) (fun _ => ?_)) <;> (first | refine da_onC 4 rfl rfl rfl rfl rfl (by kernel_rfl) (by first | exact pc_lenRow rfl inferInstance inferInstance | fail) ?_ | refine da_offC 4 rfl rfl rfl rfl rfl rfl (by kernel_rfl) ?_ | refine da_offU 4 rfl rfl rfl rfl rfl (by kernel_rfl) ?_)) | (refine da_one 4 rfl (by kernel_rfl) (fun _ _ _ _ => ?_); (repeat' (first | fail)); all_goals (first | refine wl_nil ⟨rfl, (by first | exact LeS.len inferInstance | exact App.len (by assumption)), ?_⟩ | fail)))
    all_goals (first | refine da_onC 5 rfl rfl rfl rfl rfl (by kernel_rfl) (by first | exact pc_loadnL rfl inferInstance (at_has (cs := [_]) (.inl rfl) rfl rfl) inferInstance | fail) ?_ | refine da_offC 5 rfl rfl rfl rfl rfl rfl (by kernel_rfl) ?_ | refine da_offU 5 rfl rfl rfl rfl rfl (by kernel_rfl) ?_ | ((first | refine da_caseP (t := 28) rfl (fun _ => ?_) (fun _ => ?_) | refine da_caseNP (t := 28) rfl (fun _ => ?_) (fun _ => ?_) | refine da_caseEq (t := 28) rfl (fun _ => ?_) (fun _ => ?_) | refine da_caseNe (t := 28) rfl (fun _ => ?_) (fun _ => ?_) | refine da_caseNB (t := 28) rfl (fun _ => ?_) (fun _ => ?_) | refine da_case (t := 28) rfl (fun _ => ?_) (fun _ => ?_)) <;> (first | refine da_onC 5 rfl rfl rfl rfl rfl (by kernel_rfl) (by first | exact pc_loadnL rfl inferInstance (at_has (cs := [_]) (.inl rfl) rfl rfl) inferInstance | fail) ?_ | refine da_offC 5 rfl rfl rfl rfl rfl rfl (by kernel_rfl) ?_ | refine da_offU 5 rfl rfl rfl rfl rfl (by kernel_rfl) ?_)) | (refine da_one 5 rfl (by kernel_rfl) (fun _ _ _ _ => ?_); (repeat' (first | fail)); all_goals (first | refine wl_nil ⟨rfl, (by first | exact LeS.len inferInstance | exact App.len (by assumption)), ?_⟩ | fail)))
    all_goals (first | refine da_offC 6 rfl rfl rfl rfl rfl rfl (by kernel_rfl) ?_ | refine da_offU 6 rfl rfl rfl rfl rfl (by kernel_rfl) ?_ | (refine da_one 6 rfl (by kernel_rfl) (fun _ _ _ _ => ?_); (repeat' (first | (refine wc_callOW rfl inferInstance rfl (eR ▸ c_GraphReach _ _) rfl ?_; intro _ _ _ _ _) | refine wc_guardT_true rfl rfl rfl ?_ | fail)); all_goals (first | refine wl_nil ⟨rfl, (by first | exact LeS.len inferInstance | exact App.len (by assumption)), ?_⟩ | trace_state)) | ((first | refine da_caseP (t := 28) rfl (fun _ => ?_) (fun _ => ?_) | refine da_caseNP (t := 28) rfl (fun _ => ?_) (fun _ => ?_) | refine da_caseEq (t := 28) rfl (fun _ => ?_) (fun _ => ?_) | refine da_caseNe (t := 28) rfl (fun _ => ?_) (fun _ => ?_) | refine da_caseNB (t := 28) rfl (fun _ => ?_) (fun _ => ?_) | refine da_case (t := 28) rfl (fun _ => ?_) (fun _ => ?_)) <;> (first | refine da_offC 6 rfl rfl rfl rfl rfl rfl (by kernel_rfl) ?_ | refine da_offU 6 rfl rfl rfl rfl rfl (by kernel_rfl) ?_ | (refine da_one 6 rfl (by kernel_rfl) (fun _ _ _ _ => ?_); (repeat' (first | (refine wc_callOW rfl inferInstance rfl (eR ▸ c_GraphReach _ _) rfl ?_; intro _ _ _ _ _) | refine wc_guardT_true rfl rfl rfl ?_ | fail)); all_goals (first | refine wl_nil ⟨rfl, (by first | exact LeS.len inferInstance | exact App.len (by assumption)), ?_⟩ | trace_state)))))
    all_goals (first | refine da_onC 7 rfl rfl rfl rfl rfl (by kernel_rfl) (by first | fail) ?_ | refine da_offC 7 rfl rfl rfl rfl rfl rfl (by kernel_rfl) ?_ | refine da_offU 7 rfl rfl rfl rfl rfl (by kernel_rfl) ?_ | ((first | refine da_caseP (t := 28) rfl (fun _ => ?_) (fun _ => ?_) | refine da_caseNP (t := 28) rfl (fun _ => ?_) (fun _ => ?_) | refine da_caseEq (t := 28) rfl (fun _ => ?_) (fun _ => ?_) | refine da_caseNe (t := 28) rfl (fun _ => ?_) (fun _ => ?_) | refine da_caseNB (t := 28) rfl (fun _ => ?_) (fun _ => ?_) | refine da_case (t := 28) rfl (fun _ => ?_) (fun _ => ?_)) <;> (first | refine da_onC 7 rfl rfl rfl rfl rfl (by kernel_rfl) (by first | fail) ?_ | refine da_offC 7 rfl rfl rfl rfl rfl rfl (by kernel_rfl) ?_ | refine da_offU 7 rfl rfl rfl rfl rfl (by kernel_rfl) ?_)) | (refine da_one 7 rfl (by kernel_rfl) (fun _ _ _ _ => ?_); (repeat' (first | refine wc_guardT_true rfl rfl rfl ?_ | refine wl_pop rfl (pc_lenRow rfl inferInstance inferInstance) ?_ | fail)); all_goals (first | refine wl_nil ⟨rfl, (by first | exact LeS.len inferInstance | exact App.len (by assumption)), ?_⟩ | fail)))
    all_goals (first | refine da_onC 8 rfl rfl rfl rfl rfl (by kernel_rfl) (by first | exact po_binOp rfl rfl rfl | fail) ?_ | refine da_offC 8 rfl rfl rfl rfl rfl rfl (by kernel_rfl) ?_ | refine da_offU 8 rfl rfl rfl rfl rfl (by kernel_rfl) ?_ | ((first | refine da_caseP (t := 28) rfl (fun _ => ?_) (fun _ => ?_) | refine da_caseNP (t := 28) rfl (fun _ => ?_) (fun _ => ?_) | refine da_caseEq (t := 28) rfl (fun _ => ?_) (fun _ => ?_) | refine da_caseNe (t := 28) rfl (fun _ => ?_) (fun _ => ?_) | refine da_caseNB (t := 28) rfl (fun _ => ?_) (fun _ => ?_) | refine da_case (t := 28) rfl (fun _ => ?_) (fun _ => ?_)) <;> (first | refine da_onC 8 rfl rfl rfl rfl rfl (by kernel_rfl) (by first | exact po_binOp rfl rfl rfl | fail) ?_ | refine da_offC 8 rfl rfl rfl rfl rfl rfl (by kernel_rfl) ?_ | refine da_offU 8 rfl rfl rfl rfl rfl (by kernel_rfl) ?_)) | (refine da_one 8 rfl (by kernel_rfl) (fun _ _ _ _ => ?_); (repeat' (first | fail)); all_goals (first | refine wl_nil ⟨rfl, (by first | exact LeS.len inferInstance | exact App.len (by assumption)), ?_⟩ | fail)))
    all_goals (first | refine da_takeC 9 rfl rfl (by kernel_rfl) (by first | exact po_pick rfl rfl | fail) ?_ | (refine da_one 9 rfl (by kernel_rfl) (fun _ _ _ _ => ?_); (repeat' (first | fail)); all_goals (first | refine wl_nil ⟨rfl, (by first | exact LeS.len inferInstance | exact App.len (by assumption)), ?_⟩ | fail)))
    all_goals (first | refine da_takeC 10 rfl rfl (by kernel_rfl) (by first | exact po_move rfl | fail) ?_ | (refine da_one 10 rfl (by kernel_rfl) (fun _ _ _ _ => ?_); (repeat' (first | fail)); all_goals (first | refine wl_nil ⟨rfl, (by first | exact LeS.len inferInstance | exact App.len (by assumption)), ?_⟩ | fail)))
    all_goals (first | refine da_onC 11 rfl rfl rfl rfl rfl (by kernel_rfl) (by first | exact pc_loadnL rfl inferInstance (at_has (cs := [_]) (.inl rfl) rfl rfl) inferInstance | fail) ?_ | refine da_offC 11 rfl rfl rfl rfl rfl rfl (by kernel_rfl) ?_ | refine da_offU 11 rfl rfl rfl rfl rfl (by kernel_rfl) ?_ | ((first | refine da_caseP (t := 37) rfl (fun _ => ?_) (fun _ => ?_) | refine da_caseNP (t := 37) rfl (fun _ => ?_) (fun _ => ?_) | refine da_caseEq (t := 37) rfl (fun _ => ?_) (fun _ => ?_) | refine da_caseNe (t := 37) rfl (fun _ => ?_) (fun _ => ?_) | refine da_caseNB (t := 37) rfl (fun _ => ?_) (fun _ => ?_) | refine da_case (t := 37) rfl (fun _ => ?_) (fun _ => ?_)) <;> (first | refine da_onC 11 rfl rfl rfl rfl rfl (by kernel_rfl) (by first | exact pc_loadnL rfl inferInstance (at_has (cs := [_]) (.inl rfl) rfl rfl) inferInstance | fail) ?_ | refine da_offC 11 rfl rfl rfl rfl rfl rfl (by kernel_rfl) ?_ | refine da_offU 11 rfl rfl rfl rfl rfl (by kernel_rfl) ?_)) | (refine da_one 11 rfl (by kernel_rfl) (fun _ _ _ _ => ?_); (repeat' (first | fail)); all_goals (first | refine wl_nil ⟨rfl, (by first | exact LeS.len inferInstance | exact App.len (by assumption)), ?_⟩ | fail)))
    all_goals (first | refine da_onC 12 rfl rfl rfl rfl rfl (by kernel_rfl) (by first | exact pc_loadnL rfl inferInstance (at_has (cs := [_]) (.inl rfl) rfl rfl) inferInstance | fail) ?_ | refine da_offC 12 rfl rfl rfl rfl rfl rfl (by kernel_rfl) ?_ | refine da_offU 12 rfl rfl rfl rfl rfl (by kernel_rfl) ?_ | ((first | refine da_caseP (t := 37) rfl (fun _ => ?_) (fun _ => ?_) | refine da_caseNP (t := 37) rfl (fun _ => ?_) (fun _ => ?_) | refine da_caseEq (t := 37) rfl (fun _ => ?_) (fun _ => ?_) | refine da_caseNe (t := 37) rfl (fun _ => ?_) (fun _ => ?_) | refine da_caseNB (t := 37) rfl (fun _ => ?_) (fun _ => ?_) | refine da_case (t := 37) rfl (fun _ => ?_) (fun _ => ?_)) <;> (first | refine da_onC 12 rfl rfl rfl rfl rfl (by kernel_rfl) (by first | exact pc_loadnL rfl inferInstance (at_has (cs := [_]) (.inl rfl) rfl rfl) inferInstance | fail) ?_ | refine da_offC 12 rfl rfl rfl rfl rfl rfl (by kernel_rfl) ?_ | refine da_offU 12 rfl rfl rfl rfl rfl (by kernel_rfl) ?_)) | (refine da_one 12 rfl (by kernel_rfl) (fun _ _ _ _ => ?_); (repeat' (first | fail)); all_goals (first | refine wl_nil ⟨rfl, (by first | exact LeS.len inferInstance | exact App.len (by assumption)), ?_⟩ | fail)))
    all_goals (first | refine da_offC 13 rfl rfl rfl rfl rfl rfl (by kernel_rfl) ?_ | refine da_offU 13 rfl rfl rfl rfl rfl (by kernel_rfl) ?_ | (refine da_one 13 rfl (by kernel_rfl) (fun _ _ _ _ => ?_); (repeat' (first | (refine wc_callR rfl inferInstance rfl (c_mnFirstR (a := g) (b := partL g (0 : Int).toNat) _ _ _ hlim hpl (fun _ _ q => hfi q)) rfl ?_; intro _ _) | refine wc_guardT_true rfl rfl rfl ?_ | fail)); all_goals (first | refine wl_nil ⟨rfl, (by first | exact LeS.len inferInstance | exact App.len (by assumption)), ?_⟩ | trace_state)) | ((first | refine da_caseP (t := 37) rfl (fun _ => ?_) (fun _ => ?_) | refine da_caseNP (t := 37) rfl (fun _ => ?_) (fun _ => ?_) | refine da_caseEq (t := 37) rfl (fun _ => ?_) (fun _ => ?_) | refine da_caseNe (t := 37) rfl (fun _ => ?_) (fun _ => ?_) | refine da_caseNB (t := 37) rfl (fun _ => ?_) (fun _ => ?_) | refine da_case (t := 37) rfl (fun _ => ?_) (fun _ => ?_)) <;> (first | refine da_offC 13 rfl rfl rfl rfl rfl rfl (by kernel_rfl) ?_ | refine da_offU 13 rfl rfl rfl rfl rfl (by kernel_rfl) ?_ | (refine da_one 13 rfl (by kernel_rfl) (fun _ _ _ _ => ?_); (repeat' (first | (refine wc_callR rfl inferInstance rfl (c_mnFirstR (a := g) (b := partL g (0 : Int).toNat) _ _ _ hlim hpl (fun _ _ q => hfi q)) rfl ?_; intro _ _) | refine wc_guardT_true rfl rfl rfl ?_ | fail)); all_goals (first | refine wl_nil ⟨rfl, (by first | exact LeS.len inferInstance | exact App.len (by assumption)), ?_⟩ | trace_state)))))
    all_goals (first | refine da_takeC 14 rfl rfl (by kernel_rfl) (by first | exact po_pick rfl rfl | fail) ?_ | (refine da_one 14 rfl (by kernel_rfl) (fun _ _ _ _ => ?_); (repeat' (first | fail)); all_goals (first | refine wl_nil ⟨rfl, (by first | exact LeS.len inferInstance | exact App.len (by assumption)), ?_⟩ | fail)))
    all_goals (first | refine da_takeC 15 rfl rfl (by kernel_rfl) (by first | exact po_assign rfl | fail) ?_ | (refine da_one 15 rfl (by kernel_rfl) (fun _ _ _ _ => ?_); (repeat' (first | fail)); all_goals (first | refine wl_nil ⟨rfl, (by first | exact LeS.len inferInstance | exact App.len (by assumption)), ?_⟩ | fail)))
    all_goals refine da_done (by kernel_rfl) ?_
    repeat' (first
      | refine thru_seq_next ?_
      | refine wp_retA ?_
      | refine at_ret (res1 rfl rfl) ?_
      | exact ret_ inferInstance rfl
      | fail)
    all_goals first | (exfalso; omega) | (exact ret_ inferInstance rfl)
  · skip
    repeat' (first
      | (refine wc_callR rfl inferInstance rfl (prB_false hok ▸ c_GraphOk _ _) rfl ?_; intro _ _)
      | (refine wc_callR rfl inferInstance rfl (prB_false hok ▸ c_sGraphOk _ _) rfl ?_; intro _ _)
      | refine wc_loadn rfl inferInstance (at_has (cs := [_]) (.inl rfl) rfl rfl) rfl ?_
      | refine wp_seqA ?_
      | refine wp_region_seq ?_
      | refine thru_seq_next ?_
      | refine thru_seq_ret ?_
      | refine wp_skipA ?_
      | refine wp_retA ?_
      | refine wl_nil ?_
      | refine wl_pop rfl (po_move rfl) ?_
      | refine wl_pop rfl (po_assign rfl) ?_
      | refine wl_pop rfl (pc_boolNeSelf rfl rfl inferInstance) ?_
      | refine wl_pop rfl (po_not rfl) ?_
      | refine wp_condT rfl ?_
      | refine wp_condF rfl ?_
      | refine at_ret (res1 rfl rfl) ?_
      | exact ret_ inferInstance rfl
      | fail)
end
end Go.Proofs.Ytcmkkmlgdkhmiaa.Asl
