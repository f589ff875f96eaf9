/- The drawn law FnAlikeRelation. -/
import Derived.Test.YtpkgcdpebomalaaL14
import Derived.Test.YtpkgcdpebomalaaK8
import Derived.Test.YtpkgcdpebomalaaG17
namespace Go.Proofs.Ytpkgcdpebomalaa.Asl
open Go.RowKit Go.Proofs.YtpkgcdpebomalaaW.PrintLast
set_option linter.unusedVariables false
set_option linter.unusedSimpArgs false
attribute [local irreducible] WP WL andThen inBlock noGoto atEnd ACall DA DL PO Hold
set_option maxHeartbeats 4000000
set_option synthInstance.maxHeartbeats 400000
set_option synthInstance.maxSize 10000
theorem wc_callG3 {E : Env} {ops : Array Oper} {l : List Oper} {Q : Exit → Slots → Store → Prop} {S : Slots} {σ : Store} {d : Option Tmp} {ty : TypeId} {pos : String} {af : Array Edge} {x : Operand} {args : Array Operand} {ats : Array TypeId} {f : FuncId} {rs caps : List AV} (hf : S.ev x = some (.fn f caps)) (hc : Callable E.P f) (hargs : evs S args.toList = some rs)
    (h : ACall E.P E.base f (rs ++ caps) σ (fun _ => False) (RetG3 σ)) (hd : okd E d = true) (k : ∀ (u : AV) (us : List AV) (g : Gr) (v : AV) (vs : List AV) (rel : List (List Bool)) σ', One u → One v → NG σ σ' u us g → (∀ l ∈ g, l.length ≤ 331776) → RW σ' v vs → RRs σ' vs rel → Grow σ σ' → WL E ops l Q (S.put d (.tup [.agg [u], v])) σ') :
    WL E ops (⟨d, .call ⟨.value x, args, ats⟩, ty, pos, af, none⟩ :: l) Q S σ :=
  wc_call hf hc hargs h hd fun r' σ' h => by obtain ⟨u, us, g, v, vs, rel, e, h1, h2, h3, h4, h5⟩ := h; subst e; exact k u us g v vs rel σ' (instNGRW (h := h1)).one h3.one h1 h2 h3 h4 h5
section
variable {base : Nat}
theorem c_FnAlikeRelation (b : AV) (gb : List UInt8) (σ : Store) [hs : RW σ b gb] : ACall Try.prog base F_laws_FnAlikeRelation [b] σ (fun _ => False) (Ret σ (Bo true)) := by
  have := hs.one
  refine acall1 fun_laws_FnAlikeRelation rfl tmps_laws_FnAlikeRelation rfl fun N B w₀ ρ₀ => ?_
  repeat' (first
    | refine wl_pop rfl (pc_lenRow rfl hs inferInstance) ?_
    | (refine wc_callG3 rfl inferInstance rfl (c_DrawAlikeRelation b gb _ (by omega)) rfl ?_; intro _ _ _ _ _ _ _ _ _ _ _ _ _ _)
    | refine wc_holdR 4 ?_
    | refine wp_seqA ?_
    | refine wp_region_seq ?_
    | refine thru_seq_next ?_
    | refine thru_seq_ret ?_
    | refine wp_skipA ?_
    | refine wp_retA ?_
    | refine wl_nil ?_
    | refine wl_pop rfl (po_move rfl) ?_
    | refine wl_pop rfl (po_assign rfl) ?_
    | refine wl_pop rfl (po_binOp rfl rfl rfl) ?_
    | (refine wc_storeA rfl rfl inferInstance inferInstance rfl inferInstance (Nat.le_of_ble_eq_true rfl) (.inr (may_new _)) ?_; intro _ _)
    | refine wl_pop rfl (po_extract rfl rfl) ?_
    | (refine wc_allocA (cs := [_]) inferInstance rfl inferInstance rfl ?_; intro _ _ _ _ _)
    | refine wp_condP rfl (fun _ => ?_) (fun _ => ?_)
    | refine at_ret (res1 rfl rfl) ?_
    | exact ret_ inferInstance rfl
    | fail)
  rename_i hlen u us g v vs rel σ1 ou ov ng hgb rwv rrv g1 i2 σ2 g2 n2 h2 σ3 u3
  refine hold_go ?_
  have l3 : LeS σ σ3 := inferInstance
  have h3 : Has σ3 i2 ⟨.own, 1, [u], []⟩ := instHasUpd (g := u3)
  have ng3 : NG σ σ3 u us g := ng.keep fun x o hx ho => by
    have := Has.lt ⟨ho⟩
    have := n2.le
    rw [u3.eq, List.getElem?_set_ne (by omega)]; exact g2.keep x o ho
  have rw3 : RW σ3 u us := inferInstance
  have rr3 : RRs σ3 us g := ng3.rrs
  have rwv3 : RW σ3 v vs := inferInstance
  have rrv3 : RRs σ3 vs rel := inferInstance
  have hlim := lim_ofP hgb
  have hvl := rrv3.len
  have hvb := rwv3.bound
  clear ng ng3 u3 n2
  by_cases hrel : RelOk g rel
  · have hok := hrel.ok
    have eC : (optB (GOk g) (lastC g)).getD [] = lastC g := by rw [optB_pos hok]; rfl
    have hcl := lastC_len g
    have hrl := hrel.len
    have h60 := hok.most
    repeat' (first
      | (refine wc_callR rfl inferInstance rfl (prB_true hrel ▸ c_AlikeRelation (g := g) (rel := rel) _ _ _) rfl ?_; intro _ _)
      | (refine wc_callR rfl inferInstance rfl (prB_true hrel ▸ c_sAlikeRelation (g := g) (rel := rel) _ _ _) rfl ?_; intro _ _)
      | (refine wc_callOW rfl inferInstance rfl (eC ▸ c_AlikeClasses _ _ hlim) rfl ?_; intro _ _ _ _ _)
      | refine wc_loadn rfl inferInstance (at_has (cs := [_]) (.inl rfl) rfl rfl) rfl ?_
      | refine wp_seqA ?_
      | refine wp_region_seq ?_
      | refine thru_seq_next ?_
      | refine wp_skipA ?_
      | refine wp_blockA ?_
      | refine wl_nil ?_
      | refine wl_pop rfl (po_move rfl) ?_
      | refine wl_pop rfl (po_assign rfl) ?_
      | refine wl_pop rfl (pc_boolNeSelf rfl rfl inferInstance) ?_
      | refine wp_condF rfl ?_
      | fail)
    rename_i σ4 g4 σ5 g5 c σ6 oc owc g6
    have hcb := owc.bound
    refine wc_loop [(4, _), (5, _), (7, _)] (fun k : Nat => [(8, I k)]) (fun k σ' => k ≤ rel.length ∧ LeS σ6 σ') (fun k => rel.length - k) 0 ⟨Nat.zero_le _, instLeRefl⟩ (by repeat' (first | exact sub_nil | refine sub_cons rfl ?_ | refine sub_int rfl (by first | rfl | omega | (push_cast; omega) | simp) ?_ | refine sub_eq rfl (by assumption) ?_)) ?_
    rintro k σ' ⟨hk, hg⟩
    have := hg.grow
    repeat' (first
      | refine wl_pop rfl (pc_lenRow rfl inferInstance inferInstance) ?_
      | refine wp_seqA ?_
      | refine wp_region_seq ?_
      | refine thru_seq_next ?_
      | refine thru_seq ?_
      | refine exit_here ?_
      | refine wp_skipA ?_
      | refine wp_retA ?_
      | refine wp_exitA ?_
      | refine wp_blockA ?_
      | refine wl_nil ?_
      | refine wl_pop rfl (po_move rfl) ?_
      | refine wl_pop rfl (po_assign rfl) ?_
      | refine wl_pop rfl (po_binOp rfl rfl rfl) ?_
      | refine wl_pop rfl (po_pick rfl rfl) ?_
      | refine wc_guardP_true rfl rfl rfl rfl (fun _ => ?_) (fun _ => ?_)
      | refine wp_condT rfl ?_
      | refine wp_condF rfl ?_
      | refine at_ret (res1 rfl rfl) ?_
      | exact ret_ inferInstance rfl
      | fail)
    rename_i hk1
    have hkr : k < rel.length := by omega
    have hrk : (rel.getD k []).length = g.length := hrel.rows _ (by simp [List.getD_eq_getElem?_getD, hkr])
    refine wc_loop [(4, _), (5, _), (7, _), (8, _)] (fun t : Nat => [(9, I t)]) (fun t σ' => t ≤ g.length ∧ LeS σ6 σ') (fun t => g.length - t) 0 ⟨Nat.zero_le _, hg⟩ (by repeat' (first | exact sub_nil | refine sub_cons rfl ?_ | refine sub_int rfl (by first | rfl | omega | (push_cast; omega) | simp) ?_ | refine sub_eq rfl (by assumption) ?_)) ?_
    clear this hg
    rintro t σ'' ⟨ht, hg⟩
    have := hg.grow
    have rv6 : RRs σ'' vs rel := inferInstance
    have rwk : RW σ'' (vs.getD k nilS) (rel.getD k []) := rv6.row k
    have := rwk.one
    repeat' (first
      | refine wl_pop rfl (pc_indexRowZ rfl rfl inferInstance inferInstance inferInstance (by omega) (by omega)) ?_
      | refine wl_pop rfl (pc_lenRow rfl rwk inferInstance) ?_
      | refine wl_pop rfl (pc_ldAV rfl inferInstance inferInstance (by omega) inferInstance) ?_
      | refine wp_seqA ?_
      | refine wp_region_seq ?_
      | refine thru_seq_next ?_
      | refine thru_seq ?_
      | refine thru_block_next ?_
      | refine exit_here ?_
      | refine wp_skipA ?_
      | refine wp_exitA ?_
      | refine wp_blockA ?_
      | refine wl_nil ?_
      | refine wl_pop rfl (po_move rfl) ?_
      | refine wl_pop rfl (po_assign rfl) ?_
      | refine wl_pop rfl (pc_add rfl rfl (by omega) (by omega)) ?_
      | refine wl_pop rfl (po_binOp rfl rfl rfl) ?_
      | refine wp_condP rfl (fun _ => ?_) (fun _ => ?_)
      | fail)
    · rename_i ht1
      have htg : t < (rel.getD k []).length := by omega
      have hkc : k < (lastC g).length := by omega
      have htc : t < (lastC g).length := by omega
      have rwc : RW σ'' c (lastC g) := owc.rw.les hg
      by_cases hb : (rel.getD k []).getD t false = true
      · have hcc := rel_last hrel (s := k) (t := t) (by omega) (by omega) hb
        have at53 : At σ'' (vs.getD k nilS).id ((vs.getD k nilS).off + t * 1) 1 [Bo true] := by
          have h := at_row rwk htg
          rw [show (rel.getD k []).getD t Enc.dflt = true from hb] at h; exact h
        refine wc_drawn [] mixed_ rfl ?_
        all_goals refine da_takeC 0 rfl rfl (by kernel_rfl) (by first | exact po_move rfl | fail) ?_
        all_goals refine da_takeC 1 rfl rfl (by kernel_rfl) (by first | exact po_move rfl | fail) ?_
        all_goals refine da_takeC 2 rfl rfl (by kernel_rfl) (by first | exact pc_indexRowZ rfl rfl inferInstance inferInstance inferInstance (by omega) (by omega) | fail) ?_
        all_goals refine da_takeC 3 rfl rfl (by kernel_rfl) (by first | exact pc_ldAV rfl inferInstance inferInstance (by omega) inferInstance | fail) ?_
        all_goals refine da_takeC 4 rfl rfl (by kernel_rfl) (by first | exact po_move rfl | fail) ?_
        all_goals refine da_takeC 5 rfl rfl (by kernel_rfl) (by first | exact pc_indexRowZ rfl rfl inferInstance inferInstance rwk (by omega) (by omega) | fail) ?_
        all_goals refine da_takeC 6 rfl rfl (by kernel_rfl) (by first | exact pc_load1L rfl inferInstance at53 inferInstance | fail) ?_
        all_goals refine da_takeC 7 rfl rfl (by kernel_rfl) (by first | exact po_move rfl | fail) ?_
        all_goals (first | refine da_onC 8 rfl rfl rfl rfl rfl (by kernel_rfl) (by first | exact po_move rfl | fail) ?_ | refine da_offC 8 rfl rfl rfl rfl rfl rfl (by kernel_rfl) ?_ | refine da_offU 8 rfl rfl rfl rfl rfl (by kernel_rfl) ?_ | ((first | refine da_caseP (t := 54) rfl (fun _ => ?_) (fun _ => ?_) | refine da_caseNP (t := 54) rfl (fun _ => ?_) (fun _ => ?_) | refine da_caseEq (t := 54) rfl (fun _ => ?_) (fun _ => ?_) | refine da_caseNe (t := 54) rfl (fun _ => ?_) (fun _ => ?_) | refine da_caseNB (t := 54) rfl (fun _ => ?_) (fun _ => ?_) | refine da_case (t := 54) rfl (fun _ => ?_) (fun _ => ?_)) <;> (first | refine da_onC 8 rfl rfl rfl rfl rfl (by kernel_rfl) (by first | exact po_move rfl | fail) ?_ | refine da_offC 8 rfl rfl rfl rfl rfl rfl (by kernel_rfl) ?_ | refine da_offU 8 rfl rfl rfl rfl rfl (by kernel_rfl) ?_)))
        all_goals (first | refine da_onC 9 rfl rfl rfl rfl rfl (by kernel_rfl) (by first | exact po_move rfl | fail) ?_ | refine da_offC 9 rfl rfl rfl rfl rfl rfl (by kernel_rfl) ?_ | refine da_offU 9 rfl rfl rfl rfl rfl (by kernel_rfl) ?_ | ((first | refine da_caseP (t := 54) rfl (fun _ => ?_) (fun _ => ?_) | refine da_caseNP (t := 54) rfl (fun _ => ?_) (fun _ => ?_) | refine da_caseEq (t := 54) rfl (fun _ => ?_) (fun _ => ?_) | refine da_caseNe (t := 54) rfl (fun _ => ?_) (fun _ => ?_) | refine da_caseNB (t := 54) rfl (fun _ => ?_) (fun _ => ?_) | refine da_case (t := 54) rfl (fun _ => ?_) (fun _ => ?_)) <;> (first | refine da_onC 9 rfl rfl rfl rfl rfl (by kernel_rfl) (by first | exact po_move rfl | fail) ?_ | refine da_offC 9 rfl rfl rfl rfl rfl rfl (by kernel_rfl) ?_ | refine da_offU 9 rfl rfl rfl rfl rfl (by kernel_rfl) ?_)))
        all_goals (first | refine da_onC 10 rfl rfl rfl rfl rfl (by kernel_rfl) (by first | exact pc_indexRowZ rfl rfl inferInstance inferInstance inferInstance (by omega) (by omega) | fail) ?_ | refine da_offC 10 rfl rfl rfl rfl rfl rfl (by kernel_rfl) ?_ | refine da_offU 10 rfl rfl rfl rfl rfl (by kernel_rfl) ?_ | ((first | refine da_caseP (t := 54) rfl (fun _ => ?_) (fun _ => ?_) | refine da_caseNP (t := 54) rfl (fun _ => ?_) (fun _ => ?_) | refine da_caseEq (t := 54) rfl (fun _ => ?_) (fun _ => ?_) | refine da_caseNe (t := 54) rfl (fun _ => ?_) (fun _ => ?_) | refine da_caseNB (t := 54) rfl (fun _ => ?_) (fun _ => ?_) | refine da_case (t := 54) rfl (fun _ => ?_) (fun _ => ?_)) <;> (first | refine da_onC 10 rfl rfl rfl rfl rfl (by kernel_rfl) (by first | exact pc_indexRowZ rfl rfl inferInstance inferInstance inferInstance (by omega) (by omega) | fail) ?_ | refine da_offC 10 rfl rfl rfl rfl rfl rfl (by kernel_rfl) ?_ | refine da_offU 10 rfl rfl rfl rfl rfl (by kernel_rfl) ?_)))
        all_goals (first | refine da_onC 11 rfl rfl rfl rfl rfl (by kernel_rfl) (by first | exact pc_ldNat rfl inferInstance inferInstance (by omega) inferInstance | fail) ?_ | refine da_offC 11 rfl rfl rfl rfl rfl rfl (by kernel_rfl) ?_ | refine da_offU 11 rfl rfl rfl rfl rfl (by kernel_rfl) ?_ | ((first | refine da_caseP (t := 54) rfl (fun _ => ?_) (fun _ => ?_) | refine da_caseNP (t := 54) rfl (fun _ => ?_) (fun _ => ?_) | refine da_caseEq (t := 54) rfl (fun _ => ?_) (fun _ => ?_) | refine da_caseNe (t := 54) rfl (fun _ => ?_) (fun _ => ?_) | refine da_caseNB (t := 54) rfl (fun _ => ?_) (fun _ => ?_) | refine da_case (t := 54) rfl (fun _ => ?_) (fun _ => ?_)) <;> (first | refine da_onC 11 rfl rfl rfl rfl rfl (by kernel_rfl) (by first | exact pc_ldNat rfl inferInstance inferInstance (by omega) inferInstance | fail) ?_ | refine da_offC 11 rfl rfl rfl rfl rfl rfl (by kernel_rfl) ?_ | refine da_offU 11 rfl rfl rfl rfl rfl (by kernel_rfl) ?_)))
        all_goals (first | refine da_onC 12 rfl rfl rfl rfl rfl (by kernel_rfl) (by first | exact po_move rfl | fail) ?_ | refine da_offC 12 rfl rfl rfl rfl rfl rfl (by kernel_rfl) ?_ | refine da_offU 12 rfl rfl rfl rfl rfl (by kernel_rfl) ?_ | ((first | refine da_caseP (t := 54) rfl (fun _ => ?_) (fun _ => ?_) | refine da_caseNP (t := 54) rfl (fun _ => ?_) (fun _ => ?_) | refine da_caseEq (t := 54) rfl (fun _ => ?_) (fun _ => ?_) | refine da_caseNe (t := 54) rfl (fun _ => ?_) (fun _ => ?_) | refine da_caseNB (t := 54) rfl (fun _ => ?_) (fun _ => ?_) | refine da_case (t := 54) rfl (fun _ => ?_) (fun _ => ?_)) <;> (first | refine da_onC 12 rfl rfl rfl rfl rfl (by kernel_rfl) (by first | exact po_move rfl | fail) ?_ | refine da_offC 12 rfl rfl rfl rfl rfl rfl (by kernel_rfl) ?_ | refine da_offU 12 rfl rfl rfl rfl rfl (by kernel_rfl) ?_)))
        all_goals (first | refine da_onC 13 rfl rfl rfl rfl rfl (by kernel_rfl) (by first | exact po_move rfl | fail) ?_ | refine da_offC 13 rfl rfl rfl rfl rfl rfl (by kernel_rfl) ?_ | refine da_offU 13 rfl rfl rfl rfl rfl (by kernel_rfl) ?_ | ((first | refine da_caseP (t := 54) rfl (fun _ => ?_) (fun _ => ?_) | refine da_caseNP (t := 54) rfl (fun _ => ?_) (fun _ => ?_) | refine da_caseEq (t := 54) rfl (fun _ => ?_) (fun _ => ?_) | refine da_caseNe (t := 54) rfl (fun _ => ?_) (fun _ => ?_) | refine da_caseNB (t := 54) rfl (fun _ => ?_) (fun _ => ?_) | refine da_case (t := 54) rfl (fun _ => ?_) (fun _ => ?_)) <;> (first | refine da_onC 13 rfl rfl rfl rfl rfl (by kernel_rfl) (by first | exact po_move rfl | fail) ?_ | refine da_offC 13 rfl rfl rfl rfl rfl rfl (by kernel_rfl) ?_ | refine da_offU 13 rfl rfl rfl rfl rfl (by kernel_rfl) ?_)))
        all_goals (first | refine da_onC 14 rfl rfl rfl rfl rfl (by kernel_rfl) (by first | exact pc_indexRowZ rfl rfl inferInstance inferInstance inferInstance (by omega) (by omega) | fail) ?_ | refine da_offC 14 rfl rfl rfl rfl rfl rfl (by kernel_rfl) ?_ | refine da_offU 14 rfl rfl rfl rfl rfl (by kernel_rfl) ?_ | ((first | refine da_caseP (t := 54) rfl (fun _ => ?_) (fun _ => ?_) | refine da_caseNP (t := 54) rfl (fun _ => ?_) (fun _ => ?_) | refine da_caseEq (t := 54) rfl (fun _ => ?_) (fun _ => ?_) | refine da_caseNe (t := 54) rfl (fun _ => ?_) (fun _ => ?_) | refine da_caseNB (t := 54) rfl (fun _ => ?_) (fun _ => ?_) | refine da_case (t := 54) rfl (fun _ => ?_) (fun _ => ?_)) <;> (first | refine da_onC 14 rfl rfl rfl rfl rfl (by kernel_rfl) (by first | exact pc_indexRowZ rfl rfl inferInstance inferInstance inferInstance (by omega) (by omega) | fail) ?_ | refine da_offC 14 rfl rfl rfl rfl rfl rfl (by kernel_rfl) ?_ | refine da_offU 14 rfl rfl rfl rfl rfl (by kernel_rfl) ?_)))
        all_goals (first | refine da_onC 15 rfl rfl rfl rfl rfl (by kernel_rfl) (by first | exact pc_ldNat rfl inferInstance inferInstance (by omega) inferInstance | fail) ?_ | refine da_offC 15 rfl rfl rfl rfl rfl rfl (by kernel_rfl) ?_ | refine da_offU 15 rfl rfl rfl rfl rfl (by kernel_rfl) ?_ | ((first | refine da_caseP (t := 54) rfl (fun _ => ?_) (fun _ => ?_) | refine da_caseNP (t := 54) rfl (fun _ => ?_) (fun _ => ?_) | refine da_caseEq (t := 54) rfl (fun _ => ?_) (fun _ => ?_) | refine da_caseNe (t := 54) rfl (fun _ => ?_) (fun _ => ?_) | refine da_caseNB (t := 54) rfl (fun _ => ?_) (fun _ => ?_) | refine da_case (t := 54) rfl (fun _ => ?_) (fun _ => ?_)) <;> (first | refine da_onC 15 rfl rfl rfl rfl rfl (by kernel_rfl) (by first | exact pc_ldNat rfl inferInstance inferInstance (by omega) inferInstance | fail) ?_ | refine da_offC 15 rfl rfl rfl rfl rfl rfl (by kernel_rfl) ?_ | refine da_offU 15 rfl rfl rfl rfl rfl (by kernel_rfl) ?_)))
        all_goals (first | refine da_onC 16 rfl rfl rfl rfl rfl (by kernel_rfl) (by first | exact po_binOp rfl rfl rfl | fail) ?_ | refine da_offC 16 rfl rfl rfl rfl rfl rfl (by kernel_rfl) ?_ | refine da_offU 16 rfl rfl rfl rfl rfl (by kernel_rfl) ?_ | ((first | refine da_caseP (t := 54) rfl (fun _ => ?_) (fun _ => ?_) | refine da_caseNP (t := 54) rfl (fun _ => ?_) (fun _ => ?_) | refine da_caseEq (t := 54) rfl (fun _ => ?_) (fun _ => ?_) | refine da_caseNe (t := 54) rfl (fun _ => ?_) (fun _ => ?_) | refine da_caseNB (t := 54) rfl (fun _ => ?_) (fun _ => ?_) | refine da_case (t := 54) rfl (fun _ => ?_) (fun _ => ?_)) <;> (first | refine da_onC 16 rfl rfl rfl rfl rfl (by kernel_rfl) (by first | exact po_binOp rfl rfl rfl | fail) ?_ | refine da_offC 16 rfl rfl rfl rfl rfl rfl (by kernel_rfl) ?_ | refine da_offU 16 rfl rfl rfl rfl rfl (by kernel_rfl) ?_)))
        all_goals refine da_takeC 17 rfl rfl (by kernel_rfl) (by first | exact po_pick rfl rfl | fail) ?_
        all_goals refine da_done (by kernel_rfl) ?_
        repeat' (first
          | refine wp_seqA ?_
          | refine wp_region_seq ?_
          | refine thru_seq_next ?_
          | refine thru_seq_ret ?_
          | refine thru_block_ret ?_
          | refine thru_block_next ?_
          | refine wp_skipA ?_
          | refine wp_retA ?_
          | refine wl_nil ?_
          | refine wl_pop rfl (po_move rfl) ?_
          | refine wl_pop rfl (po_assign rfl) ?_
          | refine wl_pop rfl (pc_add rfl rfl (by omega) (by omega)) ?_
          | refine wp_condNP rfl (fun _ => ?_) (fun _ => ?_)
          | refine at_ret (res1 rfl rfl) ?_
          | fail)
        · exfalso; simp only [Int.toNat_natCast] at *; omega
        · exact ⟨t + 1, by omega, ⟨by omega, hg⟩, (by repeat' (first | exact sub_nil | refine sub_cons rfl ?_ | refine sub_int rfl (by first | rfl | omega | (push_cast; omega) | simp) ?_ | refine sub_eq rfl (by assumption) ?_))⟩
      · have hb' : (rel.getD k []).getD t false = false := by simpa using hb
        have at53 : At σ'' (vs.getD k nilS).id ((vs.getD k nilS).off + t * 1) 1 [Bo false] := by
          have h := at_row rwk htg
          rw [show (rel.getD k []).getD t Enc.dflt = false from hb'] at h; exact h
        refine wc_drawn [] mixed_ rfl ?_
        all_goals refine da_takeC 0 rfl rfl (by kernel_rfl) (by first | exact po_move rfl | fail) ?_
        all_goals refine da_takeC 1 rfl rfl (by kernel_rfl) (by first | exact po_move rfl | fail) ?_
        all_goals refine da_takeC 2 rfl rfl (by kernel_rfl) (by first | exact pc_indexRowZ rfl rfl inferInstance inferInstance inferInstance (by omega) (by omega) | fail) ?_
        all_goals refine da_takeC 3 rfl rfl (by kernel_rfl) (by first | exact pc_ldAV rfl inferInstance inferInstance (by omega) inferInstance | fail) ?_
        all_goals refine da_takeC 4 rfl rfl (by kernel_rfl) (by first | exact po_move rfl | fail) ?_
        all_goals refine da_takeC 5 rfl rfl (by kernel_rfl) (by first | exact pc_indexRowZ rfl rfl inferInstance inferInstance rwk (by omega) (by omega) | fail) ?_
        all_goals refine da_takeC 6 rfl rfl (by kernel_rfl) (by first | exact pc_load1L rfl inferInstance at53 inferInstance | fail) ?_
        all_goals refine da_takeC 7 rfl rfl (by kernel_rfl) (by first | exact po_move rfl | fail) ?_
        all_goals (first | refine da_onC 8 rfl rfl rfl rfl rfl (by kernel_rfl) (by first | exact po_move rfl | fail) ?_ | refine da_offC 8 rfl rfl rfl rfl rfl rfl (by kernel_rfl) ?_ | refine da_offU 8 rfl rfl rfl rfl rfl (by kernel_rfl) ?_ | ((first | refine da_caseP (t := 54) rfl (fun _ => ?_) (fun _ => ?_) | refine da_caseNP (t := 54) rfl (fun _ => ?_) (fun _ => ?_) | refine da_caseEq (t := 54) rfl (fun _ => ?_) (fun _ => ?_) | refine da_caseNe (t := 54) rfl (fun _ => ?_) (fun _ => ?_) | refine da_caseNB (t := 54) rfl (fun _ => ?_) (fun _ => ?_) | refine da_case (t := 54) rfl (fun _ => ?_) (fun _ => ?_)) <;> (first | refine da_onC 8 rfl rfl rfl rfl rfl (by kernel_rfl) (by first | exact po_move rfl | fail) ?_ | refine da_offC 8 rfl rfl rfl rfl rfl rfl (by kernel_rfl) ?_ | refine da_offU 8 rfl rfl rfl rfl rfl (by kernel_rfl) ?_)))
        all_goals (first | refine da_onC 9 rfl rfl rfl rfl rfl (by kernel_rfl) (by first | exact po_move rfl | fail) ?_ | refine da_offC 9 rfl rfl rfl rfl rfl rfl (by kernel_rfl) ?_ | refine da_offU 9 rfl rfl rfl rfl rfl (by kernel_rfl) ?_ | ((first | refine da_caseP (t := 54) rfl (fun _ => ?_) (fun _ => ?_) | refine da_caseNP (t := 54) rfl (fun _ => ?_) (fun _ => ?_) | refine da_caseEq (t := 54) rfl (fun _ => ?_) (fun _ => ?_) | refine da_caseNe (t := 54) rfl (fun _ => ?_) (fun _ => ?_) | refine da_caseNB (t := 54) rfl (fun _ => ?_) (fun _ => ?_) | refine da_case (t := 54) rfl (fun _ => ?_) (fun _ => ?_)) <;> (first | refine da_onC 9 rfl rfl rfl rfl rfl (by kernel_rfl) (by first | exact po_move rfl | fail) ?_ | refine da_offC 9 rfl rfl rfl rfl rfl rfl (by kernel_rfl) ?_ | refine da_offU 9 rfl rfl rfl rfl rfl (by kernel_rfl) ?_)))
        all_goals (first | refine da_onC 10 rfl rfl rfl rfl rfl (by kernel_rfl) (by first | fail) ?_ | refine da_offC 10 rfl rfl rfl rfl rfl rfl (by kernel_rfl) ?_ | refine da_offU 10 rfl rfl rfl rfl rfl (by kernel_rfl) ?_ | ((first | refine da_caseP (t := 54) rfl (fun _ => ?_) (fun _ => ?_) | refine da_caseNP (t := 54) rfl (fun _ => ?_) (fun _ => ?_) | refine da_caseEq (t := 54) rfl (fun _ => ?_) (fun _ => ?_) | refine da_caseNe (t := 54) rfl (fun _ => ?_) (fun _ => ?_) | refine da_caseNB (t := 54) rfl (fun _ => ?_) (fun _ => ?_) | refine da_case (t := 54) rfl (fun _ => ?_) (fun _ => ?_)) <;> (first | refine da_onC 10 rfl rfl rfl rfl rfl (by kernel_rfl) (by first | fail) ?_ | refine da_offC 10 rfl rfl rfl rfl rfl rfl (by kernel_rfl) ?_ | refine da_offU 10 rfl rfl rfl rfl rfl (by kernel_rfl) ?_)))
        all_goals (first | refine da_onC 11 rfl rfl rfl rfl rfl (by kernel_rfl) (by first | fail) ?_ | refine da_offC 11 rfl rfl rfl rfl rfl rfl (by kernel_rfl) ?_ | refine da_offU 11 rfl rfl rfl rfl rfl (by kernel_rfl) ?_ | ((first | refine da_caseP (t := 54) rfl (fun _ => ?_) (fun _ => ?_) | refine da_caseNP (t := 54) rfl (fun _ => ?_) (fun _ => ?_) | refine da_caseEq (t := 54) rfl (fun _ => ?_) (fun _ => ?_) | refine da_caseNe (t := 54) rfl (fun _ => ?_) (fun _ => ?_) | refine da_caseNB (t := 54) rfl (fun _ => ?_) (fun _ => ?_) | refine da_case (t := 54) rfl (fun _ => ?_) (fun _ => ?_)) <;> (first | refine da_onC 11 rfl rfl rfl rfl rfl (by kernel_rfl) (by first | fail) ?_ | refine da_offC 11 rfl rfl rfl rfl rfl rfl (by kernel_rfl) ?_ | refine da_offU 11 rfl rfl rfl rfl rfl (by kernel_rfl) ?_)))
        all_goals (first | refine da_onC 12 rfl rfl rfl rfl rfl (by kernel_rfl) (by first | exact po_move rfl | fail) ?_ | refine da_offC 12 rfl rfl rfl rfl rfl rfl (by kernel_rfl) ?_ | refine da_offU 12 rfl rfl rfl rfl rfl (by kernel_rfl) ?_ | ((first | refine da_caseP (t := 54) rfl (fun _ => ?_) (fun _ => ?_) | refine da_caseNP (t := 54) rfl (fun _ => ?_) (fun _ => ?_) | refine da_caseEq (t := 54) rfl (fun _ => ?_) (fun _ => ?_) | refine da_caseNe (t := 54) rfl (fun _ => ?_) (fun _ => ?_) | refine da_caseNB (t := 54) rfl (fun _ => ?_) (fun _ => ?_) | refine da_case (t := 54) rfl (fun _ => ?_) (fun _ => ?_)) <;> (first | refine da_onC 12 rfl rfl rfl rfl rfl (by kernel_rfl) (by first | exact po_move rfl | fail) ?_ | refine da_offC 12 rfl rfl rfl rfl rfl rfl (by kernel_rfl) ?_ | refine da_offU 12 rfl rfl rfl rfl rfl (by kernel_rfl) ?_)))
        all_goals (first | refine da_onC 13 rfl rfl rfl rfl rfl (by kernel_rfl) (by first | exact po_move rfl | fail) ?_ | refine da_offC 13 rfl rfl rfl rfl rfl rfl (by kernel_rfl) ?_ | refine da_offU 13 rfl rfl rfl rfl rfl (by kernel_rfl) ?_ | ((first | refine da_caseP (t := 54) rfl (fun _ => ?_) (fun _ => ?_) | refine da_caseNP (t := 54) rfl (fun _ => ?_) (fun _ => ?_) | refine da_caseEq (t := 54) rfl (fun _ => ?_) (fun _ => ?_) | refine da_caseNe (t := 54) rfl (fun _ => ?_) (fun _ => ?_) | refine da_caseNB (t := 54) rfl (fun _ => ?_) (fun _ => ?_) | refine da_case (t := 54) rfl (fun _ => ?_) (fun _ => ?_)) <;> (first | refine da_onC 13 rfl rfl rfl rfl rfl (by kernel_rfl) (by first | exact po_move rfl | fail) ?_ | refine da_offC 13 rfl rfl rfl rfl rfl rfl (by kernel_rfl) ?_ | refine da_offU 13 rfl rfl rfl rfl rfl (by kernel_rfl) ?_)))
        all_goals (first | refine da_onC 14 rfl rfl rfl rfl rfl (by kernel_rfl) (by first | fail) ?_ | refine da_offC 14 rfl rfl rfl rfl rfl rfl (by kernel_rfl) ?_ | refine da_offU 14 rfl rfl rfl rfl rfl (by kernel_rfl) ?_ | ((first | refine da_caseP (t := 54) rfl (fun _ => ?_) (fun _ => ?_) | refine da_caseNP (t := 54) rfl (fun _ => ?_) (fun _ => ?_) | refine da_caseEq (t := 54) rfl (fun _ => ?_) (fun _ => ?_) | refine da_caseNe (t := 54) rfl (fun _ => ?_) (fun _ => ?_) | refine da_caseNB (t := 54) rfl (fun _ => ?_) (fun _ => ?_) | refine da_case (t := 54) rfl (fun _ => ?_) (fun _ => ?_)) <;> (first | refine da_onC 14 rfl rfl rfl rfl rfl (by kernel_rfl) (by first | fail) ?_ | refine da_offC 14 rfl rfl rfl rfl rfl rfl (by kernel_rfl) ?_ | refine da_offU 14 rfl rfl rfl rfl rfl (by kernel_rfl) ?_)))
        all_goals (first | refine da_onC 15 rfl rfl rfl rfl rfl (by kernel_rfl) (by first | fail) ?_ | refine da_offC 15 rfl rfl rfl rfl rfl rfl (by kernel_rfl) ?_ | refine da_offU 15 rfl rfl rfl rfl rfl (by kernel_rfl) ?_ | ((first | refine da_caseP (t := 54) rfl (fun _ => ?_) (fun _ => ?_) | refine da_caseNP (t := 54) rfl (fun _ => ?_) (fun _ => ?_) | refine da_caseEq (t := 54) rfl (fun _ => ?_) (fun _ => ?_) | refine da_caseNe (t := 54) rfl (fun _ => ?_) (fun _ => ?_) | refine da_caseNB (t := 54) rfl (fun _ => ?_) (fun _ => ?_) | refine da_case (t := 54) rfl (fun _ => ?_) (fun _ => ?_)) <;> (first | refine da_onC 15 rfl rfl rfl rfl rfl (by kernel_rfl) (by first | fail) ?_ | refine da_offC 15 rfl rfl rfl rfl rfl rfl (by kernel_rfl) ?_ | refine da_offU 15 rfl rfl rfl rfl rfl (by kernel_rfl) ?_)))
        all_goals (first | refine da_onC 16 rfl rfl rfl rfl rfl (by kernel_rfl) (by first | fail) ?_ | refine da_offC 16 rfl rfl rfl rfl rfl rfl (by kernel_rfl) ?_ | refine da_offU 16 rfl rfl rfl rfl rfl (by kernel_rfl) ?_ | ((first | refine da_caseP (t := 54) rfl (fun _ => ?_) (fun _ => ?_) | refine da_caseNP (t := 54) rfl (fun _ => ?_) (fun _ => ?_) | refine da_caseEq (t := 54) rfl (fun _ => ?_) (fun _ => ?_) | refine da_caseNe (t := 54) rfl (fun _ => ?_) (fun _ => ?_) | refine da_caseNB (t := 54) rfl (fun _ => ?_) (fun _ => ?_) | refine da_case (t := 54) rfl (fun _ => ?_) (fun _ => ?_)) <;> (first | refine da_onC 16 rfl rfl rfl rfl rfl (by kernel_rfl) (by first | fail) ?_ | refine da_offC 16 rfl rfl rfl rfl rfl rfl (by kernel_rfl) ?_ | refine da_offU 16 rfl rfl rfl rfl rfl (by kernel_rfl) ?_)))
        all_goals refine da_takeC 17 rfl rfl (by kernel_rfl) (by first | exact po_pick rfl rfl | fail) ?_
        all_goals refine da_done (by kernel_rfl) ?_
        repeat' (first
          | refine wp_region_seq ?_
          | refine thru_seq_next ?_
          | refine thru_block_next ?_
          | refine wp_skipA ?_
          | refine wl_nil ?_
          | refine wl_pop rfl (po_move rfl) ?_
          | refine wl_pop rfl (po_assign rfl) ?_
          | refine wl_pop rfl (pc_add rfl rfl (by omega) (by omega)) ?_
          | refine wp_condF rfl ?_
          | fail)
        exact ⟨t + 1, by omega, ⟨by omega, hg⟩, (by repeat' (first | exact sub_nil | refine sub_cons rfl ?_ | refine sub_int rfl (by first | rfl | omega | (push_cast; omega) | simp) ?_ | refine sub_eq rfl (by assumption) ?_))⟩
    · exact ⟨k + 1, by omega, ⟨by omega, hg⟩, (by repeat' (first | exact sub_nil | refine sub_cons rfl ?_ | refine sub_int rfl (by first | rfl | omega | (push_cast; omega) | simp) ?_ | refine sub_eq rfl (by assumption) ?_))⟩
  · repeat' (first
      | (refine wc_callR rfl inferInstance rfl (prB_false hrel ▸ c_AlikeRelation (g := g) (rel := rel) _ _ _) rfl ?_; intro _ _)
      | (refine wc_callR rfl inferInstance rfl (prB_false hrel ▸ c_sAlikeRelation (g := g) (rel := rel) _ _ _) rfl ?_; intro _ _)
      | (refine wc_callOW rfl inferInstance rfl (c_AlikeClasses _ _ hlim) rfl ?_; intro _ _ _ _ _)
      | refine wc_loadn rfl inferInstance (at_has (cs := [_]) (.inl rfl) rfl rfl) rfl ?_
      | refine wp_seqA ?_
      | refine wp_region_seq ?_
      | refine thru_seq_next ?_
      | refine wp_skipA ?_
      | refine wp_blockA ?_
      | refine wl_nil ?_
      | refine wl_pop rfl (po_move rfl) ?_
      | refine wl_pop rfl (po_assign rfl) ?_
      | refine wl_pop rfl (pc_boolNeSelf rfl rfl inferInstance) ?_
      | refine wp_condF rfl ?_
      | fail)
    rename_i σ4 g4 σ5 g5 c σ6 oc owc g6
    refine wc_loop [(4, _), (5, _), (7, _)] (fun k : Nat => [(8, I k)]) (fun k σ' => k = 0 ∧ LeS σ6 σ') (fun k => 0) 0 ⟨rfl, instLeRefl⟩ (by repeat' (first | exact sub_nil | refine sub_cons rfl ?_ | refine sub_int rfl (by first | rfl | omega | (push_cast; omega) | simp) ?_ | refine sub_eq rfl (by assumption) ?_)) ?_
    rintro k σ' ⟨rfl, hg⟩
    have := hg.grow
    repeat' (first
      | refine wl_pop rfl (pc_lenRow rfl inferInstance inferInstance) ?_
      | refine wp_seqA ?_
      | refine wp_region_seq ?_
      | refine thru_seq_next ?_
      | refine thru_seq ?_
      | refine exit_here ?_
      | refine wp_retA ?_
      | refine wp_exitA ?_
      | refine wl_nil ?_
      | refine wl_pop rfl (po_move rfl) ?_
      | refine wl_pop rfl (po_assign rfl) ?_
      | refine wl_pop rfl (po_binOp rfl rfl rfl) ?_
      | refine wl_pop rfl (po_pick rfl rfl) ?_
      | refine wc_guardP_true rfl rfl rfl rfl (fun _ => ?_) (fun _ => ?_)
      | refine wp_condF rfl ?_
      | refine at_ret (res1 rfl rfl) ?_
      | exact ret_ inferInstance rfl
      | fail)
end
end Go.Proofs.Ytpkgcdpebomalaa.Asl
