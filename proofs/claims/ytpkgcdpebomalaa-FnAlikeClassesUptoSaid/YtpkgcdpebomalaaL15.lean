/- Several texts in one. -/
import Derived.Test.YtpkgcdpebomalaaM1
import Derived.Test.YtpkgcdpebomalaaGG
import Derived.Test.YtpkgcdpebomalaaS3
import Derived.Test.YtpkgcdpebomalaaK6
import Derived.Test.YtpkgcdpebomalaaS6
import Derived.Test.YtpkgcdpebomalaaPP
import Derived.Test.YtpkgcdpebomalaaM4
import Derived.Test.YtpkgcdpebomalaaG17
/- Several texts in one. -/
/- The drawn laws' helpers on rows and on graphs. -/
namespace Go.Proofs.Ytpkgcdpebomalaa.Asl
open Go.RowKit Go.Proofs.YtpkgcdpebomalaaW.PrintLast
set_option linter.unusedVariables false
set_option linter.unusedSimpArgs false
attribute [local irreducible] WP WL andThen inBlock noGoto atEnd ACall DA DL PO Hold
set_option maxHeartbeats 4000000
set_option synthInstance.maxHeartbeats 400000
set_option synthInstance.maxSize 10000
end Go.Proofs.Ytpkgcdpebomalaa.Asl

/- The drawn law FnAlikeRounds. -/
namespace Go.Proofs.Ytpkgcdpebomalaa.Asl
open Go.RowKit Go.Proofs.YtpkgcdpebomalaaW.PrintLast
set_option linter.unusedVariables false
set_option linter.unusedSimpArgs false
attribute [local irreducible] WP WL andThen inBlock noGoto atEnd ACall DA DL PO Hold
set_option maxHeartbeats 4000000
set_option synthInstance.maxHeartbeats 400000
set_option synthInstance.maxSize 10000
/-- The rounds, or none. -/
noncomputable def roundsO (g : Gr) : List (List Nat) := (optB (GOk g) (roundsL g)).getD []
theorem reps_zero {n : Nat} (h : 1 ≤ n) : 1 ≤ (reps (List.replicate n 0)).length := by
  have : 0 ∈ reps (List.replicate n 0) := by
    rw [mem_reps]
    refine ⟨by simp; omega, ?_⟩
    rw [List.getD_eq_getElem?_getD, List.getElem?_replicate]; split <;> rfl
  exact List.length_pos_of_mem this
theorem rounds_size {g : Gr} (h : GOk g) : (roundsL g).length ≤ g.length ∧ 0 < (roundsL g).length := by
  obtain ⟨_, ⟨pre, d, h2, _⟩, h3, _⟩ := rounds_props (g := g) (fun _ => True) trivial (fun _ _ => trivial)
  have := reps_zero h.pos
  exact ⟨by omega, by rw [h2]; simp⟩
end Go.Proofs.Ytpkgcdpebomalaa.Asl

/- The drawn law FnAlikeClasses. -/
namespace Go.Proofs.Ytpkgcdpebomalaa.Asl
open Go.RowKit Go.Proofs.YtpkgcdpebomalaaW.PrintLast
set_option linter.unusedVariables false
set_option linter.unusedSimpArgs false
attribute [local irreducible] WP WL andThen inBlock noGoto atEnd ACall DA DL PO Hold
set_option maxHeartbeats 4000000
set_option synthInstance.maxHeartbeats 400000
set_option synthInstance.maxSize 10000
def relRow (c : List Nat) (s t : Nat) : List Bool := (List.range t).map fun t => decide (c.getD s 0 = c.getD t 0)
theorem relRow_succ (c : List Nat) (s t : Nat) : relRow c s (t + 1) = relRow c s t ++ [decide (c.getD s 0 = c.getD t 0)] := by
  simp [relRow, List.range_succ]
def relRows (c : List Nat) (s : Nat) : List (List Bool) := (List.range s).map fun s => relRow c s c.length
theorem relRows_succ (c : List Nat) (s : Nat) : relRows c (s + 1) = relRows c s ++ [relRow c s c.length] := by
  simp [relRows, List.range_succ]
section
variable {base : Nat}
theorem c_FnAlikeClasses (b : AV) (gb : List UInt8) (σ : Store) [hs : RW σ b gb] : ACall Try.prog base F_laws_FnAlikeClasses [b] σ (fun _ => False) (Ret σ (Bo true)) := by
  have := hs.one
  refine acall1 fun_laws_FnAlikeClasses rfl tmps_laws_FnAlikeClasses rfl fun N B w₀ ρ₀ => ?_
  repeat' (first
    | refine wl_pop rfl (pc_lenRow rfl hs inferInstance) ?_
    | (refine wc_callG1 rfl inferInstance rfl (c_DrawAlikeClasses b gb _ (by omega)) rfl ?_; intro _ _ _ _ _ _ _ _)
    | refine wc_holdR 4 ?_
    | refine wp_seqA ?_
    | refine wp_region_seq ?_
    | refine thru_seq_next ?_
    | refine thru_seq_ret ?_
    | refine wp_skipA ?_
    | refine wp_retA ?_
    | refine wl_nil ?_
    | refine wl_pop rfl (po_move rfl) ?_
    | refine wl_pop rfl (po_assign rfl) ?_
    | refine wl_pop rfl (po_binOp rfl rfl rfl) ?_
    | (refine wc_storeA rfl rfl inferInstance inferInstance rfl inferInstance (Nat.le_of_ble_eq_true rfl) (.inr (may_new _)) ?_; intro _ _)
    | (refine wc_allocA (cs := [_]) inferInstance rfl inferInstance rfl ?_; intro _ _ _ _ _)
    | refine wp_condP rfl (fun _ => ?_) (fun _ => ?_)
    | refine at_ret (res1 rfl rfl) ?_
    | exact ret_ inferInstance rfl
    | fail)
  rename_i hlen u us g σ1 ou ng hgb g1 i2 σ2 g2 n2 h2 σ3 u3
  refine hold_go ?_
  have l3 : LeS σ σ3 := inferInstance
  have h3 : Has σ3 i2 ⟨.own, 1, [u], []⟩ := instHasUpd (g := u3)
  have ng3 : NG σ σ3 u us g := ng.keep fun x o hx ho => by
    have := Has.lt ⟨ho⟩
    have := n2.le
    rw [u3.eq, List.getElem?_set_ne (by omega)]; exact g2.keep x o ho
  have rw3 : RW σ3 u us := inferInstance
  have rr3 : RRs σ3 us g := ng3.rrs
  have hlim : ∀ k, (g.getD k []).length < 4294967296 := fun k => Nat.lt_of_le_of_lt (getD_all (p := fun (l : List Mv) => l.length ≤ 331776) hgb (by simp) k) (by decide)
  clear ng ng3 u3 n2
  by_cases hok : GOk g
  · have eC : (optB (GOk g) (lastC g)).getD [] = lastC g := by rw [optB_yes hok]; rfl
    have eR : (optB (GOk g) (roundsL g)).getD [] = roundsL g := by rw [optB_yes hok]; rfl
    have hcl := lastC_len g
    have hsz := rounds_size hok
    have h60 := hok.most
    have hn0 : ¬ ((roundsL g).length : Int) = 0 := by omega
    repeat' (first
      | (refine wc_callOW rfl inferInstance rfl (eC ▸ c_AlikeClasses _ _ hlim) rfl ?_; intro _ _ _ _ _)
      | (refine wc_callOW rfl inferInstance rfl (eC ▸ c_sAlikeClasses _ _) rfl ?_; intro _ _ _ _ _)
      | (refine wc_callORs rfl inferInstance rfl (eR ▸ c_AlikeRounds _ _ hlim) rfl ?_; intro _ _ _ _ _ _ _)
      | (refine wc_callR rfl inferInstance rfl (c_mnIntsR (l := lastC g) _ _ _) rfl ?_; intro _ _)
      | refine wc_holdR 11 ?_
      | refine wl_pop rfl (pc_lenRow rfl inferInstance inferInstance) ?_
      | refine wc_loadn rfl inferInstance (at_has (cs := [_]) (.inl rfl) rfl rfl) rfl ?_
      | refine wp_seqA ?_
      | refine wp_region_seq ?_
      | refine thru_seq_next ?_
      | refine thru_seq_ret ?_
      | refine wp_skipA ?_
      | refine wp_retA ?_
      | refine wl_nil ?_
      | refine wl_pop rfl (po_move rfl) ?_
      | refine wl_pop rfl (po_assign rfl) ?_
      | refine wl_pop rfl (po_binOp rfl rfl rfl) ?_
      | refine wl_pop rfl (po_not rfl) ?_
      | refine wp_condF rfl ?_
      | refine wp_condP rfl (fun _ => ?_) (fun _ => ?_)
      | refine at_ret (res1 rfl rfl) ?_
      | fail)
    · rename_i v σ4 ov owv g4 v' σ5 ov' owv' g5 σ6 g6 r rs σ7 orr1 owr orr g7 hz
      exfalso; have := orr.len; omega
    rename_i v σ4 ov owv g4 v' σ5 ov' owv' g5 σ6 g6 r rs σ7 orr1 owr orr g7 hz
    have hrl := orr.len
    have hvb := owv.bound
    refine hold_go ?_
    repeat' (first
      | (refine wc_row0 (α := AV) inferInstance inferInstance rfl rfl (by decide) rfl ?_; intro _ _ _ _ _)
      | refine wp_seqA ?_
      | refine wp_region_seq ?_
      | refine thru_seq_next ?_
      | refine wp_blockA ?_
      | refine wl_nil ?_
      | refine wl_pop rfl (po_assign rfl) ?_
      | fail)
    rename_i i8 σ8 g8 n8 h8
    refine wc_loop [(3, _), (4, _), (6, _)] (fun x : Nat × AV => [(7, x.2), (8, I x.1)]) (fun x σ' => x.1 ≤ (lastC g).length ∧ One x.2 ∧ LeS σ7 σ' ∧ σ7.length ≤ σ'.length ∧ ∃ us', us'.length = x.1 ∧ PR σ7 σ' x.2 us' (relRows (lastC g) x.1)) (fun x => (lastC g).length - x.1) (0, .sl i8 0 0) ⟨Nat.zero_le _, ⟨rfl⟩, inferInstance, g8.len, [], rfl, ⟨ow_of_has h8 n8.le rfl (by decide), ORs.nil _ _, by simp⟩⟩ (by repeat' (first | exact sub_nil | refine sub_cons rfl ?_ | refine sub_int rfl (by first | rfl | omega | (push_cast; omega) | simp) ?_ | refine sub_eq rfl (by assumption) ?_)) ?_
    rintro ⟨k, rel⟩ σ' ⟨hk, hone, hle, hlen, rus, hrus, hpr⟩
    dsimp only at hk hone hrus hpr ⊢
    have := hle.grow
    have hprw := hpr.ow
    have hpro := hpr.ors
    repeat' (first
      | (refine wc_row0 (α := Bool) inferInstance inferInstance rfl rfl (by decide) rfl ?_; intro _ _ _ _ _)
      | refine wc_holdR 21 ?_
      | refine wl_pop rfl (pc_lenRow rfl inferInstance inferInstance) ?_
      | refine wp_seqA ?_
      | refine wp_region_seq ?_
      | refine thru_seq_next ?_
      | refine thru_seq ?_
      | refine exit_here ?_
      | refine wp_skipA ?_
      | refine wp_exitA ?_
      | refine wp_blockA ?_
      | refine wl_nil ?_
      | refine wl_pop rfl (po_move rfl) ?_
      | refine wl_pop rfl (po_assign rfl) ?_
      | refine wl_pop rfl (po_binOp rfl rfl rfl) ?_
      | refine wp_condP rfl (fun _ => ?_) (fun _ => ?_)
      | fail)
    · rename_i hk1 i9 σ9 g9 n9 h9
      refine wc_loop [(3, _), (4, _), (6, _), (7, _), (8, _)] (fun y : Nat × AV => [(9, y.2), (10, I y.1)]) (fun y σ'' => y.1 ≤ (lastC g).length ∧ One y.2 ∧ LeS σ' σ'' ∧ σ'.length ≤ σ''.length ∧ OW σ' σ'' y.2 (relRow (lastC g) k y.1)) (fun y => (lastC g).length - y.1) (0, .sl i9 0 0) ⟨Nat.zero_le _, ⟨rfl⟩, inferInstance, g9.len, ow_of_has h9 n9.le rfl (by decide)⟩ (by repeat' (first | exact sub_nil | refine sub_cons rfl ?_ | refine sub_int rfl (by first | rfl | omega | (push_cast; omega) | simp) ?_ | refine sub_eq rfl (by assumption) ?_)) ?_
      rintro ⟨t, row⟩ σ'' ⟨ht, hro, hle2, hlen2, how⟩
      dsimp only at ht hro how ⊢
      have := hle2.grow
      repeat' (first
        | refine wl_pop rfl (pc_lenRow rfl inferInstance inferInstance) ?_
        | refine wp_seqA ?_
        | refine wp_region_seq ?_
        | refine thru_seq_next ?_
        | refine thru_seq ?_
        | refine exit_here ?_
        | refine wp_skipA ?_
        | refine wp_exitA ?_
        | refine wp_blockA ?_
        | refine wl_nil ?_
        | refine wl_pop rfl (po_move rfl) ?_
        | refine wl_pop rfl (po_binOp rfl rfl rfl) ?_
        | refine wp_condP rfl (fun _ => ?_) (fun _ => ?_)
        | fail)
      · have hrl2 : (relRow (lastC g) k t).length = t := by simp [relRow]
        refine wc_drawn [11, 12] mixed_ rfl ?_
        all_goals refine da_takeC 0 rfl rfl (by kernel_rfl) (by first | exact po_move rfl | fail) ?_
        all_goals refine da_takeC 1 rfl rfl (by kernel_rfl) (by first | exact po_move rfl | fail) ?_
        all_goals refine da_takeC 2 rfl rfl (by kernel_rfl) (by first | exact po_move rfl | fail) ?_
        all_goals refine da_takeC 3 rfl rfl (by kernel_rfl) (by first | exact pc_indexRow rfl rfl inferInstance inferInstance inferInstance (by omega) | fail) ?_
        all_goals refine da_takeC 4 rfl rfl (by kernel_rfl) (by first | exact pc_ldNat rfl inferInstance inferInstance (by omega) inferInstance | fail) ?_
        all_goals refine da_takeC 5 rfl rfl (by kernel_rfl) (by first | exact po_move rfl | fail) ?_
        all_goals refine da_takeC 6 rfl rfl (by kernel_rfl) (by first | exact po_move rfl | fail) ?_
        all_goals refine da_takeC 7 rfl rfl (by kernel_rfl) (by first | exact pc_indexRow rfl rfl inferInstance inferInstance inferInstance (by omega) | fail) ?_
        all_goals refine da_takeC 8 rfl rfl (by kernel_rfl) (by first | exact pc_ldNat rfl inferInstance inferInstance (by omega) inferInstance | fail) ?_
        all_goals refine da_takeC 9 rfl rfl (by kernel_rfl) (by first | exact po_binOp rfl rfl rfl | fail) ?_
        all_goals (first | (refine da_one 10 rfl (by kernel_rfl) (fun _ _ _ _ => ?_); (repeat' (first | (refine wc_oneBool rfl inferInstance inferInstance rfl (by decide) rfl ?_; intro _ _ _ _ _) | fail)); all_goals (first | refine wl_nil ⟨rfl, (by first | exact LeS.len inferInstance | exact App.len (by assumption)), ?_⟩ | trace_state)))
        all_goals (refine da_last 11 rfl (by decide) (by kernel_rfl) ?_; (repeat' (first | (refine wc_append1 (α := Bool) (σ₀ := σ') rfl rfl inferInstance inferInstance rfl (by decide) (by decide) inferInstance inferInstance (fun c hc => by simp [Enc.enc] at hc; subst hc; rfl) (by omega) (fun j hj => .inr (Nat.le_trans (LeS.len (inferInstance : LeS σ σ')) hj)) (LeS.len inferInstance) rfl ?_; intro _ _ _ _ _ _) | fail)); all_goals (first | refine wl_nil (dl_in ?_) | trace_state))
        all_goals (refine dl_last 12 rfl (by decide) (by kernel_rfl) ?_; (repeat' (first | refine wl_pop rfl (po_assign rfl) ?_ | fail)); all_goals (first | refine wl_nil (dl_in ?_) | trace_state))
        all_goals refine dl_done (by kernel_rfl) ?_
        repeat' (first
          | refine wp_region_seq ?_
          | refine thru_seq_next ?_
          | refine thru_block_next ?_
          | refine wl_nil ?_
          | refine wl_pop rfl (po_move rfl) ?_
          | refine wl_pop rfl (po_assign rfl) ?_
          | refine wl_pop rfl (pc_add rfl rfl (by omega) (by omega)) ?_
          | fail)
        rename_i i10 σ10 g10 n10 h10 row' σ11 app11 mk11 how11 one11
        have e : (((lastC g).getD k 0 : Nat) == ((lastC g).getD t 0 : Nat) : Bool) = decide ((lastC g).getD k 0 = (lastC g).getD t 0) := by rw [Bool.eq_iff_iff]; simp
        have e' : ((((lastC g).getD k 0 : Nat) : Int) == (((lastC g).getD t 0 : Nat) : Int)) = decide ((lastC g).getD k 0 = (lastC g).getD t 0) := by rw [Bool.eq_iff_iff]; simp; omega
        rw [e'] at how11
        refine ⟨(t + 1, row'), by dsimp only; omega, ⟨by dsimp only; omega, one11, app11.les (Nat.le_refl _) inferInstance, by have := app11.len; have := g10.len; omega, ?_⟩, (by repeat' (first | exact sub_nil | refine sub_cons rfl ?_ | refine sub_int rfl (by first | rfl | omega | (push_cast; omega) | simp) ?_ | refine sub_eq rfl (by assumption) ?_))⟩
        dsimp only
        rw [relRow_succ]
        exact how11
      · rename_i htn
        obtain rfl : t = (lastC g).length := by omega
        have hl7 : σ7.length ≤ σ''.length := Nat.le_trans hlen hlen2
        repeat' (first
          | (refine wc_oneAV rfl inferInstance inferInstance rfl (by decide) rfl ?_; intro _ _ _ _ _)
          | (refine wc_append1 (α := AV) (σ₀ := σ7) rfl rfl inferInstance inferInstance rfl (by decide) (by decide) inferInstance inferInstance (one_av inferInstance) (by omega) (may_ge σ7) (LeS.len inferInstance) rfl ?_; intro _ _ _ _ _ _)
          | refine wp_region_seq ?_
          | refine thru_seq_next ?_
          | refine thru_block_next ?_
          | refine wl_nil ?_
          | refine wl_pop rfl (po_move rfl) ?_
          | refine wl_pop rfl (po_assign rfl) ?_
          | refine wl_pop rfl (pc_add rfl rfl (by omega) (by omega)) ?_
          | fail)
        rename_i i10 σ10 g10 n10 h10 rel' σ11 app11 mk11 how11 one11
        have hp := hpr.push hlen (how.keep fun j o _ _ ho => g10.keep j o ho) ⟨fun j o ho => g10.keep j o (hle2.keep j o ho)⟩ app11 how11
        refine ⟨(k + 1, rel'), by dsimp only; omega, ⟨by dsimp only; omega, one11, app11.les (Nat.le_refl _) inferInstance, by have := app11.len; have := g10.len; omega, rus ++ [row], by simp [hrus], ?_⟩, (by repeat' (first | exact sub_nil | refine sub_cons rfl ?_ | refine sub_int rfl (by first | rfl | omega | (push_cast; omega) | simp) ?_ | refine sub_eq rfl (by assumption) ?_))⟩
        dsimp only
        rw [relRows_succ]
        exact hp
    · rename_i hkn
      obtain rfl : k = (lastC g).length := by omega
      have hrel : RelOk g (relRows (lastC g) (lastC g).length) := classRel_ok hok
      have hlast : (roundsL g).getD ((rs.length : Int) - 1).toNat [] = lastC g := by
        obtain ⟨_, ⟨pre, d, q2, _⟩, _⟩ := rounds_props (g := g) (fun _ => True) trivial (fun _ _ => trivial)
        have q3 : rs.length = pre.length + 1 := by rw [hrl, q2]; simp
        have q4 : ((rs.length : Int) - 1).toNat = pre.length := by omega
        unfold lastC
        rw [q4, q2]; simp [List.getD_eq_getElem?_getD]
      have rr' : RRs σ' rs (roundsL g) := inferInstance
      have rl : RW σ' (rs.getD ((rs.length : Int) - 1).toNat nilS) (lastC g) := hlast ▸ rr'.row _
      have hrb := owr.bound
      refine hold_go ?_
      repeat' (first
        | refine wl_pop rfl (pc_indexRowZ rfl rfl inferInstance inferInstance inferInstance (by omega) (by omega)) ?_
        | (refine wc_callR rfl inferInstance rfl (c_mnIntsR (l := lastC g) _ _ _) rfl ?_; intro _ _)
        | (refine wc_callR rfl inferInstance rfl (prB_true hrel ▸ c_AlikeRelation (g := g) (rel := relRows (lastC g) (lastC g).length) _ _ _) rfl ?_; intro _ _)
        | refine wl_pop rfl (pc_ldAV rfl inferInstance inferInstance (by omega) inferInstance) ?_
        | refine wl_pop rfl (pc_lenRow rfl inferInstance inferInstance) ?_
        | refine wc_loadn rfl inferInstance (at_has (cs := [_]) (.inl rfl) rfl rfl) rfl ?_
        | refine wp_region_seq ?_
        | refine thru_seq_next ?_
        | refine wp_retA ?_
        | refine wl_nil ?_
        | refine wl_pop rfl (po_move rfl) ?_
        | refine wl_pop rfl (po_assign rfl) ?_
        | refine wl_pop rfl (pc_sub rfl rfl (by omega) (by omega)) ?_
        | refine wl_pop rfl (po_pick rfl rfl) ?_
        | refine wc_guardT_true rfl rfl rfl ?_
        | refine at_ret (res1 rfl rfl) ?_
        | exact ret_ inferInstance rfl
        | fail)
  · have eC : (optB (GOk g) (lastC g)).getD [] = [] := by unfold optB; rw [prB_false hok]; rfl
    have eR : (optB (GOk g) (roundsL g)).getD [] = [] := by unfold optB; rw [prB_false hok]; rfl
    repeat' (first
      | (refine wc_callOW rfl inferInstance rfl (eC ▸ c_AlikeClasses _ _ hlim) rfl ?_; intro _ _ _ _ _)
      | (refine wc_callOW rfl inferInstance rfl (eC ▸ c_sAlikeClasses _ _) rfl ?_; intro _ _ _ _ _)
      | (refine wc_callORs rfl inferInstance rfl (eR ▸ c_AlikeRounds _ _ hlim) rfl ?_; intro _ _ _ _ _ _ _)
      | (refine wc_callR rfl inferInstance rfl (c_mnIntsR (l := []) _ _ _) rfl ?_; intro _ _)
      | refine wc_holdR 11 ?_
      | refine wl_pop rfl (pc_lenRow rfl inferInstance inferInstance) ?_
      | refine wc_loadn rfl inferInstance (at_has (cs := [_]) (.inl rfl) rfl rfl) rfl ?_
      | refine wp_seqA ?_
      | refine wp_region_seq ?_
      | refine thru_seq_next ?_
      | refine thru_seq_ret ?_
      | refine wp_skipA ?_
      | refine wp_retA ?_
      | refine wl_nil ?_
      | refine wl_pop rfl (po_move rfl) ?_
      | refine wl_pop rfl (po_assign rfl) ?_
      | refine wl_pop rfl (po_binOp rfl rfl rfl) ?_
      | refine wl_pop rfl (po_not rfl) ?_
      | refine wp_condF rfl ?_
      | refine wp_condP rfl (fun _ => ?_) (fun _ => ?_)
      | refine at_ret (res1 rfl rfl) ?_
      | exact ret_ inferInstance rfl
      | fail)
    rename_i v σ4 ov owv g4 v' σ5 ov' owv' g5 σ6 g6 r rs σ7 orr1 owr orr g7 hz
    have h0 : rs.length = 0 := orr.len
    exfalso; omega
end
end Go.Proofs.Ytpkgcdpebomalaa.Asl
