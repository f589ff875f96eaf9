/- The drawn law FnAlikeRounds. -/
import Derived.Test.YtcmkkmlgdkhmiaaM2
import Derived.Test.YtcmkkmlgdkhmiaaK6
import Derived.Test.YtcmkkmlgdkhmiaaS6
import Derived.Test.YtcmkkmlgdkhmiaaPP
namespace Go.Proofs.Ytcmkkmlgdkhmiaa.Asl
open Go.RowKit Go.Proofs.YtcmkkmlgdkhmiaaW.PrintLast
set_option linter.unusedVariables false
set_option linter.unusedSimpArgs false
attribute [local irreducible] WP WL andThen inBlock noGoto atEnd ACall DA DL PO Hold
set_option maxHeartbeats 4000000
set_option synthInstance.maxHeartbeats 400000
set_option synthInstance.maxSize 10000
/-- The rounds, or none. -/
noncomputable def roundsO (g : Gr) : List (List Nat) := (optB (GOk g) (roundsL g)).getD []
theorem roundsO_cases (g : Gr) : (GOk g ∧ roundsO g = roundsL g) ∨ (¬ GOk g ∧ roundsO g = []) := by
  unfold roundsO optB
  split
  · rename_i h; exact .inl ⟨prB_of h, rfl⟩
  · rename_i h
    refine .inr ⟨fun q => ?_, rfl⟩
    rw [prB_true q] at h
    cases h
theorem reps_zero {n : Nat} (h : 1 ≤ n) : 1 ≤ (reps (List.replicate n 0)).length := by
  have : 0 ∈ reps (List.replicate n 0) := by
    rw [mem_reps]
    refine ⟨by simp; omega, ?_⟩
    rw [List.getD_eq_getElem?_getD, List.getElem?_replicate]; split <;> rfl
  exact List.length_pos_of_mem this
theorem rounds_size {g : Gr} (h : GOk g) : (roundsL g).length ≤ g.length ∧ 0 < (roundsL g).length := by
  obtain ⟨_, ⟨pre, d, h2, _⟩, h3, _⟩ := rounds_props (g := g) (fun _ => True) trivial (fun _ _ => trivial)
  have := reps_zero h.pos
  exact ⟨by omega, by rw [h2]; simp⟩
theorem rounds_zero (g : Gr) (s : Nat) : ((roundsL g).getD 0 []).getD s 0 = 0 := by
  have h : (roundsL g).getD 0 [] = List.replicate g.length 0 := by
    unfold roundsL
    cases g.length with
    | zero => rfl
    | succ n => unfold rnds; split <;> rfl
  rw [h, List.getD_eq_getElem?_getD, List.getElem?_replicate]; split <;> rfl
theorem rounds_finer {g : Gr} {k : Nat} (hk : k + 1 < (roundsL g).length) : Finer ((roundsL g).getD (k + 1) []) ((roundsL g).getD k []) ∧ (roundsL g).getD (k + 1) [] ≠ (roundsL g).getD k [] := by
  obtain ⟨h1, _, _, h4⟩ := rounds_props (g := g) (fun _ => True) trivial (fun _ _ => trivial)
  have e1 : (roundsL g)[k]? = some ((roundsL g).getD k []) := by simp [List.getD_eq_getElem?_getD, show k < (roundsL g).length by omega]
  have e2 : (roundsL g)[k + 1]? = some ((roundsL g).getD (k + 1) []) := by simp [List.getD_eq_getElem?_getD, hk]
  obtain ⟨a, b⟩ := h4 k _ _ e1 e2
  have l1 := (h1 _ (List.mem_of_getElem? e1)).2.2
  refine ⟨⟨by rw [a, nextC_length], fun s t hs ht he => ?_⟩, b⟩
  rw [a] at he hs
  rw [nextC_length] at hs
  rw [nextC_get hs, nextC_get (by omega), leastC_iff] at he
  exact he.1
section
variable {base : Nat}
theorem c_mnIntsN (σ : Store) (s s' : AV) {l l' : List Nat} (h : l ≠ l') [hs : RW σ s l] [hs' : RW σ s' l'] : ACall Try.prog base F_laws_mnInts [s, s'] σ (fun _ => False) (Ret σ (Bo false)) := by
  have := c_mnInts (base := base) σ s s' (hs := hs) (hs' := hs')
  rwa [eqB_ne h] at this
theorem c_FnAlikeRounds (b : AV) (gb : List UInt8) (σ : Store) [hs : RW σ b gb] : ACall Try.prog base F_laws_FnAlikeRounds [b] σ (fun _ => False) (Ret σ (Bo true)) := by
  have := hs.one
  refine acall1 fun_laws_FnAlikeRounds rfl tmps_laws_FnAlikeRounds rfl fun N B w₀ ρ₀ => ?_
  repeat' (first
    | refine wl_pop rfl (pc_lenRow rfl hs inferInstance) ?_
    | (refine wc_callG1 rfl inferInstance rfl (c_DrawAlikeRounds b gb _ (by omega)) rfl ?_; intro _ _ _ _ _ _ _ _)
    | refine wc_holdR 4 ?_
    | refine wp_seqA ?_
    | refine wp_region_seq ?_
    | refine thru_seq_next ?_
    | refine thru_seq_ret ?_
    | refine wp_skipA ?_
    | refine wp_retA ?_
    | refine wl_nil ?_
    | refine wl_pop rfl (po_move rfl) ?_
    | refine wl_pop rfl (po_assign rfl) ?_
    | refine wl_pop rfl (po_binOp rfl rfl rfl) ?_
    | (refine wc_storeA rfl rfl inferInstance inferInstance rfl inferInstance (Nat.le_of_ble_eq_true rfl) (.inr (may_new _)) ?_; intro _ _)
    | (refine wc_allocA (cs := [_]) inferInstance rfl inferInstance rfl ?_; intro _ _ _ _ _)
    | refine wp_condP rfl (fun _ => ?_) (fun _ => ?_)
    | refine at_ret (res1 rfl rfl) ?_
    | exact ret_ inferInstance rfl
    | fail)
  rename_i hlen u us g σ1 ou ng hgb g1 i2 σ2 g2 n2 h2 σ3 u3
  refine hold_go ?_
  have l3 : LeS σ σ3 := inferInstance
  have h3 : Has σ3 i2 ⟨.own, 1, [u], []⟩ := instHasUpd (g := u3)
  have ng3 : NG σ σ3 u us g := ng.keep fun x o hx ho => by
    have := Has.lt ⟨ho⟩
    have := n2.le
    rw [u3.eq, List.getElem?_set_ne (by omega)]; exact g2.keep x o ho
  have rw3 : RW σ3 u us := inferInstance
  have rr3 : RRs σ3 us g := ng3.rrs
  have hgl := rr3.len
  have hub := rw3.bound
  have hlim : ∀ k, (g.getD k []).length < 4294967296 := fun k => Nat.lt_of_le_of_lt (getD_all (p := fun (l : List Mv) => l.length ≤ 331776) hgb (by simp) k) (by decide)
  generalize hL : roundsO g = L
  have hL' : (optB (GOk g) (roundsL g)).getD [] = L := hL
  have hLg : L.length ≤ g.length ∧ (L.length = 0 ↔ ¬ GOk g) ∧ (∀ s, (L.getD 0 []).getD s 0 = 0) ∧ ∀ k, k + 1 < L.length → Finer (L.getD (k + 1) []) (L.getD k []) ∧ L.getD (k + 1) [] ≠ L.getD k [] := by
    rw [← hL]
    rcases roundsO_cases g with ⟨h, e⟩ | ⟨h, e⟩
    · rw [e]
      have := rounds_size h
      exact ⟨this.1, by constructor <;> intro q; omega; exact absurd h q, rounds_zero g, fun k hk => rounds_finer hk⟩
    · rw [e]
      exact ⟨by simp, by simp [h], by simp, fun k hk => by simp at hk⟩
  obtain ⟨hx1, hx2, hx3, hx4⟩ := hLg
  clear ng ng3 u3 n2
  repeat' (first
    | (refine wc_callORs rfl inferInstance rfl (hL' ▸ c_AlikeRounds _ _ hlim) rfl ?_; intro _ _ _ _ _ _ _)
    | (refine wc_callORs rfl inferInstance rfl (hL' ▸ c_sAlikeRounds _ _) rfl ?_; intro _ _ _ _ _ _ _)
    | (refine wc_callR rfl inferInstance rfl (c_mnRowsR (g := L) _ _ _) rfl ?_; intro _ _)
    | (refine wc_callR rfl inferInstance rfl (c_GraphOk _ _) rfl ?_; intro _ _)
    | refine wc_holdR 10 ?_
    | refine wl_pop rfl (pc_lenRow rfl inferInstance inferInstance) ?_
    | refine wc_loadn rfl inferInstance (at_has (cs := [_]) (.inl rfl) rfl rfl) rfl ?_
    | refine wp_seqA ?_
    | refine wp_region_seq ?_
    | refine thru_seq_next ?_
    | refine thru_seq_ret ?_
    | refine wp_skipA ?_
    | refine wp_retA ?_
    | refine wl_nil ?_
    | refine wl_pop rfl (po_move rfl) ?_
    | refine wl_pop rfl (po_assign rfl) ?_
    | refine wl_pop rfl (po_binOp rfl rfl rfl) ?_
    | refine wl_pop rfl (pc_boolNe rfl rfl inferInstance) ?_
    | refine wl_pop rfl (po_fieldAddr rfl inferInstance) ?_
    | refine wc_load1 rfl inferInstance (at_has (.inl rfl) rfl rfl) rfl ?_
    | refine wl_pop rfl (po_not rfl) ?_
    | refine wl_pop rfl (po_pick rfl rfl) ?_
    | refine wc_guardT_false rfl rfl rfl ?_
    | refine wc_guardF_false rfl rfl rfl rfl ?_
    | refine wc_guardP_false rfl rfl rfl rfl (fun _ => ?_) (fun _ => ?_)
    | refine wp_condT rfl ?_
    | refine wp_condF rfl ?_
    | refine wp_condNP rfl (fun _ => ?_) (fun _ => ?_)
    | refine at_ret (res1 rfl rfl) ?_
    | fail)
  · rename_i v vs σ4 ov ow4 or4 g4 v' vs' σ5 ov' ow5 or5 g5 σ6 g6 hz1 σ7 g7 hq
    exfalso
    apply hq
    have e := or4.len
    by_cases hok : GOk g
    · rw [prB_true hok]
      have : L.length ≠ 0 := fun q => hx2.mp q hok
      exact beq_eq_false_iff_ne.mpr (by omega)
    · rw [prB_false hok]
      have : L.length = 0 := hx2.mpr hok
      exact beq_iff_eq.mpr (by omega)
  rotate_right
  · rename_i v vs σ4 ov ow4 or4 g4 v' vs' σ5 ov' ow5 or5 g5 σ6 g6 hq
    have := or4.len
    exfalso; omega
  rename_i v vs σ4 ov ow4 or4 g4 v' vs' σ5 ov' ow5 or5 g5 σ6 g6 hz1 σ7 g7 hz2
  have hLb := ow4.bound
  have hvl := or4.len
  have rr7 : RRs σ7 vs L := inferInstance
  refine hold_go ?_
  repeat' (first
    | refine wp_region_seq ?_
    | refine thru_seq_next ?_
    | refine wp_blockA ?_
    | refine wl_nil ?_
    | refine wl_pop rfl (po_assign rfl) ?_
    | fail)
  refine wc_loop [(4, _)] (fun k : Nat => [(6, I k)]) (fun k σ' => k ≤ L.length ∧ LeS σ7 σ') (fun k => L.length - k) 0 ⟨Nat.zero_le _, inferInstance⟩ (by repeat' (first | exact sub_nil | refine sub_cons rfl ?_ | refine sub_int rfl (by first | rfl | omega | (push_cast; omega) | simp) ?_ | refine sub_eq rfl (by assumption) ?_)) ?_
  rintro k σ' ⟨hk, hgr⟩
  have := hgr.grow
  repeat' (first
    | refine wl_pop rfl (pc_lenRow rfl inferInstance inferInstance) ?_
    | refine wp_seqA ?_
    | refine wp_region_seq ?_
    | refine thru_seq_next ?_
    | refine thru_seq ?_
    | refine exit_here ?_
    | refine wp_skipA ?_
    | refine wp_retA ?_
    | refine wp_exitA ?_
    | refine wp_blockA ?_
    | refine wl_nil ?_
    | refine wl_pop rfl (po_move rfl) ?_
    | refine wl_pop rfl (po_assign rfl) ?_
    | refine wl_pop rfl (po_binOp rfl rfl rfl) ?_
    | refine wp_condP rfl (fun _ => ?_) (fun _ => ?_)
    | refine at_ret (res1 rfl rfl) ?_
    | exact ret_ inferInstance rfl
    | fail)
  have hk' : k < L.length := by omega
  have hkv : k < vs.length := by omega
  have hkb := (rr7.row k).bound
  have hk0 : k = 0 ∨ 0 < k := by omega
  rcases hk0 with rfl | hk0
  · have e0 : (L.getD (Int.toNat 0) []).length = (L.getD 0 []).length := rfl
    refine wc_drawn [] mixed_ rfl ?_
    all_goals refine da_takeC 0 rfl rfl (by kernel_rfl) (by first | exact po_move rfl | fail) ?_
    all_goals refine da_takeC 1 rfl rfl (by kernel_rfl) (by first | exact po_binOp rfl rfl rfl | fail) ?_
    all_goals refine da_takeC 2 rfl rfl (by kernel_rfl) (by first | exact po_move rfl | fail) ?_
    all_goals (first | refine da_onC 3 rfl rfl rfl rfl rfl (by kernel_rfl) (by first | exact po_move rfl | fail) ?_ | refine da_offC 3 rfl rfl rfl rfl rfl rfl (by kernel_rfl) ?_ | refine da_offU 3 rfl rfl rfl rfl rfl (by kernel_rfl) ?_ | ((first | refine da_caseP (t := 44) rfl (fun _ => ?_) (fun _ => ?_) | refine da_caseNP (t := 44) rfl (fun _ => ?_) (fun _ => ?_) | refine da_caseEq (t := 44) rfl (fun _ => ?_) (fun _ => ?_) | refine da_caseNe (t := 44) rfl (fun _ => ?_) (fun _ => ?_) | refine da_caseNB (t := 44) rfl (fun _ => ?_) (fun _ => ?_) | refine da_case (t := 44) rfl (fun _ => ?_) (fun _ => ?_)) <;> (first | refine da_onC 3 rfl rfl rfl rfl rfl (by kernel_rfl) (by first | exact po_move rfl | fail) ?_ | refine da_offC 3 rfl rfl rfl rfl rfl rfl (by kernel_rfl) ?_ | refine da_offU 3 rfl rfl rfl rfl rfl (by kernel_rfl) ?_)))
    all_goals (first | refine da_onC 4 rfl rfl rfl rfl rfl (by kernel_rfl) (by first | exact po_move rfl | fail) ?_ | refine da_offC 4 rfl rfl rfl rfl rfl rfl (by kernel_rfl) ?_ | refine da_offU 4 rfl rfl rfl rfl rfl (by kernel_rfl) ?_ | ((first | refine da_caseP (t := 44) rfl (fun _ => ?_) (fun _ => ?_) | refine da_caseNP (t := 44) rfl (fun _ => ?_) (fun _ => ?_) | refine da_caseEq (t := 44) rfl (fun _ => ?_) (fun _ => ?_) | refine da_caseNe (t := 44) rfl (fun _ => ?_) (fun _ => ?_) | refine da_caseNB (t := 44) rfl (fun _ => ?_) (fun _ => ?_) | refine da_case (t := 44) rfl (fun _ => ?_) (fun _ => ?_)) <;> (first | refine da_onC 4 rfl rfl rfl rfl rfl (by kernel_rfl) (by first | exact po_move rfl | fail) ?_ | refine da_offC 4 rfl rfl rfl rfl rfl rfl (by kernel_rfl) ?_ | refine da_offU 4 rfl rfl rfl rfl rfl (by kernel_rfl) ?_)))
    all_goals (first | refine da_onC 5 rfl rfl rfl rfl rfl (by kernel_rfl) (by first | fail) ?_ | refine da_offC 5 rfl rfl rfl rfl rfl rfl (by kernel_rfl) ?_ | refine da_offU 5 rfl rfl rfl rfl rfl (by kernel_rfl) ?_ | ((first | refine da_caseP (t := 44) rfl (fun _ => ?_) (fun _ => ?_) | refine da_caseNP (t := 44) rfl (fun _ => ?_) (fun _ => ?_) | refine da_caseEq (t := 44) rfl (fun _ => ?_) (fun _ => ?_) | refine da_caseNe (t := 44) rfl (fun _ => ?_) (fun _ => ?_) | refine da_caseNB (t := 44) rfl (fun _ => ?_) (fun _ => ?_) | refine da_case (t := 44) rfl (fun _ => ?_) (fun _ => ?_)) <;> (first | refine da_onC 5 rfl rfl rfl rfl rfl (by kernel_rfl) (by first | fail) ?_ | refine da_offC 5 rfl rfl rfl rfl rfl rfl (by kernel_rfl) ?_ | refine da_offU 5 rfl rfl rfl rfl rfl (by kernel_rfl) ?_)))
    all_goals (first | refine da_onC 6 rfl rfl rfl rfl rfl (by kernel_rfl) (by first | fail) ?_ | refine da_offC 6 rfl rfl rfl rfl rfl rfl (by kernel_rfl) ?_ | refine da_offU 6 rfl rfl rfl rfl rfl (by kernel_rfl) ?_ | ((first | refine da_caseP (t := 44) rfl (fun _ => ?_) (fun _ => ?_) | refine da_caseNP (t := 44) rfl (fun _ => ?_) (fun _ => ?_) | refine da_caseEq (t := 44) rfl (fun _ => ?_) (fun _ => ?_) | refine da_caseNe (t := 44) rfl (fun _ => ?_) (fun _ => ?_) | refine da_caseNB (t := 44) rfl (fun _ => ?_) (fun _ => ?_) | refine da_case (t := 44) rfl (fun _ => ?_) (fun _ => ?_)) <;> (first | refine da_onC 6 rfl rfl rfl rfl rfl (by kernel_rfl) (by first | fail) ?_ | refine da_offC 6 rfl rfl rfl rfl rfl rfl (by kernel_rfl) ?_ | refine da_offU 6 rfl rfl rfl rfl rfl (by kernel_rfl) ?_)))
    all_goals (first | refine da_onC 7 rfl rfl rfl rfl rfl (by kernel_rfl) (by first | exact po_move rfl | fail) ?_ | refine da_offC 7 rfl rfl rfl rfl rfl rfl (by kernel_rfl) ?_ | refine da_offU 7 rfl rfl rfl rfl rfl (by kernel_rfl) ?_ | ((first | refine da_caseP (t := 44) rfl (fun _ => ?_) (fun _ => ?_) | refine da_caseNP (t := 44) rfl (fun _ => ?_) (fun _ => ?_) | refine da_caseEq (t := 44) rfl (fun _ => ?_) (fun _ => ?_) | refine da_caseNe (t := 44) rfl (fun _ => ?_) (fun _ => ?_) | refine da_caseNB (t := 44) rfl (fun _ => ?_) (fun _ => ?_) | refine da_case (t := 44) rfl (fun _ => ?_) (fun _ => ?_)) <;> (first | refine da_onC 7 rfl rfl rfl rfl rfl (by kernel_rfl) (by first | exact po_move rfl | fail) ?_ | refine da_offC 7 rfl rfl rfl rfl rfl rfl (by kernel_rfl) ?_ | refine da_offU 7 rfl rfl rfl rfl rfl (by kernel_rfl) ?_)))
    all_goals (first | refine da_onC 8 rfl rfl rfl rfl rfl (by kernel_rfl) (by first | exact po_move rfl | fail) ?_ | refine da_offC 8 rfl rfl rfl rfl rfl rfl (by kernel_rfl) ?_ | refine da_offU 8 rfl rfl rfl rfl rfl (by kernel_rfl) ?_ | ((first | refine da_caseP (t := 44) rfl (fun _ => ?_) (fun _ => ?_) | refine da_caseNP (t := 44) rfl (fun _ => ?_) (fun _ => ?_) | refine da_caseEq (t := 44) rfl (fun _ => ?_) (fun _ => ?_) | refine da_caseNe (t := 44) rfl (fun _ => ?_) (fun _ => ?_) | refine da_caseNB (t := 44) rfl (fun _ => ?_) (fun _ => ?_) | refine da_case (t := 44) rfl (fun _ => ?_) (fun _ => ?_)) <;> (first | refine da_onC 8 rfl rfl rfl rfl rfl (by kernel_rfl) (by first | exact po_move rfl | fail) ?_ | refine da_offC 8 rfl rfl rfl rfl rfl rfl (by kernel_rfl) ?_ | refine da_offU 8 rfl rfl rfl rfl rfl (by kernel_rfl) ?_)))
    all_goals (first | refine da_onC 9 rfl rfl rfl rfl rfl (by kernel_rfl) (by first | fail) ?_ | refine da_offC 9 rfl rfl rfl rfl rfl rfl (by kernel_rfl) ?_ | refine da_offU 9 rfl rfl rfl rfl rfl (by kernel_rfl) ?_ | ((first | refine da_caseP (t := 44) rfl (fun _ => ?_) (fun _ => ?_) | refine da_caseNP (t := 44) rfl (fun _ => ?_) (fun _ => ?_) | refine da_caseEq (t := 44) rfl (fun _ => ?_) (fun _ => ?_) | refine da_caseNe (t := 44) rfl (fun _ => ?_) (fun _ => ?_) | refine da_caseNB (t := 44) rfl (fun _ => ?_) (fun _ => ?_) | refine da_case (t := 44) rfl (fun _ => ?_) (fun _ => ?_)) <;> (first | refine da_onC 9 rfl rfl rfl rfl rfl (by kernel_rfl) (by first | fail) ?_ | refine da_offC 9 rfl rfl rfl rfl rfl rfl (by kernel_rfl) ?_ | refine da_offU 9 rfl rfl rfl rfl rfl (by kernel_rfl) ?_)))
    all_goals (first | refine da_onC 10 rfl rfl rfl rfl rfl (by kernel_rfl) (by first | fail) ?_ | refine da_offC 10 rfl rfl rfl rfl rfl rfl (by kernel_rfl) ?_ | refine da_offU 10 rfl rfl rfl rfl rfl (by kernel_rfl) ?_ | ((first | refine da_caseP (t := 44) rfl (fun _ => ?_) (fun _ => ?_) | refine da_caseNP (t := 44) rfl (fun _ => ?_) (fun _ => ?_) | refine da_caseEq (t := 44) rfl (fun _ => ?_) (fun _ => ?_) | refine da_caseNe (t := 44) rfl (fun _ => ?_) (fun _ => ?_) | refine da_caseNB (t := 44) rfl (fun _ => ?_) (fun _ => ?_) | refine da_case (t := 44) rfl (fun _ => ?_) (fun _ => ?_)) <;> (first | refine da_onC 10 rfl rfl rfl rfl rfl (by kernel_rfl) (by first | fail) ?_ | refine da_offC 10 rfl rfl rfl rfl rfl rfl (by kernel_rfl) ?_ | refine da_offU 10 rfl rfl rfl rfl rfl (by kernel_rfl) ?_)))
    all_goals (first | refine da_onC 11 rfl rfl rfl rfl rfl (by kernel_rfl) (by first | fail) ?_ | refine da_offC 11 rfl rfl rfl rfl rfl rfl (by kernel_rfl) ?_ | refine da_offU 11 rfl rfl rfl rfl rfl (by kernel_rfl) ?_ | ((first | refine da_caseP (t := 44) rfl (fun _ => ?_) (fun _ => ?_) | refine da_caseNP (t := 44) rfl (fun _ => ?_) (fun _ => ?_) | refine da_caseEq (t := 44) rfl (fun _ => ?_) (fun _ => ?_) | refine da_caseNe (t := 44) rfl (fun _ => ?_) (fun _ => ?_) | refine da_caseNB (t := 44) rfl (fun _ => ?_) (fun _ => ?_) | refine da_case (t := 44) rfl (fun _ => ?_) (fun _ => ?_)) <;> (first | refine da_onC 11 rfl rfl rfl rfl rfl (by kernel_rfl) (by first | fail) ?_ | refine da_offC 11 rfl rfl rfl rfl rfl rfl (by kernel_rfl) ?_ | refine da_offU 11 rfl rfl rfl rfl rfl (by kernel_rfl) ?_)))
    all_goals (first | refine da_offC 12 rfl rfl rfl rfl rfl rfl (by kernel_rfl) ?_ | refine da_offU 12 rfl rfl rfl rfl rfl (by kernel_rfl) ?_ | (refine da_one 12 rfl (by kernel_rfl) (fun _ _ _ _ => ?_); (repeat' (first | fail)); all_goals (first | refine wl_nil ⟨rfl, (by first | exact LeS.len inferInstance | exact App.len (by assumption)), ?_⟩ | trace_state)) | ((first | refine da_caseP (t := 44) rfl (fun _ => ?_) (fun _ => ?_) | refine da_caseNP (t := 44) rfl (fun _ => ?_) (fun _ => ?_) | refine da_caseEq (t := 44) rfl (fun _ => ?_) (fun _ => ?_) | refine da_caseNe (t := 44) rfl (fun _ => ?_) (fun _ => ?_) | refine da_caseNB (t := 44) rfl (fun _ => ?_) (fun _ => ?_) | refine da_case (t := 44) rfl (fun _ => ?_) (fun _ => ?_)) <;> (first | refine da_offC 12 rfl rfl rfl rfl rfl rfl (by kernel_rfl) ?_ | refine da_offU 12 rfl rfl rfl rfl rfl (by kernel_rfl) ?_ | (refine da_one 12 rfl (by kernel_rfl) (fun _ _ _ _ => ?_); (repeat' (first | fail)); all_goals (first | refine wl_nil ⟨rfl, (by first | exact LeS.len inferInstance | exact App.len (by assumption)), ?_⟩ | trace_state)))))
    all_goals (first | refine da_onC 13 rfl rfl rfl rfl rfl (by kernel_rfl) (by first | fail) ?_ | refine da_offC 13 rfl rfl rfl rfl rfl rfl (by kernel_rfl) ?_ | refine da_offU 13 rfl rfl rfl rfl rfl (by kernel_rfl) ?_ | ((first | refine da_caseP (t := 44) rfl (fun _ => ?_) (fun _ => ?_) | refine da_caseNP (t := 44) rfl (fun _ => ?_) (fun _ => ?_) | refine da_caseEq (t := 44) rfl (fun _ => ?_) (fun _ => ?_) | refine da_caseNe (t := 44) rfl (fun _ => ?_) (fun _ => ?_) | refine da_caseNB (t := 44) rfl (fun _ => ?_) (fun _ => ?_) | refine da_case (t := 44) rfl (fun _ => ?_) (fun _ => ?_)) <;> (first | refine da_onC 13 rfl rfl rfl rfl rfl (by kernel_rfl) (by first | fail) ?_ | refine da_offC 13 rfl rfl rfl rfl rfl rfl (by kernel_rfl) ?_ | refine da_offU 13 rfl rfl rfl rfl rfl (by kernel_rfl) ?_)))
    all_goals (first | refine da_onC 14 rfl rfl rfl rfl rfl (by kernel_rfl) (by first | exact po_move rfl | fail) ?_ | refine da_offC 14 rfl rfl rfl rfl rfl rfl (by kernel_rfl) ?_ | refine da_offU 14 rfl rfl rfl rfl rfl (by kernel_rfl) ?_ | ((first | refine da_caseP (t := 44) rfl (fun _ => ?_) (fun _ => ?_) | refine da_caseNP (t := 44) rfl (fun _ => ?_) (fun _ => ?_) | refine da_caseEq (t := 44) rfl (fun _ => ?_) (fun _ => ?_) | refine da_caseNe (t := 44) rfl (fun _ => ?_) (fun _ => ?_) | refine da_caseNB (t := 44) rfl (fun _ => ?_) (fun _ => ?_) | refine da_case (t := 44) rfl (fun _ => ?_) (fun _ => ?_)) <;> (first | refine da_onC 14 rfl rfl rfl rfl rfl (by kernel_rfl) (by first | exact po_move rfl | fail) ?_ | refine da_offC 14 rfl rfl rfl rfl rfl rfl (by kernel_rfl) ?_ | refine da_offU 14 rfl rfl rfl rfl rfl (by kernel_rfl) ?_)))
    all_goals (first | refine da_onC 15 rfl rfl rfl rfl rfl (by kernel_rfl) (by first | exact po_move rfl | fail) ?_ | refine da_offC 15 rfl rfl rfl rfl rfl rfl (by kernel_rfl) ?_ | refine da_offU 15 rfl rfl rfl rfl rfl (by kernel_rfl) ?_ | ((first | refine da_caseP (t := 56) rfl (fun _ => ?_) (fun _ => ?_) | refine da_caseNP (t := 56) rfl (fun _ => ?_) (fun _ => ?_) | refine da_caseEq (t := 56) rfl (fun _ => ?_) (fun _ => ?_) | refine da_caseNe (t := 56) rfl (fun _ => ?_) (fun _ => ?_) | refine da_caseNB (t := 56) rfl (fun _ => ?_) (fun _ => ?_) | refine da_case (t := 56) rfl (fun _ => ?_) (fun _ => ?_)) <;> (first | refine da_onC 15 rfl rfl rfl rfl rfl (by kernel_rfl) (by first | exact po_move rfl | fail) ?_ | refine da_offC 15 rfl rfl rfl rfl rfl rfl (by kernel_rfl) ?_ | refine da_offU 15 rfl rfl rfl rfl rfl (by kernel_rfl) ?_)))
    all_goals (first | refine da_onC 16 rfl rfl rfl rfl rfl (by kernel_rfl) (by first | exact po_move rfl | fail) ?_ | refine da_offC 16 rfl rfl rfl rfl rfl rfl (by kernel_rfl) ?_ | refine da_offU 16 rfl rfl rfl rfl rfl (by kernel_rfl) ?_ | ((first | refine da_caseP (t := 56) rfl (fun _ => ?_) (fun _ => ?_) | refine da_caseNP (t := 56) rfl (fun _ => ?_) (fun _ => ?_) | refine da_caseEq (t := 56) rfl (fun _ => ?_) (fun _ => ?_) | refine da_caseNe (t := 56) rfl (fun _ => ?_) (fun _ => ?_) | refine da_caseNB (t := 56) rfl (fun _ => ?_) (fun _ => ?_) | refine da_case (t := 56) rfl (fun _ => ?_) (fun _ => ?_)) <;> (first | refine da_onC 16 rfl rfl rfl rfl rfl (by kernel_rfl) (by first | exact po_move rfl | fail) ?_ | refine da_offC 16 rfl rfl rfl rfl rfl rfl (by kernel_rfl) ?_ | refine da_offU 16 rfl rfl rfl rfl rfl (by kernel_rfl) ?_)))
    all_goals (first | refine da_onC 17 rfl rfl rfl rfl rfl (by kernel_rfl) (by first | fail) ?_ | refine da_offC 17 rfl rfl rfl rfl rfl rfl (by kernel_rfl) ?_ | refine da_offU 17 rfl rfl rfl rfl rfl (by kernel_rfl) ?_ | ((first | refine da_caseP (t := 56) rfl (fun _ => ?_) (fun _ => ?_) | refine da_caseNP (t := 56) rfl (fun _ => ?_) (fun _ => ?_) | refine da_caseEq (t := 56) rfl (fun _ => ?_) (fun _ => ?_) | refine da_caseNe (t := 56) rfl (fun _ => ?_) (fun _ => ?_) | refine da_caseNB (t := 56) rfl (fun _ => ?_) (fun _ => ?_) | refine da_case (t := 56) rfl (fun _ => ?_) (fun _ => ?_)) <;> (first | refine da_onC 17 rfl rfl rfl rfl rfl (by kernel_rfl) (by first | fail) ?_ | refine da_offC 17 rfl rfl rfl rfl rfl rfl (by kernel_rfl) ?_ | refine da_offU 17 rfl rfl rfl rfl rfl (by kernel_rfl) ?_)))
    all_goals (first | refine da_onC 18 rfl rfl rfl rfl rfl (by kernel_rfl) (by first | fail) ?_ | refine da_offC 18 rfl rfl rfl rfl rfl rfl (by kernel_rfl) ?_ | refine da_offU 18 rfl rfl rfl rfl rfl (by kernel_rfl) ?_ | ((first | refine da_caseP (t := 56) rfl (fun _ => ?_) (fun _ => ?_) | refine da_caseNP (t := 56) rfl (fun _ => ?_) (fun _ => ?_) | refine da_caseEq (t := 56) rfl (fun _ => ?_) (fun _ => ?_) | refine da_caseNe (t := 56) rfl (fun _ => ?_) (fun _ => ?_) | refine da_caseNB (t := 56) rfl (fun _ => ?_) (fun _ => ?_) | refine da_case (t := 56) rfl (fun _ => ?_) (fun _ => ?_)) <;> (first | refine da_onC 18 rfl rfl rfl rfl rfl (by kernel_rfl) (by first | fail) ?_ | refine da_offC 18 rfl rfl rfl rfl rfl rfl (by kernel_rfl) ?_ | refine da_offU 18 rfl rfl rfl rfl rfl (by kernel_rfl) ?_)))
    all_goals (first | refine da_onC 19 rfl rfl rfl rfl rfl (by kernel_rfl) (by first | exact po_move rfl | fail) ?_ | refine da_offC 19 rfl rfl rfl rfl rfl rfl (by kernel_rfl) ?_ | refine da_offU 19 rfl rfl rfl rfl rfl (by kernel_rfl) ?_ | ((first | refine da_caseP (t := 56) rfl (fun _ => ?_) (fun _ => ?_) | refine da_caseNP (t := 56) rfl (fun _ => ?_) (fun _ => ?_) | refine da_caseEq (t := 56) rfl (fun _ => ?_) (fun _ => ?_) | refine da_caseNe (t := 56) rfl (fun _ => ?_) (fun _ => ?_) | refine da_caseNB (t := 56) rfl (fun _ => ?_) (fun _ => ?_) | refine da_case (t := 56) rfl (fun _ => ?_) (fun _ => ?_)) <;> (first | refine da_onC 19 rfl rfl rfl rfl rfl (by kernel_rfl) (by first | exact po_move rfl | fail) ?_ | refine da_offC 19 rfl rfl rfl rfl rfl rfl (by kernel_rfl) ?_ | refine da_offU 19 rfl rfl rfl rfl rfl (by kernel_rfl) ?_)))
    all_goals (first | refine da_onC 20 rfl rfl rfl rfl rfl (by kernel_rfl) (by first | exact po_move rfl | fail) ?_ | refine da_offC 20 rfl rfl rfl rfl rfl rfl (by kernel_rfl) ?_ | refine da_offU 20 rfl rfl rfl rfl rfl (by kernel_rfl) ?_ | ((first | refine da_caseP (t := 56) rfl (fun _ => ?_) (fun _ => ?_) | refine da_caseNP (t := 56) rfl (fun _ => ?_) (fun _ => ?_) | refine da_caseEq (t := 56) rfl (fun _ => ?_) (fun _ => ?_) | refine da_caseNe (t := 56) rfl (fun _ => ?_) (fun _ => ?_) | refine da_caseNB (t := 56) rfl (fun _ => ?_) (fun _ => ?_) | refine da_case (t := 56) rfl (fun _ => ?_) (fun _ => ?_)) <;> (first | refine da_onC 20 rfl rfl rfl rfl rfl (by kernel_rfl) (by first | exact po_move rfl | fail) ?_ | refine da_offC 20 rfl rfl rfl rfl rfl rfl (by kernel_rfl) ?_ | refine da_offU 20 rfl rfl rfl rfl rfl (by kernel_rfl) ?_)))
    all_goals (first | refine da_onC 21 rfl rfl rfl rfl rfl (by kernel_rfl) (by first | fail) ?_ | refine da_offC 21 rfl rfl rfl rfl rfl rfl (by kernel_rfl) ?_ | refine da_offU 21 rfl rfl rfl rfl rfl (by kernel_rfl) ?_ | ((first | refine da_caseP (t := 56) rfl (fun _ => ?_) (fun _ => ?_) | refine da_caseNP (t := 56) rfl (fun _ => ?_) (fun _ => ?_) | refine da_caseEq (t := 56) rfl (fun _ => ?_) (fun _ => ?_) | refine da_caseNe (t := 56) rfl (fun _ => ?_) (fun _ => ?_) | refine da_caseNB (t := 56) rfl (fun _ => ?_) (fun _ => ?_) | refine da_case (t := 56) rfl (fun _ => ?_) (fun _ => ?_)) <;> (first | refine da_onC 21 rfl rfl rfl rfl rfl (by kernel_rfl) (by first | fail) ?_ | refine da_offC 21 rfl rfl rfl rfl rfl rfl (by kernel_rfl) ?_ | refine da_offU 21 rfl rfl rfl rfl rfl (by kernel_rfl) ?_)))
    all_goals (first | refine da_onC 22 rfl rfl rfl rfl rfl (by kernel_rfl) (by first | fail) ?_ | refine da_offC 22 rfl rfl rfl rfl rfl rfl (by kernel_rfl) ?_ | refine da_offU 22 rfl rfl rfl rfl rfl (by kernel_rfl) ?_ | ((first | refine da_caseP (t := 56) rfl (fun _ => ?_) (fun _ => ?_) | refine da_caseNP (t := 56) rfl (fun _ => ?_) (fun _ => ?_) | refine da_caseEq (t := 56) rfl (fun _ => ?_) (fun _ => ?_) | refine da_caseNe (t := 56) rfl (fun _ => ?_) (fun _ => ?_) | refine da_caseNB (t := 56) rfl (fun _ => ?_) (fun _ => ?_) | refine da_case (t := 56) rfl (fun _ => ?_) (fun _ => ?_)) <;> (first | refine da_onC 22 rfl rfl rfl rfl rfl (by kernel_rfl) (by first | fail) ?_ | refine da_offC 22 rfl rfl rfl rfl rfl rfl (by kernel_rfl) ?_ | refine da_offU 22 rfl rfl rfl rfl rfl (by kernel_rfl) ?_)))
    all_goals (first | refine da_onC 23 rfl rfl rfl rfl rfl (by kernel_rfl) (by first | fail) ?_ | refine da_offC 23 rfl rfl rfl rfl rfl rfl (by kernel_rfl) ?_ | refine da_offU 23 rfl rfl rfl rfl rfl (by kernel_rfl) ?_ | ((first | refine da_caseP (t := 56) rfl (fun _ => ?_) (fun _ => ?_) | refine da_caseNP (t := 56) rfl (fun _ => ?_) (fun _ => ?_) | refine da_caseEq (t := 56) rfl (fun _ => ?_) (fun _ => ?_) | refine da_caseNe (t := 56) rfl (fun _ => ?_) (fun _ => ?_) | refine da_caseNB (t := 56) rfl (fun _ => ?_) (fun _ => ?_) | refine da_case (t := 56) rfl (fun _ => ?_) (fun _ => ?_)) <;> (first | refine da_onC 23 rfl rfl rfl rfl rfl (by kernel_rfl) (by first | fail) ?_ | refine da_offC 23 rfl rfl rfl rfl rfl rfl (by kernel_rfl) ?_ | refine da_offU 23 rfl rfl rfl rfl rfl (by kernel_rfl) ?_)))
    all_goals (first | refine da_offC 24 rfl rfl rfl rfl rfl rfl (by kernel_rfl) ?_ | refine da_offU 24 rfl rfl rfl rfl rfl (by kernel_rfl) ?_ | (refine da_one 24 rfl (by kernel_rfl) (fun _ _ _ _ => ?_); (repeat' (first | fail)); all_goals (first | refine wl_nil ⟨rfl, (by first | exact LeS.len inferInstance | exact App.len (by assumption)), ?_⟩ | trace_state)) | ((first | refine da_caseP (t := 56) rfl (fun _ => ?_) (fun _ => ?_) | refine da_caseNP (t := 56) rfl (fun _ => ?_) (fun _ => ?_) | refine da_caseEq (t := 56) rfl (fun _ => ?_) (fun _ => ?_) | refine da_caseNe (t := 56) rfl (fun _ => ?_) (fun _ => ?_) | refine da_caseNB (t := 56) rfl (fun _ => ?_) (fun _ => ?_) | refine da_case (t := 56) rfl (fun _ => ?_) (fun _ => ?_)) <;> (first | refine da_offC 24 rfl rfl rfl rfl rfl rfl (by kernel_rfl) ?_ | refine da_offU 24 rfl rfl rfl rfl rfl (by kernel_rfl) ?_ | (refine da_one 24 rfl (by kernel_rfl) (fun _ _ _ _ => ?_); (repeat' (first | fail)); all_goals (first | refine wl_nil ⟨rfl, (by first | exact LeS.len inferInstance | exact App.len (by assumption)), ?_⟩ | trace_state)))))
    all_goals (first | refine da_onC 25 rfl rfl rfl rfl rfl (by kernel_rfl) (by first | fail) ?_ | refine da_offC 25 rfl rfl rfl rfl rfl rfl (by kernel_rfl) ?_ | refine da_offU 25 rfl rfl rfl rfl rfl (by kernel_rfl) ?_ | ((first | refine da_caseP (t := 44) rfl (fun _ => ?_) (fun _ => ?_) | refine da_caseNP (t := 44) rfl (fun _ => ?_) (fun _ => ?_) | refine da_caseEq (t := 44) rfl (fun _ => ?_) (fun _ => ?_) | refine da_caseNe (t := 44) rfl (fun _ => ?_) (fun _ => ?_) | refine da_caseNB (t := 44) rfl (fun _ => ?_) (fun _ => ?_) | refine da_case (t := 44) rfl (fun _ => ?_) (fun _ => ?_)) <;> (first | refine da_onC 25 rfl rfl rfl rfl rfl (by kernel_rfl) (by first | fail) ?_ | refine da_offC 25 rfl rfl rfl rfl rfl rfl (by kernel_rfl) ?_ | refine da_offU 25 rfl rfl rfl rfl rfl (by kernel_rfl) ?_)))
    all_goals refine da_takeC 26 rfl rfl (by kernel_rfl) (by first | exact po_pick rfl rfl | fail) ?_
    all_goals refine da_done (by kernel_rfl) ?_
    repeat' (first
      | refine wp_seqA ?_
      | refine wp_region_seq ?_
      | refine thru_seq_next ?_
      | refine wp_skipA ?_
      | refine wp_blockA ?_
      | refine wl_nil ?_
      | refine wl_pop rfl (po_assign rfl) ?_
      | refine wp_condF rfl ?_
      | fail)
    refine wc_loop [(4, _), (6, _)] (fun j : Nat => [(7, I j)]) (fun j σ'' => j ≤ (L.getD 0 []).length ∧ LeS σ' σ'') (fun j => (L.getD 0 []).length - j) 0 ⟨Nat.zero_le _, inferInstance⟩ (by repeat' (first | exact sub_nil | refine sub_cons rfl ?_ | refine sub_int rfl (by first | rfl | omega | (push_cast; omega) | simp) ?_ | refine sub_eq rfl (by assumption) ?_)) ?_
    rintro j σ'' ⟨hj, hgr2⟩
    have := hgr2.grow
    repeat' (first
      | refine wl_pop rfl (pc_ldAV rfl inferInstance inferInstance (by omega) inferInstance) ?_
      | refine wl_pop rfl (pc_indexRow rfl rfl inferInstance inferInstance inferInstance (by omega)) ?_
      | refine wl_pop rfl (pc_indexRowZ rfl rfl inferInstance inferInstance inferInstance (by omega) (by omega)) ?_
      | refine wl_pop rfl (pc_lenRow rfl inferInstance inferInstance) ?_
      | refine wp_seqA ?_
      | refine wp_region_seq ?_
      | refine thru_seq_next ?_
      | refine thru_seq ?_
      | refine thru_block_next ?_
      | refine exit_here ?_
      | refine wp_skipA ?_
      | refine wp_exitA ?_
      | refine wp_blockA ?_
      | refine wl_nil ?_
      | refine wl_pop rfl (po_move rfl) ?_
      | refine wl_pop rfl (po_assign rfl) ?_
      | refine wl_pop rfl (pc_add rfl rfl (by omega) (by omega)) ?_
      | refine wl_pop rfl (po_binOp rfl rfl rfl) ?_
      | refine wl_pop rfl (po_pick rfl rfl) ?_
      | refine wc_guardT_true rfl rfl rfl ?_
      | refine wc_guardF_true rfl rfl rfl rfl ?_
      | refine wc_guardP_true rfl rfl rfl rfl (fun _ => ?_) (fun _ => ?_)
      | refine wp_condT rfl ?_
      | refine wp_condF rfl ?_
      | fail)
    · have e1 : (j : Int).toNat < (L.getD 0 []).length := by omega
      have e2 : RW σ'' (vs.getD 0 nilS) (L.getD 0 []) := inferInstance
      refine wl_pop rfl (pc_ldNat rfl inferInstance e2 e1 inferInstance) ?_
      repeat' (first
        | refine wp_seqA ?_
        | refine wp_region_seq ?_
        | refine thru_seq_next ?_
        | refine thru_seq_ret ?_
        | refine thru_block_ret ?_
        | refine thru_block_next ?_
        | refine wp_skipA ?_
        | refine wp_retA ?_
        | refine wl_nil ?_
        | refine wl_pop rfl (po_move rfl) ?_
        | refine wl_pop rfl (po_assign rfl) ?_
        | refine wl_pop rfl (pc_add rfl rfl (by omega) (by omega)) ?_
        | refine wl_pop rfl (po_binOp rfl rfl rfl) ?_
        | refine wp_condNP rfl (fun _ => ?_) (fun _ => ?_)
        | refine at_ret (res1 rfl rfl) ?_
        | fail)
      · rename_i h2
        exact absurd (congrArg Int.ofNat (hx3 _)) h2
      · exact ⟨j + 1, by omega, ⟨by omega, inferInstance⟩, (by repeat' (first | exact sub_nil | refine sub_cons rfl ?_ | refine sub_int rfl (by first | rfl | omega | (push_cast; omega) | simp) ?_ | refine sub_eq rfl (by assumption) ?_))⟩
    · exact ⟨0 + 1, by omega, ⟨by omega, inferInstance⟩, (by repeat' (first | exact sub_nil | refine sub_cons rfl ?_ | refine sub_int rfl (by first | rfl | omega | (push_cast; omega) | simp) ?_ | refine sub_eq rfl (by assumption) ?_))⟩
  · obtain ⟨hf, hne⟩ := hx4 ((k : Int) - 1).toNat (by omega)
    have hkm : ((k : Int) - 1).toNat + 1 = k := by omega
    rw [hkm] at hf hne
    refine wc_drawn [] mixed_ rfl ?_
    all_goals refine da_takeC 0 rfl rfl (by kernel_rfl) (by first | exact po_move rfl | fail) ?_
    all_goals refine da_takeC 1 rfl rfl (by kernel_rfl) (by first | exact po_binOp rfl rfl rfl | fail) ?_
    all_goals refine da_takeC 2 rfl rfl (by kernel_rfl) (by first | exact po_move rfl | fail) ?_
    all_goals (first | refine da_onC 3 rfl rfl rfl rfl rfl (by kernel_rfl) (by first | exact po_move rfl | fail) ?_ | refine da_offC 3 rfl rfl rfl rfl rfl rfl (by kernel_rfl) ?_ | refine da_offU 3 rfl rfl rfl rfl rfl (by kernel_rfl) ?_ | ((first | refine da_caseP (t := 44) rfl (fun _ => ?_) (fun _ => ?_) | refine da_caseNP (t := 44) rfl (fun _ => ?_) (fun _ => ?_) | refine da_caseEq (t := 44) rfl (fun _ => ?_) (fun _ => ?_) | refine da_caseNe (t := 44) rfl (fun _ => ?_) (fun _ => ?_) | refine da_caseNB (t := 44) rfl (fun _ => ?_) (fun _ => ?_) | refine da_case (t := 44) rfl (fun _ => ?_) (fun _ => ?_)) <;> (first | refine da_onC 3 rfl rfl rfl rfl rfl (by kernel_rfl) (by first | exact po_move rfl | fail) ?_ | refine da_offC 3 rfl rfl rfl rfl rfl rfl (by kernel_rfl) ?_ | refine da_offU 3 rfl rfl rfl rfl rfl (by kernel_rfl) ?_)))
    all_goals (first | refine da_onC 4 rfl rfl rfl rfl rfl (by kernel_rfl) (by first | exact po_move rfl | fail) ?_ | refine da_offC 4 rfl rfl rfl rfl rfl rfl (by kernel_rfl) ?_ | refine da_offU 4 rfl rfl rfl rfl rfl (by kernel_rfl) ?_ | ((first | refine da_caseP (t := 44) rfl (fun _ => ?_) (fun _ => ?_) | refine da_caseNP (t := 44) rfl (fun _ => ?_) (fun _ => ?_) | refine da_caseEq (t := 44) rfl (fun _ => ?_) (fun _ => ?_) | refine da_caseNe (t := 44) rfl (fun _ => ?_) (fun _ => ?_) | refine da_caseNB (t := 44) rfl (fun _ => ?_) (fun _ => ?_) | refine da_case (t := 44) rfl (fun _ => ?_) (fun _ => ?_)) <;> (first | refine da_onC 4 rfl rfl rfl rfl rfl (by kernel_rfl) (by first | exact po_move rfl | fail) ?_ | refine da_offC 4 rfl rfl rfl rfl rfl rfl (by kernel_rfl) ?_ | refine da_offU 4 rfl rfl rfl rfl rfl (by kernel_rfl) ?_)))
    all_goals (first | refine da_onC 5 rfl rfl rfl rfl rfl (by kernel_rfl) (by first | exact pc_indexRowZ rfl rfl inferInstance inferInstance inferInstance (by omega) (by omega) | fail) ?_ | refine da_offC 5 rfl rfl rfl rfl rfl rfl (by kernel_rfl) ?_ | refine da_offU 5 rfl rfl rfl rfl rfl (by kernel_rfl) ?_ | ((first | refine da_caseP (t := 44) rfl (fun _ => ?_) (fun _ => ?_) | refine da_caseNP (t := 44) rfl (fun _ => ?_) (fun _ => ?_) | refine da_caseEq (t := 44) rfl (fun _ => ?_) (fun _ => ?_) | refine da_caseNe (t := 44) rfl (fun _ => ?_) (fun _ => ?_) | refine da_caseNB (t := 44) rfl (fun _ => ?_) (fun _ => ?_) | refine da_case (t := 44) rfl (fun _ => ?_) (fun _ => ?_)) <;> (first | refine da_onC 5 rfl rfl rfl rfl rfl (by kernel_rfl) (by first | exact pc_indexRowZ rfl rfl inferInstance inferInstance inferInstance (by omega) (by omega) | fail) ?_ | refine da_offC 5 rfl rfl rfl rfl rfl rfl (by kernel_rfl) ?_ | refine da_offU 5 rfl rfl rfl rfl rfl (by kernel_rfl) ?_)))
    all_goals (first | refine da_onC 6 rfl rfl rfl rfl rfl (by kernel_rfl) (by first | exact pc_ldAV rfl inferInstance inferInstance (by omega) inferInstance | fail) ?_ | refine da_offC 6 rfl rfl rfl rfl rfl rfl (by kernel_rfl) ?_ | refine da_offU 6 rfl rfl rfl rfl rfl (by kernel_rfl) ?_ | ((first | refine da_caseP (t := 44) rfl (fun _ => ?_) (fun _ => ?_) | refine da_caseNP (t := 44) rfl (fun _ => ?_) (fun _ => ?_) | refine da_caseEq (t := 44) rfl (fun _ => ?_) (fun _ => ?_) | refine da_caseNe (t := 44) rfl (fun _ => ?_) (fun _ => ?_) | refine da_caseNB (t := 44) rfl (fun _ => ?_) (fun _ => ?_) | refine da_case (t := 44) rfl (fun _ => ?_) (fun _ => ?_)) <;> (first | refine da_onC 6 rfl rfl rfl rfl rfl (by kernel_rfl) (by first | exact pc_ldAV rfl inferInstance inferInstance (by omega) inferInstance | fail) ?_ | refine da_offC 6 rfl rfl rfl rfl rfl rfl (by kernel_rfl) ?_ | refine da_offU 6 rfl rfl rfl rfl rfl (by kernel_rfl) ?_)))
    all_goals (first | refine da_onC 7 rfl rfl rfl rfl rfl (by kernel_rfl) (by first | exact po_move rfl | fail) ?_ | refine da_offC 7 rfl rfl rfl rfl rfl rfl (by kernel_rfl) ?_ | refine da_offU 7 rfl rfl rfl rfl rfl (by kernel_rfl) ?_ | ((first | refine da_caseP (t := 44) rfl (fun _ => ?_) (fun _ => ?_) | refine da_caseNP (t := 44) rfl (fun _ => ?_) (fun _ => ?_) | refine da_caseEq (t := 44) rfl (fun _ => ?_) (fun _ => ?_) | refine da_caseNe (t := 44) rfl (fun _ => ?_) (fun _ => ?_) | refine da_caseNB (t := 44) rfl (fun _ => ?_) (fun _ => ?_) | refine da_case (t := 44) rfl (fun _ => ?_) (fun _ => ?_)) <;> (first | refine da_onC 7 rfl rfl rfl rfl rfl (by kernel_rfl) (by first | exact po_move rfl | fail) ?_ | refine da_offC 7 rfl rfl rfl rfl rfl rfl (by kernel_rfl) ?_ | refine da_offU 7 rfl rfl rfl rfl rfl (by kernel_rfl) ?_)))
    all_goals (first | refine da_onC 8 rfl rfl rfl rfl rfl (by kernel_rfl) (by first | exact po_move rfl | fail) ?_ | refine da_offC 8 rfl rfl rfl rfl rfl rfl (by kernel_rfl) ?_ | refine da_offU 8 rfl rfl rfl rfl rfl (by kernel_rfl) ?_ | ((first | refine da_caseP (t := 44) rfl (fun _ => ?_) (fun _ => ?_) | refine da_caseNP (t := 44) rfl (fun _ => ?_) (fun _ => ?_) | refine da_caseEq (t := 44) rfl (fun _ => ?_) (fun _ => ?_) | refine da_caseNe (t := 44) rfl (fun _ => ?_) (fun _ => ?_) | refine da_caseNB (t := 44) rfl (fun _ => ?_) (fun _ => ?_) | refine da_case (t := 44) rfl (fun _ => ?_) (fun _ => ?_)) <;> (first | refine da_onC 8 rfl rfl rfl rfl rfl (by kernel_rfl) (by first | exact po_move rfl | fail) ?_ | refine da_offC 8 rfl rfl rfl rfl rfl rfl (by kernel_rfl) ?_ | refine da_offU 8 rfl rfl rfl rfl rfl (by kernel_rfl) ?_)))
    all_goals (first | refine da_onC 9 rfl rfl rfl rfl rfl (by kernel_rfl) (by first | exact pc_sub rfl rfl (by omega) (by omega) | fail) ?_ | refine da_offC 9 rfl rfl rfl rfl rfl rfl (by kernel_rfl) ?_ | refine da_offU 9 rfl rfl rfl rfl rfl (by kernel_rfl) ?_ | ((first | refine da_caseP (t := 44) rfl (fun _ => ?_) (fun _ => ?_) | refine da_caseNP (t := 44) rfl (fun _ => ?_) (fun _ => ?_) | refine da_caseEq (t := 44) rfl (fun _ => ?_) (fun _ => ?_) | refine da_caseNe (t := 44) rfl (fun _ => ?_) (fun _ => ?_) | refine da_caseNB (t := 44) rfl (fun _ => ?_) (fun _ => ?_) | refine da_case (t := 44) rfl (fun _ => ?_) (fun _ => ?_)) <;> (first | refine da_onC 9 rfl rfl rfl rfl rfl (by kernel_rfl) (by first | exact pc_sub rfl rfl (by omega) (by omega) | fail) ?_ | refine da_offC 9 rfl rfl rfl rfl rfl rfl (by kernel_rfl) ?_ | refine da_offU 9 rfl rfl rfl rfl rfl (by kernel_rfl) ?_)))
    all_goals (first | refine da_onC 10 rfl rfl rfl rfl rfl (by kernel_rfl) (by first | exact pc_indexRowZ rfl rfl inferInstance inferInstance inferInstance (by omega) (by omega) | fail) ?_ | refine da_offC 10 rfl rfl rfl rfl rfl rfl (by kernel_rfl) ?_ | refine da_offU 10 rfl rfl rfl rfl rfl (by kernel_rfl) ?_ | ((first | refine da_caseP (t := 44) rfl (fun _ => ?_) (fun _ => ?_) | refine da_caseNP (t := 44) rfl (fun _ => ?_) (fun _ => ?_) | refine da_caseEq (t := 44) rfl (fun _ => ?_) (fun _ => ?_) | refine da_caseNe (t := 44) rfl (fun _ => ?_) (fun _ => ?_) | refine da_caseNB (t := 44) rfl (fun _ => ?_) (fun _ => ?_) | refine da_case (t := 44) rfl (fun _ => ?_) (fun _ => ?_)) <;> (first | refine da_onC 10 rfl rfl rfl rfl rfl (by kernel_rfl) (by first | exact pc_indexRowZ rfl rfl inferInstance inferInstance inferInstance (by omega) (by omega) | fail) ?_ | refine da_offC 10 rfl rfl rfl rfl rfl rfl (by kernel_rfl) ?_ | refine da_offU 10 rfl rfl rfl rfl rfl (by kernel_rfl) ?_)))
    all_goals (first | refine da_onC 11 rfl rfl rfl rfl rfl (by kernel_rfl) (by first | exact pc_ldAV rfl inferInstance inferInstance (by omega) inferInstance | fail) ?_ | refine da_offC 11 rfl rfl rfl rfl rfl rfl (by kernel_rfl) ?_ | refine da_offU 11 rfl rfl rfl rfl rfl (by kernel_rfl) ?_ | ((first | refine da_caseP (t := 44) rfl (fun _ => ?_) (fun _ => ?_) | refine da_caseNP (t := 44) rfl (fun _ => ?_) (fun _ => ?_) | refine da_caseEq (t := 44) rfl (fun _ => ?_) (fun _ => ?_) | refine da_caseNe (t := 44) rfl (fun _ => ?_) (fun _ => ?_) | refine da_caseNB (t := 44) rfl (fun _ => ?_) (fun _ => ?_) | refine da_case (t := 44) rfl (fun _ => ?_) (fun _ => ?_)) <;> (first | refine da_onC 11 rfl rfl rfl rfl rfl (by kernel_rfl) (by first | exact pc_ldAV rfl inferInstance inferInstance (by omega) inferInstance | fail) ?_ | refine da_offC 11 rfl rfl rfl rfl rfl rfl (by kernel_rfl) ?_ | refine da_offU 11 rfl rfl rfl rfl rfl (by kernel_rfl) ?_)))
    all_goals (first | refine da_offC 12 rfl rfl rfl rfl rfl rfl (by kernel_rfl) ?_ | refine da_offU 12 rfl rfl rfl rfl rfl (by kernel_rfl) ?_ | (refine da_one 12 rfl (by kernel_rfl) (fun _ _ _ _ => ?_); (repeat' (first | (refine wc_callR rfl inferInstance rfl (c_mnFinerR _ _ _ hf) rfl ?_; intro _ _) | refine wc_guardT_true rfl rfl rfl ?_ | fail)); all_goals (first | refine wl_nil ⟨rfl, (by first | exact LeS.len inferInstance | exact App.len (by assumption)), ?_⟩ | trace_state)) | ((first | refine da_caseP (t := 44) rfl (fun _ => ?_) (fun _ => ?_) | refine da_caseNP (t := 44) rfl (fun _ => ?_) (fun _ => ?_) | refine da_caseEq (t := 44) rfl (fun _ => ?_) (fun _ => ?_) | refine da_caseNe (t := 44) rfl (fun _ => ?_) (fun _ => ?_) | refine da_caseNB (t := 44) rfl (fun _ => ?_) (fun _ => ?_) | refine da_case (t := 44) rfl (fun _ => ?_) (fun _ => ?_)) <;> (first | refine da_offC 12 rfl rfl rfl rfl rfl rfl (by kernel_rfl) ?_ | refine da_offU 12 rfl rfl rfl rfl rfl (by kernel_rfl) ?_ | (refine da_one 12 rfl (by kernel_rfl) (fun _ _ _ _ => ?_); (repeat' (first | (refine wc_callR rfl inferInstance rfl (c_mnFinerR _ _ _ hf) rfl ?_; intro _ _) | refine wc_guardT_true rfl rfl rfl ?_ | fail)); all_goals (first | refine wl_nil ⟨rfl, (by first | exact LeS.len inferInstance | exact App.len (by assumption)), ?_⟩ | trace_state)))))
    all_goals (first | refine da_onC 13 rfl rfl rfl rfl rfl (by kernel_rfl) (by first | exact po_not rfl | fail) ?_ | refine da_offC 13 rfl rfl rfl rfl rfl rfl (by kernel_rfl) ?_ | refine da_offU 13 rfl rfl rfl rfl rfl (by kernel_rfl) ?_ | ((first | refine da_caseP (t := 44) rfl (fun _ => ?_) (fun _ => ?_) | refine da_caseNP (t := 44) rfl (fun _ => ?_) (fun _ => ?_) | refine da_caseEq (t := 44) rfl (fun _ => ?_) (fun _ => ?_) | refine da_caseNe (t := 44) rfl (fun _ => ?_) (fun _ => ?_) | refine da_caseNB (t := 44) rfl (fun _ => ?_) (fun _ => ?_) | refine da_case (t := 44) rfl (fun _ => ?_) (fun _ => ?_)) <;> (first | refine da_onC 13 rfl rfl rfl rfl rfl (by kernel_rfl) (by first | exact po_not rfl | fail) ?_ | refine da_offC 13 rfl rfl rfl rfl rfl rfl (by kernel_rfl) ?_ | refine da_offU 13 rfl rfl rfl rfl rfl (by kernel_rfl) ?_)))
    all_goals (first | refine da_onC 14 rfl rfl rfl rfl rfl (by kernel_rfl) (by first | exact po_move rfl | fail) ?_ | refine da_offC 14 rfl rfl rfl rfl rfl rfl (by kernel_rfl) ?_ | refine da_offU 14 rfl rfl rfl rfl rfl (by kernel_rfl) ?_ | ((first | refine da_caseP (t := 44) rfl (fun _ => ?_) (fun _ => ?_) | refine da_caseNP (t := 44) rfl (fun _ => ?_) (fun _ => ?_) | refine da_caseEq (t := 44) rfl (fun _ => ?_) (fun _ => ?_) | refine da_caseNe (t := 44) rfl (fun _ => ?_) (fun _ => ?_) | refine da_caseNB (t := 44) rfl (fun _ => ?_) (fun _ => ?_) | refine da_case (t := 44) rfl (fun _ => ?_) (fun _ => ?_)) <;> (first | refine da_onC 14 rfl rfl rfl rfl rfl (by kernel_rfl) (by first | exact po_move rfl | fail) ?_ | refine da_offC 14 rfl rfl rfl rfl rfl rfl (by kernel_rfl) ?_ | refine da_offU 14 rfl rfl rfl rfl rfl (by kernel_rfl) ?_)))
    all_goals (first | refine da_onC 15 rfl rfl rfl rfl rfl (by kernel_rfl) (by first | exact po_move rfl | fail) ?_ | refine da_offC 15 rfl rfl rfl rfl rfl rfl (by kernel_rfl) ?_ | refine da_offU 15 rfl rfl rfl rfl rfl (by kernel_rfl) ?_ | ((first | refine da_caseP (t := 56) rfl (fun _ => ?_) (fun _ => ?_) | refine da_caseNP (t := 56) rfl (fun _ => ?_) (fun _ => ?_) | refine da_caseEq (t := 56) rfl (fun _ => ?_) (fun _ => ?_) | refine da_caseNe (t := 56) rfl (fun _ => ?_) (fun _ => ?_) | refine da_caseNB (t := 56) rfl (fun _ => ?_) (fun _ => ?_) | refine da_case (t := 56) rfl (fun _ => ?_) (fun _ => ?_)) <;> (first | refine da_onC 15 rfl rfl rfl rfl rfl (by kernel_rfl) (by first | exact po_move rfl | fail) ?_ | refine da_offC 15 rfl rfl rfl rfl rfl rfl (by kernel_rfl) ?_ | refine da_offU 15 rfl rfl rfl rfl rfl (by kernel_rfl) ?_)))
    all_goals (first | refine da_onC 16 rfl rfl rfl rfl rfl (by kernel_rfl) (by first | exact po_move rfl | fail) ?_ | refine da_offC 16 rfl rfl rfl rfl rfl rfl (by kernel_rfl) ?_ | refine da_offU 16 rfl rfl rfl rfl rfl (by kernel_rfl) ?_ | ((first | refine da_caseP (t := 56) rfl (fun _ => ?_) (fun _ => ?_) | refine da_caseNP (t := 56) rfl (fun _ => ?_) (fun _ => ?_) | refine da_caseEq (t := 56) rfl (fun _ => ?_) (fun _ => ?_) | refine da_caseNe (t := 56) rfl (fun _ => ?_) (fun _ => ?_) | refine da_caseNB (t := 56) rfl (fun _ => ?_) (fun _ => ?_) | refine da_case (t := 56) rfl (fun _ => ?_) (fun _ => ?_)) <;> (first | refine da_onC 16 rfl rfl rfl rfl rfl (by kernel_rfl) (by first | exact po_move rfl | fail) ?_ | refine da_offC 16 rfl rfl rfl rfl rfl rfl (by kernel_rfl) ?_ | refine da_offU 16 rfl rfl rfl rfl rfl (by kernel_rfl) ?_)))
    all_goals (first | refine da_onC 17 rfl rfl rfl rfl rfl (by kernel_rfl) (by first | exact pc_indexRowZ rfl rfl inferInstance inferInstance inferInstance (by omega) (by omega) | fail) ?_ | refine da_offC 17 rfl rfl rfl rfl rfl rfl (by kernel_rfl) ?_ | refine da_offU 17 rfl rfl rfl rfl rfl (by kernel_rfl) ?_ | ((first | refine da_caseP (t := 56) rfl (fun _ => ?_) (fun _ => ?_) | refine da_caseNP (t := 56) rfl (fun _ => ?_) (fun _ => ?_) | refine da_caseEq (t := 56) rfl (fun _ => ?_) (fun _ => ?_) | refine da_caseNe (t := 56) rfl (fun _ => ?_) (fun _ => ?_) | refine da_caseNB (t := 56) rfl (fun _ => ?_) (fun _ => ?_) | refine da_case (t := 56) rfl (fun _ => ?_) (fun _ => ?_)) <;> (first | refine da_onC 17 rfl rfl rfl rfl rfl (by kernel_rfl) (by first | exact pc_indexRowZ rfl rfl inferInstance inferInstance inferInstance (by omega) (by omega) | fail) ?_ | refine da_offC 17 rfl rfl rfl rfl rfl rfl (by kernel_rfl) ?_ | refine da_offU 17 rfl rfl rfl rfl rfl (by kernel_rfl) ?_)))
    all_goals (first | refine da_onC 18 rfl rfl rfl rfl rfl (by kernel_rfl) (by first | exact pc_ldAV rfl inferInstance inferInstance (by omega) inferInstance | fail) ?_ | refine da_offC 18 rfl rfl rfl rfl rfl rfl (by kernel_rfl) ?_ | refine da_offU 18 rfl rfl rfl rfl rfl (by kernel_rfl) ?_ | ((first | refine da_caseP (t := 56) rfl (fun _ => ?_) (fun _ => ?_) | refine da_caseNP (t := 56) rfl (fun _ => ?_) (fun _ => ?_) | refine da_caseEq (t := 56) rfl (fun _ => ?_) (fun _ => ?_) | refine da_caseNe (t := 56) rfl (fun _ => ?_) (fun _ => ?_) | refine da_caseNB (t := 56) rfl (fun _ => ?_) (fun _ => ?_) | refine da_case (t := 56) rfl (fun _ => ?_) (fun _ => ?_)) <;> (first | refine da_onC 18 rfl rfl rfl rfl rfl (by kernel_rfl) (by first | exact pc_ldAV rfl inferInstance inferInstance (by omega) inferInstance | fail) ?_ | refine da_offC 18 rfl rfl rfl rfl rfl rfl (by kernel_rfl) ?_ | refine da_offU 18 rfl rfl rfl rfl rfl (by kernel_rfl) ?_)))
    all_goals (first | refine da_onC 19 rfl rfl rfl rfl rfl (by kernel_rfl) (by first | exact po_move rfl | fail) ?_ | refine da_offC 19 rfl rfl rfl rfl rfl rfl (by kernel_rfl) ?_ | refine da_offU 19 rfl rfl rfl rfl rfl (by kernel_rfl) ?_ | ((first | refine da_caseP (t := 56) rfl (fun _ => ?_) (fun _ => ?_) | refine da_caseNP (t := 56) rfl (fun _ => ?_) (fun _ => ?_) | refine da_caseEq (t := 56) rfl (fun _ => ?_) (fun _ => ?_) | refine da_caseNe (t := 56) rfl (fun _ => ?_) (fun _ => ?_) | refine da_caseNB (t := 56) rfl (fun _ => ?_) (fun _ => ?_) | refine da_case (t := 56) rfl (fun _ => ?_) (fun _ => ?_)) <;> (first | refine da_onC 19 rfl rfl rfl rfl rfl (by kernel_rfl) (by first | exact po_move rfl | fail) ?_ | refine da_offC 19 rfl rfl rfl rfl rfl rfl (by kernel_rfl) ?_ | refine da_offU 19 rfl rfl rfl rfl rfl (by kernel_rfl) ?_)))
    all_goals (first | refine da_onC 20 rfl rfl rfl rfl rfl (by kernel_rfl) (by first | exact po_move rfl | fail) ?_ | refine da_offC 20 rfl rfl rfl rfl rfl rfl (by kernel_rfl) ?_ | refine da_offU 20 rfl rfl rfl rfl rfl (by kernel_rfl) ?_ | ((first | refine da_caseP (t := 56) rfl (fun _ => ?_) (fun _ => ?_) | refine da_caseNP (t := 56) rfl (fun _ => ?_) (fun _ => ?_) | refine da_caseEq (t := 56) rfl (fun _ => ?_) (fun _ => ?_) | refine da_caseNe (t := 56) rfl (fun _ => ?_) (fun _ => ?_) | refine da_caseNB (t := 56) rfl (fun _ => ?_) (fun _ => ?_) | refine da_case (t := 56) rfl (fun _ => ?_) (fun _ => ?_)) <;> (first | refine da_onC 20 rfl rfl rfl rfl rfl (by kernel_rfl) (by first | exact po_move rfl | fail) ?_ | refine da_offC 20 rfl rfl rfl rfl rfl rfl (by kernel_rfl) ?_ | refine da_offU 20 rfl rfl rfl rfl rfl (by kernel_rfl) ?_)))
    all_goals (first | refine da_onC 21 rfl rfl rfl rfl rfl (by kernel_rfl) (by first | exact pc_sub rfl rfl (by omega) (by omega) | fail) ?_ | refine da_offC 21 rfl rfl rfl rfl rfl rfl (by kernel_rfl) ?_ | refine da_offU 21 rfl rfl rfl rfl rfl (by kernel_rfl) ?_ | ((first | refine da_caseP (t := 56) rfl (fun _ => ?_) (fun _ => ?_) | refine da_caseNP (t := 56) rfl (fun _ => ?_) (fun _ => ?_) | refine da_caseEq (t := 56) rfl (fun _ => ?_) (fun _ => ?_) | refine da_caseNe (t := 56) rfl (fun _ => ?_) (fun _ => ?_) | refine da_caseNB (t := 56) rfl (fun _ => ?_) (fun _ => ?_) | refine da_case (t := 56) rfl (fun _ => ?_) (fun _ => ?_)) <;> (first | refine da_onC 21 rfl rfl rfl rfl rfl (by kernel_rfl) (by first | exact pc_sub rfl rfl (by omega) (by omega) | fail) ?_ | refine da_offC 21 rfl rfl rfl rfl rfl rfl (by kernel_rfl) ?_ | refine da_offU 21 rfl rfl rfl rfl rfl (by kernel_rfl) ?_)))
    all_goals (first | refine da_onC 22 rfl rfl rfl rfl rfl (by kernel_rfl) (by first | exact pc_indexRowZ rfl rfl inferInstance inferInstance inferInstance (by omega) (by omega) | fail) ?_ | refine da_offC 22 rfl rfl rfl rfl rfl rfl (by kernel_rfl) ?_ | refine da_offU 22 rfl rfl rfl rfl rfl (by kernel_rfl) ?_ | ((first | refine da_caseP (t := 56) rfl (fun _ => ?_) (fun _ => ?_) | refine da_caseNP (t := 56) rfl (fun _ => ?_) (fun _ => ?_) | refine da_caseEq (t := 56) rfl (fun _ => ?_) (fun _ => ?_) | refine da_caseNe (t := 56) rfl (fun _ => ?_) (fun _ => ?_) | refine da_caseNB (t := 56) rfl (fun _ => ?_) (fun _ => ?_) | refine da_case (t := 56) rfl (fun _ => ?_) (fun _ => ?_)) <;> (first | refine da_onC 22 rfl rfl rfl rfl rfl (by kernel_rfl) (by first | exact pc_indexRowZ rfl rfl inferInstance inferInstance inferInstance (by omega) (by omega) | fail) ?_ | refine da_offC 22 rfl rfl rfl rfl rfl rfl (by kernel_rfl) ?_ | refine da_offU 22 rfl rfl rfl rfl rfl (by kernel_rfl) ?_)))
    all_goals (first | refine da_onC 23 rfl rfl rfl rfl rfl (by kernel_rfl) (by first | exact pc_ldAV rfl inferInstance inferInstance (by omega) inferInstance | fail) ?_ | refine da_offC 23 rfl rfl rfl rfl rfl rfl (by kernel_rfl) ?_ | refine da_offU 23 rfl rfl rfl rfl rfl (by kernel_rfl) ?_ | ((first | refine da_caseP (t := 56) rfl (fun _ => ?_) (fun _ => ?_) | refine da_caseNP (t := 56) rfl (fun _ => ?_) (fun _ => ?_) | refine da_caseEq (t := 56) rfl (fun _ => ?_) (fun _ => ?_) | refine da_caseNe (t := 56) rfl (fun _ => ?_) (fun _ => ?_) | refine da_caseNB (t := 56) rfl (fun _ => ?_) (fun _ => ?_) | refine da_case (t := 56) rfl (fun _ => ?_) (fun _ => ?_)) <;> (first | refine da_onC 23 rfl rfl rfl rfl rfl (by kernel_rfl) (by first | exact pc_ldAV rfl inferInstance inferInstance (by omega) inferInstance | fail) ?_ | refine da_offC 23 rfl rfl rfl rfl rfl rfl (by kernel_rfl) ?_ | refine da_offU 23 rfl rfl rfl rfl rfl (by kernel_rfl) ?_)))
    all_goals (first | refine da_offC 24 rfl rfl rfl rfl rfl rfl (by kernel_rfl) ?_ | refine da_offU 24 rfl rfl rfl rfl rfl (by kernel_rfl) ?_ | (refine da_one 24 rfl (by kernel_rfl) (fun _ _ _ _ => ?_); (repeat' (first | (refine wc_callR rfl inferInstance rfl (c_mnIntsN _ _ _ hne) rfl ?_; intro _ _) | refine wc_guardT_false rfl rfl rfl ?_ | fail)); all_goals (first | refine wl_nil ⟨rfl, (by first | exact LeS.len inferInstance | exact App.len (by assumption)), ?_⟩ | trace_state)) | ((first | refine da_caseP (t := 56) rfl (fun _ => ?_) (fun _ => ?_) | refine da_caseNP (t := 56) rfl (fun _ => ?_) (fun _ => ?_) | refine da_caseEq (t := 56) rfl (fun _ => ?_) (fun _ => ?_) | refine da_caseNe (t := 56) rfl (fun _ => ?_) (fun _ => ?_) | refine da_caseNB (t := 56) rfl (fun _ => ?_) (fun _ => ?_) | refine da_case (t := 56) rfl (fun _ => ?_) (fun _ => ?_)) <;> (first | refine da_offC 24 rfl rfl rfl rfl rfl rfl (by kernel_rfl) ?_ | refine da_offU 24 rfl rfl rfl rfl rfl (by kernel_rfl) ?_ | (refine da_one 24 rfl (by kernel_rfl) (fun _ _ _ _ => ?_); (repeat' (first | (refine wc_callR rfl inferInstance rfl (c_mnIntsN _ _ _ hne) rfl ?_; intro _ _) | refine wc_guardT_false rfl rfl rfl ?_ | fail)); all_goals (first | refine wl_nil ⟨rfl, (by first | exact LeS.len inferInstance | exact App.len (by assumption)), ?_⟩ | trace_state)))))
    all_goals (first | refine da_onC 25 rfl rfl rfl rfl rfl (by kernel_rfl) (by first | exact po_pick rfl rfl | fail) ?_ | refine da_offC 25 rfl rfl rfl rfl rfl rfl (by kernel_rfl) ?_ | refine da_offU 25 rfl rfl rfl rfl rfl (by kernel_rfl) ?_ | ((first | refine da_caseP (t := 44) rfl (fun _ => ?_) (fun _ => ?_) | refine da_caseNP (t := 44) rfl (fun _ => ?_) (fun _ => ?_) | refine da_caseEq (t := 44) rfl (fun _ => ?_) (fun _ => ?_) | refine da_caseNe (t := 44) rfl (fun _ => ?_) (fun _ => ?_) | refine da_caseNB (t := 44) rfl (fun _ => ?_) (fun _ => ?_) | refine da_case (t := 44) rfl (fun _ => ?_) (fun _ => ?_)) <;> (first | refine da_onC 25 rfl rfl rfl rfl rfl (by kernel_rfl) (by first | exact po_pick rfl rfl | fail) ?_ | refine da_offC 25 rfl rfl rfl rfl rfl rfl (by kernel_rfl) ?_ | refine da_offU 25 rfl rfl rfl rfl rfl (by kernel_rfl) ?_)))
    all_goals refine da_takeC 26 rfl rfl (by kernel_rfl) (by first | exact po_pick rfl rfl | fail) ?_
    all_goals refine da_done (by kernel_rfl) ?_
    repeat' (first
      | refine wp_seqA ?_
      | refine wp_region_seq ?_
      | refine thru_seq_next ?_
      | refine wp_skipA ?_
      | refine wp_blockA ?_
      | refine wl_nil ?_
      | refine wl_pop rfl (po_assign rfl) ?_
      | refine wp_condF rfl ?_
      | fail)
    rotate_left
    · exfalso; omega
    rename_i hk1 σ8 g8 σ9 g9
    refine wc_loop [(4, _), (6, _)] (fun j : Nat => [(7, I j)]) (fun j σ'' => j = 0 ∧ LeS σ9 σ'') (fun j => 0) 0 ⟨rfl, inferInstance⟩ (by repeat' (first | exact sub_nil | refine sub_cons rfl ?_ | refine sub_int rfl (by first | rfl | omega | (push_cast; omega) | simp) ?_ | refine sub_eq rfl (by assumption) ?_)) ?_
    rintro j σ'' ⟨hj, hgr2⟩
    have := hgr2.grow
    repeat' (first
      | refine wl_pop rfl (pc_ldNat rfl inferInstance inferInstance (by omega) inferInstance) ?_
      | refine wl_pop rfl (pc_ldAV rfl inferInstance inferInstance (by omega) inferInstance) ?_
      | refine wl_pop rfl (pc_indexRow rfl rfl inferInstance inferInstance inferInstance (by omega)) ?_
      | refine wl_pop rfl (pc_lenRow rfl inferInstance inferInstance) ?_
      | refine wp_seqA ?_
      | refine wp_region_seq ?_
      | refine thru_seq_next ?_
      | refine thru_seq_ret ?_
      | refine thru_seq ?_
      | refine thru_block_ret ?_
      | refine thru_block_next ?_
      | refine exit_here ?_
      | refine wp_skipA ?_
      | refine wp_retA ?_
      | refine wp_exitA ?_
      | refine wp_blockA ?_
      | refine wl_nil ?_
      | refine wl_pop rfl (po_move rfl) ?_
      | refine wl_pop rfl (po_assign rfl) ?_
      | refine wl_pop rfl (pc_add rfl rfl (by omega) (by omega)) ?_
      | refine wl_pop rfl (po_binOp rfl rfl rfl) ?_
      | refine wl_pop rfl (po_pick rfl rfl) ?_
      | refine wc_guardT_true rfl rfl rfl ?_
      | refine wc_guardF_true rfl rfl rfl rfl ?_
      | refine wc_guardP_true rfl rfl rfl rfl (fun _ => ?_) (fun _ => ?_)
      | refine wp_condF rfl ?_
      | refine wp_condP rfl (fun _ => ?_) (fun _ => ?_)
      | refine wp_condNP rfl (fun _ => ?_) (fun _ => ?_)
      | refine at_ret (res1 rfl rfl) ?_
      | fail)
    all_goals first | (exfalso; omega) | exact ⟨k + 1, by omega, ⟨by omega, inferInstance⟩, (by repeat' (first | exact sub_nil | refine sub_cons rfl ?_ | refine sub_int rfl (by first | rfl | omega | (push_cast; omega) | simp) ?_ | refine sub_eq rfl (by assumption) ?_))⟩
end
end Go.Proofs.Ytcmkkmlgdkhmiaa.Asl
