/- Rounds: the program. -/
import Derived.Test.YthbodgnoadlbcaaGreatDoorS3
namespace Go.Proofs.YthbodgnoadlbcaaGreatDoor.Asl
open Go.RowKit Go.Proofs.YthbodgnoadlbcaaGreatDoorW.PrintLast
set_option linter.unusedVariables false
set_option linter.unusedSimpArgs false
theorem upd_len {σ σ' : Store} {i : Nat} {o : Ob} (h : Upd σ i o σ') : σ'.length = σ.length := by rw [h.eq]; simp
attribute [local irreducible] WP WL andThen inBlock noGoto atEnd ACall DA DL PO Hold
set_option maxHeartbeats 4000000
set_option synthInstance.maxHeartbeats 400000
set_option synthInstance.maxSize 10000
section
variable {base : Nat}
structure RF (σ σ2 : Store) (g : Gr) (c : List Nat) (io im k : Nat) (o : List Nat) (ms : List AV) (σ' : Store) : Prop where
  olen : o.length = c.length
  mlen : ms.length = c.length
  le : LeS σ σ'
  len : σ2.length ≤ σ'.length
  out : Has σ' io (Row o)
  marks : Has σ' im (Row ms)
  least : ∀ r, r < k → o.getD r 0 = leastC g c r
  rows : ∀ r, r < k → OW σ2 σ' (ms.getD r nilS) (sigL g c r)
theorem c_refine (σ : Store) (v : AV) (f : FuncId) (caps : List AV) {g : Gr} {c : List Nat} [hv : RW σ v c] [Callable Tryz.prog f] (h60 : c.length ≤ 60) (J : Store → Prop) (hJ : ∀ σ σ', LeS σ σ' → J σ → J σ') (j0 : J σ)
    (h : ∀ (s : Nat) (σ' : Store), s < c.length → J σ' → ACall Tryz.prog base f ([I (s : Int)] ++ caps) σ' (fun _ => False) (RetOW σ' (sigL g c s))) :
    ACall Tryz.prog base F_impl_refine [v, .fn f caps] σ (fun _ => False) (RetOW σ (nextC g c)) := by
  have := hv.one
  refine acall2 fun_impl_refine rfl tmps_impl_refine rfl fun N B w₀ ρ₀ => ?_
  repeat' (first
    | (refine wc_makeRow (α := Nat) rfl rfl inI inI rfl rfl (by decide) (by omega) (by omega) rfl ?_; intro _ _ _ _ _)
    | (refine wc_makeRow (α := AV) rfl rfl inI inI rfl rfl (by decide) (by omega) (by omega) rfl ?_; intro _ _ _ _ _)
    | refine wl_pop rfl (pc_lenRow rfl inI inI) ?_
    | refine wp_seqA ?_
    | refine wp_region_seq ?_
    | refine thru_seq_next ?_
    | refine wp_blockA ?_
    | refine wl_nil ?_
    | refine wl_pop rfl (po_move rfl) ?_
    | refine wl_pop rfl (po_assign rfl) ?_
    | fail)
  rename_i io σ1 g1 n1 h1 im σ2 g2 n2 h2
  have hd : Dif io im := ⟨by have := h1.lt; have := n2.le; omega⟩
  have hd' : Dif im io := ⟨fun e => hd.ne e.symm⟩
  have hno : New σ io := n1
  have hnm : New σ im := n2.mono inI
  have h1' : Has σ2 io (Row (List.replicate c.length (0 : Nat))) := (inI : Has σ2 io (Row (List.replicate c.length Enc.dflt)))
  have hlo : io < σ2.length := h1'.lt
  have hlm : im < σ2.length := h2.lt
  have hrf : RF σ σ2 g c io im 0 (List.replicate c.length 0) (List.replicate c.length nilS) σ2 := ⟨by simp, by simp, inI, Nat.le_refl _, h1', h2, fun r hr => by omega, fun r hr => by omega⟩
  clear h1 n1 n2
  refine wc_loop [(0, _), (1, _), (5, _), (6, _), (16, _)] (fun x : Nat × List Nat × List AV => [(17, I x.1)]) (fun x σ' => x.1 ≤ c.length ∧ RF σ σ2 g c io im x.1 x.2.1 x.2.2 σ') (fun x => c.length - x.1) (0, List.replicate c.length 0, List.replicate c.length nilS) ⟨Nat.zero_le _, hrf⟩ (by repeat' (first | exact sub_nil | refine sub_cons rfl ?_ | refine sub_int rfl (by first | rfl | omega | (push_cast; omega) | simp) ?_ | refine sub_eq rfl (by assumption) ?_)) ?_
  clear hrf
  rintro ⟨s, o, ms⟩ σ3 ⟨hs, hrf⟩
  dsimp only at hs hrf ⊢
  have := hrf.le.grow
  have ho := hrf.out
  have hm := hrf.marks
  have hol := hrf.olen
  have hml := hrf.mlen
  repeat' (first
    | (refine wc_callOW rfl inI rfl (h s _ (by omega) (hJ _ _ inI j0)) rfl ?_; intro _ _ _ _ _)
    | (refine wc_stAV rfl rfl inI inI (by omega) (.inr (may_new _)) ?_; intro _ _)
    | (refine wc_stNat rfl rfl inI inI (by omega) (.inr (may_new _)) ?_; intro _ _)
    | refine wp_seqA ?_
    | refine wp_region_seq ?_
    | refine thru_seq_next ?_
    | refine thru_seq ?_
    | refine exit_here ?_
    | refine wp_skipA ?_
    | refine wp_retA ?_
    | refine wp_exitA ?_
    | refine wp_blockA ?_
    | refine wl_nil ?_
    | refine wl_pop rfl (po_move rfl) ?_
    | refine wl_pop rfl (po_assign rfl) ?_
    | refine wl_pop rfl (po_binOp rfl rfl rfl) ?_
    | refine wl_pop rfl (pc_indexAddr rfl rfl inI inI (by omega)) ?_
    | refine wp_condP rfl (fun _ => ?_) (fun _ => ?_)
    | refine at_ret (res1 rfl rfl) ?_
    | fail)
  rotate_left
  · obtain rfl : s = c.length := by omega
    have e : o = nextC g c := canon_ext (by rw [hol, nextC_length]) fun r hr => by rw [hrf.least r (by omega), nextC_get (by omega)]
    rw [e] at ho
    exact ret_ow (ow_of_has ho hno.le (by rw [nextC_length]) (by omega)) instLeRefl hrf.le rfl
  rename_i hsl r σ4 or4 wr4 gr4 σ5 u5 σ6 u6
  have hs' : s < c.length := by omega
  have hrf6 : RF σ σ2 g c io im s (o.set s s) (ms.set s r) σ6 ∧ OW σ2 σ6 ((ms.set s r).getD s nilS) (sigL g c s) ∧ (o.set s s).getD s 0 = s := by
    have hl5 : σ5.length = σ4.length := upd_len u5
    have hl6 : σ6.length = σ5.length := upd_len u6
    have hl4 := gr4.len
    have hl3 := hrf.len
    refine ⟨⟨by simp [hol], by simp [hml], inI, by omega, instHasUpd (g := u6), inI, fun q hq => ?_, fun q hq => ?_⟩, ?_, getD_set_eq (by omega)⟩
    · rw [getD_set_ne (by omega)]; exact hrf.least q hq
    · rw [getD_set_ne (by omega)]
      have := hrf.rows q hq
      infer_instance
    · rw [getD_set_eq (by omega)]
      have : OW σ2 σ4 r (sigL g c s) := wr4.down hl3
      infer_instance
  clear u5 u6 wr4 ho hm hol hml
  obtain ⟨hrf6, hrow, hoget⟩ := hrf6
  generalize hoo : o.set s s = o6 at *
  generalize hmm : ms.set s r = m6 at *
  refine wc_loop [(0, _), (1, _), (5, _), (6, _), (7, _), (16, _), (17, _)] (fun q : Nat => [(8, I q)]) (fun q σ' => q ≤ s ∧ (∀ t, t < q → ¬ SameC g c t s) ∧ RF σ σ2 g c io im s o6 m6 σ' ∧ OW σ2 σ' (m6.getD s nilS) (sigL g c s)) (fun q => s - q) 0 ⟨Nat.zero_le _, fun t ht => by omega, hrf6, hrow⟩ (by repeat' (first | exact sub_nil | refine sub_cons rfl ?_ | refine sub_int rfl (by first | rfl | omega | (push_cast; omega) | simp) ?_ | refine sub_eq rfl (by assumption) ?_)) ?_
  rintro q σ7 ⟨hq, hno', hrf7, hrow7⟩
  have := hrf7.le.grow
  have ho := hrf7.out
  have hm := hrf7.marks
  have hol := hrf7.olen
  have hml := hrf7.mlen
  repeat' (first
    | refine wp_seqA ?_
    | refine wp_region_seq ?_
    | refine thru_seq_next ?_
    | refine thru_seq ?_
    | refine thru_block_next ?_
    | refine exit_here ?_
    | refine wp_skipA ?_
    | refine wp_exitA ?_
    | refine wp_blockA ?_
    | refine wl_nil ?_
    | refine wl_pop rfl (po_move rfl) ?_
    | refine wl_pop rfl (pc_add rfl rfl (by omega) (by omega)) ?_
    | refine wl_pop rfl (po_binOp rfl rfl rfl) ?_
    | refine wp_condP rfl (fun _ => ?_) (fun _ => ?_)
    | fail)
  rotate_left
  · obtain rfl : q = s := by omega
    have hL := leastC_eq (SameC.refl g c q) hno'
    refine ⟨(q + 1, o6, m6), by dsimp only; omega, ⟨by dsimp only; omega, ⟨hol, hml, hrf7.le, hrf7.len, ho, hm, fun t ht => ?_, fun t ht => ?_⟩⟩, (by repeat' (first | exact sub_nil | refine sub_cons rfl ?_ | refine sub_int rfl (by first | rfl | omega | (push_cast; omega) | simp) ?_ | refine sub_eq rfl (by assumption) ?_))⟩
    · rcases Nat.lt_or_ge t q with h | h
      · exact hrf7.least t h
      · obtain rfl : t = q := by dsimp only at ht; omega
        rw [hoget, hL]
    · rcases Nat.lt_or_ge t q with h | h
      · exact hrf7.rows t h
      · obtain rfl : t = q := by dsimp only at ht; omega
        exact hrow7
  rename_i hqs
  have hq' : q < s := by omega
  have hRq : RW σ7 (m6.getD q nilS) (sigL g c q) := (hrf7.rows q hq').rw
  have hRs : RW σ7 (m6.getD s nilS) (sigL g c s) := hrow7.rw
  refine wc_drawn [] mixed_ rfl ?_
  all_goals refine da_takeC 0 rfl rfl (by kernel_rfl) (by first | exact po_move rfl | fail) ?_
  all_goals refine da_takeC 1 rfl rfl (by kernel_rfl) (by first | exact po_move rfl | fail) ?_
  all_goals refine da_takeC 2 rfl rfl (by kernel_rfl) (by first | exact pc_indexRow rfl rfl inI inI inI (by omega) | fail) ?_
  all_goals refine da_takeC 3 rfl rfl (by kernel_rfl) (by first | exact pc_ldNat rfl inI inI (by omega) inI | fail) ?_
  all_goals refine da_takeC 4 rfl rfl (by kernel_rfl) (by first | exact po_move rfl | fail) ?_
  all_goals refine da_takeC 5 rfl rfl (by kernel_rfl) (by first | exact po_move rfl | fail) ?_
  all_goals refine da_takeC 6 rfl rfl (by kernel_rfl) (by first | exact pc_indexRow rfl rfl inI inI inI (by omega) | fail) ?_
  all_goals refine da_takeC 7 rfl rfl (by kernel_rfl) (by first | exact pc_ldNat rfl inI inI (by omega) inI | fail) ?_
  all_goals refine da_takeC 8 rfl rfl (by kernel_rfl) (by first | exact po_binOp rfl rfl rfl | fail) ?_
  all_goals refine da_takeC 9 rfl rfl (by kernel_rfl) (by first | exact po_move rfl | fail) ?_
  all_goals (first | refine da_onC 10 rfl rfl rfl rfl rfl (by kernel_rfl) (by first | exact po_move rfl | fail) ?_ | refine da_offC 10 rfl rfl rfl rfl rfl rfl (by kernel_rfl) ?_ | refine da_offU 10 rfl rfl rfl rfl rfl (by kernel_rfl) ?_ | ((first | refine da_caseP (t := 44) rfl (fun _ => ?_) (fun _ => ?_) | refine da_caseNP (t := 44) rfl (fun _ => ?_) (fun _ => ?_) | refine da_caseEq (t := 44) rfl (fun _ => ?_) (fun _ => ?_) | refine da_caseNe (t := 44) rfl (fun _ => ?_) (fun _ => ?_) | refine da_caseNB (t := 44) rfl (fun _ => ?_) (fun _ => ?_) | refine da_case (t := 44) rfl (fun _ => ?_) (fun _ => ?_)) <;> (first | refine da_onC 10 rfl rfl rfl rfl rfl (by kernel_rfl) (by first | exact po_move rfl | fail) ?_ | refine da_offC 10 rfl rfl rfl rfl rfl rfl (by kernel_rfl) ?_ | refine da_offU 10 rfl rfl rfl rfl rfl (by kernel_rfl) ?_)))
  all_goals (first | refine da_onC 11 rfl rfl rfl rfl rfl (by kernel_rfl) (by first | exact po_move rfl | fail) ?_ | refine da_offC 11 rfl rfl rfl rfl rfl rfl (by kernel_rfl) ?_ | refine da_offU 11 rfl rfl rfl rfl rfl (by kernel_rfl) ?_ | ((first | refine da_caseP (t := 44) rfl (fun _ => ?_) (fun _ => ?_) | refine da_caseNP (t := 44) rfl (fun _ => ?_) (fun _ => ?_) | refine da_caseEq (t := 44) rfl (fun _ => ?_) (fun _ => ?_) | refine da_caseNe (t := 44) rfl (fun _ => ?_) (fun _ => ?_) | refine da_caseNB (t := 44) rfl (fun _ => ?_) (fun _ => ?_) | refine da_case (t := 44) rfl (fun _ => ?_) (fun _ => ?_)) <;> (first | refine da_onC 11 rfl rfl rfl rfl rfl (by kernel_rfl) (by first | exact po_move rfl | fail) ?_ | refine da_offC 11 rfl rfl rfl rfl rfl rfl (by kernel_rfl) ?_ | refine da_offU 11 rfl rfl rfl rfl rfl (by kernel_rfl) ?_)))
  all_goals (first | refine da_onC 12 rfl rfl rfl rfl rfl (by kernel_rfl) (by first | exact pc_indexAddr rfl rfl inI inI (by omega) | fail) ?_ | refine da_offC 12 rfl rfl rfl rfl rfl rfl (by kernel_rfl) ?_ | refine da_offU 12 rfl rfl rfl rfl rfl (by kernel_rfl) ?_ | ((first | refine da_caseP (t := 44) rfl (fun _ => ?_) (fun _ => ?_) | refine da_caseNP (t := 44) rfl (fun _ => ?_) (fun _ => ?_) | refine da_caseEq (t := 44) rfl (fun _ => ?_) (fun _ => ?_) | refine da_caseNe (t := 44) rfl (fun _ => ?_) (fun _ => ?_) | refine da_caseNB (t := 44) rfl (fun _ => ?_) (fun _ => ?_) | refine da_case (t := 44) rfl (fun _ => ?_) (fun _ => ?_)) <;> (first | refine da_onC 12 rfl rfl rfl rfl rfl (by kernel_rfl) (by first | exact pc_indexAddr rfl rfl inI inI (by omega) | fail) ?_ | refine da_offC 12 rfl rfl rfl rfl rfl rfl (by kernel_rfl) ?_ | refine da_offU 12 rfl rfl rfl rfl rfl (by kernel_rfl) ?_)))
  all_goals (first | refine da_onC 13 rfl rfl rfl rfl rfl (by kernel_rfl) (by first | exact pc_loAV rfl inI inI (by omega) inI | fail) ?_ | refine da_offC 13 rfl rfl rfl rfl rfl rfl (by kernel_rfl) ?_ | refine da_offU 13 rfl rfl rfl rfl rfl (by kernel_rfl) ?_ | ((first | refine da_caseP (t := 44) rfl (fun _ => ?_) (fun _ => ?_) | refine da_caseNP (t := 44) rfl (fun _ => ?_) (fun _ => ?_) | refine da_caseEq (t := 44) rfl (fun _ => ?_) (fun _ => ?_) | refine da_caseNe (t := 44) rfl (fun _ => ?_) (fun _ => ?_) | refine da_caseNB (t := 44) rfl (fun _ => ?_) (fun _ => ?_) | refine da_case (t := 44) rfl (fun _ => ?_) (fun _ => ?_)) <;> (first | refine da_onC 13 rfl rfl rfl rfl rfl (by kernel_rfl) (by first | exact pc_loAV rfl inI inI (by omega) inI | fail) ?_ | refine da_offC 13 rfl rfl rfl rfl rfl rfl (by kernel_rfl) ?_ | refine da_offU 13 rfl rfl rfl rfl rfl (by kernel_rfl) ?_)))
  all_goals (first | refine da_onC 14 rfl rfl rfl rfl rfl (by kernel_rfl) (by first | exact po_move rfl | fail) ?_ | refine da_offC 14 rfl rfl rfl rfl rfl rfl (by kernel_rfl) ?_ | refine da_offU 14 rfl rfl rfl rfl rfl (by kernel_rfl) ?_ | ((first | refine da_caseP (t := 44) rfl (fun _ => ?_) (fun _ => ?_) | refine da_caseNP (t := 44) rfl (fun _ => ?_) (fun _ => ?_) | refine da_caseEq (t := 44) rfl (fun _ => ?_) (fun _ => ?_) | refine da_caseNe (t := 44) rfl (fun _ => ?_) (fun _ => ?_) | refine da_caseNB (t := 44) rfl (fun _ => ?_) (fun _ => ?_) | refine da_case (t := 44) rfl (fun _ => ?_) (fun _ => ?_)) <;> (first | refine da_onC 14 rfl rfl rfl rfl rfl (by kernel_rfl) (by first | exact po_move rfl | fail) ?_ | refine da_offC 14 rfl rfl rfl rfl rfl rfl (by kernel_rfl) ?_ | refine da_offU 14 rfl rfl rfl rfl rfl (by kernel_rfl) ?_)))
  all_goals (first | refine da_onC 15 rfl rfl rfl rfl rfl (by kernel_rfl) (by first | exact po_move rfl | fail) ?_ | refine da_offC 15 rfl rfl rfl rfl rfl rfl (by kernel_rfl) ?_ | refine da_offU 15 rfl rfl rfl rfl rfl (by kernel_rfl) ?_ | ((first | refine da_caseP (t := 44) rfl (fun _ => ?_) (fun _ => ?_) | refine da_caseNP (t := 44) rfl (fun _ => ?_) (fun _ => ?_) | refine da_caseEq (t := 44) rfl (fun _ => ?_) (fun _ => ?_) | refine da_caseNe (t := 44) rfl (fun _ => ?_) (fun _ => ?_) | refine da_caseNB (t := 44) rfl (fun _ => ?_) (fun _ => ?_) | refine da_case (t := 44) rfl (fun _ => ?_) (fun _ => ?_)) <;> (first | refine da_onC 15 rfl rfl rfl rfl rfl (by kernel_rfl) (by first | exact po_move rfl | fail) ?_ | refine da_offC 15 rfl rfl rfl rfl rfl rfl (by kernel_rfl) ?_ | refine da_offU 15 rfl rfl rfl rfl rfl (by kernel_rfl) ?_)))
  all_goals (first | refine da_onC 16 rfl rfl rfl rfl rfl (by kernel_rfl) (by first | exact pc_indexAddr rfl rfl inI inI (by omega) | fail) ?_ | refine da_offC 16 rfl rfl rfl rfl rfl rfl (by kernel_rfl) ?_ | refine da_offU 16 rfl rfl rfl rfl rfl (by kernel_rfl) ?_ | ((first | refine da_caseP (t := 44) rfl (fun _ => ?_) (fun _ => ?_) | refine da_caseNP (t := 44) rfl (fun _ => ?_) (fun _ => ?_) | refine da_caseEq (t := 44) rfl (fun _ => ?_) (fun _ => ?_) | refine da_caseNe (t := 44) rfl (fun _ => ?_) (fun _ => ?_) | refine da_caseNB (t := 44) rfl (fun _ => ?_) (fun _ => ?_) | refine da_case (t := 44) rfl (fun _ => ?_) (fun _ => ?_)) <;> (first | refine da_onC 16 rfl rfl rfl rfl rfl (by kernel_rfl) (by first | exact pc_indexAddr rfl rfl inI inI (by omega) | fail) ?_ | refine da_offC 16 rfl rfl rfl rfl rfl rfl (by kernel_rfl) ?_ | refine da_offU 16 rfl rfl rfl rfl rfl (by kernel_rfl) ?_)))
  all_goals (first | refine da_onC 17 rfl rfl rfl rfl rfl (by kernel_rfl) (by first | exact pc_loAV rfl inI inI (by omega) inI | fail) ?_ | refine da_offC 17 rfl rfl rfl rfl rfl rfl (by kernel_rfl) ?_ | refine da_offU 17 rfl rfl rfl rfl rfl (by kernel_rfl) ?_ | ((first | refine da_caseP (t := 44) rfl (fun _ => ?_) (fun _ => ?_) | refine da_caseNP (t := 44) rfl (fun _ => ?_) (fun _ => ?_) | refine da_caseEq (t := 44) rfl (fun _ => ?_) (fun _ => ?_) | refine da_caseNe (t := 44) rfl (fun _ => ?_) (fun _ => ?_) | refine da_caseNB (t := 44) rfl (fun _ => ?_) (fun _ => ?_) | refine da_case (t := 44) rfl (fun _ => ?_) (fun _ => ?_)) <;> (first | refine da_onC 17 rfl rfl rfl rfl rfl (by kernel_rfl) (by first | exact pc_loAV rfl inI inI (by omega) inI | fail) ?_ | refine da_offC 17 rfl rfl rfl rfl rfl rfl (by kernel_rfl) ?_ | refine da_offU 17 rfl rfl rfl rfl rfl (by kernel_rfl) ?_)))
  all_goals (first | refine da_offC 18 rfl rfl rfl rfl rfl rfl (by kernel_rfl) ?_ | refine da_offU 18 rfl rfl rfl rfl rfl (by kernel_rfl) ?_ | (refine da_one 18 rfl (by kernel_rfl) (fun _ _ _ _ => ?_); (repeat' (first | (refine wc_callR rfl inI rfl (c_EqualMv _ _ _) rfl ?_; intro _ _) | refine wc_guardT_true rfl rfl rfl ?_ | fail)); all_goals (first | refine wl_nil ⟨rfl, (by first | exact LeS.len inI | exact App.len (by assumption)), ?_⟩ | trace_state)) | ((first | refine da_caseP (t := 44) rfl (fun _ => ?_) (fun _ => ?_) | refine da_caseNP (t := 44) rfl (fun _ => ?_) (fun _ => ?_) | refine da_caseEq (t := 44) rfl (fun _ => ?_) (fun _ => ?_) | refine da_caseNe (t := 44) rfl (fun _ => ?_) (fun _ => ?_) | refine da_caseNB (t := 44) rfl (fun _ => ?_) (fun _ => ?_) | refine da_case (t := 44) rfl (fun _ => ?_) (fun _ => ?_)) <;> (first | refine da_offC 18 rfl rfl rfl rfl rfl rfl (by kernel_rfl) ?_ | refine da_offU 18 rfl rfl rfl rfl rfl (by kernel_rfl) ?_ | (refine da_one 18 rfl (by kernel_rfl) (fun _ _ _ _ => ?_); (repeat' (first | (refine wc_callR rfl inI rfl (c_EqualMv _ _ _) rfl ?_; intro _ _) | refine wc_guardT_true rfl rfl rfl ?_ | fail)); all_goals (first | refine wl_nil ⟨rfl, (by first | exact LeS.len inI | exact App.len (by assumption)), ?_⟩ | trace_state)))))
  all_goals refine da_takeC 19 rfl rfl (by kernel_rfl) (by first | exact po_pick rfl rfl | fail) ?_
  all_goals refine da_done (by kernel_rfl) ?_
  all_goals (
    repeat' (first
      | (refine wc_stNat rfl rfl inI inI (by omega) (.inr (may_new _)) ?_; intro _ _)
      | refine wp_condPr rfl (fun _ => ?_) (fun _ => ?_)
      | refine wp_seqA ?_
      | refine wp_region_seq ?_
      | refine thru_seq_next ?_
      | refine thru_seq ?_
      | refine thru_block_next ?_
      | refine exit_here ?_
      | refine exit_past (by decide) ?_
      | refine wp_skipA ?_
      | refine wp_exitA ?_
      | refine wl_nil ?_
      | refine wl_pop rfl (po_move rfl) ?_
      | refine wl_pop rfl (po_assign rfl) ?_
      | refine wl_pop rfl (pc_add rfl rfl (by omega) (by omega)) ?_
      | refine wl_pop rfl (pc_indexAddr rfl rfl inI inI (by omega)) ?_
      | refine wp_condF rfl ?_
      | fail)
    )
  · rename_i hcq _ _ _ _ σ8 g8 hsig σ9 u9
    have hsame : SameC g c q s := ⟨by omega, hsig⟩
    have hL := leastC_eq hsame hno'
    have hl8 := g8.len
    have hl7 := hrf7.len
    have hl9 := upd_len u9
    refine ⟨(s + 1, o6.set s q, m6), by dsimp only; omega, ⟨by dsimp only; omega, ⟨by simp [hol], hml, inI, by omega, instHasUpd (g := u9), inI, fun t ht => ?_, fun t ht => ?_⟩⟩, (by repeat' (first | exact sub_nil | refine sub_cons rfl ?_ | refine sub_int rfl (by first | rfl | omega | (push_cast; omega) | simp) ?_ | refine sub_eq rfl (by assumption) ?_))⟩
    · dsimp only at ht ⊢
      by_cases e : t = s
      · subst e; rw [getD_set_eq (by omega), hL]
      · rw [getD_set_ne (fun h => e h.symm)]; exact hrf7.least t (by omega)
    · dsimp only at ht ⊢
      by_cases e : t = s
      · subst e; infer_instance
      · have := hrf7.rows t (by omega)
        infer_instance
  · rename_i hcq _ _ _ _ σ8 g8 hsig
    have hl8 := g8.len
    have hl7 := hrf7.len
    refine ⟨q + 1, by omega, ⟨by omega, fun t ht => ?_, ⟨hol, hml, inI, by omega, inI, inI, hrf7.least, fun t ht => ?_⟩, inI⟩, (by repeat' (first | exact sub_nil | refine sub_cons rfl ?_ | refine sub_int rfl (by first | rfl | omega | (push_cast; omega) | simp) ?_ | refine sub_eq rfl (by assumption) ?_))⟩
    · rcases Nat.lt_or_ge t q with h | h
      · exact hno' t h
      · obtain rfl : t = q := by omega
        exact fun h => hsig h.2
    · have := hrf7.rows t ht
      infer_instance
  · rename_i hcq
    refine ⟨q + 1, by omega, ⟨by omega, fun t ht => ?_, hrf7, hrow7⟩, (by repeat' (first | exact sub_nil | refine sub_cons rfl ?_ | refine sub_int rfl (by first | rfl | omega | (push_cast; omega) | simp) ?_ | refine sub_eq rfl (by assumption) ?_))⟩
    rcases Nat.lt_or_ge t q with h | h
    · exact hno' t h
    · obtain rfl : t = q := by omega
      exact fun h => by have := h.1; omega
end
end Go.Proofs.YthbodgnoadlbcaaGreatDoor.Asl
