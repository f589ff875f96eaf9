/- The drawn law FnDefsOk. -/
import Derived.Test.YtcmkkmlgdkhmiaaL8
namespace Go.Proofs.Ytcmkkmlgdkhmiaa.Asl
open Go.RowKit Go.Proofs.YtcmkkmlgdkhmiaaW.PrintLast
set_option linter.unusedVariables false
set_option linter.unusedSimpArgs false
attribute [local irreducible] WP WL andThen inBlock noGoto atEnd ACall DA DL PO Hold nodeOk Tm.shape Tm.ok Tm.askO
set_option maxHeartbeats 4000000
set_option synthInstance.maxHeartbeats 400000
set_option synthInstance.maxSize 10000
theorem getD_congr {α : Type} {l l' : List α} {d : α} (h : l = l') (k : Nat) : l.getD k d = l'.getD k d := by rw [h]
theorem Tm.st_bare (D D' : List (List Stp)) (t : Tm) : t.bare = false → t.st D = t.st D' := by
  induction t using Tm.ind with
  | _ op n ps ih =>
    intro hb
    simp only [Tm.st, stF]
    by_cases h1 : op = 1
    · rw [if_pos h1, if_pos h1]
    · have hp : ∀ p ∈ ps, p.bare = false := by
        intro p hp
        by_cases h : p.bare = true
        · have := bares_part (op := op) (n := n) hp h1 h
          rw [hb] at this; cases this
        · simpa using h
      have h5 : op ≠ 5 := by
        intro e; subst e; simp [Tm.bare] at hb
      have e : Tm.sts D ps = Tm.sts D' ps := by
        have key : ∀ l : List Tm, (∀ p ∈ l, p.st D = p.st D') → Tm.sts D l = Tm.sts D' l := by
          intro l
          induction l with
          | nil => intro _; rfl
          | cons p l ihl => intro h; simp only [Tm.sts]; rw [h p (by simp), ihl fun q hq => h q (by simp [hq])]
        exact key ps fun p hpm => ih p hpm (hp p hpm)
      rw [e, if_neg h1, if_neg h1, if_neg h5, if_neg h5]
theorem call_ok {ds : List Tm} (h : defsOk ds = true) {k : Nat} (hk : k < ds.length) : (Tm.node 5 (k : Int) []).askO ds = some ((defL ds).getD k []) ∧ ds[k].askO ds = some ((defL ds).getD k []) := by
  obtain ⟨h3, hall⟩ := defsOk_get h
  obtain ⟨a1, a2, a3, a4⟩ := hall _ (List.getElem_mem hk)
  have hin : inB (ds.length : Int) 0 3 = true := by rw [inB_iff]; omega
  refine ⟨?_, ?_⟩
  · unfold Tm.askO
    have hok : (Tm.node 5 (k : Int) []).ok = true := by
      unfold Tm.ok
      have : nodeOk 5 (k : Int) 0 = true := by rw [nodeOk_iff]; omega
      simp [Tm.cnt, Tm.cnts, Tm.shape, Tm.shapes, this]
    have hf : (Tm.node 5 (k : Int) []).fits ds.length = true := by
      unfold Tm.fits
      simp only [Bool.and_eq_true]
      refine ⟨⟨hok, hin⟩, ?_⟩
      simp [Tm.callLt, Tm.callLts]; omega
    rw [if_pos (by simp [h, hf])]
    simp [Tm.steps, Tm.st, stF]
  · unfold Tm.askO
    have hok : ds[k].ok = true := by unfold Tm.ok; simp [a1, a2]
    have hf : ds[k].fits ds.length = true := by
      unfold Tm.fits; simp only [Bool.and_eq_true]; exact ⟨⟨hok, hin⟩, a3⟩
    rw [if_pos (by simp [h, hf]), defL_getD, dif_pos hk]
    unfold Tm.steps
    rw [Tm.st_bare (defL ds) [] ds[k] a4]
section
variable {base : Nat}
def RetDs (σ : Store) : AV → Store → Prop := fun r σ' => ∃ xs : List Tm, RTs σ' r xs ∧ xs.length ≤ 3 ∧ Grow σ σ'
theorem wc_callDs {E : Env} {ops : Array Oper} {l : List Oper} {Q : Exit → Slots → Store → Prop} {S : Slots} {σ : Store} {d : Option Tmp} {ty : TypeId} {pos : String} {af : Array Edge} {x : Operand} {args : Array Operand} {ats : Array TypeId} {f : FuncId} {rs caps : List AV} (hf : S.ev x = some (.fn f caps)) (hc : Callable E.P f) (hargs : evs S args.toList = some rs)
    (h : ACall E.P E.base f (rs ++ caps) σ (fun _ => False) (RetDs σ)) (hd : okd E d = true) (k : ∀ (v : AV) (xs : List Tm) σ', One v → RTs σ' v xs → xs.length ≤ 3 → Grow σ σ' → WL E ops l Q (S.put d v) σ') :
    WL E ops (⟨d, .call ⟨.value x, args, ats⟩, ty, pos, af, none⟩ :: l) Q S σ :=
  wc_call hf hc hargs h hd fun r' σ' h => by obtain ⟨xs, h1, h2, h3⟩ := h; exact k r' xs σ' h1.one h1 h2 h3
theorem c_DrawDefsOk (b : AV) (gb : List UInt8) (σ : Store) [hs : RW σ b gb] (hg : gb.length ≤ 1048576) : ACall Try.prog base F_spec_DrawDefsOk [b] σ (fun _ => False) (RetDs σ) := by
  have := hs.one
  refine acall1 fun_spec_DrawDefsOk rfl tmps_spec_DrawDefsOk rfl fun N B w₀ ρ₀ => ?_
  repeat' (first
    | (refine wc_callOpen rfl inferInstance rfl (c_l6Open b gb _ hg) rfl ?_; intro _ _ _ _ _ _ _ _)
    | refine wc_holdR 2 ?_
    | refine wp_seqA ?_
    | refine wp_region_seq ?_
    | refine thru_seq_next ?_
    | refine wl_nil ?_
    | refine wl_pop rfl (po_move rfl) ?_
    | refine wl_pop rfl (po_assign rfl) ?_
    | fail)
  rename_i i s g σ2 g2 n2 h2 b2
  have hni : σ.length ≤ i := n2.le
  refine hold_go ?_
  repeat' (first
    | (refine wc_callTsR rfl inferInstance rfl (c_l91Defs i s g _ _ (by omega) (by omega)) inferInstance (.inr hni) rfl ?_; intro _ _ _ _ _ _ _ _ _ _ _ _)
    | refine wp_seqA ?_
    | refine wp_region_seq ?_
    | refine thru_seq_next ?_
    | refine wp_retA ?_
    | refine wl_nil ?_
    | refine wl_pop rfl (po_move rfl) ?_
    | refine wl_pop rfl (po_assign rfl) ?_
    | refine at_ret (res1 rfl rfl) ?_
    | fail)
  rename_i v xs p3 σ3 σ4 ov hx rv a1 a2 g4 u4
  have hl := (inferInstance : LeB i σ σ4)
  exact ⟨xs, ⟨rv.rep.rep.mono (fun _ _ _ h => h) (fun _ _ => trivial)⟩, hx, ⟨fun x o ho => hl.keep.keep x o (by have := Has.lt (σ := σ) (i := x) ⟨ho⟩; omega) ho⟩⟩
theorem c_FnDefsOk (b : AV) (gb : List UInt8) (σ : Store) [hs : RW σ b gb] : ACall Try.prog base F_laws_FnDefsOk [b] σ (fun _ => False) (Ret σ (Bo true)) := by
  have := hs.one
  refine acall1 fun_laws_FnDefsOk rfl tmps_laws_FnDefsOk rfl fun N B w₀ ρ₀ => ?_
  repeat' (first
    | refine wl_pop rfl (pc_lenRow rfl hs inferInstance) ?_
    | (refine wc_callDs rfl inferInstance rfl (c_DrawDefsOk b gb _ (by omega)) rfl ?_; intro _ _ _ _ _ _ _)
    | refine wc_holdR 4 ?_
    | refine wp_seqA ?_
    | refine wp_region_seq ?_
    | refine thru_seq_next ?_
    | refine thru_seq_ret ?_
    | refine wp_skipA ?_
    | refine wp_retA ?_
    | refine wl_nil ?_
    | refine wl_pop rfl (po_move rfl) ?_
    | refine wl_pop rfl (po_assign rfl) ?_
    | refine wl_pop rfl (po_binOp rfl rfl rfl) ?_
    | refine wp_condP rfl (fun _ => ?_) (fun _ => ?_)
    | refine at_ret (res1 rfl rfl) ?_
    | exact ret_ inferInstance rfl
    | fail)
  rename_i hlen v ds σ1 ov rv hds g1
  refine hold_go ?_
  by_cases hd : defsOk ds = true
  · repeat' (first
      | (refine wc_callR rfl inferInstance rfl (hd ▸ c_DefsOk ds _ _) rfl ?_; intro _ _)
      | (refine wc_callR rfl inferInstance rfl (hd ▸ c_sDefsOk ds _ _) rfl ?_; intro _ _)
      | refine wp_seqA ?_
      | refine wp_region_seq ?_
      | refine thru_seq_next ?_
      | refine wp_skipA ?_
      | refine wp_blockA ?_
      | refine wl_nil ?_
      | refine wl_pop rfl (po_move rfl) ?_
      | refine wl_pop rfl (po_assign rfl) ?_
      | refine wl_pop rfl (pc_boolNeSelf rfl rfl inferInstance) ?_
      | refine wp_condF rfl ?_
      | fail)
    rename_i σ2 g2 σ3 g3
    refine wc_loop [(3, _), (4, _)] (fun k : Nat => [(6, I k)]) (fun k σ' => k ≤ ds.length ∧ LeS σ1 σ') (fun k => ds.length - k) 0 ⟨Nat.zero_le _, inferInstance⟩ (by repeat' (first | exact sub_nil | refine sub_cons rfl ?_ | refine sub_int rfl (by first | rfl | omega | (push_cast; omega) | simp) ?_ | refine sub_eq rfl (by assumption) ?_)) ?_
    rintro k σ' ⟨hk, hg⟩
    have := hg.grow
    repeat' (first
      | refine wp_seqA ?_
      | refine wp_region_seq ?_
      | refine thru_seq_next ?_
      | refine thru_seq ?_
      | refine exit_here ?_
      | refine wp_skipA ?_
      | refine wp_retA ?_
      | refine wp_exitA ?_
      | refine wp_blockA ?_
      | refine wl_nil ?_
      | refine wl_pop rfl (po_move rfl) ?_
      | refine wl_pop rfl (po_assign rfl) ?_
      | refine wl_pop rfl (po_binOp rfl rfl rfl) ?_
      | refine wl_pop rfl (po_pick rfl rfl) ?_
      | refine wc_guardP_true rfl rfl rfl rfl (fun _ => ?_) (fun _ => ?_)
      | refine wp_condT rfl ?_
      | refine wp_condF rfl ?_
      | refine wl_pop rfl (pc_lenT rfl inferInstance inferInstance) ?_
      | refine at_ret (res1 rfl rfl) ?_
      | exact ret_ inferInstance rfl
      | fail)
    have hk' : k < ds.length := by omega
    obtain ⟨ho1, ho2⟩ := call_ok hd hk'
    generalize (defL ds).getD k [] = L at *
    obtain ⟨id, off, s', rfl, hat, hrs⟩ := (inferInstance : RTs σ' v ds).part hk'
    have := hrs.one
    repeat' (first
      | (refine wc_callR rfl inferInstance rfl (c_mnPut _ _ _ _) rfl ?_; intro _ _)
      | (refine wc_callSO rfl inferInstance rfl (ho1 ▸ c_TermSteps (.node 5 (k : Int) []) ds _ _ _) rfl ?_; intro _ _ _ _ _ _ _)
      | (refine wc_callSO rfl inferInstance rfl (ho2 ▸ c_TermSteps ds[k] ds _ _ _) rfl ?_; intro _ _ _ _ _ _ _)
      | (refine wc_callR rfl inferInstance rfl (c_mnSteps (G := fun _ => True) L _ _ _ _ _) rfl ?_; intro _ _)
      | refine wp_seqA ?_
      | refine wp_region_seq ?_
      | refine thru_seq_next ?_
      | refine thru_block_next ?_
      | refine wp_skipA ?_
      | refine wl_nil ?_
      | refine wl_pop rfl (po_move rfl) ?_
      | refine wl_pop rfl (po_assign rfl) ?_
      | refine wl_pop rfl (pc_add rfl rfl (by omega) (by omega)) ?_
      | refine wl_pop rfl (pc_indexAddr rfl rfl inferInstance inferInstance (by omega)) ?_
      | refine wc_loadn rfl inferInstance inferInstance rfl ?_
      | refine wl_pop rfl (po_not rfl) ?_
      | refine wl_pop rfl (po_extract rfl rfl) ?_
      | refine wl_pop rfl (po_pick rfl rfl) ?_
      | refine wc_guardT_false rfl rfl rfl ?_
      | refine wp_condF rfl ?_
      | fail)
    exact ⟨k + 1, by omega, ⟨by omega, inferInstance⟩, (by repeat' (first | exact sub_nil | refine sub_cons rfl ?_ | refine sub_int rfl (by first | rfl | omega | (push_cast; omega) | simp) ?_ | refine sub_eq rfl (by assumption) ?_))⟩
  · have hd' : defsOk ds = false := by simpa using hd
    repeat' (first
      | (refine wc_callR rfl inferInstance rfl (hd' ▸ c_DefsOk ds _ _) rfl ?_; intro _ _)
      | (refine wc_callR rfl inferInstance rfl (hd' ▸ c_sDefsOk ds _ _) rfl ?_; intro _ _)
      | refine wp_seqA ?_
      | refine wp_region_seq ?_
      | refine thru_seq_next ?_
      | refine wp_skipA ?_
      | refine wp_blockA ?_
      | refine wl_nil ?_
      | refine wl_pop rfl (po_move rfl) ?_
      | refine wl_pop rfl (po_assign rfl) ?_
      | refine wl_pop rfl (pc_boolNeSelf rfl rfl inferInstance) ?_
      | refine wp_condF rfl ?_
      | fail)
    rename_i σ2 g2 σ3 g3
    refine wc_loop [(3, _), (4, _)] (fun k : Nat => [(6, I k)]) (fun k σ' => k = 0 ∧ LeS σ1 σ') (fun k => 0) 0 ⟨rfl, inferInstance⟩ (by repeat' (first | exact sub_nil | refine sub_cons rfl ?_ | refine sub_int rfl (by first | rfl | omega | (push_cast; omega) | simp) ?_ | refine sub_eq rfl (by assumption) ?_)) ?_
    rintro k σ' ⟨rfl, hg⟩
    have := hg.grow
    repeat' (first
      | refine wp_seqA ?_
      | refine wp_region_seq ?_
      | refine thru_seq_next ?_
      | refine thru_seq ?_
      | refine exit_here ?_
      | refine wp_retA ?_
      | refine wp_exitA ?_
      | refine wl_nil ?_
      | refine wl_pop rfl (po_move rfl) ?_
      | refine wl_pop rfl (po_assign rfl) ?_
      | refine wl_pop rfl (po_binOp rfl rfl rfl) ?_
      | refine wl_pop rfl (po_pick rfl rfl) ?_
      | refine wc_guardP_true rfl rfl rfl rfl (fun _ => ?_) (fun _ => ?_)
      | refine wp_condF rfl ?_
      | refine wl_pop rfl (pc_lenT rfl inferInstance inferInstance) ?_
      | refine at_ret (res1 rfl rfl) ?_
      | exact ret_ inferInstance rfl
      | fail)
end
end Go.Proofs.Ytcmkkmlgdkhmiaa.Asl
