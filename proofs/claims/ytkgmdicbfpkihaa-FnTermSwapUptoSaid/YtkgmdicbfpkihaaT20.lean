/- Names exchanged in a term: both programs, whole. -/
import Derived.Test.YtkgmdicbfpkihaaT19
import Derived.Test.YtkgmdicbfpkihaaT4
import Derived.Test.YtkgmdicbfpkihaaT5
import Derived.Test.YtkgmdicbfpkihaaT6
import Derived.Test.YtkgmdicbfpkihaaT7
namespace Go.Proofs.Ytkgmdicbfpkihaa.Asl
open Go.RowKit
set_option linter.unusedVariables false
attribute [local irreducible] WP WL andThen inBlock noGoto atEnd ACall DA DL PO Hold actB inB nodeOk Tm.shape Tm.ok
set_option maxHeartbeats 4000000

def tmO (o : Option Tm) : Tm := o.getD (.node 0 0 [])
def RetTO (σ : Store) (o : Option Tm) : AV → Store → Prop := fun r σ' => ∃ s, r = .tup [.agg [I (tmO o).op, I (tmO o).n, s], Bo o.isSome] ∧ RTsD σ σ' s (tmO o).ps ∧ Grow σ σ'
theorem ret_to_none {σ σ' : Store} {o : Option Tm} (h : o = none) (l : LeS σ σ') : RetTO σ o (.tup [.agg [I 0, I 0, nilS], Bo false]) σ' := by
  subst h; exact ⟨nilS, rfl, ⟨.nil⟩, l.grow⟩
theorem ret_to {σ σ₁ σ' : Store} {o : Option Tm} {t : Tm} {u : AV} (h : o = some t) (h1 : RTsD σ₁ σ' u t.ps) (k1 : LeS σ σ₁) (l : LeS σ σ') : RetTO σ o (.tup [.agg [I t.op, I t.n, u], Bo true]) σ' := by
  subst h; exact ⟨u, rfl, h1.down k1.len, l.grow⟩
def Tm.swO (t : Tm) (a b : Int) : Option Tm := if (t.ok && inB a 0 3 && inB b 0 3) = true then some (t.sw a b) else none
theorem inB_03 {a : Int} (h : (!inB a 0 3) = false) : 0 ≤ a ∧ a ≤ 3 := by
  have h1 : inB a 0 3 = true := by simpa using h
  unfold inB at h1
  simpa using h1
theorem Tm.swO_yes {t : Tm} {a b : Int} (h : (!t.ok) = false) (ha : (!inB a 0 3) = false) (hb : (!inB b 0 3) = false) : t.swO a b = some (t.sw a b) := by
  unfold Tm.swO; rw [if_pos (by simp at h ha hb; simp [h, ha, hb])]
theorem Tm.swO_no {t : Tm} {a b : Int} (h : (!t.ok) = true ∨ (!inB a 0 3) = true ∨ (!inB b 0 3) = true) : t.swO a b = none := by
  unfold Tm.swO; rw [if_neg (by simp at h ⊢; intro h1 h2; rcases h with h | h | h <;> simp_all)]
section
variable {base : Nat}
theorem c_TermSwap (t : Tm) (a b : Int) (σ : Store) (s : AV) [hs : RTs σ s t.ps] : ACall Try.prog base F_impl_TermSwap [.agg [I t.op, I t.n, s], I a, I b] σ (fun _ => False) (RetTO σ (t.swO a b)) := by
  have := hs.one
  refine acall3 fun_impl_TermSwap rfl tmps_impl_TermSwap rfl fun N B w₀ ρ₀ => ?_
  repeat' (first
    | (refine wc_callR rfl inferInstance rfl (c_TermOk t _ _) rfl ?_; intro _ _)
    | (refine wc_callR rfl inferInstance rfl (c_nameOk _ _) rfl ?_; intro _ _)
    | refine wl_pop rfl (pc_build0 (cs := [I 0, I 0, nilS]) inferInstance inferInstance rfl) ?_
    | (refine wc_callTD rfl inferInstance rfl (c_swapTerm (inB_03 (by assumption)) (inB_03 (by assumption)) t (Tm.ok_shape (by simpa using ‹(!t.ok) = false›)) _ _) rfl ?_; intro _ _ _ _ _)
    | refine wp_seqA ?_
    | refine wp_region_seq ?_
    | refine thru_seq_next ?_
    | refine thru_seq_ret ?_
    | refine wp_skipA ?_
    | refine wp_retA ?_
    | refine wl_nil ?_
    | refine wl_pop rfl (po_move rfl) ?_
    | refine wl_pop rfl (po_assign rfl) ?_
    | refine wc_loadn rfl inferInstance (at_has (cs := [_, _, _]) (.inl rfl) rfl rfl) rfl ?_
    | refine wl_pop rfl (po_not rfl) ?_
    | (refine wc_storeA rfl rfl inferInstance inferInstance rfl inferInstance (Nat.le_of_ble_eq_true rfl) (.inr (may_new _)) ?_; intro _ _)
    | (refine wc_boxA rfl inferInstance rfl ?_; intro _ _ _ _ _)
    | (refine wc_allocA (cs := [_, _, _]) inferInstance rfl inferInstance rfl ?_; intro _ _ _ _ _)
    | refine wl_pop rfl (po_pick rfl rfl) ?_
    | refine wc_guardT_false rfl rfl rfl ?_
    | refine wc_guardF_false rfl rfl rfl rfl ?_
    | refine wc_guard rfl rfl rfl rfl (fun _ => ?_) (fun _ => ?_)
    | refine wp_condT rfl ?_
    | refine wp_condA rfl (fun _ => ?_) (fun _ => ?_)
    | refine at_ret (res_cell2 rfl rfl inferInstance (at_has (cs := [_, _, _]) (.inl rfl) rfl rfl) rfl) ?_
    | fail)
  all_goals first
    | exact ret_to (Tm.swO_yes (by assumption) (by assumption) (by assumption)) inferInstance inferInstance inferInstance
    | exact ret_to_none (Tm.swO_no (.inr (.inr (by assumption)))) inferInstance
    | exact ret_to_none (Tm.swO_no (.inr (.inl (by assumption)))) inferInstance
    | exact ret_to_none (Tm.swO_no (.inl (by assumption))) inferInstance
theorem inB_nat {a : Int} (h : (!inB a 0 3) = false) : ∃ n : Nat, a = (n : Int) ∧ n < 4 := by
  have := inB_03 h
  exact ⟨a.toNat, by omega, by omega⟩
theorem c_sTermSwap (t : Tm) (a b : Int) (σ : Store) (s : AV) [hs : RTs σ s t.ps] : ACall Try.prog base F_spec_TermSwap [.agg [I t.op, I t.n, s], I a, I b] σ (fun _ => False) (RetTO σ (t.swO a b)) := by
  have := hs.one
  refine acall3 fun_spec_TermSwap rfl tmps_spec_TermSwap rfl fun N B w₀ ρ₀ => ?_
  repeat' (first
    | (refine wc_callR rfl inferInstance rfl (c_sTermOk t _ _) rfl ?_; intro _ _)
    | (refine wc_callR rfl inferInstance rfl (c_l6In _ _ _ _) rfl ?_; intro _ _)
    | refine wl_pop rfl (pc_build0 (cs := [I 0, I 0, nilS]) inferInstance inferInstance rfl) ?_
    | refine wp_seqA ?_
    | refine wp_region_seq ?_
    | refine thru_seq_next ?_
    | refine thru_seq_ret ?_
    | refine wp_skipA ?_
    | refine wp_retA ?_
    | refine wl_nil ?_
    | refine wl_pop rfl (po_move rfl) ?_
    | refine wl_pop rfl (po_assign rfl) ?_
    | refine wc_loadn rfl inferInstance (at_has (cs := [_, _, _]) (.inl rfl) rfl rfl) rfl ?_
    | refine wl_pop rfl (po_not rfl) ?_
    | (refine wc_storeA rfl rfl inferInstance inferInstance rfl inferInstance (Nat.le_of_ble_eq_true rfl) (.inr (may_new _)) ?_; intro _ _)
    | (refine wc_boxA rfl inferInstance rfl ?_; intro _ _ _ _ _)
    | (refine wc_allocA (cs := [_, _, _]) inferInstance rfl inferInstance rfl ?_; intro _ _ _ _ _)
    | refine wl_pop rfl (po_pick rfl rfl) ?_
    | refine wc_guardT_false rfl rfl rfl ?_
    | refine wc_guardF_false rfl rfl rfl rfl ?_
    | refine wc_guard rfl rfl rfl rfl (fun _ => ?_) (fun _ => ?_)
    | refine wp_condT rfl ?_
    | refine wp_condA rfl (fun _ => ?_) (fun _ => ?_)
    | refine at_ret (res_cell2 rfl rfl inferInstance (at_has (cs := [_, _, _]) (.inl rfl) rfl rfl) rfl) ?_
    | fail)
  all_goals first
    | exact ret_to_none (Tm.swO_no (.inr (.inr (by assumption)))) inferInstance
    | exact ret_to_none (Tm.swO_no (.inr (.inl (by assumption)))) inferInstance
    | exact ret_to_none (Tm.swO_no (.inl (by assumption))) inferInstance
    | skip
  rename_i i1 σ1 g1 n1 h1 i2 σ2 g2 n2 h2 σ3 g3 hok σ4 g4 ha σ5 g5 hb
  obtain ⟨a', rfl, ha'⟩ := inB_nat ha
  obtain ⟨b', rfl, hb'⟩ := inB_nat hb
  have h6 : Has σ5 i2 ⟨.own, 1, [I 0, I 0, nilS], []⟩ := (inferInstance : Has σ5 i2 _)
  refine wc_drawn [5, 6] mixed_ rfl ?_
  all_goals refine da_takeC 0 rfl rfl (by kernel_rfl) (by first | exact pc_loadnL rfl inferInstance (at_has (cs := [_, _, _]) (.inl rfl) rfl rfl) inferInstance | fail) ?_
  all_goals refine da_takeC 1 rfl rfl (by kernel_rfl) (by first | exact po_move rfl | fail) ?_
  all_goals refine da_takeC 2 rfl rfl (by kernel_rfl) (by first | exact po_move rfl | fail) ?_
  all_goals (first | (refine da_one 3 rfl (by kernel_rfl) (fun _ _ _ _ => ?_); (repeat' (first | (refine wc_callOW rfl inferInstance rfl (c_l2Swapped _ _ ha' hb' _) rfl ?_; intro _ _ _ _ _) | fail)); all_goals (first | refine wl_nil ⟨rfl, (by first | exact LeS.len inferInstance | exact App.len (by assumption)), ?_⟩ | trace_state)))
  all_goals (first | (refine da_one 4 rfl (by kernel_rfl) (fun _ _ _ _ => ?_); (repeat' (first | (refine wc_callTD rfl inferInstance rfl (c_l2Map ha' hb' t (Tm.ok_shape (by simpa using ‹(!t.ok) = false›)) _ _ _) rfl ?_; intro _ _ _ _ _) | fail)); all_goals (first | refine wl_nil ⟨rfl, (by first | exact LeS.len inferInstance | exact App.len (by assumption)), ?_⟩ | trace_state)))
  all_goals (refine da_last 5 rfl (by decide) (by kernel_rfl) ?_; (repeat' (first | (refine wc_storeA rfl rfl inferInstance inferInstance rfl inferInstance (Nat.le_of_ble_eq_true rfl) (.inr (may_new _)) ?_; intro _ _) | fail)); all_goals (first | refine wl_nil (dl_in ?_) | trace_state))
  all_goals (refine dl_last 6 rfl (by decide) (by kernel_rfl) ?_; (repeat' (first | refine wl_pop rfl (po_assign rfl) ?_ | fail)); all_goals (first | refine wl_nil (dl_in ?_) | trace_state))
  all_goals refine dl_done (by kernel_rfl) ?_
  repeat' (first
    | refine thru_seq_next ?_
    | refine wp_retA ?_
    | refine at_ret (res_cell2 rfl rfl inferInstance (at_has (cs := [_, _, _]) (.inl rfl) rfl rfl) rfl) ?_
    | fail)
  all_goals exact ret_to (Tm.swO_yes (by assumption) (by assumption) (by assumption)) inferInstance inferInstance inferInstance
end
section
variable {E : Env} {ops : Array Oper} {l : List Oper} {Q : Exit → Slots → Store → Prop} {S : Slots} {σ : Store} {d : Option Tmp} {ty : TypeId} {pos : String} {af : Array Edge} {x y : Operand} {n0 fuel : Nat} {ds : List Nat} {listed : Array Bool}
theorem wc_callTO {args : Array Operand} {ats : Array TypeId} {f : FuncId} {rs caps : List AV} {o : Option Tm} (hf : S.ev x = some (.fn f caps)) (hc : Callable E.P f) (hargs : evs S args.toList = some rs)
    (h : ACall E.P E.base f (rs ++ caps) σ (fun _ => False) (RetTO σ o)) (hd : okd E d = true) (k : ∀ s σ', One s → RTsD σ σ' s (tmO o).ps → Grow σ σ' → WL E ops l Q (S.put d (.tup [.agg [I (tmO o).op, I (tmO o).n, s], Bo o.isSome])) σ') :
    WL E ops (⟨d, .call ⟨.value x, args, ats⟩, ty, pos, af, none⟩ :: l) Q S σ :=
  wc_call hf hc hargs h hd fun r' σ' h => by obtain ⟨s, e, hr, hg⟩ := h; subst e; exact k s σ' hr.new.rts.one hr hg
end
end Go.Proofs.Ytkgmdicbfpkihaa.Asl
