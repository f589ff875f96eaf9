/- The drawn law FnTermFits. -/
import Derived.Test.YtkgmdicbfpkihaaD6
import Derived.Test.YtkgmdicbfpkihaaT6
import Derived.Test.YtkgmdicbfpkihaaT7
namespace Go.Proofs.Ytkgmdicbfpkihaa.Asl
open Go.RowKit
set_option linter.unusedVariables false
set_option linter.unusedSimpArgs false
attribute [local irreducible] WP WL andThen inBlock noGoto atEnd ACall DA DL PO Hold Tm.fits Tm.ok
set_option maxHeartbeats 4000000
theorem Tm.callLt_next {m : Int} (t : Tm) : t.callLt m = true → t.callLt (m + 1) = true := by
  refine Tm.ind (P := fun t => t.callLt m = true → t.callLt (m + 1) = true) ?_ t
  intro op n ps ih h
  simp only [Tm.callLt, Tm.callLts_eq, Bool.and_eq_true, Bool.or_eq_true, decide_eq_true_eq, List.all_eq_true] at h ⊢
  exact ⟨h.1.imp (fun h => h) (fun h => by omega), fun p hp => ih p hp (h.2 p hp)⟩
theorem Tm.fits_ok {m : Int} {t : Tm} (h : t.fits m = true) : t.ok = true := by
  unfold Tm.fits at h
  simp only [Bool.and_eq_true] at h
  exact h.1.1
theorem Tm.fits_next {m : Int} {t : Tm} (h : t.fits m = true) (hm : ¬ m = 3) : t.fits (m + 1) = true := by
  unfold Tm.fits at h ⊢
  simp only [Bool.and_eq_true, inB_iff] at h ⊢
  exact ⟨⟨h.1.1, by omega⟩, Tm.callLt_next t h.2⟩
section
variable {base : Nat}
def RetTF (σ : Store) : AV → Store → Prop := fun r σ' => ∃ (t : Tm) (u : AV) (m : Int), r = .tup [.agg [I t.op, I t.n, u], I m] ∧ RTs σ' u t.ps ∧ -10 ≤ m ∧ m ≤ 10 ∧ Grow σ σ'
theorem c_DrawTermFits (b : AV) (gb : List UInt8) (σ : Store) [hs : RW σ b gb] (hg : gb.length ≤ 1048576) : ACall Try.prog base F_spec_DrawTermFits [b] σ (fun _ => False) (RetTF σ) := by
  have := hs.one
  refine acall1 fun_spec_DrawTermFits rfl tmps_spec_DrawTermFits rfl fun N B w₀ ρ₀ => ?_
  repeat' (first
    | (refine wc_callOpen rfl inferInstance rfl (c_l6Open b gb _ hg) rfl ?_; intro _ _ _ _ _ _ _ _)
    | refine wc_holdR 2 ?_
    | refine wp_seqA ?_
    | refine wp_region_seq ?_
    | refine thru_seq_next ?_
    | refine wl_nil ?_
    | refine wl_pop rfl (po_move rfl) ?_
    | refine wl_pop rfl (po_assign rfl) ?_
    | (refine wc_allocA (cs := [_, _, _]) inferInstance rfl inferInstance rfl ?_; intro _ _ _ _ _)
    | fail)
  rename_i i1 σ1 g1 n1 h1 i s g σ2 g2 n2 h2 b2
  have hni : σ.length ≤ i := Nat.le_trans g1.len n2.le
  have y0 := h1.lt
  have y1 := n2.le
  have y2 := h2.lt
  have y3 := g2.len
  refine hold_go ?_
  repeat' (first
    | (refine wc_callC rfl inferInstance rfl (c_l91Called i s g _ _ (by omega) (by omega)) inferInstance (.inr hni) rfl ?_; intro _ _ _ _ _ _ _ _ _ _ _ _ _ _ _ _)
    | (refine wc_storeA rfl rfl inferInstance inferInstance rfl inferInstance (Nat.le_of_ble_eq_true rfl) (.inr (may_newB i σ)) ?_; intro _ _)
    | refine wc_holdR 3 ?_
    | refine wp_seqA ?_
    | refine wp_region_seq ?_
    | refine thru_seq_next ?_
    | refine wl_nil ?_
    | refine wl_pop rfl (po_move rfl) ?_
    | refine wl_pop rfl (po_assign rfl) ?_
    | refine wl_pop rfl (po_extract rfl rfl) ?_
    | (refine wc_allocA (cs := [_, _, _]) inferInstance rfl inferInstance rfl ?_; intro _ _ _ _ _)
    | fail)
  rename_i t u v xs p3 σ3 σ4 ou ov ru rv hx a1 a2 g4 u4 j σ5 g5 n5 h5 σ6 u6
  have y4 := (inferInstance : LeB i σ2 σ4).len
  have y5 := n5.le
  have RV : RepD σ6 (fun x => σ2.length ≤ x ∧ x < σ4.length) v xs := rv.rep.lt.mono (fun x o hx ho => (inferInstance : LeB i σ4 σ6).keep.keep x o (by omega) ho) (fun x hx => hx)
  have RU : RepD σ6 (fun x => σ2.length ≤ x ∧ x < σ4.length) u t.ps := ru.rep.lt.mono (fun x o hx ho => (inferInstance : LeB i σ4 σ6).keep.keep x o (by omega) ho) (fun x hx => hx)
  have d1 : Dif i1 j := ⟨by omega⟩
  have d2 : Dif i j := ⟨by omega⟩
  refine hold_go ?_
  repeat' (first
    | (refine wc_callP rfl inferInstance rfl (c_pick i s g _ _ _ (hb := b2.le inferInstance) (by omega) (by omega)) inferInstance (.inr hni) rfl ?_; intro _ _ _ _ _ _ _ _ _ _)
    | refine wl_pop rfl (pc_lenT rfl (rts_le (i := i) RV (fun x hx => by omega) inferInstance) inferInstance) ?_
    | refine wp_seqA ?_
    | refine wp_region_seq ?_
    | refine thru_seq_next ?_
    | refine wp_retA ?_
    | refine wl_nil ?_
    | refine wl_pop rfl (po_move rfl) ?_
    | refine wl_pop rfl (po_assign rfl) ?_
    | refine wl_pop rfl (pc_add rfl rfl (by omega) (by omega)) ?_
    | refine wl_pop rfl (pc_sub rfl rfl (by omega) (by omega)) ?_
    | refine wc_loadn rfl inferInstance (at_has (cs := [_, _, _]) (.inl rfl) rfl rfl) rfl ?_
    | (refine wc_storeA rfl rfl inferInstance inferInstance rfl inferInstance (Nat.le_of_ble_eq_true rfl) (.inr (may_new _)) ?_; intro _ _)
    | refine at_ret (res_cell2 rfl rfl inferInstance (at_has (cs := [_, _, _]) (.inl rfl) rfl rfl) rfl) ?_
    | fail)
  rename_i m1 p4 σ7 σ8 c1 c2 c3 c4 g8 u8 m2 p5 σ9 σ10 c5 c6 c7 c8 g10 u10 σ11 u11
  have hl := (inferInstance : LeB i σ σ11)
  refine ⟨t, u, _, rfl, ⟨(RU.mono (F' := fun _ => True) (fun x o hx ho => ?_) (fun _ _ => trivial)).rep⟩, by omega, by omega, ⟨fun x o ho => hl.keep.keep x o (by have := Has.lt (σ := σ) (i := x) ⟨ho⟩; omega) ho⟩⟩
  rw [u11.eq, List.getElem?_set_ne (by omega)]
  exact (inferInstance : LeB i σ6 σ10).keep.keep x o (by omega) ho
theorem wc_callTF {E : Env} {ops : Array Oper} {l : List Oper} {Q : Exit → Slots → Store → Prop} {S : Slots} {σ : Store} {d : Option Tmp} {ty : TypeId} {pos : String} {af : Array Edge} {x : Operand} {args : Array Operand} {ats : Array TypeId} {f : FuncId} {rs caps : List AV} (hf : S.ev x = some (.fn f caps)) (hc : Callable E.P f) (hargs : evs S args.toList = some rs)
    (h : ACall E.P E.base f (rs ++ caps) σ (fun _ => False) (RetTF σ)) (hd : okd E d = true) (k : ∀ (t : Tm) (u : AV) (m : Int) σ', One u → RTs σ' u t.ps → -10 ≤ m → m ≤ 10 → Grow σ σ' → WL E ops l Q (S.put d (.tup [.agg [I t.op, I t.n, u], I m])) σ') :
    WL E ops (⟨d, .call ⟨.value x, args, ats⟩, ty, pos, af, none⟩ :: l) Q S σ :=
  wc_call hf hc hargs h hd fun r' σ' h => by obtain ⟨t, u, m, e, h1, h2, h3, h4⟩ := h; subst e; exact k t u m σ' h1.one h1 h2 h3 h4
theorem c_FnTermFits (b : AV) (gb : List UInt8) (σ : Store) [hs : RW σ b gb] : ACall Try.prog base F_laws_FnTermFits [b] σ (fun _ => False) (Ret σ (Bo true)) := by
  have := hs.one
  refine acall1 fun_laws_FnTermFits rfl tmps_laws_FnTermFits rfl fun N B w₀ ρ₀ => ?_
  repeat' (first
    | refine wl_pop rfl (pc_lenRow rfl hs inferInstance) ?_
    | (refine wc_callTF rfl inferInstance rfl (c_DrawTermFits b gb _ (by omega)) rfl ?_; intro _ _ _ _ _ _ _ _ _)
    | refine wc_holdR 4 ?_
    | refine wp_seqA ?_
    | refine wp_region_seq ?_
    | refine thru_seq_next ?_
    | refine thru_seq_ret ?_
    | refine wp_skipA ?_
    | refine wp_retA ?_
    | refine wl_nil ?_
    | refine wl_pop rfl (po_move rfl) ?_
    | refine wl_pop rfl (po_assign rfl) ?_
    | refine wl_pop rfl (po_binOp rfl rfl rfl) ?_
    | (refine wc_storeA rfl rfl inferInstance inferInstance rfl inferInstance (Nat.le_of_ble_eq_true rfl) (.inr (may_new _)) ?_; intro _ _)
    | refine wl_pop rfl (po_extract rfl rfl) ?_
    | (refine wc_allocA (cs := [_, _, _]) inferInstance rfl inferInstance rfl ?_; intro _ _ _ _ _)
    | refine wp_condP rfl (fun _ => ?_) (fun _ => ?_)
    | refine at_ret (res1 rfl rfl) ?_
    | exact ret_ inferInstance rfl
    | fail)
  rename_i hlen t u m σ1 ou ru m1 m2 g1 i2 σ2 g2 n2 h2 σ3 u3
  refine hold_go ?_
  repeat' (first
    | (refine wc_callR rfl inferInstance rfl (c_TermFits _ t _ _) rfl ?_; intro _ _)
    | (refine wc_callR rfl inferInstance rfl (c_sTermFits _ t _ _) rfl ?_; intro _ _)
    | (refine wc_callR rfl inferInstance rfl (c_TermOk t _ _) rfl ?_; intro _ _)
    | refine wp_seqA ?_
    | refine wp_region_seq ?_
    | refine thru_seq_next ?_
    | refine wp_skipA ?_
    | refine wp_retA ?_
    | refine wl_nil ?_
    | refine wl_pop rfl (po_move rfl) ?_
    | refine wl_pop rfl (po_assign rfl) ?_
    | refine wl_pop rfl (pc_add rfl rfl (by omega) (by omega)) ?_
    | refine wl_pop rfl (po_binOp rfl rfl rfl) ?_
    | refine wl_pop rfl (pc_boolNeSelf rfl rfl inferInstance) ?_
    | refine wc_loadn rfl inferInstance (at_has (cs := [_, _, _]) (.inl rfl) rfl rfl) rfl ?_
    | refine wl_pop rfl (po_not rfl) ?_
    | refine wl_pop rfl (po_pick rfl rfl) ?_
    | refine wc_guardU rfl rfl rfl rfl ?_
    | refine wc_guardT_true rfl rfl rfl ?_
    | refine wc_guardF_true rfl rfl rfl rfl ?_
    | refine wc_guardT_false rfl rfl rfl ?_
    | refine wc_guardF_false rfl rfl rfl rfl ?_
    | refine wc_guardP_false rfl rfl rfl rfl (fun _ => ?_) (fun _ => ?_)
    | refine wc_guard rfl rfl rfl rfl (fun _ => ?_) (fun _ => ?_)
    | refine wp_condF rfl ?_
    | refine at_ret (res1 rfl rfl) ?_
    | exact ret_ inferInstance rfl
    | fail)
  · rename_i q1 q2 q3 q4 q5 q6 q7 q8 q9
    exact ret_ inferInstance (by rw [Tm.fits_next (by simpa using ‹(!Tm.fits m t) = false›) ‹¬m = 3›])
  · exact absurd (Tm.fits_ok (by simpa using ‹(!Tm.fits m t) = false›)) (by simp_all)
end
end Go.Proofs.Ytkgmdicbfpkihaa.Asl
