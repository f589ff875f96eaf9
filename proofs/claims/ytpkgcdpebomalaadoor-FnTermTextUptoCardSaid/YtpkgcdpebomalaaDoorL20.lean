/- The laws on texts: FnExactTermText and the drawn law FnTermText. -/
import Derived.Test.YtpkgcdpebomalaaDoorK9
import Derived.Test.YtpkgcdpebomalaaDoorTU
import Derived.Test.YtpkgcdpebomalaaDoorDD
import Derived.Test.YtpkgcdpebomalaaDoorTT
namespace Go.Proofs.YtpkgcdpebomalaaDoor.Asl
open Go.RowKit Go.Proofs.YtpkgcdpebomalaaDoorW.PrintLast
set_option linter.unusedVariables false
set_option linter.unusedSimpArgs false
attribute [local irreducible] WP WL andThen inBlock noGoto atEnd ACall DA DL PO Hold nodeOk Tm.shape Tm.ok Tm.txt Tm.text
set_option maxHeartbeats 4000000
set_option synthInstance.maxHeartbeats 400000
set_option synthInstance.maxSize 10000
theorem ok_get {t : Tm} (h : t.ok = true) : t.shape = true ∧ t.cnt ≤ 24 := by
  unfold Tm.ok at h
  simp only [Bool.and_eq_true, decide_eq_true_eq] at h
  exact ⟨h.2, h.1⟩
theorem text_ok {t : Tm} (h : t.ok = true) : t.text = t.txt := by unfold Tm.text; rw [if_pos h]
theorem ok_part {t : Tm} (h : (Tm.node 2 0 [t, t]).ok = true) : t.ok = true := by
  unfold Tm.ok at h ⊢
  simp only [Bool.and_eq_true, decide_eq_true_eq] at h ⊢
  obtain ⟨h1, h2⟩ := h
  have h3 := (Tm.shape_node h2).2 t (by simp)
  simp only [Tm.cnt, Tm.cnts] at h1
  exact ⟨by omega, h3⟩
theorem rts_two2 {σ : Store} {j : Nat} {t t' : Tm} {u u' : AV} (h : RTs σ u t.ps) (h' : RTs σ u' t'.ps) (hh : Has σ j ⟨.own, 3, [I t.op, I t.n, u, I t'.op, I t'.n, u'], []⟩) : RTs σ (.sl j 0 2) [t, t'] :=
  ⟨RepTs.row (ps := [t, t']) [u, u'] trivial hh.get (.inr rfl) rfl (by simp) rfl
    (fun k t2 s2 h1 h2 => by
      match k, h1, h2 with
      | 0, h1, h2 => simp at h1 h2; subst h1 h2; rfl
      | 1, h1, h2 => simp at h1 h2; subst h1 h2; rfl)
    (fun k t2 s2 h1 h2 => by
      match k, h1, h2 with
      | 0, h1, h2 => simp at h1 h2; subst h1 h2; exact h.rep
      | 1, h1, h2 => simp at h1 h2; subst h1 h2; exact h'.rep)⟩
theorem text_no {t : Tm} (h : t.ok = false) : t.text = [] := by unfold Tm.text; rw [if_neg (by simp [h])]
theorem text_len (t : Tm) : t.text.length ≤ 300 := by
  by_cases h : t.ok = true
  · rw [text_ok h]
    have := Tm.txt_len t
    have := (ok_get h).2
    omega
  · rw [text_no (by simpa using h)]; simp
section
variable {E : Env} {ops : Array Oper} {l : List Oper} {Q : Exit → Slots → Store → Prop} {S : Slots} {σ : Store} {d : Option Tmp} {ty : TypeId} {pos : String} {af : Array Edge} {g : Option (Nat × Bool)} {x y : Operand} {n0 : Nat}
theorem pc_strNe0 {xt yt : TypeId} {a : ByteArray} (hx : S.ev x = some (Str a)) (hy : S.ev y = some (Str a)) : PO E S σ n0 ⟨d, .binOp .neq xt x y yt, ty, pos, af, g⟩ (Bo false) :=
  po_binOp hx hy (congrArg (fun b => some (Value.bool b)) (by simp))
theorem pc_strEq1 {xt yt : TypeId} {a : ByteArray} (hx : S.ev x = some (Str a)) (hy : S.ev y = some (Str a)) : PO E S σ n0 ⟨d, .binOp .eql xt x y yt, ty, pos, af, g⟩ (Bo true) :=
  po_binOp hx hy (congrArg (fun b => some (Value.bool b)) (by simp))
end
section
variable {base : Nat}
theorem c_TermText (t : Tm) (σ : Store) (s : AV) [hs : RTs σ s t.ps] : ACall Tryd.prog base F_impl_TermText [.agg [I t.op, I t.n, s]] σ (fun _ => False) (Ret σ (Str (ofL t.text))) := by
  have := hs.one
  refine acall1 fun_impl_TermText rfl tmps_impl_TermText rfl fun N B w₀ ρ₀ => ?_
  by_cases h : t.ok = true
  · have hg := ok_get h
    repeat' (first
      | (refine wc_callR rfl inferInstance rfl (h ▸ c_TermOk t _ _) rfl ?_; intro _ _)
      | (refine wc_callR rfl inferInstance rfl (c_textOf t hg.1 (by omega) _ _ inferInstance) rfl ?_; intro _ _)
      | refine wp_seqA ?_
      | refine wp_region_seq ?_
      | refine thru_seq_next ?_
      | refine wp_skipA ?_
      | refine wp_retA ?_
      | refine wl_nil ?_
      | refine wl_pop rfl (po_assign rfl) ?_
      | refine wc_loadn rfl inferInstance (at_has (cs := [_, _, _]) (.inl rfl) rfl rfl) rfl ?_
      | refine wl_pop rfl (po_not rfl) ?_
      | (refine wc_boxA rfl inferInstance rfl ?_; intro _ _ _ _ _)
      | refine wp_condF rfl ?_
      | refine at_ret (res1 rfl rfl) ?_
      | fail)
    all_goals first | contradiction | exact ret_ inferInstance (by rw [text_ok h])
  · have h' : t.ok = false := by simpa using h
    repeat' (first
      | (refine wc_callR rfl inferInstance rfl (h' ▸ c_TermOk t _ _) rfl ?_; intro _ _)
      | refine wp_seqA ?_
      | refine wp_region_seq ?_
      | refine thru_seq_next ?_
      | refine thru_seq_ret ?_
      | refine wp_retA ?_
      | refine wl_nil ?_
      | refine wl_pop rfl (po_assign rfl) ?_
      | refine wc_loadn rfl inferInstance (at_has (cs := [_, _, _]) (.inl rfl) rfl rfl) rfl ?_
      | refine wl_pop rfl (po_not rfl) ?_
      | (refine wc_boxA rfl inferInstance rfl ?_; intro _ _ _ _ _)
      | refine wp_condT rfl ?_
      | refine at_ret (res1 rfl rfl) ?_
      | fail)
    all_goals first | contradiction | exact ret_ inferInstance (by rw [text_no h'])
theorem c_sTermText (t : Tm) (σ : Store) (s : AV) [hs : RTs σ s t.ps] : ACall Tryd.prog base F_spec_TermText [.agg [I t.op, I t.n, s]] σ (fun _ => False) (Ret σ (Str (ofL t.text))) := by
  have := hs.one
  refine acall1 fun_spec_TermText rfl tmps_spec_TermText rfl fun N B w₀ ρ₀ => ?_
  by_cases h : t.ok = true
  · have hg := ok_get h
    repeat' (first
      | (refine wc_callR rfl inferInstance rfl (h ▸ c_sTermOk t _ _) rfl ?_; intro _ _)
      | (refine wc_callR rfl inferInstance rfl (c_l2Text t hg.1 (by omega) _ _ inferInstance) rfl ?_; intro _ _)
      | refine wp_seqA ?_
      | refine wp_region_seq ?_
      | refine thru_seq_next ?_
      | refine wp_skipA ?_
      | refine wp_retA ?_
      | refine wl_nil ?_
      | refine wl_pop rfl (po_assign rfl) ?_
      | refine wc_loadn rfl inferInstance (at_has (cs := [_, _, _]) (.inl rfl) rfl rfl) rfl ?_
      | refine wl_pop rfl (po_not rfl) ?_
      | (refine wc_boxA rfl inferInstance rfl ?_; intro _ _ _ _ _)
      | refine wp_condF rfl ?_
      | refine at_ret (res1 rfl rfl) ?_
      | fail)
    all_goals first | contradiction | exact ret_ inferInstance (by rw [text_ok h])
  · have h' : t.ok = false := by simpa using h
    repeat' (first
      | (refine wc_callR rfl inferInstance rfl (h' ▸ c_sTermOk t _ _) rfl ?_; intro _ _)
      | refine wp_seqA ?_
      | refine wp_region_seq ?_
      | refine thru_seq_next ?_
      | refine thru_seq_ret ?_
      | refine wp_retA ?_
      | refine wl_nil ?_
      | refine wl_pop rfl (po_assign rfl) ?_
      | refine wc_loadn rfl inferInstance (at_has (cs := [_, _, _]) (.inl rfl) rfl rfl) rfl ?_
      | refine wl_pop rfl (po_not rfl) ?_
      | (refine wc_boxA rfl inferInstance rfl ?_; intro _ _ _ _ _)
      | refine wp_condT rfl ?_
      | refine at_ret (res1 rfl rfl) ?_
      | fail)
    all_goals first | contradiction | exact ret_ inferInstance (by rw [text_no h'])
theorem c_FnExactTermText (t : Tm) (σ : Store) (s : AV) [hs : RTs σ s t.ps] : ACall Tryd.prog base F_laws_FnExactTermText [.agg [I t.op, I t.n, s]] σ (fun _ => False) (Ret σ (Bo true)) := by
  have := hs.one
  refine acall1 fun_laws_FnExactTermText rfl tmps_laws_FnExactTermText rfl fun N B w₀ ρ₀ => ?_
  repeat' (first
    | (refine wc_callI rfl inferInstance rfl (c_szTerm t _ _ _) rfl ?_; intro _ _ _)
    | (refine wc_callTD rfl inferInstance rfl (c_toTermL hs _) rfl ?_; intro _ _ _ _ _)
    | (refine wc_callR rfl inferInstance rfl (c_sTermText t _ _) rfl ?_; intro _ _)
    | (refine wc_callR rfl inferInstance rfl (c_TermText t _ _) rfl ?_; intro _ _)
    | refine wl_pop rfl (pc_strNe0 rfl rfl) ?_
    | refine wp_seqA ?_
    | refine wp_region_seq ?_
    | refine thru_seq_next ?_
    | refine thru_seq_ret ?_
    | refine wp_skipA ?_
    | refine wp_retA ?_
    | refine wl_nil ?_
    | refine wl_pop rfl (po_move rfl) ?_
    | refine wl_pop rfl (po_assign rfl) ?_
    | refine wl_pop rfl (po_binOp rfl rfl rfl) ?_
    | refine wc_loadn rfl inferInstance (at_has (cs := [_, _, _]) (.inl rfl) rfl rfl) rfl ?_
    | (refine wc_storeA rfl rfl inferInstance inferInstance rfl inferInstance (Nat.le_of_ble_eq_true rfl) (.inr (may_new _)) ?_; intro _ _)
    | (refine wc_boxA rfl inferInstance rfl ?_; intro _ _ _ _ _)
    | (refine wc_allocA (cs := [_, _, _]) inferInstance rfl inferInstance rfl ?_; intro _ _ _ _ _)
    | refine wp_condF rfl ?_
    | refine wp_condP rfl (fun _ => ?_) (fun _ => ?_)
    | refine at_ret (res1 rfl rfl) ?_
    | exact ret_ inferInstance rfl
    | fail)
  refine wc_drawn [] mixed_ rfl ?_
  all_goals refine da_takeC 0 rfl rfl (by kernel_rfl) (by first | exact pc_loadnL rfl inferInstance (at_has (cs := [_, _, _]) (.inl rfl) rfl rfl) inferInstance | fail) ?_
  all_goals refine da_takeC 1 rfl rfl (by kernel_rfl) (by first | exact pc_loadnL rfl inferInstance (at_has (cs := [_, _, _]) (.inl rfl) rfl rfl) inferInstance | fail) ?_
  all_goals (first | (refine da_one 2 rfl (by kernel_rfl) (fun _ _ _ _ => ?_); (repeat' (first | (refine wc_callTD rfl inferInstance rfl (c_toTermL hs _) rfl ?_; intro _ _ _ _ _) | fail)); all_goals (first | refine wl_nil ⟨rfl, (by first | exact LeS.len inferInstance | exact App.len (by assumption)), ?_⟩ | trace_state)))
  all_goals (first | (refine da_one 3 rfl (by kernel_rfl) (fun _ _ _ _ => ?_); (repeat' (first | (refine wc_callR rfl inferInstance rfl (c_eqTerm_self t _ _ _) rfl ?_; intro _ _) | fail)); all_goals (first | refine wl_nil ⟨rfl, (by first | exact LeS.len inferInstance | exact App.len (by assumption)), ?_⟩ | trace_state)))
  all_goals refine da_takeC 4 rfl rfl (by kernel_rfl) (by first | exact po_not rfl | fail) ?_
  all_goals refine da_done (by kernel_rfl) ?_
  repeat' (first
    | refine wp_seqA ?_
    | refine wp_region_seq ?_
    | refine thru_seq_next ?_
    | refine wp_skipA ?_
    | refine wp_retA ?_
    | refine wl_nil ?_
    | refine wl_pop rfl (po_assign rfl) ?_
    | refine wp_condF rfl ?_
    | refine at_ret (res1 rfl rfl) ?_
    | exact ret_ inferInstance rfl
    | fail)
/-- A term is drawn. -/
def RetT1 (σ : Store) : AV → Store → Prop := fun r σ' => ∃ (t : Tm) (u : AV), r = .agg [I t.op, I t.n, u] ∧ RTs σ' u t.ps ∧ Grow σ σ'
theorem wc_callT1 {E : Env} {ops : Array Oper} {l : List Oper} {Q : Exit → Slots → Store → Prop} {S : Slots} {σ : Store} {d : Option Tmp} {ty : TypeId} {pos : String} {af : Array Edge} {x : Operand} {args : Array Operand} {ats : Array TypeId} {f : FuncId} {rs caps : List AV} (hf : S.ev x = some (.fn f caps)) (hc : Callable E.P f) (hargs : evs S args.toList = some rs)
    (h : ACall E.P E.base f (rs ++ caps) σ (fun _ => False) (RetT1 σ)) (hd : okd E d = true) (k : ∀ (t : Tm) (u : AV) σ', One u → RTs σ' u t.ps → Grow σ σ' → WL E ops l Q (S.put d (.agg [I t.op, I t.n, u])) σ') :
    WL E ops (⟨d, .call ⟨.value x, args, ats⟩, ty, pos, af, none⟩ :: l) Q S σ :=
  wc_call hf hc hargs h hd fun r' σ' h => by obtain ⟨t, u, e, h1, h4⟩ := h; subst e; exact k t u σ' h1.one h1 h4
theorem c_DrawTermText (b : AV) (gb : List UInt8) (σ : Store) [hs : RW σ b gb] (hg : gb.length ≤ 1048576) : ACall Tryd.prog base F_spec_DrawTermText [b] σ (fun _ => False) (RetT1 σ) := by
  have := hs.one
  refine acall1 fun_spec_DrawTermText rfl tmps_spec_DrawTermText rfl fun N B w₀ ρ₀ => ?_
  repeat' (first
    | (refine wc_callOpen rfl inferInstance rfl (c_l6Open b gb _ hg) rfl ?_; intro _ _ _ _ _ _ _ _)
    | refine wc_holdR 2 ?_
    | refine wp_seqA ?_
    | refine wp_region_seq ?_
    | refine thru_seq_next ?_
    | refine wl_nil ?_
    | refine wl_pop rfl (po_move rfl) ?_
    | refine wl_pop rfl (po_assign rfl) ?_
    | (refine wc_allocA (cs := [_, _, _]) inferInstance rfl inferInstance rfl ?_; intro _ _ _ _ _)
    | fail)
  rename_i i1 σ1 g1 n1 h1 i s g σ2 g2 n2 h2 b2
  have hni : σ.length ≤ i := Nat.le_trans g1.len n2.le
  have y0 := h1.lt
  have y1 := n2.le
  have y2 := h2.lt
  have y3 := g2.len
  refine hold_go ?_
  repeat' (first
    | (refine wc_callC rfl inferInstance rfl (c_l91Called i s g _ _ (by omega) (by omega)) inferInstance (.inr hni) rfl ?_; intro _ _ _ _ _ _ _ _ _ _ _ _ _ _ _ _)
    | (refine wc_storeA rfl rfl inferInstance inferInstance rfl inferInstance (Nat.le_of_ble_eq_true rfl) (.inr (may_newB i σ)) ?_; intro _ _)
    | refine wc_holdR 3 ?_
    | refine wp_seqA ?_
    | refine wp_region_seq ?_
    | refine thru_seq_next ?_
    | refine wl_nil ?_
    | refine wl_pop rfl (po_move rfl) ?_
    | refine wl_pop rfl (po_assign rfl) ?_
    | refine wl_pop rfl (po_extract rfl rfl) ?_
    | (refine wc_allocA (cs := [_, _, _]) inferInstance rfl inferInstance rfl ?_; intro _ _ _ _ _)
    | fail)
  rename_i t u v xs p3 σ3 σ4 ou ov ru rv hx a1 a2 g4 u4 j σ5 g5 n5 h5 σ6 u6
  have y4 := (inferInstance : LeB i σ2 σ4).len
  have y5 := n5.le
  have RU : RepD σ6 (fun x => σ2.length ≤ x ∧ x < σ4.length) u t.ps := ru.rep.lt.mono (fun x o hx ho => (inferInstance : LeB i σ4 σ6).keep.keep x o (by omega) ho) (fun x hx => hx)
  have d1 : Dif i1 j := ⟨by omega⟩
  have d2 : Dif i j := ⟨by omega⟩
  refine hold_go ?_
  repeat' (first
    | refine wp_region_seq ?_
    | refine thru_seq_next ?_
    | refine wp_retA ?_
    | refine wl_nil ?_
    | refine wc_loadn rfl inferInstance (at_has (cs := [_, _, _]) (.inl rfl) rfl rfl) rfl ?_
    | (refine wc_storeA rfl rfl inferInstance inferInstance rfl inferInstance (Nat.le_of_ble_eq_true rfl) (.inr (may_new _)) ?_; intro _ _)
    | refine at_ret (res_cell rfl rfl inferInstance (at_has (cs := [_, _, _]) (.inl rfl) rfl rfl)) ?_
    | fail)
  rename_i σ7 u7
  have hl := (inferInstance : LeB i σ σ7)
  refine ⟨t, u, rfl, ⟨(RU.mono (F' := fun _ => True) (fun x o hx ho => ?_) (fun _ _ => trivial)).rep⟩, ⟨fun x o ho => hl.keep.keep x o (by have := Has.lt (σ := σ) (i := x) ⟨ho⟩; omega) ho⟩⟩
  rw [u7.eq, List.getElem?_set_ne (by omega)]
  exact ho
theorem c_mnPut (a b : Int) (s : AV) (σ : Store) [h : One s] : ACall Tryd.prog base F_laws_mnPut [I a, I b, s] σ (fun _ => False) (Ret σ (.agg [I a, I b, s])) := by
  refine acall3 fun_laws_mnPut rfl tmps_laws_mnPut rfl fun N B w₀ ρ₀ => ?_
  repeat' (first
    | refine wl_pop rfl (pc_tm3 rfl rfl rfl inferInstance inferInstance rfl) ?_
    | refine wp_seqA ?_
    | refine wp_region_seq ?_
    | refine thru_seq_next ?_
    | refine wp_retA ?_
    | refine wl_nil ?_
    | refine wl_pop rfl (po_move rfl) ?_
    | (refine wc_storeA rfl rfl inferInstance inferInstance rfl inferInstance (Nat.le_of_ble_eq_true rfl) (.inr (may_new _)) ?_; intro _ _)
    | (refine wc_allocA (cs := [_, _, _]) inferInstance rfl inferInstance rfl ?_; intro _ _ _ _ _)
    | refine at_ret (res_cell rfl rfl inferInstance (at_has (cs := [_, _, _]) (.inl rfl) rfl rfl)) ?_
    | exact ret_ inferInstance rfl
    | fail)
theorem c_FnTermText (b : AV) (gb : List UInt8) (σ : Store) [hs : RW σ b gb] : ACall Tryd.prog base F_laws_FnTermText [b] σ (fun _ => False) (Ret σ (Bo true)) := by
  have := hs.one
  refine acall1 fun_laws_FnTermText rfl tmps_laws_FnTermText rfl fun N B w₀ ρ₀ => ?_
  repeat' (first
    | refine wl_pop rfl (pc_lenRow rfl hs inferInstance) ?_
    | (refine wc_callT1 rfl inferInstance rfl (c_DrawTermText b gb _ (by omega)) rfl ?_; intro _ _ _ _ _ _)
    | refine wc_holdR 4 ?_
    | refine wp_seqA ?_
    | refine wp_region_seq ?_
    | refine thru_seq_next ?_
    | refine thru_seq_ret ?_
    | refine wp_skipA ?_
    | refine wp_retA ?_
    | refine wl_nil ?_
    | refine wl_pop rfl (po_move rfl) ?_
    | refine wl_pop rfl (po_assign rfl) ?_
    | refine wl_pop rfl (po_binOp rfl rfl rfl) ?_
    | (refine wc_storeA rfl rfl inferInstance inferInstance rfl inferInstance (Nat.le_of_ble_eq_true rfl) (.inr (may_new _)) ?_; intro _ _)
    | (refine wc_allocA (cs := [_, _, _]) inferInstance rfl inferInstance rfl ?_; intro _ _ _ _ _)
    | refine wp_condP rfl (fun _ => ?_) (fun _ => ?_)
    | refine at_ret (res1 rfl rfl) ?_
    | exact ret_ inferInstance rfl
    | fail)
  rename_i hlen t u σ1 ou ru g1 i2 σ2 g2 n2 h2 σ3 u3
  refine hold_go ?_
  have h3 : Has σ3 i2 ⟨.own, 1, [I t.op, I t.n, u], []⟩ := instHasUpd (g := u3)
  have r3 : RTs σ3 u t.ps := inferInstance
  have l3 : LeS σ σ3 := inferInstance
  have htl := text_len t
  clear u3
  repeat' (first
    | (refine wc_callR rfl inferInstance rfl (c_sTermText t _ _) rfl ?_; intro _ _)
    | (refine wc_callR rfl inferInstance rfl (c_TermText t _ _) rfl ?_; intro _ _)
    | refine wl_pop rfl (pc_strNe0 rfl rfl) ?_
    | refine wc_holdR 8 ?_
    | refine wp_seqA ?_
    | refine wp_region_seq ?_
    | refine thru_seq_next ?_
    | refine wp_skipA ?_
    | refine wl_nil ?_
    | refine wl_pop rfl (po_move rfl) ?_
    | refine wl_pop rfl (po_assign rfl) ?_
    | refine wc_loadn rfl inferInstance (at_has (cs := [_, _, _]) (.inl rfl) rfl rfl) rfl ?_
    | refine wp_condF rfl ?_
    | fail)
  rename_i σ4 g4 σ5 g5
  refine hold_go ?_
  repeat' (first
    | (refine wc_twoTm rfl rfl inferInstance inferInstance rfl (by decide) rfl ?_; intro _ _ _ _ _)
    | (refine wc_callR rfl inferInstance rfl (c_mnPut _ _ _ _) rfl ?_; intro _ _)
    | refine wc_holdR 9 ?_
    | refine wp_seqA ?_
    | refine wp_region_seq ?_
    | refine thru_seq_next ?_
    | refine wl_nil ?_
    | refine wc_loadn rfl inferInstance (at_has (cs := [_, _, _]) (.inl rfl) rfl rfl) rfl ?_
    | (refine wc_storeA rfl rfl inferInstance inferInstance rfl inferInstance (Nat.le_of_ble_eq_true rfl) (.inr (may_new _)) ?_; intro _ _)
    | (refine wc_allocA (cs := [_, _, _]) inferInstance rfl inferInstance rfl ?_; intro _ _ _ _ _)
    | fail)
  rename_i i6 σ6 g6 n6 h6 σ7 g7 i8 σ8 g8 n8 h8 σ9 u9
  refine hold_go ?_
  have rt6 : RTs σ6 (.sl i6 0 2) [t, t] := rts_two2 inferInstance inferInstance h6
  have h9 : Has σ9 i8 ⟨.own, 1, [I 2, I 0, .sl i6 0 2], []⟩ := instHasUpd (g := u9)
  have rt9 : RTs σ9 (.sl i6 0 2) [t, t] := inferInstance
  have l9 : LeS σ σ9 := inferInstance
  clear u9
  by_cases hok : (Tm.node 2 0 [t, t]).ok = true
  · have ht : t.ok = true := ok_part hok
    have e : (Tm.node 2 0 [t, t]).text = ([40, 115, 117, 109, 32] ++ t.text ++ [32]) ++ t.text ++ [41] := by
      rw [text_ok hok, text_ok ht, txt_2]; simp
    repeat' (first
      | (refine wc_callR rfl inferInstance rfl (hok ▸ c_TermOk (.node 2 0 [t, t]) _ _) rfl ?_; intro _ _)
      | (refine wc_callR rfl inferInstance rfl (e ▸ c_TermText (.node 2 0 [t, t]) _ _) rfl ?_; intro _ _)
      | refine wl_pop rfl (pc_cat (a := [40, 115, 117, 109, 32]) rfl rfl (by simp only [List.length_append, List.length_cons, List.length_nil]; omega)) ?_
      | refine wl_pop rfl (pc_cat (b := [32]) rfl rfl (by simp only [List.length_append, List.length_cons, List.length_nil]; omega)) ?_
      | refine wl_pop rfl (pc_cat (b := [41]) rfl rfl (by simp only [List.length_append, List.length_cons, List.length_nil]; omega)) ?_
      | refine wl_pop rfl (pc_cat rfl rfl (by simp only [List.length_append, List.length_cons, List.length_nil]; omega)) ?_
      | refine wl_pop rfl (pc_strEq1 rfl rfl) ?_
      | refine wp_region_seq ?_
      | refine thru_seq_next ?_
      | refine wp_retA ?_
      | refine wl_nil ?_
      | refine wl_pop rfl (po_move rfl) ?_
      | refine wl_pop rfl (po_assign rfl) ?_
      | refine wc_loadn rfl inferInstance (at_has (cs := [_, _, _]) (.inl rfl) rfl rfl) rfl ?_
      | refine wl_pop rfl (po_not rfl) ?_
      | refine wl_pop rfl (po_pick rfl rfl) ?_
      | refine wc_guardT_false rfl rfl rfl ?_
      | refine at_ret (res1 rfl rfl) ?_
      | exact ret_ inferInstance rfl
      | fail)
    all_goals trace_state
  · have hok' : (Tm.node 2 0 [t, t]).ok = false := by simpa using hok
    repeat' (first
      | (refine wc_callR rfl inferInstance rfl (hok' ▸ c_TermOk (.node 2 0 [t, t]) _ _) rfl ?_; intro _ _)
      | refine wp_region_seq ?_
      | refine thru_seq_next ?_
      | refine wp_retA ?_
      | refine wl_nil ?_
      | refine wl_pop rfl (po_move rfl) ?_
      | refine wl_pop rfl (po_assign rfl) ?_
      | refine wc_loadn rfl inferInstance (at_has (cs := [_, _, _]) (.inl rfl) rfl rfl) rfl ?_
      | refine wl_pop rfl (po_not rfl) ?_
      | refine wl_pop rfl (po_pick rfl rfl) ?_
      | refine wc_guardF_false rfl rfl rfl rfl ?_
      | refine at_ret (res1 rfl rfl) ?_
      | exact ret_ inferInstance rfl
      | fail)
    all_goals trace_state
end
end Go.Proofs.YtpkgcdpebomalaaDoor.Asl
