/- The steps of a term: the judge's whole, and the program's. -/
import Derived.Test.YthbodgnoadlbcaaGreatDoorT26
namespace Go.Proofs.YthbodgnoadlbcaaGreatDoor.Asl
open Go.RowKit Go.Proofs.YthbodgnoadlbcaaGreatDoorW.PrintLast
set_option linter.unusedVariables false
set_option linter.unusedSimpArgs false
attribute [local irreducible] WP WL andThen inBlock noGoto atEnd ACall DA DL PO Hold nodeOk
set_option maxHeartbeats 4000000
set_option synthInstance.maxHeartbeats 400000
set_option synthInstance.maxSize 10000
def RetTG (G : Nat → Prop) (σ : Store) (t : Tm) : AV → Store → Prop := fun r σ' => ∃ u, r = .agg [I t.op, I t.n, u] ∧ RTsG G σ' u t.ps ∧ Grow σ σ'
section
variable {E : Env} {ops : Array Oper} {l : List Oper} {Q : Exit → Slots → Store → Prop} {S : Slots} {σ : Store} {d : Option Tmp} {ty : TypeId} {pos : String} {af : Array Edge} {x y : Operand} {G : Nat → Prop}
theorem wc_callTG {args : Array Operand} {ats : Array TypeId} {f : FuncId} {rs caps : List AV} {t : Tm} (hf : S.ev x = some (.fn f caps)) (hc : Callable E.P f) (hargs : evs S args.toList = some rs)
    (h : ACall E.P E.base f (rs ++ caps) σ (fun _ => False) (RetTG G σ t)) (hd : okd E d = true) (k : ∀ s σ', One s → RTsG G σ' s t.ps → Grow σ σ' → WL E ops l Q (S.put d (.agg [I t.op, I t.n, s])) σ') :
    WL E ops (⟨d, .call ⟨.value x, args, ats⟩, ty, pos, af, none⟩ :: l) Q S σ :=
  wc_call hf hc hargs h hd fun r' σ' h => by obtain ⟨s, e, hr, hg⟩ := h; subst e; exact k s σ' hr.one hr hg
end
section
variable {base : Nat} {G : Nat → Prop} {ds : List Tm}
theorem c_l3S_call {n : Int} {L : List Stp} (hn : 0 ≤ n ∧ n < ds.length) (hk : CSt base F_spec_l3Steps G ds (ds.getD n.toNat nilT) L) (σ : Store) (s d : AV) (hG : ∀ i, σ.length ≤ i → G i) [hs : RTsG G σ s []] [hd : RTsG G σ d ds] : ACall Tryz.prog base F_spec_l3Steps [.agg [I 5, I n, s], d] σ (fun _ => False) (RetSt G σ L) := by
  have := hs.one
  have := hd.one
  have hk' : n.toNat < ds.length := by omega
  obtain ⟨id, off, a, rfl, hat, ra⟩ := hd.part hk'
  have e : ds.getD n.toNat nilT = ds[n.toNat] := by simp [List.getD_eq_getElem?_getD, hk']
  rw [e] at hk
  have := ra.one
  refine acall2 fun_spec_l3Steps rfl tmps_spec_l3Steps rfl fun N B w₀ ρ₀ => ?_
  repeat' (first
    | (refine wc_row0 (α := StC) inI inI rfl rfl (by decide) rfl ?_; intro _ _ _ _ _)
    | refine wl_pop rfl (pc_indexSlZ rfl rfl inI inI (by omega) (by omega)) ?_
    | (refine wc_callSt rfl inI rfl (hk _ _ _ (gup hG inI) inI inI) rfl ?_; intro _ _ _ _ _ _ _)
    | refine wp_seqA ?_
    | refine wp_region_seq ?_
    | refine thru_seq_next ?_
    | refine thru_block_next ?_
    | refine wp_retA ?_
    | refine wp_blockA ?_
    | refine wl_nil ?_
    | refine wl_pop rfl (po_move rfl) ?_
    | refine wl_pop rfl (po_assign rfl) ?_
    | refine wl_pop rfl (po_binOp rfl rfl rfl) ?_
    | refine wl_pop rfl (po_fieldAddr rfl inI) ?_
    | refine wc_load1 rfl inI (at_has (.inl rfl) rfl rfl) rfl ?_
    | refine wc_loadn rfl inI inI rfl ?_
    | (refine wc_boxA rfl inI rfl ?_; intro _ _ _ _ _)
    | refine wp_condT rfl ?_
    | refine wp_condF rfl ?_
    | refine at_ret (res1 rfl rfl) ?_
    | fail)
  rename_i i1 σ1 g1 n1 h1 i2 σ2 g2 n2 h2 u xa σ3 o3 ow3 sr3 g3
  exact ret_st (σ₁ := σ2) ow3 sr3 inI inI rfl
theorem bares_part {op n : Int} {ps : List Tm} {p : Tm} (hp : p ∈ ps) (h1 : op ≠ 1) (hb : p.bare = true) : (Tm.node op n ps).bare = true := by
  simp only [Tm.bare, Tm.bares_eq, Bool.or_eq_true, Bool.and_eq_true, decide_eq_true_eq, List.any_eq_true]
  exact .inr ⟨h1, p, hp, hb⟩
structure Kinds (base : Nat) (f : FuncId) (G : Nat → Prop) (ds : List Tm) : Prop where
  nil : CSt base f G ds nilT []
  act : ∀ (n : Int) (p : Tm), CSt base f G ds (.node 1 n [p]) [(n, p)]
  sum : ∀ {p q : Tm} {LA LB : List Stp}, CSt base f G ds p LA → CSt base f G ds q LB → (LA ++ LB).length ≤ 4000000 → CSt base f G ds (.node 2 0 [p, q]) (LA ++ LB)
  par : ∀ {p q : Tm} {LA LB : List Stp}, CSt base f G ds p LA → CSt base f G ds q LB → (∀ x ∈ LA, -4 ≤ x.1 ∧ x.1 ≤ 4) → (∀ x ∈ LB, -4 ≤ x.1 ∧ x.1 ≤ 4) → (parL p q LA LB).length ≤ 4000000 → CSt base f G ds (.node 3 0 [p, q]) (parL p q LA LB)
  hide : ∀ {n : Int} {p : Tm} {LA : List Stp}, (0 ≤ n ∧ n ≤ 3) → CSt base f G ds p LA → (∀ x ∈ LA, -4 ≤ x.1 ∧ x.1 ≤ 4) → LA.length ≤ 4000000 → CSt base f G ds (.node 4 n [p]) (hideL n LA)
  call : ∀ {n : Int} {L : List Stp}, (0 ≤ n ∧ n < ds.length) → CSt base f G ds (ds.getD n.toNat nilT) L → CSt base f G ds (.node 5 n []) L
theorem kinds_all {f : FuncId} (K : Kinds base f G ds) (D : List (List Stp)) (hD : ∀ k, vis (D.getD k []) ≤ 24 ∧ (D.getD k []).length ≤ 576) (hDo : ∀ k x, x ∈ D.getD k [] → okS ds.length 24 x) (t : Tm) : t.shape = true → t.callLt ds.length = true → t.wt ≤ 2000 →
    (t.bare = true → ∀ k, k < ds.length → CSt base f G ds (ds.getD k nilT) (D.getD k [])) → CSt base f G ds t (t.st D) := by
  induction t using Tm.ind with
  | _ op n ps ih =>
    intro hs hc hw hC
    have hs' := hs
    obtain ⟨hno, hps⟩ := Tm.shape_node hs'
    have hc' := hc
    simp only [Tm.callLt, Bool.and_eq_true] at hc'
    have hcp := Tm.callLts_mem hc'.2
    have hok := Tm.st_ok (m := ds.length) D 24 (by decide) hDo
    have hlen : ∀ t : Tm, t.wt ≤ 2000 → (t.st D).length ≤ 4000000 := fun t ht => by
      have := (Tm.st_bound D hD t).2
      have := Nat.mul_le_mul ht ht
      omega
    have hlt := hlen _ hw
    rw [nodeOk_iff] at hno
    rcases hno with ⟨rfl, rfl, hl⟩ | ⟨rfl, hn, hl⟩ | ⟨h23, rfl, hl⟩ | ⟨rfl, hn, hl⟩ | ⟨rfl, hn, hl⟩
    · obtain rfl : ps = [] := List.length_eq_zero_iff.mp hl
      simpa [Tm.st, stF, nilT] using K.nil
    · obtain ⟨p, rfl⟩ := List.length_eq_one_iff.mp hl
      have := K.act n p
      simpa [Tm.st, stF] using this
    · obtain ⟨p, q, rfl⟩ : ∃ p q, ps = [p, q] := by
        rcases ps with _ | ⟨p, _ | ⟨q, _ | _⟩⟩ <;> simp at hl
        exact ⟨p, q, rfl⟩
      have h51 : op ≠ 1 ∧ op ≠ 5 := by omega
      simp only [Tm.wt, Tm.wts, if_neg h51.1, if_neg h51.2] at hw
      have i1 := ih p (by simp) (hps p (by simp)) (hcp p (by simp)) (by omega) (fun hb => hC (bares_part (by simp) h51.1 hb))
      have i2 := ih q (by simp) (hps q (by simp)) (hcp q (by simp)) (by omega) (fun hb => hC (bares_part (by simp) h51.1 hb))
      rcases h23 with rfl | rfl
      · have e : (Tm.node 2 0 [p, q]).st D = p.st D ++ q.st D := by simp [Tm.st, stF, Tm.sts]
        rw [e] at hlt ⊢
        exact K.sum i1 i2 hlt
      · have e : (Tm.node 3 0 [p, q]).st D = parL p q (p.st D) (q.st D) := by simp [Tm.st, stF, Tm.sts]
        rw [e] at hlt ⊢
        exact K.par i1 i2 (fun x hx => (hok p (hps p (by simp)) (hcp p (by simp)) x hx).1) (fun x hx => (hok q (hps q (by simp)) (hcp q (by simp)) x hx).1) hlt
    · obtain ⟨p, rfl⟩ := List.length_eq_one_iff.mp hl
      simp only [Tm.wt, Tm.wts] at hw
      have i1 := ih p (by simp) (hps p (by simp)) (hcp p (by simp)) (by simp at hw; omega) (fun hb => hC (bares_part (by simp) (by decide) hb))
      have e : (Tm.node 4 n [p]).st D = hideL n (p.st D) := by simp [Tm.st, stF, Tm.sts]
      rw [e]
      exact K.hide hn i1 (fun x hx => (hok p (hps p (by simp)) (hcp p (by simp)) x hx).1) (hlen p (by simp at hw; omega))
    · obtain rfl : ps = [] := List.length_eq_zero_iff.mp hl
      have hnl : n < ds.length := by simpa using hc'.1
      have e : (Tm.node 5 n []).st D = D.getD n.toNat [] := by simp [Tm.st, stF]
      rw [e]
      exact K.call ⟨hn.1, hnl⟩ (hC (by simp [Tm.bare]) n.toNat (by omega))
theorem kinds_steps {f : FuncId} (K : Kinds base f G ds) (h : defsOk ds = true) {t : Tm} (h1 : t.shape = true) (h2 : t.callLt ds.length = true) (h3 : t.cnt ≤ 24) : CSt base f G ds t (t.steps ds) := by
  have hw : ∀ t : Tm, t.cnt ≤ 24 → t.wt ≤ 2000 := fun t ht => by have := Tm.wt_le t; omega
  have hdef : ∀ k, k < ds.length → CSt base f G ds (ds.getD k nilT) ((defL ds).getD k []) := by
    intro k hk
    have e : ds.getD k nilT = ds[k] := by simp [List.getD_eq_getElem?_getD, hk]
    rw [e, defL_getD, dif_pos hk]
    obtain ⟨a1, a2, a3, a4⟩ := (defsOk_get h).2 _ (List.getElem_mem hk)
    exact kinds_all K [] (fun k => by simp [vis]) (fun k x hx => by simp at hx) ds[k] a1 a3 (hw _ a2) (fun hb => by rw [a4] at hb; cases hb)
  exact kinds_all K (defL ds) (defL_bound h) (defL_ok h) t h1 h2 (hw t h3) (fun _ => hdef)
theorem kinds_l3 : Kinds base F_spec_l3Steps G ds where
  nil := fun σ s d hG hs hd => c_l3S_nil σ s d hG (hs := hs) (hd := hd)
  act := fun n p σ s d hG hs hd => c_l3S_act σ s d hG (hs := hs) (hd := hd)
  sum := fun hp hq hl σ s d hG hs hd => c_l3S_sum hp hq hl σ s d hG (hs := hs) (hd := hd)
  par := fun hp hq ha hb hl σ s d hG hs hd => c_l3S_par hp hq ha hb hl σ s d hG (hs := hs) (hd := hd)
  hide := fun hn hp ha hl σ s d hG hs hd => c_l3S_hide hn hp ha hl σ s d hG (hs := hs) (hd := hd)
  call := fun hn hk σ s d hG hs hd => c_l3S_call hn hk σ s d hG (hs := hs) (hd := hd)
theorem c_l3Steps (h : defsOk ds = true) {t : Tm} (h1 : t.shape = true) (h2 : t.callLt ds.length = true) (h3 : t.cnt ≤ 24) (σ : Store) (s d : AV) (hG : ∀ i, σ.length ≤ i → G i) [hs : RTsG G σ s t.ps] [hd : RTsG G σ d ds] : ACall Tryz.prog base F_spec_l3Steps [.agg [I t.op, I t.n, s], d] σ (fun _ => False) (RetSt G σ (t.steps ds)) :=
  kinds_steps kinds_l3 h h1 h2 h3 σ s d hG hs hd
/-! The program's. -/
theorem Tm.eta (t : Tm) : Tm.node t.op t.n t.ps = t := by cases t; rfl
theorem c_parOf {op n op' n' : Int} {ps ps' : List Tm} (σ : Store) (s s' : AV) (hG : ∀ i, σ.length ≤ i → G i) [hs : RTsG G σ s ps] [hs' : RTsG G σ s' ps'] : ACall Tryz.prog base F_impl_parOf [.agg [I op, I n, s], .agg [I op', I n', s']] σ (fun _ => False) (RetTG G σ (parT (.node op n ps) (.node op' n' ps'))) := by
  have := hs.one
  have := hs'.one
  refine acall2 fun_impl_parOf rfl tmps_impl_parOf rfl fun N B w₀ ρ₀ => ?_
  repeat' (first
    | (refine wc_twoTm rfl rfl inI inI rfl (by decide) rfl ?_; intro _ _ _ _ _)
    | refine wl_pop rfl (pc_tm02 rfl rfl inI inI rfl) ?_
    | refine wp_seqA ?_
    | refine wp_region_seq ?_
    | refine thru_seq_next ?_
    | refine wp_retA ?_
    | refine wl_nil ?_
    | refine wc_loadn rfl inI (at_has (cs := [_, _, _]) (.inl rfl) rfl rfl) rfl ?_
    | (refine wc_storeA rfl rfl inI inI rfl inI (Nat.le_of_ble_eq_true rfl) (.inr (may_new _)) ?_; intro _ _)
    | (refine wc_boxA rfl inI rfl ?_; intro _ _ _ _ _)
    | (refine wc_allocA (cs := [_, _, _]) inI rfl inI rfl ?_; intro _ _ _ _ _)
    | refine at_ret (res_cell rfl rfl inI (at_has (cs := [_, _, _]) (.inl rfl) rfl rfl)) ?_
    | fail)
  rename_i i1 σ1 g1 n1 h1 i2 σ2 g2 n2 h2 i3 σ3 g3 n3 h3 i4 σ4 g4 n4 h4 σ5 u5
  have r4 : RTsG G σ4 (.sl i4 0 2) [.node op n ps, .node op' n' ps'] := rtsG_two (t := .node op n ps) (t' := .node op' n' ps') (hG i4 (Nat.le_trans (LeS.len inI) n4.le)) (hs.les inI) (hs'.les inI) h4
  exact ⟨_, rfl, inI, LeS.grow inI⟩
theorem c_hideOf {m op n : Int} {ps : List Tm} (σ : Store) (s : AV) (hG : ∀ i, σ.length ≤ i → G i) [hs : RTsG G σ s ps] : ACall Tryz.prog base F_impl_hideOf [I m, .agg [I op, I n, s]] σ (fun _ => False) (RetTG G σ (hideT m (.node op n ps))) := by
  have := hs.one
  refine acall2 fun_impl_hideOf rfl tmps_impl_hideOf rfl fun N B w₀ ρ₀ => ?_
  repeat' (first
    | (refine wc_oneTm rfl inI inI rfl (by decide) rfl ?_; intro _ _ _ _ _)
    | refine wl_pop rfl (pc_tm3 rfl rfl rfl inI inI rfl) ?_
    | refine wp_seqA ?_
    | refine wp_region_seq ?_
    | refine thru_seq_next ?_
    | refine wp_retA ?_
    | refine wl_nil ?_
    | refine wl_pop rfl (po_move rfl) ?_
    | refine wc_loadn rfl inI (at_has (cs := [_, _, _]) (.inl rfl) rfl rfl) rfl ?_
    | (refine wc_storeA rfl rfl inI inI rfl inI (Nat.le_of_ble_eq_true rfl) (.inr (may_new _)) ?_; intro _ _)
    | (refine wc_boxA rfl inI rfl ?_; intro _ _ _ _ _)
    | (refine wc_allocA (cs := [_, _, _]) inI rfl inI rfl ?_; intro _ _ _ _ _)
    | refine at_ret (res_cell rfl rfl inI (at_has (cs := [_, _, _]) (.inl rfl) rfl rfl)) ?_
    | fail)
  rename_i i1 σ1 g1 n1 h1 i3 σ3 g3 n3 h3 i4 σ4 g4 n4 h4 σ5 u5
  have r4 : RTsG G σ4 (.sl i4 0 1) [.node op n ps] := rtsG_one (t := .node op n ps) (hG i4 (Nat.le_trans (LeS.len inI) n4.le)) (hs.les inI) h4
  exact ⟨_, rfl, inI, LeS.grow inI⟩
theorem c_iS_nil (σ : Store) (s d : AV) (hG : ∀ i, σ.length ≤ i → G i) [hs : RTsG G σ s []] [hd : RTsG G σ d ds] : ACall Tryz.prog base F_impl_stepsOf [.agg [I 0, I 0, s], d] σ (fun _ => False) (RetSt G σ []) := by
  have := hs.one
  have := hd.one
  refine acall2 fun_impl_stepsOf rfl tmps_impl_stepsOf rfl fun N B w₀ ρ₀ => ?_
  repeat' (first
    | refine wp_seqA ?_
    | refine wp_region_seq ?_
    | refine thru_seq_next ?_
    | refine thru_block_next ?_
    | refine wp_skipA ?_
    | refine wp_retA ?_
    | refine wp_blockA ?_
    | refine wl_nil ?_
    | refine wl_pop rfl (po_assign rfl) ?_
    | refine wl_pop rfl (po_binOp rfl rfl rfl) ?_
    | refine wl_pop rfl (po_fieldAddr rfl inI) ?_
    | refine wc_load1 rfl inI (at_has (.inl rfl) rfl rfl) rfl ?_
    | (refine wc_boxA rfl inI rfl ?_; intro _ _ _ _ _)
    | refine wp_condF rfl ?_
    | refine at_ret (res1 rfl rfl) ?_
    | fail)
  rename_i i1 σ1 g1 n1 h1
  exact ret_st (σ₁ := σ1) (OW.nilS _ _) (SR.nil G _) inI inI rfl
theorem c_iS_act {n : Int} {p : Tm} (σ : Store) (s d : AV) (hG : ∀ i, σ.length ≤ i → G i) [hs : RTsG G σ s [p]] [hd : RTsG G σ d ds] : ACall Tryz.prog base F_impl_stepsOf [.agg [I 1, I n, s], d] σ (fun _ => False) (RetSt G σ [(n, p)]) := by
  have := hs.one
  have := hd.one
  obtain ⟨id, off, a, rfl, hat0, ra⟩ := hs.sole
  have := ra.one
  refine acall2 fun_impl_stepsOf rfl tmps_impl_stepsOf rfl fun N B w₀ ρ₀ => ?_
  repeat' (first
    | refine wp_seqA ?_
    | refine wp_region_seq ?_
    | refine thru_seq_next ?_
    | refine wp_blockA ?_
    | refine wl_nil ?_
    | refine wl_pop rfl (po_assign rfl) ?_
    | refine wl_pop rfl (po_binOp rfl rfl rfl) ?_
    | refine wl_pop rfl (po_fieldAddr rfl inI) ?_
    | refine wc_load1 rfl inI (at_has (.inl rfl) rfl rfl) rfl ?_
    | (refine wc_boxA rfl inI rfl ?_; intro _ _ _ _ _)
    | refine wp_condT rfl ?_
    | fail)
  rename_i i1 σ1 g1 n1 h1
  refine wc_drawn [] mixed_ rfl ?_
  all_goals refine da_takeC 0 rfl rfl (by kernel_rfl) (by first | exact po_fieldAddr rfl inI | fail) ?_
  all_goals refine da_takeC 1 rfl rfl (by kernel_rfl) (by first | exact pc_load1L rfl inI (at_has (.inl rfl) rfl rfl) inI | fail) ?_
  all_goals refine da_takeC 2 rfl rfl (by kernel_rfl) (by first | exact po_fieldAddr rfl inI | fail) ?_
  all_goals refine da_takeC 3 rfl rfl (by kernel_rfl) (by first | exact pc_load1L rfl inI (at_has (.inl rfl) rfl rfl) inI | fail) ?_
  all_goals refine da_takeC 4 rfl rfl (by kernel_rfl) (by first | exact pc_indexSlZ rfl rfl inI inI (by decide) (by decide) | fail) ?_
  all_goals refine da_takeC 5 rfl rfl (by kernel_rfl) (by first | exact pc_loadnL rfl inI inI inI | fail) ?_
  all_goals refine da_takeC 6 rfl rfl (by kernel_rfl) (by first | exact pc_buildSt rfl rfl inI inI rfl | fail) ?_
  all_goals (first | (refine da_one 7 rfl (by kernel_rfl) (fun _ _ _ _ => ?_); (repeat' (first | (refine wc_oneSt rfl inI inI rfl (by decide) rfl ?_; intro _ _ _ _ _) | fail)); all_goals (first | refine wl_nil ⟨rfl, (by first | exact LeS.len inI | exact App.len (by assumption)), ?_⟩ | trace_state)))
  all_goals refine da_takeC 8 rfl rfl (by kernel_rfl) (by first | exact po_assign rfl | fail) ?_
  all_goals refine da_done (by kernel_rfl) ?_
  repeat' (first
    | refine thru_seq_next ?_
    | refine thru_seq_ret ?_
    | refine thru_block_ret ?_
    | refine wp_retA ?_
    | refine at_ret (res1 rfl rfl) ?_
    | fail)
  rename_i i3 σ3 g3 n3 h3
  exact ret_st (σ₁ := σ1) (ow_of_has h3 n3.le rfl (by decide)) ((SR.nil G _).snoc rfl rfl rfl (ra.les inI)) inI inI rfl
theorem c_iS_sum {p q : Tm} {LA LB : List Stp} (hp : CSt base F_impl_stepsOf G ds p LA) (hq : CSt base F_impl_stepsOf G ds q LB) (hlen : (LA ++ LB).length ≤ 4000000) (σ : Store) (s d : AV) (hG : ∀ i, σ.length ≤ i → G i) [hs : RTsG G σ s [p, q]] [hd : RTsG G σ d ds] : ACall Tryz.prog base F_impl_stepsOf [.agg [I 2, I 0, s], d] σ (fun _ => False) (RetSt G σ (LA ++ LB)) := by
  have := hs.one
  have := hd.one
  obtain ⟨id, off, a, b, rfl, hat0, hat1, ra, rb⟩ := hs.pair
  have := ra.one
  have := rb.one
  refine acall2 fun_impl_stepsOf rfl tmps_impl_stepsOf rfl fun N B w₀ ρ₀ => ?_
  repeat' (first
    | refine wp_seqA ?_
    | refine wp_region_seq ?_
    | refine thru_seq_next ?_
    | refine wp_blockA ?_
    | refine wl_nil ?_
    | refine wl_pop rfl (po_assign rfl) ?_
    | refine wl_pop rfl (po_binOp rfl rfl rfl) ?_
    | refine wl_pop rfl (po_fieldAddr rfl inI) ?_
    | refine wc_load1 rfl inI (at_has (.inl rfl) rfl rfl) rfl ?_
    | (refine wc_boxA rfl inI rfl ?_; intro _ _ _ _ _)
    | refine wp_condT rfl ?_
    | refine wp_condF rfl ?_
    | fail)
  rename_i i1 σ1 g1 n1 h1
  rw [List.length_append] at hlen
  refine wc_drawn [12, 13] mixed_ rfl ?_
  all_goals refine da_takeC 0 rfl rfl (by kernel_rfl) (by first | exact po_fieldAddr rfl inI | fail) ?_
  all_goals refine da_takeC 1 rfl rfl (by kernel_rfl) (by first | exact pc_load1L rfl inI (at_has (.inl rfl) rfl rfl) inI | fail) ?_
  all_goals refine da_takeC 2 rfl rfl (by kernel_rfl) (by first | exact pc_indexSlZ rfl rfl inI inI (by decide) (by decide) | fail) ?_
  all_goals refine da_takeC 3 rfl rfl (by kernel_rfl) (by first | exact pc_loadnL rfl inI inI inI | fail) ?_
  all_goals refine da_takeC 4 rfl rfl (by kernel_rfl) (by first | exact po_move rfl | fail) ?_
  all_goals refine da_takeC 6 rfl rfl (by kernel_rfl) (by first | exact po_fieldAddr rfl inI | fail) ?_
  all_goals refine da_takeC 7 rfl rfl (by kernel_rfl) (by first | exact pc_load1L rfl inI (at_has (.inl rfl) rfl rfl) inI | fail) ?_
  all_goals refine da_takeC 8 rfl rfl (by kernel_rfl) (by first | exact pc_indexSlZ rfl rfl inI inI (by decide) (by decide) | fail) ?_
  all_goals refine da_takeC 9 rfl rfl (by kernel_rfl) (by first | exact pc_loadnL rfl inI inI inI | fail) ?_
  all_goals refine da_takeC 10 rfl rfl (by kernel_rfl) (by first | exact po_move rfl | fail) ?_
  all_goals (first | (refine da_one 5 rfl (by kernel_rfl) (fun _ _ _ _ => ?_); (repeat' (first | (refine wc_callSt rfl inI rfl (hp _ _ _ (gup hG inI) inI inI) rfl ?_; intro _ _ _ _ _ _ _) | fail)); all_goals (first | refine wl_nil ⟨rfl, (by first | exact LeS.len inI | exact App.len (by assumption)), ?_⟩ | trace_state)))
  all_goals (first | (refine da_one 11 rfl (by kernel_rfl) (fun _ _ _ _ => ?_); (repeat' (first | (refine wc_callSt rfl inI rfl (hq _ _ _ (gup hG inI) inI inI) rfl ?_; intro _ _ _ _ _ _ _) | fail)); all_goals (first | refine wl_nil ⟨rfl, (by first | exact LeS.len inI | exact App.len (by assumption)), ?_⟩ | trace_state)))
  all_goals (refine da_last 12 rfl (by decide) (by kernel_rfl) ?_; (repeat' (first | (refine wc_appendRows (σ₀ := σ1) rfl rfl inI inI rfl (by decide) inI inI (by have q1 := SR.len' (σ := _) ‹SR G _ _ LA›; have q2 := SR.len' (σ := _) ‹SR G _ _ LB›; omega) (by decide) (may_ge σ1) (LeS.len inI) rfl ?_; intro _ _ _ _ _ _ _) | fail)); all_goals (first | refine wl_nil (dl_in ?_) | trace_state))
  all_goals (refine dl_last 13 rfl (by decide) (by kernel_rfl) ?_; (repeat' (first | refine wl_pop rfl (po_assign rfl) ?_ | fail)); all_goals (first | refine wl_nil (dl_in ?_) | trace_state))
  all_goals refine dl_done (by kernel_rfl) ?_
  repeat' (first
    | refine thru_seq_next ?_
    | refine thru_seq_ret ?_
    | refine thru_block_ret ?_
    | refine wp_retA ?_
    | refine at_ret (res1 rfl rfl) ?_
    | fail)
  rename_i u xs σ3 o3 ow3 sr3 g3 _ _ _ _ u' ys σ4 o4 ow4 sr4 g4 v σ5 app mk kn ow one
  exact ret_st (σ₁ := σ1) ow (((sr3.les inI).kn kn inI).append (sr4.kn kn inI)) inI inI rfl
theorem c_iS_call {n : Int} {L : List Stp} (hn : 0 ≤ n ∧ n < ds.length) (hk : CSt base F_impl_stepsOf G ds (ds.getD n.toNat nilT) L) (σ : Store) (s d : AV) (hG : ∀ i, σ.length ≤ i → G i) [hs : RTsG G σ s []] [hd : RTsG G σ d ds] : ACall Tryz.prog base F_impl_stepsOf [.agg [I 5, I n, s], d] σ (fun _ => False) (RetSt G σ L) := by
  have := hs.one
  have := hd.one
  have hk' : n.toNat < ds.length := by omega
  obtain ⟨id, off, a, rfl, hat, ra⟩ := hd.part hk'
  have e : ds.getD n.toNat nilT = ds[n.toNat] := by simp [List.getD_eq_getElem?_getD, hk']
  rw [e] at hk
  have := ra.one
  refine acall2 fun_impl_stepsOf rfl tmps_impl_stepsOf rfl fun N B w₀ ρ₀ => ?_
  repeat' (first
    | refine wl_pop rfl (pc_indexSlZ rfl rfl inI inI (by omega) (by omega)) ?_
    | (refine wc_callSt rfl inI rfl (hk _ _ _ (gup hG inI) inI inI) rfl ?_; intro _ _ _ _ _ _ _)
    | refine wp_seqA ?_
    | refine wp_region_seq ?_
    | refine thru_seq_next ?_
    | refine thru_seq_ret ?_
    | refine thru_block_ret ?_
    | refine wp_retA ?_
    | refine wp_blockA ?_
    | refine wl_nil ?_
    | refine wl_pop rfl (po_move rfl) ?_
    | refine wl_pop rfl (po_assign rfl) ?_
    | refine wl_pop rfl (po_binOp rfl rfl rfl) ?_
    | refine wl_pop rfl (po_fieldAddr rfl inI) ?_
    | refine wc_load1 rfl inI (at_has (.inl rfl) rfl rfl) rfl ?_
    | refine wc_loadn rfl inI inI rfl ?_
    | (refine wc_boxA rfl inI rfl ?_; intro _ _ _ _ _)
    | refine wp_condT rfl ?_
    | refine wp_condF rfl ?_
    | refine at_ret (res1 rfl rfl) ?_
    | fail)
  rename_i i1 σ1 g1 n1 h1 u xa σ3 o3 ow3 sr3 g3
  exact ret_st (σ₁ := σ1) ow3 sr3 inI inI rfl
theorem c_iS_hide {n : Int} {p : Tm} {LA : List Stp} (hn : 0 ≤ n ∧ n ≤ 3) (hp : CSt base F_impl_stepsOf G ds p LA) (hr : ∀ x ∈ LA, -4 ≤ x.1 ∧ x.1 ≤ 4) (hlen : LA.length ≤ 4000000) (σ : Store) (s d : AV) (hG : ∀ i, σ.length ≤ i → G i) [hs : RTsG G σ s [p]] [hd : RTsG G σ d ds] : ACall Tryz.prog base F_impl_stepsOf [.agg [I 4, I n, s], d] σ (fun _ => False) (RetSt G σ (hideL n LA)) := by
  have := hs.one
  have := hd.one
  obtain ⟨id, off, a, rfl, hat0, ra⟩ := hs.sole
  have := ra.one
  refine acall2 fun_impl_stepsOf rfl tmps_impl_stepsOf rfl fun N B w₀ ρ₀ => ?_
  repeat' (first
    | (refine wc_row0 (α := StC) inI inI rfl rfl (by decide) rfl ?_; intro _ _ _ _ _)
    | refine wl_pop rfl (pc_indexSlZ rfl rfl inI inI (by decide) (by decide)) ?_
    | (refine wc_callSt rfl inI rfl (hp _ _ _ (gup hG inI) inI inI) rfl ?_; intro _ _ _ _ _ _ _)
    | refine wl_pop rfl (pc_lenRow rfl inI inI) ?_
    | refine wp_seqA ?_
    | refine wp_region_seq ?_
    | refine thru_seq_next ?_
    | refine wp_blockA ?_
    | refine wl_nil ?_
    | refine wl_pop rfl (po_move rfl) ?_
    | refine wl_pop rfl (po_assign rfl) ?_
    | refine wl_pop rfl (po_binOp rfl rfl rfl) ?_
    | refine wl_pop rfl (po_fieldAddr rfl inI) ?_
    | refine wc_load1 rfl inI (at_has (.inl rfl) rfl rfl) rfl ?_
    | refine wc_loadn rfl inI inI rfl ?_
    | (refine wc_boxA rfl inI rfl ?_; intro _ _ _ _ _)
    | refine wp_condT rfl ?_
    | refine wp_condF rfl ?_
    | fail)
  rename_i i1 σ1 g1 n1 h1 i2 σ2 g2 n2 h2 u xa σ3 o3 ow3 sr3 g3
  have hla := sr3.len'
  have l1 : LeS σ σ1 := inI
  refine wc_loop [(2, _), (144, _), (145, _)] (fun x : Nat × AV => [(16, x.2), (146, I x.1)]) (fun x σ' => x.1 ≤ LA.length ∧ ∃ xs, LJ G σ1 σ' u u xa xa LA LA x.2 xs (hideL n (LA.take x.1))) (fun x => LA.length - x.1) (0, .sl i2 0 0) ⟨Nat.zero_le _, [], inI, inI, inI, inI, inI, nes_old (fun j n e => (by cases e; exact h2.lt)) ow3, nes_old (fun j n e => (by cases e; exact h2.lt)) ow3, ow_of_has inI n2.le rfl (by decide), SR.nil G _⟩ (by repeat' (first | exact sub_nil | refine sub_cons rfl ?_ | refine sub_int rfl (by first | rfl | omega | (push_cast; omega) | simp) ?_ | refine sub_eq rfl (by assumption) ?_)) ?_
  rintro ⟨k, v⟩ σ' ⟨hk, xs, hJ⟩
  dsimp only at hk hJ ⊢
  have hJ' := hJ
  obtain ⟨jle, jra, jrb, jsa, jsb, jna, jnb, jow, jsr⟩ := hJ'
  have := jle.grow
  have := jow.one
  have hxl := jsr.len'
  have hxb := hide_take_le (A := LA) n k
  repeat' (first
    | refine wl_pop rfl (pc_indexRow rfl rfl inI inI inI (by omega)) ?_
    | refine wp_seqA ?_
    | refine wp_region_seq ?_
    | refine thru_seq_next ?_
    | refine thru_seq_ret ?_
    | refine thru_seq ?_
    | refine thru_block_ret ?_
    | refine exit_here ?_
    | refine wp_skipA ?_
    | refine wp_retA ?_
    | refine wp_exitA ?_
    | refine wp_blockA ?_
    | refine wl_nil ?_
    | refine wl_pop rfl (po_move rfl) ?_
    | refine wl_pop rfl (po_assign rfl) ?_
    | refine wl_pop rfl (po_binOp rfl rfl rfl) ?_
    | refine wp_condP rfl (fun _ => ?_) (fun _ => ?_)
    | refine at_ret (res1 rfl rfl) ?_
    | fail)
  rotate_left
  · obtain rfl : k = LA.length := by omega
    rw [List.take_length] at jsr
    exact ret_st (σ₁ := σ1) jow jsr inI inI rfl
  have hk' : k < LA.length := by omega
  have hxk : k < xa.length := by omega
  obtain ⟨e1, e2, e3, rk⟩ := jsa.at hk'
  have hr1 := hr (LA.getD k (0, nilT)) (by simp [List.getD_eq_getElem?_getD, hk'])
  have hok : One (xa.getD k Enc.dflt).s := ⟨(xa.getD k Enc.dflt).one⟩
  have et : Tm.node (xa.getD k Enc.dflt).op (xa.getD k Enc.dflt).n (LA.getD k (0, nilT)).2.ps = (LA.getD k (0, nilT)).2 := by rw [e2, e3, Tm.eta]
  repeat' (first
    | refine wl_pop rfl (pc_ldSt rfl inI inI (by omega) inI) ?_
    | refine wp_seqA ?_
    | refine thru_seq_next ?_
    | refine wl_nil ?_
    | (refine wc_storeA rfl rfl inI inI rfl inI (Nat.le_of_ble_eq_true rfl) (.inr (may_new _)) ?_; intro _ _)
    | (refine wc_allocA (cs := [_, _, _, _]) inI rfl inI rfl ?_; intro _ _ _ _ _)
    | fail)
  rename_i hk1 i9 σ9 g9 n9 h9 σ10 u10
  refine wc_drawn [] mixed_ rfl ?_
  all_goals refine da_takeC 0 rfl rfl (by kernel_rfl) (by first | exact po_fieldAddr rfl inI | fail) ?_
  all_goals refine da_takeC 1 rfl rfl (by kernel_rfl) (by first | exact pc_load1L rfl inI (at_has (.inl rfl) rfl rfl) inI | fail) ?_
  all_goals refine da_takeC 2 rfl rfl (by kernel_rfl) (by first | exact po_binOp rfl rfl rfl | fail) ?_
  all_goals refine da_takeC 3 rfl rfl (by kernel_rfl) (by first | exact po_move rfl | fail) ?_
  all_goals (first | refine da_onC 4 rfl rfl rfl rfl rfl (by kernel_rfl) (by first | exact po_fieldAddr rfl inI | fail) ?_ | refine da_offC 4 rfl rfl rfl rfl rfl rfl (by kernel_rfl) ?_ | refine da_offU 4 rfl rfl rfl rfl rfl (by kernel_rfl) ?_ | ((first | refine da_caseP (t := 153) rfl (fun _ => ?_) (fun _ => ?_) | refine da_caseNP (t := 153) rfl (fun _ => ?_) (fun _ => ?_) | refine da_caseEq (t := 153) rfl (fun _ => ?_) (fun _ => ?_) | refine da_caseNe (t := 153) rfl (fun _ => ?_) (fun _ => ?_) | refine da_caseNB (t := 153) rfl (fun _ => ?_) (fun _ => ?_) | refine da_case (t := 153) rfl (fun _ => ?_) (fun _ => ?_)) <;> (first | refine da_onC 4 rfl rfl rfl rfl rfl (by kernel_rfl) (by first | exact po_fieldAddr rfl inI | fail) ?_ | refine da_offC 4 rfl rfl rfl rfl rfl rfl (by kernel_rfl) ?_ | refine da_offU 4 rfl rfl rfl rfl rfl (by kernel_rfl) ?_)))
  all_goals (first | refine da_onC 5 rfl rfl rfl rfl rfl (by kernel_rfl) (by first | exact pc_load1L rfl inI (at_has (.inl rfl) rfl rfl) inI | fail) ?_ | refine da_offC 5 rfl rfl rfl rfl rfl rfl (by kernel_rfl) ?_ | refine da_offU 5 rfl rfl rfl rfl rfl (by kernel_rfl) ?_ | ((first | refine da_caseP (t := 153) rfl (fun _ => ?_) (fun _ => ?_) | refine da_caseNP (t := 153) rfl (fun _ => ?_) (fun _ => ?_) | refine da_caseEq (t := 153) rfl (fun _ => ?_) (fun _ => ?_) | refine da_caseNe (t := 153) rfl (fun _ => ?_) (fun _ => ?_) | refine da_caseNB (t := 153) rfl (fun _ => ?_) (fun _ => ?_) | refine da_case (t := 153) rfl (fun _ => ?_) (fun _ => ?_)) <;> (first | refine da_onC 5 rfl rfl rfl rfl rfl (by kernel_rfl) (by first | exact pc_load1L rfl inI (at_has (.inl rfl) rfl rfl) inI | fail) ?_ | refine da_offC 5 rfl rfl rfl rfl rfl rfl (by kernel_rfl) ?_ | refine da_offU 5 rfl rfl rfl rfl rfl (by kernel_rfl) ?_)))
  all_goals (first | refine da_onC 7 rfl rfl rfl rfl rfl (by kernel_rfl) (by first | exact po_fieldAddr rfl inI | fail) ?_ | refine da_offC 7 rfl rfl rfl rfl rfl rfl (by kernel_rfl) ?_ | refine da_offU 7 rfl rfl rfl rfl rfl (by kernel_rfl) ?_ | ((first | refine da_caseP (t := 153) rfl (fun _ => ?_) (fun _ => ?_) | refine da_caseNP (t := 153) rfl (fun _ => ?_) (fun _ => ?_) | refine da_caseEq (t := 153) rfl (fun _ => ?_) (fun _ => ?_) | refine da_caseNe (t := 153) rfl (fun _ => ?_) (fun _ => ?_) | refine da_caseNB (t := 153) rfl (fun _ => ?_) (fun _ => ?_) | refine da_case (t := 153) rfl (fun _ => ?_) (fun _ => ?_)) <;> (first | refine da_onC 7 rfl rfl rfl rfl rfl (by kernel_rfl) (by first | exact po_fieldAddr rfl inI | fail) ?_ | refine da_offC 7 rfl rfl rfl rfl rfl rfl (by kernel_rfl) ?_ | refine da_offU 7 rfl rfl rfl rfl rfl (by kernel_rfl) ?_)))
  all_goals (first | refine da_onC 8 rfl rfl rfl rfl rfl (by kernel_rfl) (by first | exact pc_load1L rfl inI (at_has (.inl rfl) rfl rfl) inI | fail) ?_ | refine da_offC 8 rfl rfl rfl rfl rfl rfl (by kernel_rfl) ?_ | refine da_offU 8 rfl rfl rfl rfl rfl (by kernel_rfl) ?_ | ((first | refine da_caseP (t := 153) rfl (fun _ => ?_) (fun _ => ?_) | refine da_caseNP (t := 153) rfl (fun _ => ?_) (fun _ => ?_) | refine da_caseEq (t := 153) rfl (fun _ => ?_) (fun _ => ?_) | refine da_caseNe (t := 153) rfl (fun _ => ?_) (fun _ => ?_) | refine da_caseNB (t := 153) rfl (fun _ => ?_) (fun _ => ?_) | refine da_case (t := 153) rfl (fun _ => ?_) (fun _ => ?_)) <;> (first | refine da_onC 8 rfl rfl rfl rfl rfl (by kernel_rfl) (by first | exact pc_load1L rfl inI (at_has (.inl rfl) rfl rfl) inI | fail) ?_ | refine da_offC 8 rfl rfl rfl rfl rfl rfl (by kernel_rfl) ?_ | refine da_offU 8 rfl rfl rfl rfl rfl (by kernel_rfl) ?_)))
  all_goals (first | refine da_offC 6 rfl rfl rfl rfl rfl rfl (by kernel_rfl) ?_ | refine da_offU 6 rfl rfl rfl rfl rfl (by kernel_rfl) ?_ | (refine da_one 6 rfl (by kernel_rfl) (fun _ _ _ _ => ?_); (repeat' (first | (refine wc_callR rfl inI rfl (c_nameOf _ _ (by omega) (by omega) (by omega)) rfl ?_; intro _ _) | refine wc_guardT_false rfl rfl rfl ?_ | fail)); all_goals (first | refine wl_nil ⟨rfl, (by first | exact LeS.len inI | exact App.len (by assumption)), ?_⟩ | trace_state)) | ((first | refine da_caseP (t := 153) rfl (fun _ => ?_) (fun _ => ?_) | refine da_caseNP (t := 153) rfl (fun _ => ?_) (fun _ => ?_) | refine da_caseEq (t := 153) rfl (fun _ => ?_) (fun _ => ?_) | refine da_caseNe (t := 153) rfl (fun _ => ?_) (fun _ => ?_) | refine da_caseNB (t := 153) rfl (fun _ => ?_) (fun _ => ?_) | refine da_case (t := 153) rfl (fun _ => ?_) (fun _ => ?_)) <;> (first | refine da_offC 6 rfl rfl rfl rfl rfl rfl (by kernel_rfl) ?_ | refine da_offU 6 rfl rfl rfl rfl rfl (by kernel_rfl) ?_ | (refine da_one 6 rfl (by kernel_rfl) (fun _ _ _ _ => ?_); (repeat' (first | (refine wc_callR rfl inI rfl (c_nameOf _ _ (by omega) (by omega) (by omega)) rfl ?_; intro _ _) | refine wc_guardT_false rfl rfl rfl ?_ | fail)); all_goals (first | refine wl_nil ⟨rfl, (by first | exact LeS.len inI | exact App.len (by assumption)), ?_⟩ | trace_state)))))
  all_goals (first | refine da_onC 9 rfl rfl rfl rfl rfl (by kernel_rfl) (by first | exact po_binOp rfl rfl rfl | fail) ?_ | refine da_offC 9 rfl rfl rfl rfl rfl rfl (by kernel_rfl) ?_ | refine da_offU 9 rfl rfl rfl rfl rfl (by kernel_rfl) ?_ | ((first | refine da_caseP (t := 153) rfl (fun _ => ?_) (fun _ => ?_) | refine da_caseNP (t := 153) rfl (fun _ => ?_) (fun _ => ?_) | refine da_caseEq (t := 153) rfl (fun _ => ?_) (fun _ => ?_) | refine da_caseNe (t := 153) rfl (fun _ => ?_) (fun _ => ?_) | refine da_caseNB (t := 153) rfl (fun _ => ?_) (fun _ => ?_) | refine da_case (t := 153) rfl (fun _ => ?_) (fun _ => ?_)) <;> (first | refine da_onC 9 rfl rfl rfl rfl rfl (by kernel_rfl) (by first | exact po_binOp rfl rfl rfl | fail) ?_ | refine da_offC 9 rfl rfl rfl rfl rfl rfl (by kernel_rfl) ?_ | refine da_offU 9 rfl rfl rfl rfl rfl (by kernel_rfl) ?_)))
  all_goals refine da_takeC 10 rfl rfl (by kernel_rfl) (by first | exact po_pick rfl rfl | fail) ?_
  all_goals refine da_done (by kernel_rfl) ?_
  repeat' (first
    | refine wp_region_seq ?_
    | refine thru_seq_next ?_
    | refine thru_block_next ?_
    | refine wp_skipA ?_
    | refine wl_nil ?_
    | refine wl_pop rfl (po_move rfl) ?_
    | refine wl_pop rfl (pc_add rfl rfl (by omega) (by omega)) ?_
    | refine wp_condT rfl ?_
    | refine wp_condNP rfl (fun _ => ?_) (fun _ => ?_)
    | fail)
  · rename_i h0
    refine wc_drawn [10, 11] mixed_ rfl ?_
    all_goals refine da_takeC 0 rfl rfl (by kernel_rfl) (by first | exact po_move rfl | fail) ?_
    all_goals refine da_takeC 1 rfl rfl (by kernel_rfl) (by first | exact po_fieldAddr rfl inI | fail) ?_
    all_goals refine da_takeC 2 rfl rfl (by kernel_rfl) (by first | exact pc_load1L rfl inI (at_has (.inl rfl) rfl rfl) inI | fail) ?_
    all_goals refine da_takeC 3 rfl rfl (by kernel_rfl) (by first | exact po_fieldAddr rfl inI | fail) ?_
    all_goals refine da_takeC 4 rfl rfl (by kernel_rfl) (by first | exact pc_load1L rfl inI (at_has (.inl rfl) rfl rfl) inI | fail) ?_
    all_goals refine da_takeC 5 rfl rfl (by kernel_rfl) (by first | exact po_fieldAddr rfl inI | fail) ?_
    all_goals refine da_takeC 6 rfl rfl (by kernel_rfl) (by first | exact pc_loadnL rfl inI (at_has (cs := [_, _, _]) (.inl rfl) rfl rfl) inI | fail) ?_
    all_goals (first | (refine da_one 7 rfl (by kernel_rfl) (fun _ _ _ _ => ?_); (repeat' (first | (refine wc_callTG rfl inI rfl (c_hideOf _ _ (gup hG inI)) rfl ?_; intro _ _ _ _ _) | fail)); all_goals (first | refine wl_nil ⟨rfl, (by first | exact LeS.len inI | exact App.len (by assumption)), ?_⟩ | trace_state)))
    all_goals refine da_takeC 8 rfl rfl (by kernel_rfl) (by first | exact pc_buildSt rfl rfl inI inI rfl | fail) ?_
    all_goals (first | (refine da_one 9 rfl (by kernel_rfl) (fun _ _ _ _ => ?_); (repeat' (first | (refine wc_oneSt rfl inI inI rfl (by decide) rfl ?_; intro _ _ _ _ _) | fail)); all_goals (first | refine wl_nil ⟨rfl, (by first | exact LeS.len inI | exact App.len (by assumption)), ?_⟩ | trace_state)))
    all_goals (refine da_last 10 rfl (by decide) (by kernel_rfl) ?_; (repeat' (first | (refine wc_appendSt (σ₀ := σ1) rfl rfl inI inI rfl (by decide) (by decide) inI inI (by omega) (may_ge σ1) (LeS.len inI) rfl ?_; intro _ _ _ _ _ _ _) | fail)); all_goals (first | refine wl_nil (dl_in ?_) | trace_state))
    all_goals (refine dl_last 11 rfl (by decide) (by kernel_rfl) ?_; (repeat' (first | refine wl_pop rfl (po_assign rfl) ?_ | fail)); all_goals (first | refine wl_nil (dl_in ?_) | trace_state))
    all_goals refine dl_done (by kernel_rfl) ?_
    repeat' (first
      | refine wp_region_seq ?_
      | refine thru_seq_next ?_
      | refine thru_block_next ?_
      | refine wl_nil ?_
      | refine wl_pop rfl (po_move rfl) ?_
      | refine wl_pop rfl (pc_add rfl rfl (by omega) (by omega)) ?_
      | fail)
    rename_i w σ12 o12 r12 g12 _ _ _ _ i13 σ13 g13 n13 h13 v' σ14 app mk kn ow one
    rw [et] at r12
    refine ⟨(k + 1, v'), by dsimp only; omega, ⟨by dsimp only; omega, _, (hJ.step (y := ((LA.getD k (0, nilT)).1, hideT n (LA.getD k (0, nilT)).2)) inI app kn ow e1 rfl rfl ((r12.les inI).kn kn inI)).eq ?_⟩, (by repeat' (first | exact sub_nil | refine sub_cons rfl ?_ | refine sub_int rfl (by first | rfl | omega | (push_cast; omega) | simp) ?_ | refine sub_eq rfl (by assumption) ?_))⟩
    dsimp only
    rw [hide_take hk', if_pos (by simp only [hidP, decide_eq_true_eq]; omega)]
  · rename_i h0 _ _ _ _ σ0 g0 h1
    refine wc_drawn [10, 11] mixed_ rfl ?_
    all_goals refine da_takeC 0 rfl rfl (by kernel_rfl) (by first | exact po_move rfl | fail) ?_
    all_goals refine da_takeC 1 rfl rfl (by kernel_rfl) (by first | exact po_fieldAddr rfl inI | fail) ?_
    all_goals refine da_takeC 2 rfl rfl (by kernel_rfl) (by first | exact pc_load1L rfl inI (at_has (.inl rfl) rfl rfl) inI | fail) ?_
    all_goals refine da_takeC 3 rfl rfl (by kernel_rfl) (by first | exact po_fieldAddr rfl inI | fail) ?_
    all_goals refine da_takeC 4 rfl rfl (by kernel_rfl) (by first | exact pc_load1L rfl inI (at_has (.inl rfl) rfl rfl) inI | fail) ?_
    all_goals refine da_takeC 5 rfl rfl (by kernel_rfl) (by first | exact po_fieldAddr rfl inI | fail) ?_
    all_goals refine da_takeC 6 rfl rfl (by kernel_rfl) (by first | exact pc_loadnL rfl inI (at_has (cs := [_, _, _]) (.inl rfl) rfl rfl) inI | fail) ?_
    all_goals (first | (refine da_one 7 rfl (by kernel_rfl) (fun _ _ _ _ => ?_); (repeat' (first | (refine wc_callTG rfl inI rfl (c_hideOf _ _ (gup hG inI)) rfl ?_; intro _ _ _ _ _) | fail)); all_goals (first | refine wl_nil ⟨rfl, (by first | exact LeS.len inI | exact App.len (by assumption)), ?_⟩ | trace_state)))
    all_goals refine da_takeC 8 rfl rfl (by kernel_rfl) (by first | exact pc_buildSt rfl rfl inI inI rfl | fail) ?_
    all_goals (first | (refine da_one 9 rfl (by kernel_rfl) (fun _ _ _ _ => ?_); (repeat' (first | (refine wc_oneSt rfl inI inI rfl (by decide) rfl ?_; intro _ _ _ _ _) | fail)); all_goals (first | refine wl_nil ⟨rfl, (by first | exact LeS.len inI | exact App.len (by assumption)), ?_⟩ | trace_state)))
    all_goals (refine da_last 10 rfl (by decide) (by kernel_rfl) ?_; (repeat' (first | (refine wc_appendSt (σ₀ := σ1) rfl rfl inI inI rfl (by decide) (by decide) inI inI (by omega) (may_ge σ1) (LeS.len inI) rfl ?_; intro _ _ _ _ _ _ _) | fail)); all_goals (first | refine wl_nil (dl_in ?_) | trace_state))
    all_goals (refine dl_last 11 rfl (by decide) (by kernel_rfl) ?_; (repeat' (first | refine wl_pop rfl (po_assign rfl) ?_ | fail)); all_goals (first | refine wl_nil (dl_in ?_) | trace_state))
    all_goals refine dl_done (by kernel_rfl) ?_
    repeat' (first
      | refine wp_region_seq ?_
      | refine thru_seq_next ?_
      | refine thru_block_next ?_
      | refine wl_nil ?_
      | refine wl_pop rfl (po_move rfl) ?_
      | refine wl_pop rfl (pc_add rfl rfl (by omega) (by omega)) ?_
      | fail)
    rename_i w σ12 o12 r12 g12 _ _ _ _ i13 σ13 g13 n13 h13 v' σ14 app mk kn ow one
    rw [et] at r12
    refine ⟨(k + 1, v'), by dsimp only; omega, ⟨by dsimp only; omega, _, (hJ.step (y := ((LA.getD k (0, nilT)).1, hideT n (LA.getD k (0, nilT)).2)) inI app kn ow e1 rfl rfl ((r12.les inI).kn kn inI)).eq ?_⟩, (by repeat' (first | exact sub_nil | refine sub_cons rfl ?_ | refine sub_int rfl (by first | rfl | omega | (push_cast; omega) | simp) ?_ | refine sub_eq rfl (by assumption) ?_))⟩
    dsimp only
    rw [hide_take hk', if_pos (by simp only [hidP, decide_eq_true_eq]; omega)]
  · rename_i h0 _ _ _ _ σ0 g0 h1
    refine ⟨(k + 1, v), by dsimp only; omega, ⟨by dsimp only; omega, xs, (hJ.les inI).eq ?_⟩, (by repeat' (first | exact sub_nil | refine sub_cons rfl ?_ | refine sub_int rfl (by first | rfl | omega | (push_cast; omega) | simp) ?_ | refine sub_eq rfl (by assumption) ?_))⟩
    dsimp only
    rw [hide_take hk', if_neg (by simp only [hidP, decide_eq_true_eq]; omega), List.append_nil]
theorem c_iS_par {p q : Tm} {LA LB : List Stp} (hp : CSt base F_impl_stepsOf G ds p LA) (hq : CSt base F_impl_stepsOf G ds q LB) (hra : ∀ x ∈ LA, -4 ≤ x.1 ∧ x.1 ≤ 4) (hrb : ∀ x ∈ LB, -4 ≤ x.1 ∧ x.1 ≤ 4) (hlen : (parL p q LA LB).length ≤ 4000000) (σ : Store) (s d : AV) (hG : ∀ i, σ.length ≤ i → G i) [hs : RTsG G σ s [p, q]] [hd : RTsG G σ d ds] : ACall Tryz.prog base F_impl_stepsOf [.agg [I 3, I 0, s], d] σ (fun _ => False) (RetSt G σ (parL p q LA LB)) := by
  have := hs.one
  have := hd.one
  obtain ⟨id, off, a, b, rfl, hat0, hat1, ra, rb⟩ := hs.pair
  have := ra.one
  have := rb.one
  rw [par_parts] at hlen ⊢
  simp only [List.length_append, List.length_map] at hlen
  refine acall2 fun_impl_stepsOf rfl tmps_impl_stepsOf rfl fun N B w₀ ρ₀ => ?_
  repeat' (first
    | refine wp_seqA ?_
    | refine wp_region_seq ?_
    | refine thru_seq_next ?_
    | refine wp_blockA ?_
    | refine wl_nil ?_
    | refine wl_pop rfl (po_assign rfl) ?_
    | refine wl_pop rfl (po_binOp rfl rfl rfl) ?_
    | refine wl_pop rfl (po_fieldAddr rfl inI) ?_
    | refine wc_load1 rfl inI (at_has (.inl rfl) rfl rfl) rfl ?_
    | (refine wc_boxA rfl inI rfl ?_; intro _ _ _ _ _)
    | refine wp_condT rfl ?_
    | refine wp_condF rfl ?_
    | fail)
  rename_i i1 σ1 g1 n1 h1
  refine wc_drawn [] mixed_ rfl ?_
  all_goals refine da_takeC 0 rfl rfl (by kernel_rfl) (by first | exact po_fieldAddr rfl inI | fail) ?_
  all_goals refine da_takeC 1 rfl rfl (by kernel_rfl) (by first | exact pc_load1L rfl inI (at_has (.inl rfl) rfl rfl) inI | fail) ?_
  all_goals refine da_takeC 2 rfl rfl (by kernel_rfl) (by first | exact pc_indexSlZ rfl rfl inI inI (by decide) (by decide) | fail) ?_
  all_goals refine da_takeC 3 rfl rfl (by kernel_rfl) (by first | exact pc_loadnL rfl inI inI inI | fail) ?_
  all_goals refine da_takeC 4 rfl rfl (by kernel_rfl) (by first | exact po_move rfl | fail) ?_
  all_goals refine da_takeC 6 rfl rfl (by kernel_rfl) (by first | exact po_fieldAddr rfl inI | fail) ?_
  all_goals refine da_takeC 7 rfl rfl (by kernel_rfl) (by first | exact pc_load1L rfl inI (at_has (.inl rfl) rfl rfl) inI | fail) ?_
  all_goals refine da_takeC 8 rfl rfl (by kernel_rfl) (by first | exact pc_indexSlZ rfl rfl inI inI (by decide) (by decide) | fail) ?_
  all_goals refine da_takeC 9 rfl rfl (by kernel_rfl) (by first | exact pc_loadnL rfl inI inI inI | fail) ?_
  all_goals refine da_takeC 10 rfl rfl (by kernel_rfl) (by first | exact po_move rfl | fail) ?_
  all_goals (first | (refine da_one 5 rfl (by kernel_rfl) (fun _ _ _ _ => ?_); (repeat' (first | (refine wc_callSt rfl inI rfl (hp _ _ _ (gup hG inI) inI inI) rfl ?_; intro _ _ _ _ _ _ _) | fail)); all_goals (first | refine wl_nil ⟨rfl, (by first | exact LeS.len inI | exact App.len (by assumption)), ?_⟩ | trace_state)))
  all_goals (first | (refine da_one 11 rfl (by kernel_rfl) (fun _ _ _ _ => ?_); (repeat' (first | (refine wc_callSt rfl inI rfl (hq _ _ _ (gup hG inI) inI inI) rfl ?_; intro _ _ _ _ _ _ _) | fail)); all_goals (first | refine wl_nil ⟨rfl, (by first | exact LeS.len inI | exact App.len (by assumption)), ?_⟩ | trace_state)))
  all_goals refine da_takeC 12 rfl rfl (by kernel_rfl) (by first | exact po_assign rfl | fail) ?_
  all_goals refine da_takeC 13 rfl rfl (by kernel_rfl) (by first | exact po_assign rfl | fail) ?_
  all_goals refine da_done (by kernel_rfl) ?_
  repeat' (first
    | (refine wc_row0 (α := StC) inI inI rfl rfl (by decide) rfl ?_; intro _ _ _ _ _)
    | refine wl_pop rfl (pc_lenRow rfl inI inI) ?_
    | refine wp_seqA ?_
    | refine wp_region_seq ?_
    | refine thru_seq_next ?_
    | refine wp_blockA ?_
    | refine wl_nil ?_
    | refine wl_pop rfl (po_move rfl) ?_
    | refine wl_pop rfl (po_assign rfl) ?_
    | fail)
  rename_i u xa σ3 o3 ow3 sr3 g3 _ _ _ _ u' xb σ4 o4 ow4 sr4 g4 i2 σ2 g2 n2 h2
  have hla := sr3.len'
  have hlb := sr4.len'
  have l1 : LeS σ σ1 := inI
  refine wc_loop [(2, _), (5, _), (6, _), (61, _), (62, _)] (fun x : Nat × AV => [(7, x.2), (63, I x.1)]) (fun x σ' => x.1 ≤ LA.length ∧ ∃ xs, LJ G σ1 σ' u u' xa xb LA LB x.2 xs ((LA.take x.1).map (fun x => (x.1, parT x.2 q)))) (fun x => LA.length - x.1) (0, .sl i2 0 0) ⟨Nat.zero_le _, [], inI, inI, inI, inI, inI, nes_new (ow3.rw.les inI) n2.le, nes_new ow4.rw n2.le, ow_of_has inI (Nat.le_trans (LeS.len inI) n2.le) rfl (by decide), SR.nil G _⟩ (by repeat' (first | exact sub_nil | refine sub_cons rfl ?_ | refine sub_int rfl (by first | rfl | omega | (push_cast; omega) | simp) ?_ | refine sub_eq rfl (by assumption) ?_)) ?_
  rintro ⟨k, v⟩ σ' ⟨hk, xs, hJ⟩
  dsimp only at hk hJ ⊢
  have hJ' := hJ
  obtain ⟨jle, jra, jrb, jsa, jsb, jna, jnb, jow, jsr⟩ := hJ'
  have := jle.grow
  have := jow.one
  have hxl := jsr.len'
  have hxb : ((LA.take k).map (fun x : Stp => (x.1, parT x.2 q))).length ≤ LA.length := by rw [List.length_map]; exact List.length_take_le' _ _
  repeat' (first
    | refine wl_pop rfl (pc_ldSt rfl inI inI (by omega) inI) ?_
    | refine wl_pop rfl (pc_indexRow rfl rfl inI inI inI (by omega)) ?_
    | refine wl_pop rfl (pc_lenRow rfl inI inI) ?_
    | refine wp_seqA ?_
    | refine wp_region_seq ?_
    | refine thru_seq_next ?_
    | refine thru_seq ?_
    | refine exit_here ?_
    | refine wp_skipA ?_
    | refine wp_exitA ?_
    | refine wp_blockA ?_
    | refine wl_nil ?_
    | refine wl_pop rfl (po_move rfl) ?_
    | refine wl_pop rfl (po_binOp rfl rfl rfl) ?_
    | (refine wc_allocA (cs := [_, _, _, _]) inI rfl inI rfl ?_; intro _ _ _ _ _)
    | refine wp_condP rfl (fun _ => ?_) (fun _ => ?_)
    | fail)
  · have hk' : k < LA.length := by omega
    have hxk : k < xa.length := by omega
    obtain ⟨e1, e2, e3, rk⟩ := jsa.at hk'
    have hok : One (xa.getD k Enc.dflt).s := ⟨(xa.getD k Enc.dflt).one⟩
    have et : Tm.node (xa.getD k Enc.dflt).op (xa.getD k Enc.dflt).n (LA.getD k (0, nilT)).2.ps = (LA.getD k (0, nilT)).2 := by rw [e2, e3, Tm.eta]
    repeat' (first
      | refine thru_seq_next ?_
      | refine wl_nil ?_
      | (refine wc_storeA rfl rfl inI inI rfl inI (Nat.le_of_ble_eq_true rfl) (.inr (may_new _)) ?_; intro _ _)
      | fail)
    rename_i i9 σ9 g9 n9 h9 σ10 u10
    refine wc_drawn [12, 13] mixed_ rfl ?_
    all_goals refine da_takeC 0 rfl rfl (by kernel_rfl) (by first | exact po_move rfl | fail) ?_
    all_goals refine da_takeC 1 rfl rfl (by kernel_rfl) (by first | exact po_fieldAddr rfl inI | fail) ?_
    all_goals refine da_takeC 2 rfl rfl (by kernel_rfl) (by first | exact pc_load1L rfl inI (at_has (.inl rfl) rfl rfl) inI | fail) ?_
    all_goals refine da_takeC 3 rfl rfl (by kernel_rfl) (by first | exact po_fieldAddr rfl inI | fail) ?_
    all_goals refine da_takeC 4 rfl rfl (by kernel_rfl) (by first | exact pc_loadnL rfl inI (at_has (cs := [_, _, _]) (.inl rfl) rfl rfl) inI | fail) ?_
    all_goals refine da_takeC 5 rfl rfl (by kernel_rfl) (by first | exact po_fieldAddr rfl inI | fail) ?_
    all_goals refine da_takeC 6 rfl rfl (by kernel_rfl) (by first | exact pc_load1L rfl inI (at_has (.inl rfl) rfl rfl) inI | fail) ?_
    all_goals refine da_takeC 7 rfl rfl (by kernel_rfl) (by first | exact pc_indexSlZ rfl rfl inI inI (by decide) (by decide) | fail) ?_
    all_goals refine da_takeC 8 rfl rfl (by kernel_rfl) (by first | exact pc_loadnL rfl inI inI inI | fail) ?_
    all_goals (first | (refine da_one 9 rfl (by kernel_rfl) (fun _ _ _ _ => ?_); (repeat' (first | (refine wc_callTG rfl inI rfl (c_parOf _ _ _ (gup hG inI)) rfl ?_; intro _ _ _ _ _) | fail)); all_goals (first | refine wl_nil ⟨rfl, (by first | exact LeS.len inI | exact App.len (by assumption)), ?_⟩ | trace_state)))
    all_goals refine da_takeC 10 rfl rfl (by kernel_rfl) (by first | exact pc_buildSt rfl rfl inI inI rfl | fail) ?_
    all_goals (first | (refine da_one 11 rfl (by kernel_rfl) (fun _ _ _ _ => ?_); (repeat' (first | (refine wc_oneSt rfl inI inI rfl (by decide) rfl ?_; intro _ _ _ _ _) | fail)); all_goals (first | refine wl_nil ⟨rfl, (by first | exact LeS.len inI | exact App.len (by assumption)), ?_⟩ | trace_state)))
    all_goals (refine da_last 12 rfl (by decide) (by kernel_rfl) ?_; (repeat' (first | (refine wc_appendSt (σ₀ := σ1) rfl rfl inI inI rfl (by decide) (by decide) inI inI (by omega) (may_ge σ1) (LeS.len inI) rfl ?_; intro _ _ _ _ _ _ _) | fail)); all_goals (first | refine wl_nil (dl_in ?_) | trace_state))
    all_goals (refine dl_last 13 rfl (by decide) (by kernel_rfl) ?_; (repeat' (first | refine wl_pop rfl (po_assign rfl) ?_ | fail)); all_goals (first | refine wl_nil (dl_in ?_) | trace_state))
    all_goals refine dl_done (by kernel_rfl) ?_
    repeat' (first
      | refine wp_region_seq ?_
      | refine thru_seq_next ?_
      | refine thru_block_next ?_
      | refine wl_nil ?_
      | refine wl_pop rfl (po_move rfl) ?_
      | refine wl_pop rfl (pc_add rfl rfl (by omega) (by omega)) ?_
      | fail)
    rename_i w σ12 o12 r12 g12 _ _ _ _ i13 σ13 g13 n13 h13 v' σ14 app mk kn ow one
    rw [et, Tm.eta q] at r12
    refine ⟨(k + 1, v'), by dsimp only; omega, ⟨by dsimp only; omega, _, (hJ.step (y := ((LA.getD k (0, nilT)).1, parT (LA.getD k (0, nilT)).2 q)) inI app kn ow e1 rfl rfl ((r12.les inI).kn kn inI)).eq ?_⟩, (by repeat' (first | exact sub_nil | refine sub_cons rfl ?_ | refine sub_int rfl (by first | rfl | omega | (push_cast; omega) | simp) ?_ | refine sub_eq rfl (by assumption) ?_))⟩
    dsimp only
    rw [map_take_succT _ hk']
  clear hxb
  obtain rfl : k = LA.length := by omega
  rw [List.take_length] at hJ
  refine wc_loop [(2, _), (5, _), (6, _), (81, _), (82, _)] (fun x : Nat × AV => [(7, x.2), (83, I x.1)]) (fun x σ' => x.1 ≤ LB.length ∧ ∃ xs, LJ G σ1 σ' u u' xa xb LA LB x.2 xs (LA.map (fun x => (x.1, parT x.2 q)) ++ (LB.take x.1).map (fun y => (y.1, parT p y.2)))) (fun x => LB.length - x.1) (0, v) ⟨Nat.zero_le _, xs, hJ.eq (by simp)⟩ (by repeat' (first | exact sub_nil | refine sub_cons rfl ?_ | refine sub_int rfl (by first | rfl | omega | (push_cast; omega) | simp) ?_ | refine sub_eq rfl (by assumption) ?_)) ?_
  clear hJ jle jra jrb jsa jsb jna jnb jow jsr hxl
  clear xs
  rintro ⟨k, v⟩ σ' ⟨hk, xs, hJ⟩
  dsimp only at hk hJ ⊢
  have hJ' := hJ
  obtain ⟨jle, jra, jrb, jsa, jsb, jna, jnb, jow, jsr⟩ := hJ'
  have := jle.grow
  have := jow.one
  have hxl := jsr.len'
  rw [List.length_append, List.length_map] at hxl
  have hxb : ((LB.take k).map (fun y : Stp => (y.1, parT p y.2))).length ≤ LB.length := by rw [List.length_map]; exact List.length_take_le' _ _
  repeat' (first
    | refine wl_pop rfl (pc_ldSt rfl inI inI (by omega) inI) ?_
    | refine wl_pop rfl (pc_indexRow rfl rfl inI inI inI (by omega)) ?_
    | refine wl_pop rfl (pc_lenRow rfl inI inI) ?_
    | refine wp_seqA ?_
    | refine wp_region_seq ?_
    | refine thru_seq_next ?_
    | refine thru_seq ?_
    | refine exit_here ?_
    | refine wp_skipA ?_
    | refine wp_exitA ?_
    | refine wp_blockA ?_
    | refine wl_nil ?_
    | refine wl_pop rfl (po_move rfl) ?_
    | refine wl_pop rfl (po_binOp rfl rfl rfl) ?_
    | (refine wc_allocA (cs := [_, _, _, _]) inI rfl inI rfl ?_; intro _ _ _ _ _)
    | refine wp_condP rfl (fun _ => ?_) (fun _ => ?_)
    | fail)
  · have hk' : k < LB.length := by omega
    have hxk : k < xb.length := by omega
    obtain ⟨e1, e2, e3, rk⟩ := jsb.at hk'
    have hok : One (xb.getD k Enc.dflt).s := ⟨(xb.getD k Enc.dflt).one⟩
    have et : Tm.node (xb.getD k Enc.dflt).op (xb.getD k Enc.dflt).n (LB.getD k (0, nilT)).2.ps = (LB.getD k (0, nilT)).2 := by rw [e2, e3, Tm.eta]
    repeat' (first
      | refine thru_seq_next ?_
      | refine wl_nil ?_
      | (refine wc_storeA rfl rfl inI inI rfl inI (Nat.le_of_ble_eq_true rfl) (.inr (may_new _)) ?_; intro _ _)
      | fail)
    rename_i i9 σ9 g9 n9 h9 σ10 u10
    refine wc_drawn [12, 13] mixed_ rfl ?_
    all_goals refine da_takeC 0 rfl rfl (by kernel_rfl) (by first | exact po_move rfl | fail) ?_
    all_goals refine da_takeC 1 rfl rfl (by kernel_rfl) (by first | exact po_fieldAddr rfl inI | fail) ?_
    all_goals refine da_takeC 2 rfl rfl (by kernel_rfl) (by first | exact pc_load1L rfl inI (at_has (.inl rfl) rfl rfl) inI | fail) ?_
    all_goals refine da_takeC 3 rfl rfl (by kernel_rfl) (by first | exact po_fieldAddr rfl inI | fail) ?_
    all_goals refine da_takeC 4 rfl rfl (by kernel_rfl) (by first | exact pc_load1L rfl inI (at_has (.inl rfl) rfl rfl) inI | fail) ?_
    all_goals refine da_takeC 5 rfl rfl (by kernel_rfl) (by first | exact pc_indexSlZ rfl rfl inI inI (by decide) (by decide) | fail) ?_
    all_goals refine da_takeC 6 rfl rfl (by kernel_rfl) (by first | exact pc_loadnL rfl inI inI inI | fail) ?_
    all_goals refine da_takeC 7 rfl rfl (by kernel_rfl) (by first | exact po_fieldAddr rfl inI | fail) ?_
    all_goals refine da_takeC 8 rfl rfl (by kernel_rfl) (by first | exact pc_loadnL rfl inI (at_has (cs := [_, _, _]) (.inl rfl) rfl rfl) inI | fail) ?_
    all_goals (first | (refine da_one 9 rfl (by kernel_rfl) (fun _ _ _ _ => ?_); (repeat' (first | (refine wc_callTG rfl inI rfl (c_parOf _ _ _ (gup hG inI)) rfl ?_; intro _ _ _ _ _) | fail)); all_goals (first | refine wl_nil ⟨rfl, (by first | exact LeS.len inI | exact App.len (by assumption)), ?_⟩ | trace_state)))
    all_goals refine da_takeC 10 rfl rfl (by kernel_rfl) (by first | exact pc_buildSt rfl rfl inI inI rfl | fail) ?_
    all_goals (first | (refine da_one 11 rfl (by kernel_rfl) (fun _ _ _ _ => ?_); (repeat' (first | (refine wc_oneSt rfl inI inI rfl (by decide) rfl ?_; intro _ _ _ _ _) | fail)); all_goals (first | refine wl_nil ⟨rfl, (by first | exact LeS.len inI | exact App.len (by assumption)), ?_⟩ | trace_state)))
    all_goals (refine da_last 12 rfl (by decide) (by kernel_rfl) ?_; (repeat' (first | (refine wc_appendSt (σ₀ := σ1) rfl rfl inI inI rfl (by decide) (by decide) inI inI (by omega) (may_ge σ1) (LeS.len inI) rfl ?_; intro _ _ _ _ _ _ _) | fail)); all_goals (first | refine wl_nil (dl_in ?_) | trace_state))
    all_goals (refine dl_last 13 rfl (by decide) (by kernel_rfl) ?_; (repeat' (first | refine wl_pop rfl (po_assign rfl) ?_ | fail)); all_goals (first | refine wl_nil (dl_in ?_) | trace_state))
    all_goals refine dl_done (by kernel_rfl) ?_
    repeat' (first
      | refine wp_region_seq ?_
      | refine thru_seq_next ?_
      | refine thru_block_next ?_
      | refine wl_nil ?_
      | refine wl_pop rfl (po_move rfl) ?_
      | refine wl_pop rfl (pc_add rfl rfl (by omega) (by omega)) ?_
      | fail)
    rename_i w σ12 o12 r12 g12 _ _ _ _ i13 σ13 g13 n13 h13 v' σ14 app mk kn ow one
    rw [et, Tm.eta p] at r12
    refine ⟨(k + 1, v'), by dsimp only; omega, ⟨by dsimp only; omega, _, (hJ.step (y := ((LB.getD k (0, nilT)).1, parT p (LB.getD k (0, nilT)).2)) inI app kn ow e1 rfl rfl ((r12.les inI).kn kn inI)).eq ?_⟩, (by repeat' (first | exact sub_nil | refine sub_cons rfl ?_ | refine sub_int rfl (by first | rfl | omega | (push_cast; omega) | simp) ?_ | refine sub_eq rfl (by assumption) ?_))⟩
    dsimp only
    rw [map_take_succT _ hk', List.append_assoc]
  clear hxb
  obtain rfl : k = LB.length := by omega
  rw [List.take_length] at hJ
  generalize hM : LA.map (fun x : Stp => (x.1, parT x.2 q)) ++ LB.map (fun y : Stp => (y.1, parT p y.2)) = M at *
  have hMl : M.length = LA.length + LB.length := by rw [← hM]; simp
  refine wc_loop [(6, _), (101, _), (102, _)] (fun x : Nat × AV => [(7, x.2), (103, I x.1)]) (fun x σ' => x.1 ≤ LA.length ∧ ∃ xs, LJ G σ1 σ' u u' xa xb LA LB x.2 xs (M ++ meetsL (LA.take x.1) LB)) (fun x => LA.length - x.1) (0, v) ⟨Nat.zero_le _, xs, hJ.eq (by simp [meetsL])⟩ (by repeat' (first | exact sub_nil | refine sub_cons rfl ?_ | refine sub_int rfl (by first | rfl | omega | (push_cast; omega) | simp) ?_ | refine sub_eq rfl (by assumption) ?_)) ?_
  clear hJ jle jra jrb jsa jsb jna jnb jow jsr hxl
  clear xs
  rintro ⟨k, v⟩ σ' ⟨hk, xs, hJ⟩
  dsimp only at hk hJ ⊢
  have hJ' := hJ
  obtain ⟨jle, jra, jrb, jsa, jsb, jna, jnb, jow, jsr⟩ := hJ'
  have := jle.grow
  have := jow.one
  repeat' (first
    | refine wl_pop rfl (pc_ldSt rfl inI inI (by omega) inI) ?_
    | refine wl_pop rfl (pc_indexRow rfl rfl inI inI inI (by omega)) ?_
    | refine wp_seqA ?_
    | refine wp_region_seq ?_
    | refine thru_seq_next ?_
    | refine thru_seq_ret ?_
    | refine thru_seq ?_
    | refine thru_block_ret ?_
    | refine exit_here ?_
    | refine wp_skipA ?_
    | refine wp_retA ?_
    | refine wp_exitA ?_
    | refine wp_blockA ?_
    | refine wl_nil ?_
    | refine wl_pop rfl (po_move rfl) ?_
    | refine wl_pop rfl (po_assign rfl) ?_
    | refine wl_pop rfl (po_binOp rfl rfl rfl) ?_
    | (refine wc_allocA (cs := [_, _, _, _]) inI rfl inI rfl ?_; intro _ _ _ _ _)
    | refine wp_condP rfl (fun _ => ?_) (fun _ => ?_)
    | refine at_ret (res1 rfl rfl) ?_
    | fail)
  rotate_left
  · obtain rfl : k = LA.length := by omega
    rw [List.take_length] at jsr
    exact ret_st (σ₁ := σ1) jow jsr inI inI rfl
  have hk' : k < LA.length := by omega
  have hxk : k < xa.length := by omega
  have hmk := meets_take_le (A := LA) (B := LB) (k + 1)
  rw [meets_take hk', List.length_append] at hmk
  have hrk := hra (LA.getD k (0, nilT)) (by simp [List.getD_eq_getElem?_getD, hk'])
  have hok : One (xa.getD k Enc.dflt).s := ⟨(xa.getD k Enc.dflt).one⟩
  repeat' (first
    | refine wl_pop rfl (pc_lenRow rfl inI inI) ?_
    | refine wp_seqA ?_
    | refine wp_region_seq ?_
    | refine thru_seq_next ?_
    | refine wp_blockA ?_
    | refine wl_nil ?_
    | refine wl_pop rfl (po_move rfl) ?_
    | (refine wc_storeA rfl rfl inI inI rfl inI (Nat.le_of_ble_eq_true rfl) (.inr (may_new _)) ?_; intro _ _)
    | fail)
  rename_i i9 σ9 g9 n9 h9 σ10 u10
  have h10 : Has σ10 i9 ⟨.own, 1, [I (xa.getD k Enc.dflt).act, I (xa.getD k Enc.dflt).op, I (xa.getD k Enc.dflt).n, (xa.getD k Enc.dflt).s], []⟩ := instHasUpd (g := u10)
  have l10 : LeS σ' σ10 := inI
  refine wc_loop [(6, _), (13, _), (101, _), (102, _), (103, _), (107, _), (108, _)] (fun x : Nat × AV => [(7, x.2), (109, I x.1)]) (fun x σ' => x.1 ≤ LB.length ∧ Has σ' i9 ⟨.own, 1, [I (xa.getD k Enc.dflt).act, I (xa.getD k Enc.dflt).op, I (xa.getD k Enc.dflt).n, (xa.getD k Enc.dflt).s], []⟩ ∧ ∃ xs, LJ G σ1 σ' u u' xa xb LA LB x.2 xs (M ++ meetsL (LA.take k) LB ++ meetsL [LA.getD k (0, nilT)] (LB.take x.1))) (fun x => LB.length - x.1) (0, v) ⟨Nat.zero_le _, h10, xs, (hJ.les l10).eq (by simp [meetsL])⟩ (by repeat' (first | exact sub_nil | refine sub_cons rfl ?_ | refine sub_int rfl (by first | rfl | omega | (push_cast; omega) | simp) ?_ | refine sub_eq rfl (by assumption) ?_)) ?_
  clear hJ jle jra jrb jsa jsb jna jnb jow jsr
  clear xs
  rintro ⟨j, v⟩ σ' ⟨hj, hi9, xs, hJ⟩
  dsimp only at hj hJ ⊢
  have hJ' := hJ
  obtain ⟨jle, jra, jrb, jsa, jsb, jna, jnb, jow, jsr⟩ := hJ'
  have := jle.grow
  have := jow.one
  have hxl := jsr.len'
  have hml := meets1_take_le (x := LA.getD k (0, nilT)) (B := LB) j
  rw [List.length_append, List.length_append] at hxl
  repeat' (first
    | refine wl_pop rfl (pc_ldSt rfl inI inI (by omega) inI) ?_
    | refine wl_pop rfl (pc_indexRow rfl rfl inI inI inI (by omega)) ?_
    | refine wp_seqA ?_
    | refine wp_region_seq ?_
    | refine thru_seq_next ?_
    | refine thru_seq ?_
    | refine thru_block_next ?_
    | refine exit_here ?_
    | refine wp_skipA ?_
    | refine wp_exitA ?_
    | refine wp_blockA ?_
    | refine wl_nil ?_
    | refine wl_pop rfl (po_move rfl) ?_
    | refine wl_pop rfl (pc_add rfl rfl (by omega) (by omega)) ?_
    | refine wl_pop rfl (po_binOp rfl rfl rfl) ?_
    | (refine wc_allocA (cs := [_, _, _, _]) inI rfl inI rfl ?_; intro _ _ _ _ _)
    | refine wp_condP rfl (fun _ => ?_) (fun _ => ?_)
    | fail)
  rotate_left
  · obtain rfl : j = LB.length := by omega
    rw [List.take_length] at hJ
    refine ⟨(k + 1, v), by dsimp only; omega, ⟨by dsimp only; omega, xs, hJ.eq ?_⟩, (by repeat' (first | exact sub_nil | refine sub_cons rfl ?_ | refine sub_int rfl (by first | rfl | omega | (push_cast; omega) | simp) ?_ | refine sub_eq rfl (by assumption) ?_))⟩
    dsimp only
    rw [meets_take hk', List.append_assoc]
  have hj' : j < LB.length := by omega
  have hxj : j < xb.length := by omega
  obtain ⟨e1, e2, e3, rk⟩ := jsa.at hk'
  obtain ⟨f1, f2, f3, rj⟩ := jsb.at hj'
  have hok' : One (xb.getD j Enc.dflt).s := ⟨(xb.getD j Enc.dflt).one⟩
  have et : Tm.node (xa.getD k Enc.dflt).op (xa.getD k Enc.dflt).n (LA.getD k (0, nilT)).2.ps = (LA.getD k (0, nilT)).2 := by rw [e2, e3, Tm.eta]
  have eu : Tm.node (xb.getD j Enc.dflt).op (xb.getD j Enc.dflt).n (LB.getD j (0, nilT)).2.ps = (LB.getD j (0, nilT)).2 := by rw [f2, f3, Tm.eta]
  have hrj := hrb (LB.getD j (0, nilT)) (by simp [List.getD_eq_getElem?_getD, hj'])
  have hmt := meets1_take (x := LA.getD k (0, nilT)) hj'
  repeat' (first
    | refine wl_pop rfl (pc_neg rfl (by omega) (by omega)) ?_
    | (refine wc_callTG rfl inI rfl (c_parOf _ _ _ (gup hG inI)) rfl ?_; intro _ _ _ _ _)
    | refine wl_pop rfl (pc_buildSt rfl rfl inI inI rfl) ?_
    | (refine wc_oneSt rfl inI inI rfl (by decide) rfl ?_; intro _ _ _ _ _)
    | (refine wc_appendSt (σ₀ := σ1) rfl rfl inI inI rfl (by decide) (by decide) inI inI (by omega) (may_ge σ1) (LeS.len inI) rfl ?_; intro _ _ _ _ _ _ _)
    | refine wp_seqA ?_
    | refine wp_region_seq ?_
    | refine thru_seq_next ?_
    | refine thru_block_next ?_
    | refine wp_skipA ?_
    | refine wl_nil ?_
    | refine wl_pop rfl (po_move rfl) ?_
    | refine wl_pop rfl (po_assign rfl) ?_
    | refine wl_pop rfl (pc_add rfl rfl (by omega) (by omega)) ?_
    | refine wl_pop rfl (po_binOp rfl rfl rfl) ?_
    | refine wl_pop rfl (po_fieldAddr rfl inI) ?_
    | refine wc_load1 rfl inI (at_has (.inl rfl) rfl rfl) rfl ?_
    | refine wc_loadn rfl inI (at_has (cs := [_, _, _]) (.inl rfl) rfl rfl) rfl ?_
    | (refine wc_storeA rfl rfl inI inI rfl inI (Nat.le_of_ble_eq_true rfl) (.inr (may_new _)) ?_; intro _ _)
    | refine wl_pop rfl (po_pick rfl rfl) ?_
    | refine wc_guardT_true rfl rfl rfl ?_
    | refine wc_guardF_true rfl rfl rfl rfl ?_
    | refine wc_guardNP_true rfl rfl rfl rfl (fun _ => ?_) (fun _ => ?_)
    | refine wp_condF rfl ?_
    | refine wp_condP rfl (fun _ => ?_) (fun _ => ?_)
    | fail)
  · rename_i hc0 i20 σ20 g20 n20 h20 σ21 u21 hc1 hc2 w σ12 o12 r12 g12 i13 σ13 g13 n13 h13 v' σ14 app mk kn ow one
    rw [if_pos (by omega)] at hmt
    rw [et, eu] at r12
    have hh14 : Has σ14 i9 _ := inI
    refine ⟨(j + 1, v'), by dsimp only; omega, ⟨by dsimp only; omega, hh14, _, (hJ.step (y := (0, parT (LA.getD k (0, nilT)).2 (LB.getD j (0, nilT)).2)) inI app kn ow rfl rfl rfl ((r12.les inI).kn kn inI)).eq ?_⟩, (by repeat' (first | exact sub_nil | refine sub_cons rfl ?_ | refine sub_int rfl (by first | rfl | omega | (push_cast; omega) | simp) ?_ | refine sub_eq rfl (by assumption) ?_))⟩
    dsimp only
    rw [hmt, List.append_assoc]
  all_goals
    rw [if_neg (by omega), List.append_nil] at hmt
    refine ⟨(j + 1, v), by dsimp only; omega, ⟨by dsimp only; omega, inI, xs, (hJ.les inI).eq ?_⟩, (by repeat' (first | exact sub_nil | refine sub_cons rfl ?_ | refine sub_int rfl (by first | rfl | omega | (push_cast; omega) | simp) ?_ | refine sub_eq rfl (by assumption) ?_))⟩
    dsimp only
    rw [hmt]
theorem kinds_iS : Kinds base F_impl_stepsOf G ds where
  nil := fun σ s d hG hs hd => c_iS_nil σ s d hG (hs := hs) (hd := hd)
  act := fun n p σ s d hG hs hd => c_iS_act σ s d hG (hs := hs) (hd := hd)
  sum := fun hp hq hl σ s d hG hs hd => c_iS_sum hp hq hl σ s d hG (hs := hs) (hd := hd)
  par := fun hp hq ha hb hl σ s d hG hs hd => c_iS_par hp hq ha hb hl σ s d hG (hs := hs) (hd := hd)
  hide := fun hn hp ha hl σ s d hG hs hd => c_iS_hide hn hp ha hl σ s d hG (hs := hs) (hd := hd)
  call := fun hn hk σ s d hG hs hd => c_iS_call hn hk σ s d hG (hs := hs) (hd := hd)
theorem c_stepsOf (h : defsOk ds = true) {t : Tm} (h1 : t.shape = true) (h2 : t.callLt ds.length = true) (h3 : t.cnt ≤ 24) (σ : Store) (s d : AV) (hG : ∀ i, σ.length ≤ i → G i) [hs : RTsG G σ s t.ps] [hd : RTsG G σ d ds] : ACall Tryz.prog base F_impl_stepsOf [.agg [I t.op, I t.n, s], d] σ (fun _ => False) (RetSt G σ (t.steps ds)) :=
  kinds_steps kinds_iS h h1 h2 h3 σ s d hG hs hd
end
end Go.Proofs.YthbodgnoadlbcaaGreatDoor.Asl
