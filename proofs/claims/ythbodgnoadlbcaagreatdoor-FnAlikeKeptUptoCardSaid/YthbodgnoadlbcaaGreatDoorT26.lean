/- Several texts in one. -/
import Derived.Test.YthbodgnoadlbcaaGreatDoorB6
import Derived.Test.YthbodgnoadlbcaaGreatDoorT25
import Derived.Test.YthbodgnoadlbcaaGreatDoorTU
import Derived.Test.YthbodgnoadlbcaaGreatDoorBB
/- Operations that compute without the store, beside writes. -/
namespace Go.Proofs.YthbodgnoadlbcaaGreatDoor.Asl
open Go.RowKit Go.Proofs.YthbodgnoadlbcaaGreatDoorW.PrintLast
set_option linter.unusedVariables false
end Go.Proofs.YthbodgnoadlbcaaGreatDoor.Asl

/- The steps of a term, as the judge says them. -/
namespace Go.Proofs.YthbodgnoadlbcaaGreatDoor.Asl
open Go.RowKit Go.Proofs.YthbodgnoadlbcaaGreatDoorW.PrintLast
set_option linter.unusedVariables false
set_option linter.unusedSimpArgs false
attribute [local irreducible] WP WL andThen inBlock noGoto atEnd ACall DA DL PO Hold nodeOk
set_option maxHeartbeats 4000000
set_option synthInstance.maxHeartbeats 400000
set_option synthInstance.maxSize 10000
def CSt (base : Nat) (f : FuncId) (G : Nat → Prop) (ds : List Tm) (t : Tm) (L : List Stp) : Prop :=
  ∀ (σ : Store) (s d : AV), (∀ i, σ.length ≤ i → G i) → RTsG G σ s t.ps → RTsG G σ d ds → ACall Tryz.prog base f [.agg [I t.op, I t.n, s], d] σ (fun _ => False) (RetSt G σ L)
structure LJ (G : Nat → Prop) (σ₁ σ : Store) (ua ub : AV) (xa xb : List StC) (A B : List Stp) (v : AV) (xs : List StC) (L : List Stp) : Prop where
  le : LeS σ₁ σ
  ra : RW σ ua xa
  rb : RW σ ub xb
  sa : SR G σ xa A
  sb : SR G σ xb B
  na : NeS v ua
  nb : NeS v ub
  ow : OW σ₁ σ v xs
  sr : SR G σ xs L
theorem LJ.step {G : Nat → Prop} {σ₁ σ σ' σ'' : Store} {ua ub : AV} {xa xb : List StC} {A B : List Stp} {v v' : AV} {xs : List StC} {L : List Stp} {x : StC} {y : Stp} (h : LJ G σ₁ σ ua ub xa xb A B v xs L) (g : LeS σ σ') (app : App σ₁ σ' v v' σ'') (kn : KN σ' 4 σ'') (ow : OW σ₁ σ'' v' (xs ++ [x]))
    (h1 : x.act = y.1) (h2 : x.op = y.2.op) (h3 : x.n = y.2.n) (h4 : RTsG G σ'' x.s y.2.ps) : LJ G σ₁ σ'' ua ub xa xb A B v' (xs ++ [x]) (L ++ [y]) :=
  ⟨app.les (Nat.le_refl _) (h.le.trans g), app.rw (h.ra.les g) h.na, app.rw (h.rb.les g) h.nb, (h.sa.les g).kn kn inI, (h.sb.les g).kn kn inI, app.nes (h.ra.les g) h.na, app.nes (h.rb.les g) h.nb, ow, ((h.sr.les g).kn kn inI).snoc h1 h2 h3 h4⟩
theorem LJ.les {G : Nat → Prop} {σ₁ σ σ' : Store} {ua ub : AV} {xa xb : List StC} {A B : List Stp} {v : AV} {xs : List StC} {L : List Stp} (h : LJ G σ₁ σ ua ub xa xb A B v xs L) (g : LeS σ σ') : LJ G σ₁ σ' ua ub xa xb A B v xs L :=
  ⟨h.le.trans g, h.ra.les g, h.rb.les g, h.sa.les g, h.sb.les g, h.na, h.nb, (have := g.grow; have := h.ow; inI), h.sr.les g⟩
theorem LJ.eq {G : Nat → Prop} {σ₁ σ : Store} {ua ub : AV} {xa xb : List StC} {A B : List Stp} {v : AV} {xs : List StC} {L L' : List Stp} (h : LJ G σ₁ σ ua ub xa xb A B v xs L) (e : L = L') : LJ G σ₁ σ ua ub xa xb A B v xs L' := e ▸ h
theorem map_take_succT {A : List Stp} {k : Nat} (f : Stp → Stp) (hk : k < A.length) : (A.take (k + 1)).map f = (A.take k).map f ++ [f (A.getD k (0, nilT))] := by
  rw [List.take_add_one, List.map_append]
  simp [List.getD_eq_getElem?_getD, hk]
theorem meets_take {A B : List Stp} {k : Nat} (hk : k < A.length) : meetsL (A.take (k + 1)) B = meetsL (A.take k) B ++ meetsL [A.getD k (0, nilT)] B := by
  rw [List.take_add_one]
  simp only [meetsL, List.flatMap_append, List.getD_eq_getElem?_getD, List.getElem?_eq_getElem hk, Option.toList_some, Option.getD_some]
theorem meets1_take {x : Stp} {B : List Stp} {k : Nat} (hk : k < B.length) : meetsL [x] (B.take (k + 1)) = meetsL [x] (B.take k) ++ (if x.1 ≠ 0 ∧ x.1 = -(B.getD k (0, nilT)).1 then [(0, parT x.2 (B.getD k (0, nilT)).2)] else []) := by
  rw [List.take_add_one]
  simp only [meetsL, List.flatMap_cons, List.flatMap_nil, List.append_nil, List.filter_append, List.map_append]
  congr 1
  simp only [List.getD_eq_getElem?_getD, List.getElem?_eq_getElem hk, Option.toList_some, Option.getD_some, List.filter_cons, List.filter_nil, decide_eq_true_eq]
  split <;> rfl
theorem hide_take {A : List Stp} {k : Nat} {n : Int} (hk : k < A.length) : hideL n (A.take (k + 1)) = hideL n (A.take k) ++ (if hidP n (A.getD k (0, nilT)) = true then [((A.getD k (0, nilT)).1, hideT n (A.getD k (0, nilT)).2)] else []) := by
  rw [List.take_add_one]
  simp only [hideL, List.filter_append, List.map_append]
  congr 1
  simp only [List.getD_eq_getElem?_getD, List.getElem?_eq_getElem hk, Option.toList_some, Option.getD_some, List.filter_cons, List.filter_nil]
  split <;> rfl
theorem meets_take_le {A B : List Stp} (k : Nat) : (meetsL (A.take k) B).length ≤ (meetsL A B).length := by
  have e1 : meetsL (A.take k ++ A.drop k) B = meetsL (A.take k) B ++ meetsL (A.drop k) B := by simp only [meetsL, List.flatMap_append]
  rw [List.take_append_drop] at e1
  rw [e1, List.length_append]; omega
theorem meets1_take_le {x : Stp} {B : List Stp} (k : Nat) : (meetsL [x] (B.take k)).length ≤ (meetsL [x] B).length := by
  simp only [meetsL, List.flatMap_cons, List.flatMap_nil, List.append_nil, List.length_map]
  exact (List.Sublist.filter _ (List.take_sublist k B)).length_le
theorem hide_take_le {A : List Stp} (n : Int) (k : Nat) : (hideL n (A.take k)).length ≤ A.length := by
  simp only [hideL, List.length_map]
  have := List.length_filter_le (hidP n) (A.take k)
  have := List.length_take_le' k A
  omega
section
variable {base : Nat} {G : Nat → Prop} {ds : List Tm}
theorem c_l3S_nil (σ : Store) (s d : AV) (hG : ∀ i, σ.length ≤ i → G i) [hs : RTsG G σ s []] [hd : RTsG G σ d ds] : ACall Tryz.prog base F_spec_l3Steps [.agg [I 0, I 0, s], d] σ (fun _ => False) (RetSt G σ []) := by
  have := hs.one
  have := hd.one
  refine acall2 fun_spec_l3Steps rfl tmps_spec_l3Steps rfl fun N B w₀ ρ₀ => ?_
  repeat' (first
    | (refine wc_row0 (α := StC) inI inI rfl rfl (by decide) rfl ?_; intro _ _ _ _ _)
    | refine wp_seqA ?_
    | refine wp_region_seq ?_
    | refine thru_seq_next ?_
    | refine thru_block_next ?_
    | refine wp_skipA ?_
    | refine wp_retA ?_
    | refine wp_blockA ?_
    | refine wl_nil ?_
    | refine wl_pop rfl (po_move rfl) ?_
    | refine wl_pop rfl (po_assign rfl) ?_
    | refine wl_pop rfl (po_binOp rfl rfl rfl) ?_
    | refine wl_pop rfl (po_fieldAddr rfl inI) ?_
    | refine wc_load1 rfl inI (at_has (.inl rfl) rfl rfl) rfl ?_
    | (refine wc_boxA rfl inI rfl ?_; intro _ _ _ _ _)
    | refine wp_condF rfl ?_
    | refine at_ret (res1 rfl rfl) ?_
    | fail)
  rename_i i1 σ1 g1 n1 h1 i2 σ2 g2 n2 h2
  exact ret_st (σ₁ := σ1) (ow_of_has h2 n2.le rfl (by decide)) (SR.nil G _) inI inI rfl
theorem c_l3S_act {n : Int} {p : Tm} (σ : Store) (s d : AV) (hG : ∀ i, σ.length ≤ i → G i) [hs : RTsG G σ s [p]] [hd : RTsG G σ d ds] : ACall Tryz.prog base F_spec_l3Steps [.agg [I 1, I n, s], d] σ (fun _ => False) (RetSt G σ [(n, p)]) := by
  have := hs.one
  have := hd.one
  obtain ⟨id, off, a, rfl, hat0, ra⟩ := hs.sole
  have := ra.one
  refine acall2 fun_spec_l3Steps rfl tmps_spec_l3Steps rfl fun N B w₀ ρ₀ => ?_
  repeat' (first
    | (refine wc_row0 (α := StC) inI inI rfl rfl (by decide) rfl ?_; intro _ _ _ _ _)
    | refine wp_seqA ?_
    | refine wp_region_seq ?_
    | refine thru_seq_next ?_
    | refine wp_blockA ?_
    | refine wl_nil ?_
    | refine wl_pop rfl (po_assign rfl) ?_
    | refine wl_pop rfl (po_binOp rfl rfl rfl) ?_
    | refine wl_pop rfl (po_fieldAddr rfl inI) ?_
    | refine wc_load1 rfl inI (at_has (.inl rfl) rfl rfl) rfl ?_
    | (refine wc_boxA rfl inI rfl ?_; intro _ _ _ _ _)
    | refine wp_condT rfl ?_
    | fail)
  rename_i i1 σ1 g1 n1 h1 i2 σ2 g2 n2 h2
  have ow2 : OW σ1 σ2 (.sl i2 0 0) ([] : List StC) := ow_of_has h2 n2.le rfl (by decide)
  refine wc_drawn [9, 10] mixed_ rfl ?_
  all_goals refine da_takeC 0 rfl rfl (by kernel_rfl) (by first | exact po_move rfl | fail) ?_
  all_goals refine da_takeC 1 rfl rfl (by kernel_rfl) (by first | exact po_fieldAddr rfl inI | fail) ?_
  all_goals refine da_takeC 2 rfl rfl (by kernel_rfl) (by first | exact pc_load1L rfl inI (at_has (.inl rfl) rfl rfl) inI | fail) ?_
  all_goals refine da_takeC 3 rfl rfl (by kernel_rfl) (by first | exact po_fieldAddr rfl inI | fail) ?_
  all_goals refine da_takeC 4 rfl rfl (by kernel_rfl) (by first | exact pc_load1L rfl inI (at_has (.inl rfl) rfl rfl) inI | fail) ?_
  all_goals refine da_takeC 5 rfl rfl (by kernel_rfl) (by first | exact pc_indexSlZ rfl rfl inI inI (by decide) (by decide) | fail) ?_
  all_goals refine da_takeC 6 rfl rfl (by kernel_rfl) (by first | exact pc_loadnL rfl inI inI inI | fail) ?_
  all_goals refine da_takeC 7 rfl rfl (by kernel_rfl) (by first | exact pc_buildSt rfl rfl inI inI rfl | fail) ?_
  all_goals (first | (refine da_one 8 rfl (by kernel_rfl) (fun _ _ _ _ => ?_); (repeat' (first | (refine wc_oneSt rfl inI inI rfl (by decide) rfl ?_; intro _ _ _ _ _) | fail)); all_goals (first | refine wl_nil ⟨rfl, (by first | exact LeS.len inI | exact App.len (by assumption)), ?_⟩ | trace_state)))
  all_goals (refine da_last 9 rfl (by decide) (by kernel_rfl) ?_; (repeat' (first | (refine wc_appendSt (σ₀ := σ1) rfl rfl inI inI rfl (by decide) (by decide) inI inI (by simp) (may_ge σ1) (LeS.len inI) rfl ?_; intro _ _ _ _ _ _ _) | fail)); all_goals (first | refine wl_nil (dl_in ?_) | trace_state))
  all_goals (refine dl_last 10 rfl (by decide) (by kernel_rfl) ?_; (repeat' (first | refine wl_pop rfl (po_assign rfl) ?_ | fail)); all_goals (first | refine wl_nil (dl_in ?_) | trace_state))
  all_goals refine dl_done (by kernel_rfl) ?_
  repeat' (first
    | refine wp_seqA ?_
    | refine wp_region_seq ?_
    | refine thru_seq_next ?_
    | refine thru_block_next ?_
    | refine wp_retA ?_
    | refine wl_nil ?_
    | refine wl_pop rfl (po_move rfl) ?_
    | refine wl_pop rfl (po_assign rfl) ?_
    | refine at_ret (res1 rfl rfl) ?_
    | fail)
  rename_i i3 σ3 g3 n3 h3 v σ4 app mk kn ow one
  have l3 : LeS σ σ3 := inI
  exact ret_st (σ₁ := σ1) ow ((SR.nil G _).snoc rfl rfl rfl ((ra.les l3).kn kn inI)) inI inI rfl
theorem c_l3S_sum {p q : Tm} {LA LB : List Stp} (hp : CSt base F_spec_l3Steps G ds p LA) (hq : CSt base F_spec_l3Steps G ds q LB) (hlen : (LA ++ LB).length ≤ 4000000) (σ : Store) (s d : AV) (hG : ∀ i, σ.length ≤ i → G i) [hs : RTsG G σ s [p, q]] [hd : RTsG G σ d ds] : ACall Tryz.prog base F_spec_l3Steps [.agg [I 2, I 0, s], d] σ (fun _ => False) (RetSt G σ (LA ++ LB)) := by
  have := hs.one
  have := hd.one
  obtain ⟨id, off, a, b, rfl, hat0, hat1, ra, rb⟩ := hs.pair
  have := ra.one
  have := rb.one
  refine acall2 fun_spec_l3Steps rfl tmps_spec_l3Steps rfl fun N B w₀ ρ₀ => ?_
  repeat' (first
    | (refine wc_row0 (α := StC) inI inI rfl rfl (by decide) rfl ?_; intro _ _ _ _ _)
    | refine wp_seqA ?_
    | refine wp_region_seq ?_
    | refine thru_seq_next ?_
    | refine wp_blockA ?_
    | refine wl_nil ?_
    | refine wl_pop rfl (po_assign rfl) ?_
    | refine wl_pop rfl (po_binOp rfl rfl rfl) ?_
    | refine wl_pop rfl (po_fieldAddr rfl inI) ?_
    | refine wc_load1 rfl inI (at_has (.inl rfl) rfl rfl) rfl ?_
    | (refine wc_boxA rfl inI rfl ?_; intro _ _ _ _ _)
    | refine wp_condT rfl ?_
    | refine wp_condF rfl ?_
    | fail)
  rename_i i1 σ1 g1 n1 h1 i2 σ2 g2 n2 h2
  rw [List.length_append] at hlen
  refine wc_drawn [12, 13] mixed_ rfl ?_
  all_goals refine da_takeC 0 rfl rfl (by kernel_rfl) (by first | exact po_fieldAddr rfl inI | fail) ?_
  all_goals refine da_takeC 1 rfl rfl (by kernel_rfl) (by first | exact pc_load1L rfl inI (at_has (.inl rfl) rfl rfl) inI | fail) ?_
  all_goals refine da_takeC 2 rfl rfl (by kernel_rfl) (by first | exact pc_indexSlZ rfl rfl inI inI (by decide) (by decide) | fail) ?_
  all_goals refine da_takeC 3 rfl rfl (by kernel_rfl) (by first | exact pc_loadnL rfl inI inI inI | fail) ?_
  all_goals refine da_takeC 4 rfl rfl (by kernel_rfl) (by first | exact po_move rfl | fail) ?_
  all_goals refine da_takeC 6 rfl rfl (by kernel_rfl) (by first | exact po_fieldAddr rfl inI | fail) ?_
  all_goals refine da_takeC 7 rfl rfl (by kernel_rfl) (by first | exact pc_load1L rfl inI (at_has (.inl rfl) rfl rfl) inI | fail) ?_
  all_goals refine da_takeC 8 rfl rfl (by kernel_rfl) (by first | exact pc_indexSlZ rfl rfl inI inI (by decide) (by decide) | fail) ?_
  all_goals refine da_takeC 9 rfl rfl (by kernel_rfl) (by first | exact pc_loadnL rfl inI inI inI | fail) ?_
  all_goals refine da_takeC 10 rfl rfl (by kernel_rfl) (by first | exact po_move rfl | fail) ?_
  all_goals (first | (refine da_one 5 rfl (by kernel_rfl) (fun _ _ _ _ => ?_); (repeat' (first | (refine wc_callSt rfl inI rfl (hp _ _ _ (gup hG inI) inI inI) rfl ?_; intro _ _ _ _ _ _ _) | fail)); all_goals (first | refine wl_nil ⟨rfl, (by first | exact LeS.len inI | exact App.len (by assumption)), ?_⟩ | trace_state)))
  all_goals (first | (refine da_one 11 rfl (by kernel_rfl) (fun _ _ _ _ => ?_); (repeat' (first | (refine wc_callSt rfl inI rfl (hq _ _ _ (gup hG inI) inI inI) rfl ?_; intro _ _ _ _ _ _ _) | fail)); all_goals (first | refine wl_nil ⟨rfl, (by first | exact LeS.len inI | exact App.len (by assumption)), ?_⟩ | trace_state)))
  all_goals (refine da_last 12 rfl (by decide) (by kernel_rfl) ?_; (repeat' (first | (refine wc_appendRows (σ₀ := σ2) rfl rfl inI inI rfl (by decide) inI inI (by have q1 := SR.len' (σ := _) ‹SR G _ _ LA›; have q2 := SR.len' (σ := _) ‹SR G _ _ LB›; omega) (by decide) (may_ge σ2) (LeS.len inI) rfl ?_; intro _ _ _ _ _ _ _) | fail)); all_goals (first | refine wl_nil (dl_in ?_) | trace_state))
  all_goals (refine dl_last 13 rfl (by decide) (by kernel_rfl) ?_; (repeat' (first | refine wl_pop rfl (po_assign rfl) ?_ | fail)); all_goals (first | refine wl_nil (dl_in ?_) | trace_state))
  all_goals refine dl_done (by kernel_rfl) ?_
  repeat' (first
    | refine wp_seqA ?_
    | refine wp_region_seq ?_
    | refine thru_seq_next ?_
    | refine thru_block_next ?_
    | refine wp_retA ?_
    | refine wl_nil ?_
    | refine wl_pop rfl (po_move rfl) ?_
    | refine wl_pop rfl (po_assign rfl) ?_
    | refine at_ret (res1 rfl rfl) ?_
    | fail)
  rename_i u xs σ3 o3 ow3 sr3 g3 _ _ _ _ u' ys σ4 o4 ow4 sr4 g4 v σ5 app mk kn ow one
  exact ret_st (σ₁ := σ2) ow (((sr3.les inI).kn kn inI).append (sr4.kn kn inI)) inI inI rfl
theorem c_l3S_hide {n : Int} {p : Tm} {LA : List Stp} (hn : 0 ≤ n ∧ n ≤ 3) (hp : CSt base F_spec_l3Steps G ds p LA) (hr : ∀ x ∈ LA, -4 ≤ x.1 ∧ x.1 ≤ 4) (hlen : LA.length ≤ 4000000) (σ : Store) (s d : AV) (hG : ∀ i, σ.length ≤ i → G i) [hs : RTsG G σ s [p]] [hd : RTsG G σ d ds] : ACall Tryz.prog base F_spec_l3Steps [.agg [I 4, I n, s], d] σ (fun _ => False) (RetSt G σ (hideL n LA)) := by
  have := hs.one
  have := hd.one
  obtain ⟨id, off, a, rfl, hat0, ra⟩ := hs.sole
  have := ra.one
  refine acall2 fun_spec_l3Steps rfl tmps_spec_l3Steps rfl fun N B w₀ ρ₀ => ?_
  repeat' (first
    | (refine wc_row0 (α := StC) inI inI rfl rfl (by decide) rfl ?_; intro _ _ _ _ _)
    | refine wl_pop rfl (pc_indexSlZ rfl rfl inI inI (by decide) (by decide)) ?_
    | (refine wc_callSt rfl inI rfl (hp _ _ _ (gup hG inI) inI inI) rfl ?_; intro _ _ _ _ _ _ _)
    | refine wp_seqA ?_
    | refine wp_region_seq ?_
    | refine thru_seq_next ?_
    | refine wp_blockA ?_
    | refine wl_nil ?_
    | refine wl_pop rfl (po_move rfl) ?_
    | refine wl_pop rfl (po_assign rfl) ?_
    | refine wl_pop rfl (po_binOp rfl rfl rfl) ?_
    | refine wl_pop rfl (po_fieldAddr rfl inI) ?_
    | refine wc_load1 rfl inI (at_has (.inl rfl) rfl rfl) rfl ?_
    | refine wc_loadn rfl inI inI rfl ?_
    | (refine wc_boxA rfl inI rfl ?_; intro _ _ _ _ _)
    | refine wp_condT rfl ?_
    | refine wp_condF rfl ?_
    | fail)
  rename_i i1 σ1 g1 n1 h1 i2 σ2 g2 n2 h2 u xa σ3 o3 ow3 sr3 g3
  have hla := sr3.len'
  have l1 : LeS σ σ1 := inI
  refine wc_loop [(2, _), (12, _)] (fun x : Nat × AV => [(5, x.2), (13, I x.1)]) (fun x σ' => x.1 ≤ LA.length ∧ ∃ xs, LJ G σ1 σ' u u xa xa LA LA x.2 xs (hideL n (LA.take x.1))) (fun x => LA.length - x.1) (0, .sl i2 0 0) ⟨Nat.zero_le _, [], inI, inI, inI, inI, inI, nes_old (fun j n e => (by cases e; exact h2.lt)) ow3, nes_old (fun j n e => (by cases e; exact h2.lt)) ow3, ow_of_has inI n2.le rfl (by decide), SR.nil G _⟩ (by repeat' (first | exact sub_nil | refine sub_cons rfl ?_ | refine sub_int rfl (by first | rfl | omega | (push_cast; omega) | simp) ?_ | refine sub_eq rfl (by assumption) ?_)) ?_
  rintro ⟨k, v⟩ σ' ⟨hk, xs, hJ⟩
  dsimp only at hk hJ ⊢
  have hJ' := hJ
  obtain ⟨jle, jra, jrb, jsa, jsb, jna, jnb, jow, jsr⟩ := hJ'
  have := jle.grow
  have := jow.one
  repeat' (first
    | refine wl_pop rfl (pc_lenRow rfl inI inI) ?_
    | refine wp_seqA ?_
    | refine wp_region_seq ?_
    | refine thru_seq_next ?_
    | refine thru_seq ?_
    | refine thru_block_next ?_
    | refine exit_here ?_
    | refine wp_skipA ?_
    | refine wp_retA ?_
    | refine wp_exitA ?_
    | refine wp_blockA ?_
    | refine wl_nil ?_
    | refine wl_pop rfl (po_move rfl) ?_
    | refine wl_pop rfl (po_assign rfl) ?_
    | refine wl_pop rfl (po_binOp rfl rfl rfl) ?_
    | refine wp_condP rfl (fun _ => ?_) (fun _ => ?_)
    | refine at_ret (res1 rfl rfl) ?_
    | fail)
  rotate_left
  · obtain rfl : k = LA.length := by omega
    rw [List.take_length] at jsr
    exact ret_st (σ₁ := σ1) jow jsr inI inI rfl
  have hk' : k < LA.length := by omega
  have hxk : k < xa.length := by omega
  obtain ⟨e1, e2, e3, rk⟩ := jsa.at hk'
  have hr1 := hr (LA.getD k (0, nilT)) (by simp [List.getD_eq_getElem?_getD, hk'])
  have hok : One (xa.getD k Enc.dflt).s := ⟨(xa.getD k Enc.dflt).one⟩
  have hxl := jsr.len'
  have hxb := hide_take_le (A := LA) n k
  repeat' (first
    | fail)
  refine wc_drawn [] mixed_ rfl ?_
  all_goals refine da_takeC 0 rfl rfl (by kernel_rfl) (by first | exact po_move rfl | fail) ?_
  all_goals refine da_takeC 1 rfl rfl (by kernel_rfl) (by first | exact po_move rfl | fail) ?_
  all_goals refine da_takeC 2 rfl rfl (by kernel_rfl) (by first | exact pc_indexRow rfl rfl inI inI inI (by omega) | fail) ?_
  all_goals refine da_takeC 3 rfl rfl (by kernel_rfl) (by first | exact po_fieldAddr rfl inI | fail) ?_
  all_goals refine da_takeC 4 rfl rfl (by kernel_rfl) (by first | exact pc_ldStA rfl inI inI (by omega) inI | fail) ?_
  all_goals refine da_takeC 5 rfl rfl (by kernel_rfl) (by first | exact po_binOp rfl rfl rfl | fail) ?_
  all_goals refine da_takeC 6 rfl rfl (by kernel_rfl) (by first | exact po_move rfl | fail) ?_
  all_goals (first | refine da_onC 7 rfl rfl rfl rfl rfl (by kernel_rfl) (by first | exact po_move rfl | fail) ?_ | refine da_offC 7 rfl rfl rfl rfl rfl rfl (by kernel_rfl) ?_ | refine da_offU 7 rfl rfl rfl rfl rfl (by kernel_rfl) ?_ | ((first | refine da_caseP (t := 178) rfl (fun _ => ?_) (fun _ => ?_) | refine da_caseNP (t := 178) rfl (fun _ => ?_) (fun _ => ?_) | refine da_caseEq (t := 178) rfl (fun _ => ?_) (fun _ => ?_) | refine da_caseNe (t := 178) rfl (fun _ => ?_) (fun _ => ?_) | refine da_caseNB (t := 178) rfl (fun _ => ?_) (fun _ => ?_) | refine da_case (t := 178) rfl (fun _ => ?_) (fun _ => ?_)) <;> (first | refine da_onC 7 rfl rfl rfl rfl rfl (by kernel_rfl) (by first | exact po_move rfl | fail) ?_ | refine da_offC 7 rfl rfl rfl rfl rfl rfl (by kernel_rfl) ?_ | refine da_offU 7 rfl rfl rfl rfl rfl (by kernel_rfl) ?_)))
  all_goals (first | refine da_onC 8 rfl rfl rfl rfl rfl (by kernel_rfl) (by first | exact po_move rfl | fail) ?_ | refine da_offC 8 rfl rfl rfl rfl rfl rfl (by kernel_rfl) ?_ | refine da_offU 8 rfl rfl rfl rfl rfl (by kernel_rfl) ?_ | ((first | refine da_caseP (t := 178) rfl (fun _ => ?_) (fun _ => ?_) | refine da_caseNP (t := 178) rfl (fun _ => ?_) (fun _ => ?_) | refine da_caseEq (t := 178) rfl (fun _ => ?_) (fun _ => ?_) | refine da_caseNe (t := 178) rfl (fun _ => ?_) (fun _ => ?_) | refine da_caseNB (t := 178) rfl (fun _ => ?_) (fun _ => ?_) | refine da_case (t := 178) rfl (fun _ => ?_) (fun _ => ?_)) <;> (first | refine da_onC 8 rfl rfl rfl rfl rfl (by kernel_rfl) (by first | exact po_move rfl | fail) ?_ | refine da_offC 8 rfl rfl rfl rfl rfl rfl (by kernel_rfl) ?_ | refine da_offU 8 rfl rfl rfl rfl rfl (by kernel_rfl) ?_)))
  all_goals (first | refine da_onC 9 rfl rfl rfl rfl rfl (by kernel_rfl) (by first | exact pc_indexRow rfl rfl inI inI inI (by omega) | fail) ?_ | refine da_offC 9 rfl rfl rfl rfl rfl rfl (by kernel_rfl) ?_ | refine da_offU 9 rfl rfl rfl rfl rfl (by kernel_rfl) ?_ | ((first | refine da_caseP (t := 178) rfl (fun _ => ?_) (fun _ => ?_) | refine da_caseNP (t := 178) rfl (fun _ => ?_) (fun _ => ?_) | refine da_caseEq (t := 178) rfl (fun _ => ?_) (fun _ => ?_) | refine da_caseNe (t := 178) rfl (fun _ => ?_) (fun _ => ?_) | refine da_caseNB (t := 178) rfl (fun _ => ?_) (fun _ => ?_) | refine da_case (t := 178) rfl (fun _ => ?_) (fun _ => ?_)) <;> (first | refine da_onC 9 rfl rfl rfl rfl rfl (by kernel_rfl) (by first | exact pc_indexRow rfl rfl inI inI inI (by omega) | fail) ?_ | refine da_offC 9 rfl rfl rfl rfl rfl rfl (by kernel_rfl) ?_ | refine da_offU 9 rfl rfl rfl rfl rfl (by kernel_rfl) ?_)))
  all_goals (first | refine da_onC 10 rfl rfl rfl rfl rfl (by kernel_rfl) (by first | exact po_fieldAddr rfl inI | fail) ?_ | refine da_offC 10 rfl rfl rfl rfl rfl rfl (by kernel_rfl) ?_ | refine da_offU 10 rfl rfl rfl rfl rfl (by kernel_rfl) ?_ | ((first | refine da_caseP (t := 178) rfl (fun _ => ?_) (fun _ => ?_) | refine da_caseNP (t := 178) rfl (fun _ => ?_) (fun _ => ?_) | refine da_caseEq (t := 178) rfl (fun _ => ?_) (fun _ => ?_) | refine da_caseNe (t := 178) rfl (fun _ => ?_) (fun _ => ?_) | refine da_caseNB (t := 178) rfl (fun _ => ?_) (fun _ => ?_) | refine da_case (t := 178) rfl (fun _ => ?_) (fun _ => ?_)) <;> (first | refine da_onC 10 rfl rfl rfl rfl rfl (by kernel_rfl) (by first | exact po_fieldAddr rfl inI | fail) ?_ | refine da_offC 10 rfl rfl rfl rfl rfl rfl (by kernel_rfl) ?_ | refine da_offU 10 rfl rfl rfl rfl rfl (by kernel_rfl) ?_)))
  all_goals (first | refine da_onC 11 rfl rfl rfl rfl rfl (by kernel_rfl) (by first | exact pc_ldStA rfl inI inI (by omega) inI | fail) ?_ | refine da_offC 11 rfl rfl rfl rfl rfl rfl (by kernel_rfl) ?_ | refine da_offU 11 rfl rfl rfl rfl rfl (by kernel_rfl) ?_ | ((first | refine da_caseP (t := 178) rfl (fun _ => ?_) (fun _ => ?_) | refine da_caseNP (t := 178) rfl (fun _ => ?_) (fun _ => ?_) | refine da_caseEq (t := 178) rfl (fun _ => ?_) (fun _ => ?_) | refine da_caseNe (t := 178) rfl (fun _ => ?_) (fun _ => ?_) | refine da_caseNB (t := 178) rfl (fun _ => ?_) (fun _ => ?_) | refine da_case (t := 178) rfl (fun _ => ?_) (fun _ => ?_)) <;> (first | refine da_onC 11 rfl rfl rfl rfl rfl (by kernel_rfl) (by first | exact pc_ldStA rfl inI inI (by omega) inI | fail) ?_ | refine da_offC 11 rfl rfl rfl rfl rfl rfl (by kernel_rfl) ?_ | refine da_offU 11 rfl rfl rfl rfl rfl (by kernel_rfl) ?_)))
  all_goals (first | refine da_onC 13 rfl rfl rfl rfl rfl (by kernel_rfl) (by first | exact po_fieldAddr rfl inI | fail) ?_ | refine da_offC 13 rfl rfl rfl rfl rfl rfl (by kernel_rfl) ?_ | refine da_offU 13 rfl rfl rfl rfl rfl (by kernel_rfl) ?_ | ((first | refine da_caseP (t := 178) rfl (fun _ => ?_) (fun _ => ?_) | refine da_caseNP (t := 178) rfl (fun _ => ?_) (fun _ => ?_) | refine da_caseEq (t := 178) rfl (fun _ => ?_) (fun _ => ?_) | refine da_caseNe (t := 178) rfl (fun _ => ?_) (fun _ => ?_) | refine da_caseNB (t := 178) rfl (fun _ => ?_) (fun _ => ?_) | refine da_case (t := 178) rfl (fun _ => ?_) (fun _ => ?_)) <;> (first | refine da_onC 13 rfl rfl rfl rfl rfl (by kernel_rfl) (by first | exact po_fieldAddr rfl inI | fail) ?_ | refine da_offC 13 rfl rfl rfl rfl rfl rfl (by kernel_rfl) ?_ | refine da_offU 13 rfl rfl rfl rfl rfl (by kernel_rfl) ?_)))
  all_goals (first | refine da_onC 14 rfl rfl rfl rfl rfl (by kernel_rfl) (by first | exact pc_load1L rfl inI (at_has (.inl rfl) rfl rfl) inI | fail) ?_ | refine da_offC 14 rfl rfl rfl rfl rfl rfl (by kernel_rfl) ?_ | refine da_offU 14 rfl rfl rfl rfl rfl (by kernel_rfl) ?_ | ((first | refine da_caseP (t := 178) rfl (fun _ => ?_) (fun _ => ?_) | refine da_caseNP (t := 178) rfl (fun _ => ?_) (fun _ => ?_) | refine da_caseEq (t := 178) rfl (fun _ => ?_) (fun _ => ?_) | refine da_caseNe (t := 178) rfl (fun _ => ?_) (fun _ => ?_) | refine da_caseNB (t := 178) rfl (fun _ => ?_) (fun _ => ?_) | refine da_case (t := 178) rfl (fun _ => ?_) (fun _ => ?_)) <;> (first | refine da_onC 14 rfl rfl rfl rfl rfl (by kernel_rfl) (by first | exact pc_load1L rfl inI (at_has (.inl rfl) rfl rfl) inI | fail) ?_ | refine da_offC 14 rfl rfl rfl rfl rfl rfl (by kernel_rfl) ?_ | refine da_offU 14 rfl rfl rfl rfl rfl (by kernel_rfl) ?_)))
  all_goals (first | refine da_offC 12 rfl rfl rfl rfl rfl rfl (by kernel_rfl) ?_ | refine da_offU 12 rfl rfl rfl rfl rfl (by kernel_rfl) ?_ | (refine da_one 12 rfl (by kernel_rfl) (fun _ _ _ _ => ?_); (repeat' (first | (refine wc_callR rfl inI rfl (c_l1Name _ _ (by omega) (by omega)) rfl ?_; intro _ _) | refine wc_guardT_false rfl rfl rfl ?_ | fail)); all_goals (first | refine wl_nil ⟨rfl, (by first | exact LeS.len inI | exact App.len (by assumption)), ?_⟩ | trace_state)) | ((first | refine da_caseP (t := 178) rfl (fun _ => ?_) (fun _ => ?_) | refine da_caseNP (t := 178) rfl (fun _ => ?_) (fun _ => ?_) | refine da_caseEq (t := 178) rfl (fun _ => ?_) (fun _ => ?_) | refine da_caseNe (t := 178) rfl (fun _ => ?_) (fun _ => ?_) | refine da_caseNB (t := 178) rfl (fun _ => ?_) (fun _ => ?_) | refine da_case (t := 178) rfl (fun _ => ?_) (fun _ => ?_)) <;> (first | refine da_offC 12 rfl rfl rfl rfl rfl rfl (by kernel_rfl) ?_ | refine da_offU 12 rfl rfl rfl rfl rfl (by kernel_rfl) ?_ | (refine da_one 12 rfl (by kernel_rfl) (fun _ _ _ _ => ?_); (repeat' (first | (refine wc_callR rfl inI rfl (c_l1Name _ _ (by omega) (by omega)) rfl ?_; intro _ _) | refine wc_guardT_false rfl rfl rfl ?_ | fail)); all_goals (first | refine wl_nil ⟨rfl, (by first | exact LeS.len inI | exact App.len (by assumption)), ?_⟩ | trace_state)))))
  all_goals (first | refine da_onC 15 rfl rfl rfl rfl rfl (by kernel_rfl) (by first | exact po_binOp rfl rfl rfl | fail) ?_ | refine da_offC 15 rfl rfl rfl rfl rfl rfl (by kernel_rfl) ?_ | refine da_offU 15 rfl rfl rfl rfl rfl (by kernel_rfl) ?_ | ((first | refine da_caseP (t := 178) rfl (fun _ => ?_) (fun _ => ?_) | refine da_caseNP (t := 178) rfl (fun _ => ?_) (fun _ => ?_) | refine da_caseEq (t := 178) rfl (fun _ => ?_) (fun _ => ?_) | refine da_caseNe (t := 178) rfl (fun _ => ?_) (fun _ => ?_) | refine da_caseNB (t := 178) rfl (fun _ => ?_) (fun _ => ?_) | refine da_case (t := 178) rfl (fun _ => ?_) (fun _ => ?_)) <;> (first | refine da_onC 15 rfl rfl rfl rfl rfl (by kernel_rfl) (by first | exact po_binOp rfl rfl rfl | fail) ?_ | refine da_offC 15 rfl rfl rfl rfl rfl rfl (by kernel_rfl) ?_ | refine da_offU 15 rfl rfl rfl rfl rfl (by kernel_rfl) ?_)))
  all_goals refine da_takeC 16 rfl rfl (by kernel_rfl) (by first | exact po_pick rfl rfl | fail) ?_
  all_goals refine da_done (by kernel_rfl) ?_
  repeat' (first
    | refine wp_region_seq ?_
    | refine thru_seq_next ?_
    | refine thru_block_next ?_
    | refine wp_skipA ?_
    | refine wl_nil ?_
    | refine wl_pop rfl (po_move rfl) ?_
    | refine wl_pop rfl (po_assign rfl) ?_
    | refine wl_pop rfl (pc_add rfl rfl (by omega) (by omega)) ?_
    | refine wp_condT rfl ?_
    | refine wp_condNP rfl (fun _ => ?_) (fun _ => ?_)
    | fail)
  · rename_i hk1 h0
    refine wc_drawn [17, 18] mixed_ rfl ?_
    all_goals refine da_takeC 0 rfl rfl (by kernel_rfl) (by first | exact po_move rfl | fail) ?_
    all_goals refine da_takeC 1 rfl rfl (by kernel_rfl) (by first | exact po_move rfl | fail) ?_
    all_goals refine da_takeC 2 rfl rfl (by kernel_rfl) (by first | exact po_move rfl | fail) ?_
    all_goals refine da_takeC 3 rfl rfl (by kernel_rfl) (by first | exact pc_indexRow rfl rfl inI inI inI (by omega) | fail) ?_
    all_goals refine da_takeC 4 rfl rfl (by kernel_rfl) (by first | exact po_fieldAddr rfl inI | fail) ?_
    all_goals refine da_takeC 5 rfl rfl (by kernel_rfl) (by first | exact pc_ldStA rfl inI inI (by omega) inI | fail) ?_
    all_goals refine da_takeC 6 rfl rfl (by kernel_rfl) (by first | exact po_fieldAddr rfl inI | fail) ?_
    all_goals refine da_takeC 7 rfl rfl (by kernel_rfl) (by first | exact pc_load1L rfl inI (at_has (.inl rfl) rfl rfl) inI | fail) ?_
    all_goals refine da_takeC 8 rfl rfl (by kernel_rfl) (by first | exact po_move rfl | fail) ?_
    all_goals refine da_takeC 9 rfl rfl (by kernel_rfl) (by first | exact po_move rfl | fail) ?_
    all_goals refine da_takeC 10 rfl rfl (by kernel_rfl) (by first | exact pc_indexRow rfl rfl inI inI inI (by omega) | fail) ?_
    all_goals refine da_takeC 11 rfl rfl (by kernel_rfl) (by first | exact po_fieldAddr rfl inI | fail) ?_
    all_goals refine da_takeC 12 rfl rfl (by kernel_rfl) (by first | exact pc_ldStT rfl inI inI (by omega) inI | fail) ?_
    all_goals (first | (refine da_one 13 rfl (by kernel_rfl) (fun _ _ _ _ => ?_); (repeat' (first | (refine wc_oneTm rfl inI inI rfl (by decide) rfl ?_; intro _ _ _ _ _) | fail)); all_goals (first | refine wl_nil ⟨rfl, (by first | exact LeS.len inI | exact App.len (by assumption)), ?_⟩ | trace_state)))
    all_goals refine da_takeC 14 rfl rfl (by kernel_rfl) (by first | exact pc_tm3 rfl rfl rfl inI inI rfl | fail) ?_
    all_goals refine da_takeC 15 rfl rfl (by kernel_rfl) (by first | exact pc_buildSt rfl rfl inI inI rfl | fail) ?_
    all_goals (first | (refine da_one 16 rfl (by kernel_rfl) (fun _ _ _ _ => ?_); (repeat' (first | (refine wc_oneSt rfl inI inI rfl (by decide) rfl ?_; intro _ _ _ _ _) | fail)); all_goals (first | refine wl_nil ⟨rfl, (by first | exact LeS.len inI | exact App.len (by assumption)), ?_⟩ | trace_state)))
    all_goals (refine da_last 17 rfl (by decide) (by kernel_rfl) ?_; (repeat' (first | (refine wc_appendSt (σ₀ := σ1) rfl rfl inI inI rfl (by decide) (by decide) inI inI (by omega) (may_ge σ1) (LeS.len inI) rfl ?_; intro _ _ _ _ _ _ _) | fail)); all_goals (first | refine wl_nil (dl_in ?_) | trace_state))
    all_goals (refine dl_last 18 rfl (by decide) (by kernel_rfl) ?_; (repeat' (first | refine wl_pop rfl (po_assign rfl) ?_ | fail)); all_goals (first | refine wl_nil (dl_in ?_) | trace_state))
    all_goals refine dl_done (by kernel_rfl) ?_
    repeat' (first
      | refine wp_region_seq ?_
      | refine thru_seq_next ?_
      | refine thru_block_next ?_
      | refine wl_nil ?_
      | refine wl_pop rfl (po_move rfl) ?_
      | refine wl_pop rfl (po_assign rfl) ?_
      | refine wl_pop rfl (pc_add rfl rfl (by omega) (by omega)) ?_
      | fail)
    rename_i i4 σ4 g4 n4 h4 _ _ _ _ i5 σ5 g5 n5 h5 v' σ6 app mk kn ow one
    rw [e2, e3] at h4
    have r4 := rtsG_one (t := (LA.getD k (0, nilT)).2) (hG i4 (Nat.le_trans (LeS.len inI) n4.le)) (rk.les inI) h4
    refine ⟨(k + 1, v'), by dsimp only; omega, ⟨by dsimp only; omega, _, (hJ.step (y := ((LA.getD k (0, nilT)).1, hideT n (LA.getD k (0, nilT)).2)) inI app kn ow e1 rfl rfl ((r4.les inI).kn kn inI)).eq ?_⟩, (by repeat' (first | exact sub_nil | refine sub_cons rfl ?_ | refine sub_int rfl (by first | rfl | omega | (push_cast; omega) | simp) ?_ | refine sub_eq rfl (by assumption) ?_))⟩
    dsimp only
    rw [hide_take hk', if_pos (by simp only [hidP, decide_eq_true_eq]; omega)]
  · rename_i hk1 h0 _ _ _ _ σ0 g0 h1
    refine wc_drawn [17, 18] mixed_ rfl ?_
    all_goals refine da_takeC 0 rfl rfl (by kernel_rfl) (by first | exact po_move rfl | fail) ?_
    all_goals refine da_takeC 1 rfl rfl (by kernel_rfl) (by first | exact po_move rfl | fail) ?_
    all_goals refine da_takeC 2 rfl rfl (by kernel_rfl) (by first | exact po_move rfl | fail) ?_
    all_goals refine da_takeC 3 rfl rfl (by kernel_rfl) (by first | exact pc_indexRow rfl rfl inI inI inI (by omega) | fail) ?_
    all_goals refine da_takeC 4 rfl rfl (by kernel_rfl) (by first | exact po_fieldAddr rfl inI | fail) ?_
    all_goals refine da_takeC 5 rfl rfl (by kernel_rfl) (by first | exact pc_ldStA rfl inI inI (by omega) inI | fail) ?_
    all_goals refine da_takeC 6 rfl rfl (by kernel_rfl) (by first | exact po_fieldAddr rfl inI | fail) ?_
    all_goals refine da_takeC 7 rfl rfl (by kernel_rfl) (by first | exact pc_load1L rfl inI (at_has (.inl rfl) rfl rfl) inI | fail) ?_
    all_goals refine da_takeC 8 rfl rfl (by kernel_rfl) (by first | exact po_move rfl | fail) ?_
    all_goals refine da_takeC 9 rfl rfl (by kernel_rfl) (by first | exact po_move rfl | fail) ?_
    all_goals refine da_takeC 10 rfl rfl (by kernel_rfl) (by first | exact pc_indexRow rfl rfl inI inI inI (by omega) | fail) ?_
    all_goals refine da_takeC 11 rfl rfl (by kernel_rfl) (by first | exact po_fieldAddr rfl inI | fail) ?_
    all_goals refine da_takeC 12 rfl rfl (by kernel_rfl) (by first | exact pc_ldStT rfl inI inI (by omega) inI | fail) ?_
    all_goals (first | (refine da_one 13 rfl (by kernel_rfl) (fun _ _ _ _ => ?_); (repeat' (first | (refine wc_oneTm rfl inI inI rfl (by decide) rfl ?_; intro _ _ _ _ _) | fail)); all_goals (first | refine wl_nil ⟨rfl, (by first | exact LeS.len inI | exact App.len (by assumption)), ?_⟩ | trace_state)))
    all_goals refine da_takeC 14 rfl rfl (by kernel_rfl) (by first | exact pc_tm3 rfl rfl rfl inI inI rfl | fail) ?_
    all_goals refine da_takeC 15 rfl rfl (by kernel_rfl) (by first | exact pc_buildSt rfl rfl inI inI rfl | fail) ?_
    all_goals (first | (refine da_one 16 rfl (by kernel_rfl) (fun _ _ _ _ => ?_); (repeat' (first | (refine wc_oneSt rfl inI inI rfl (by decide) rfl ?_; intro _ _ _ _ _) | fail)); all_goals (first | refine wl_nil ⟨rfl, (by first | exact LeS.len inI | exact App.len (by assumption)), ?_⟩ | trace_state)))
    all_goals (refine da_last 17 rfl (by decide) (by kernel_rfl) ?_; (repeat' (first | (refine wc_appendSt (σ₀ := σ1) rfl rfl inI inI rfl (by decide) (by decide) inI inI (by omega) (may_ge σ1) (LeS.len inI) rfl ?_; intro _ _ _ _ _ _ _) | fail)); all_goals (first | refine wl_nil (dl_in ?_) | trace_state))
    all_goals (refine dl_last 18 rfl (by decide) (by kernel_rfl) ?_; (repeat' (first | refine wl_pop rfl (po_assign rfl) ?_ | fail)); all_goals (first | refine wl_nil (dl_in ?_) | trace_state))
    all_goals refine dl_done (by kernel_rfl) ?_
    repeat' (first
      | refine wp_region_seq ?_
      | refine thru_seq_next ?_
      | refine thru_block_next ?_
      | refine wl_nil ?_
      | refine wl_pop rfl (po_move rfl) ?_
      | refine wl_pop rfl (po_assign rfl) ?_
      | refine wl_pop rfl (pc_add rfl rfl (by omega) (by omega)) ?_
      | fail)
    rename_i i4 σ4 g4 n4 h4 _ _ _ _ i5 σ5 g5 n5 h5 v' σ6 app mk kn ow one
    rw [e2, e3] at h4
    have r4 := rtsG_one (t := (LA.getD k (0, nilT)).2) (hG i4 (Nat.le_trans (LeS.len inI) n4.le)) (rk.les inI) h4
    refine ⟨(k + 1, v'), by dsimp only; omega, ⟨by dsimp only; omega, _, (hJ.step (y := ((LA.getD k (0, nilT)).1, hideT n (LA.getD k (0, nilT)).2)) inI app kn ow e1 rfl rfl ((r4.les inI).kn kn inI)).eq ?_⟩, (by repeat' (first | exact sub_nil | refine sub_cons rfl ?_ | refine sub_int rfl (by first | rfl | omega | (push_cast; omega) | simp) ?_ | refine sub_eq rfl (by assumption) ?_))⟩
    dsimp only
    rw [hide_take hk', if_pos (by simp only [hidP, decide_eq_true_eq]; omega)]
  · rename_i hk1 h0 _ _ _ _ σ0 g0 h1
    refine ⟨(k + 1, v), by dsimp only; omega, ⟨by dsimp only; omega, xs, (hJ.les inI).eq ?_⟩, (by repeat' (first | exact sub_nil | refine sub_cons rfl ?_ | refine sub_int rfl (by first | rfl | omega | (push_cast; omega) | simp) ?_ | refine sub_eq rfl (by assumption) ?_))⟩
    dsimp only
    rw [hide_take hk', if_neg (by simp only [hidP, decide_eq_true_eq]; omega), List.append_nil]
theorem par_parts {p q : Tm} {LA LB : List Stp} : parL p q LA LB = (LA.map (fun x => (x.1, parT x.2 q)) ++ LB.map (fun y => (y.1, parT p y.2))) ++ meetsL LA LB := rfl
theorem c_l3S_par {p q : Tm} {LA LB : List Stp} (hp : CSt base F_spec_l3Steps G ds p LA) (hq : CSt base F_spec_l3Steps G ds q LB) (hra : ∀ x ∈ LA, -4 ≤ x.1 ∧ x.1 ≤ 4) (hrb : ∀ x ∈ LB, -4 ≤ x.1 ∧ x.1 ≤ 4) (hlen : (parL p q LA LB).length ≤ 4000000) (σ : Store) (s d : AV) (hG : ∀ i, σ.length ≤ i → G i) [hs : RTsG G σ s [p, q]] [hd : RTsG G σ d ds] : ACall Tryz.prog base F_spec_l3Steps [.agg [I 3, I 0, s], d] σ (fun _ => False) (RetSt G σ (parL p q LA LB)) := by
  have := hs.one
  have := hd.one
  obtain ⟨id, off, a, b, rfl, hat0, hat1, ra, rb⟩ := hs.pair
  have := ra.one
  have := rb.one
  rw [par_parts] at hlen ⊢
  simp only [List.length_append, List.length_map] at hlen
  refine acall2 fun_spec_l3Steps rfl tmps_spec_l3Steps rfl fun N B w₀ ρ₀ => ?_
  repeat' (first
    | (refine wc_row0 (α := StC) inI inI rfl rfl (by decide) rfl ?_; intro _ _ _ _ _)
    | refine wl_pop rfl (pc_indexSlZ rfl rfl inI inI (by decide) (by decide)) ?_
    | (refine wc_callSt rfl inI rfl (hp _ _ _ (gup hG inI) inI inI) rfl ?_; intro _ _ _ _ _ _ _)
    | (refine wc_callSt rfl inI rfl (hq _ _ _ (gup hG inI) inI inI) rfl ?_; intro _ _ _ _ _ _ _)
    | refine wp_seqA ?_
    | refine wp_region_seq ?_
    | refine thru_seq_next ?_
    | refine wp_blockA ?_
    | refine wl_nil ?_
    | refine wl_pop rfl (po_move rfl) ?_
    | refine wl_pop rfl (po_assign rfl) ?_
    | refine wl_pop rfl (po_binOp rfl rfl rfl) ?_
    | refine wl_pop rfl (po_fieldAddr rfl inI) ?_
    | refine wc_load1 rfl inI (at_has (.inl rfl) rfl rfl) rfl ?_
    | refine wc_loadn rfl inI inI rfl ?_
    | (refine wc_boxA rfl inI rfl ?_; intro _ _ _ _ _)
    | refine wp_condT rfl ?_
    | refine wp_condF rfl ?_
    | fail)
  rename_i i1 σ1 g1 n1 h1 i2 σ2 g2 n2 h2 u xa σ3 o3 ow3 sr3 g3 u' xb σ4 o4 ow4 sr4 g4
  have hla := sr3.len'
  have hlb := sr4.len'
  have l1 : LeS σ σ1 := inI
  refine wc_loop [(2, _), (6, _), (7, _)] (fun x : Nat × AV => [(5, x.2), (8, I x.1)]) (fun x σ' => x.1 ≤ LA.length ∧ ∃ xs, LJ G σ1 σ' u u' xa xb LA LB x.2 xs ((LA.take x.1).map (fun x => (x.1, parT x.2 q)))) (fun x => LA.length - x.1) (0, .sl i2 0 0) ⟨Nat.zero_le _, [], inI, inI, inI, inI, inI, nes_old (fun j n e => (by cases e; exact h2.lt)) ow3, nes_old (fun j n e => (by cases e; exact Nat.lt_of_lt_of_le h2.lt g3.len)) ow4, ow_of_has inI n2.le rfl (by decide), SR.nil G _⟩ (by repeat' (first | exact sub_nil | refine sub_cons rfl ?_ | refine sub_int rfl (by first | rfl | omega | (push_cast; omega) | simp) ?_ | refine sub_eq rfl (by assumption) ?_)) ?_
  rintro ⟨k, v⟩ σ' ⟨hk, xs, hJ⟩
  dsimp only at hk hJ ⊢
  have hJ' := hJ
  obtain ⟨jle, jra, jrb, jsa, jsb, jna, jnb, jow, jsr⟩ := hJ'
  have := jle.grow
  have := jow.one
  have hxl := jsr.len'
  have hxb : ((LA.take k).map (fun x : Stp => (x.1, parT x.2 q))).length ≤ LA.length := by rw [List.length_map]; exact List.length_take_le' _ _
  repeat' (first
    | refine wl_pop rfl (pc_lenRow rfl inI inI) ?_
    | refine wp_seqA ?_
    | refine wp_region_seq ?_
    | refine thru_seq_next ?_
    | refine thru_seq ?_
    | refine exit_here ?_
    | refine wp_skipA ?_
    | refine wp_exitA ?_
    | refine wp_blockA ?_
    | refine wl_nil ?_
    | refine wl_pop rfl (po_move rfl) ?_
    | refine wl_pop rfl (po_assign rfl) ?_
    | refine wl_pop rfl (po_binOp rfl rfl rfl) ?_
    | refine wp_condP rfl (fun _ => ?_) (fun _ => ?_)
    | fail)
  · have hk' : k < LA.length := by omega
    have hxk : k < xa.length := by omega
    obtain ⟨e1, e2, e3, rk⟩ := jsa.at hk'
    have hok : One (xa.getD k Enc.dflt).s := ⟨(xa.getD k Enc.dflt).one⟩
    refine wc_drawn [19, 20] mixed_ rfl ?_
    all_goals refine da_takeC 0 rfl rfl (by kernel_rfl) (by first | exact po_move rfl | fail) ?_
    all_goals refine da_takeC 1 rfl rfl (by kernel_rfl) (by first | exact po_move rfl | fail) ?_
    all_goals refine da_takeC 2 rfl rfl (by kernel_rfl) (by first | exact po_move rfl | fail) ?_
    all_goals refine da_takeC 3 rfl rfl (by kernel_rfl) (by first | exact pc_indexRow rfl rfl inI inI inI (by omega) | fail) ?_
    all_goals refine da_takeC 4 rfl rfl (by kernel_rfl) (by first | exact po_fieldAddr rfl inI | fail) ?_
    all_goals refine da_takeC 5 rfl rfl (by kernel_rfl) (by first | exact pc_ldStA rfl inI inI (by omega) inI | fail) ?_
    all_goals refine da_takeC 6 rfl rfl (by kernel_rfl) (by first | exact po_move rfl | fail) ?_
    all_goals refine da_takeC 7 rfl rfl (by kernel_rfl) (by first | exact po_move rfl | fail) ?_
    all_goals refine da_takeC 8 rfl rfl (by kernel_rfl) (by first | exact pc_indexRow rfl rfl inI inI inI (by omega) | fail) ?_
    all_goals refine da_takeC 9 rfl rfl (by kernel_rfl) (by first | exact po_fieldAddr rfl inI | fail) ?_
    all_goals refine da_takeC 10 rfl rfl (by kernel_rfl) (by first | exact pc_ldStT rfl inI inI (by omega) inI | fail) ?_
    all_goals refine da_takeC 11 rfl rfl (by kernel_rfl) (by first | exact po_fieldAddr rfl inI | fail) ?_
    all_goals refine da_takeC 12 rfl rfl (by kernel_rfl) (by first | exact pc_load1L rfl inI (at_has (.inl rfl) rfl rfl) inI | fail) ?_
    all_goals refine da_takeC 13 rfl rfl (by kernel_rfl) (by first | exact pc_indexSlZ rfl rfl inI inI (by decide) (by decide) | fail) ?_
    all_goals refine da_takeC 14 rfl rfl (by kernel_rfl) (by first | exact pc_loadnL rfl inI inI inI | fail) ?_
    all_goals (first | (refine da_one 15 rfl (by kernel_rfl) (fun _ _ _ _ => ?_); (repeat' (first | (refine wc_twoTm rfl rfl inI inI rfl (by decide) rfl ?_; intro _ _ _ _ _) | fail)); all_goals (first | refine wl_nil ⟨rfl, (by first | exact LeS.len inI | exact App.len (by assumption)), ?_⟩ | trace_state)))
    all_goals refine da_takeC 16 rfl rfl (by kernel_rfl) (by first | exact pc_tm02 rfl rfl inI inI rfl | fail) ?_
    all_goals refine da_takeC 17 rfl rfl (by kernel_rfl) (by first | exact pc_buildSt rfl rfl inI inI rfl | fail) ?_
    all_goals (first | (refine da_one 18 rfl (by kernel_rfl) (fun _ _ _ _ => ?_); (repeat' (first | (refine wc_oneSt rfl inI inI rfl (by decide) rfl ?_; intro _ _ _ _ _) | fail)); all_goals (first | refine wl_nil ⟨rfl, (by first | exact LeS.len inI | exact App.len (by assumption)), ?_⟩ | trace_state)))
    all_goals (refine da_last 19 rfl (by decide) (by kernel_rfl) ?_; (repeat' (first | (refine wc_appendSt (σ₀ := σ1) rfl rfl inI inI rfl (by decide) (by decide) inI inI (by omega) (may_ge σ1) (LeS.len inI) rfl ?_; intro _ _ _ _ _ _ _) | fail)); all_goals (first | refine wl_nil (dl_in ?_) | trace_state))
    all_goals (refine dl_last 20 rfl (by decide) (by kernel_rfl) ?_; (repeat' (first | refine wl_pop rfl (po_assign rfl) ?_ | fail)); all_goals (first | refine wl_nil (dl_in ?_) | trace_state))
    all_goals refine dl_done (by kernel_rfl) ?_
    repeat' (first
      | refine wp_region_seq ?_
      | refine thru_seq_next ?_
      | refine thru_block_next ?_
      | refine wl_nil ?_
      | refine wl_pop rfl (po_move rfl) ?_
      | refine wl_pop rfl (po_assign rfl) ?_
      | refine wl_pop rfl (pc_add rfl rfl (by omega) (by omega)) ?_
      | fail)
    rename_i i4 σ4 g4 n4 h4 _ _ _ _ i5 σ5 g5 n5 h5 v' σ6 app mk kn ow one
    rw [e2, e3] at h4
    have r4 := rtsG_two (t := (LA.getD k (0, nilT)).2) (t' := q) (hG i4 (Nat.le_trans (LeS.len inI) n4.le)) (rk.les inI) inI h4
    refine ⟨(k + 1, v'), by dsimp only; omega, ⟨by dsimp only; omega, _, (hJ.step (y := ((LA.getD k (0, nilT)).1, parT (LA.getD k (0, nilT)).2 q)) inI app kn ow e1 rfl rfl ((r4.les inI).kn kn inI)).eq ?_⟩, (by repeat' (first | exact sub_nil | refine sub_cons rfl ?_ | refine sub_int rfl (by first | rfl | omega | (push_cast; omega) | simp) ?_ | refine sub_eq rfl (by assumption) ?_))⟩
    dsimp only
    rw [map_take_succT _ hk']
  clear hxb
  obtain rfl : k = LA.length := by omega
  rw [List.take_length] at hJ
  refine wc_loop [(2, _), (6, _), (7, _)] (fun x : Nat × AV => [(5, x.2), (9, I x.1)]) (fun x σ' => x.1 ≤ LB.length ∧ ∃ xs, LJ G σ1 σ' u u' xa xb LA LB x.2 xs (LA.map (fun x => (x.1, parT x.2 q)) ++ (LB.take x.1).map (fun y => (y.1, parT p y.2)))) (fun x => LB.length - x.1) (0, v) ⟨Nat.zero_le _, xs, hJ.eq (by simp)⟩ (by repeat' (first | exact sub_nil | refine sub_cons rfl ?_ | refine sub_int rfl (by first | rfl | omega | (push_cast; omega) | simp) ?_ | refine sub_eq rfl (by assumption) ?_)) ?_
  clear hJ jle jra jrb jsa jsb jna jnb jow jsr hxl
  clear xs
  rintro ⟨k, v⟩ σ' ⟨hk, xs, hJ⟩
  dsimp only at hk hJ ⊢
  have hJ' := hJ
  obtain ⟨jle, jra, jrb, jsa, jsb, jna, jnb, jow, jsr⟩ := hJ'
  have := jle.grow
  have := jow.one
  have hxl := jsr.len'
  rw [List.length_append, List.length_map] at hxl
  have hxb : ((LB.take k).map (fun y : Stp => (y.1, parT p y.2))).length ≤ LB.length := by rw [List.length_map]; exact List.length_take_le' _ _
  repeat' (first
    | refine wl_pop rfl (pc_lenRow rfl inI inI) ?_
    | refine wp_seqA ?_
    | refine wp_region_seq ?_
    | refine thru_seq_next ?_
    | refine thru_seq ?_
    | refine exit_here ?_
    | refine wp_skipA ?_
    | refine wp_exitA ?_
    | refine wp_blockA ?_
    | refine wl_nil ?_
    | refine wl_pop rfl (po_move rfl) ?_
    | refine wl_pop rfl (po_assign rfl) ?_
    | refine wl_pop rfl (po_binOp rfl rfl rfl) ?_
    | refine wp_condP rfl (fun _ => ?_) (fun _ => ?_)
    | fail)
  · have hk' : k < LB.length := by omega
    have hxk : k < xb.length := by omega
    obtain ⟨e1, e2, e3, rk⟩ := jsb.at hk'
    have hok : One (xb.getD k Enc.dflt).s := ⟨(xb.getD k Enc.dflt).one⟩
    refine wc_drawn [19, 20] mixed_ rfl ?_
    all_goals refine da_takeC 0 rfl rfl (by kernel_rfl) (by first | exact po_move rfl | fail) ?_
    all_goals refine da_takeC 1 rfl rfl (by kernel_rfl) (by first | exact po_move rfl | fail) ?_
    all_goals refine da_takeC 2 rfl rfl (by kernel_rfl) (by first | exact po_move rfl | fail) ?_
    all_goals refine da_takeC 3 rfl rfl (by kernel_rfl) (by first | exact pc_indexRow rfl rfl inI inI inI (by omega) | fail) ?_
    all_goals refine da_takeC 4 rfl rfl (by kernel_rfl) (by first | exact po_fieldAddr rfl inI | fail) ?_
    all_goals refine da_takeC 5 rfl rfl (by kernel_rfl) (by first | exact pc_ldStA rfl inI inI (by omega) inI | fail) ?_
    all_goals refine da_takeC 6 rfl rfl (by kernel_rfl) (by first | exact po_fieldAddr rfl inI | fail) ?_
    all_goals refine da_takeC 7 rfl rfl (by kernel_rfl) (by first | exact pc_load1L rfl inI (at_has (.inl rfl) rfl rfl) inI | fail) ?_
    all_goals refine da_takeC 8 rfl rfl (by kernel_rfl) (by first | exact pc_indexSlZ rfl rfl inI inI (by decide) (by decide) | fail) ?_
    all_goals refine da_takeC 9 rfl rfl (by kernel_rfl) (by first | exact pc_loadnL rfl inI inI inI | fail) ?_
    all_goals refine da_takeC 10 rfl rfl (by kernel_rfl) (by first | exact po_move rfl | fail) ?_
    all_goals refine da_takeC 11 rfl rfl (by kernel_rfl) (by first | exact po_move rfl | fail) ?_
    all_goals refine da_takeC 12 rfl rfl (by kernel_rfl) (by first | exact pc_indexRow rfl rfl inI inI inI (by omega) | fail) ?_
    all_goals refine da_takeC 13 rfl rfl (by kernel_rfl) (by first | exact po_fieldAddr rfl inI | fail) ?_
    all_goals refine da_takeC 14 rfl rfl (by kernel_rfl) (by first | exact pc_ldStT rfl inI inI (by omega) inI | fail) ?_
    all_goals (first | (refine da_one 15 rfl (by kernel_rfl) (fun _ _ _ _ => ?_); (repeat' (first | (refine wc_twoTm rfl rfl inI inI rfl (by decide) rfl ?_; intro _ _ _ _ _) | fail)); all_goals (first | refine wl_nil ⟨rfl, (by first | exact LeS.len inI | exact App.len (by assumption)), ?_⟩ | trace_state)))
    all_goals refine da_takeC 16 rfl rfl (by kernel_rfl) (by first | exact pc_tm02 rfl rfl inI inI rfl | fail) ?_
    all_goals refine da_takeC 17 rfl rfl (by kernel_rfl) (by first | exact pc_buildSt rfl rfl inI inI rfl | fail) ?_
    all_goals (first | (refine da_one 18 rfl (by kernel_rfl) (fun _ _ _ _ => ?_); (repeat' (first | (refine wc_oneSt rfl inI inI rfl (by decide) rfl ?_; intro _ _ _ _ _) | fail)); all_goals (first | refine wl_nil ⟨rfl, (by first | exact LeS.len inI | exact App.len (by assumption)), ?_⟩ | trace_state)))
    all_goals (refine da_last 19 rfl (by decide) (by kernel_rfl) ?_; (repeat' (first | (refine wc_appendSt (σ₀ := σ1) rfl rfl inI inI rfl (by decide) (by decide) inI inI (by omega) (may_ge σ1) (LeS.len inI) rfl ?_; intro _ _ _ _ _ _ _) | fail)); all_goals (first | refine wl_nil (dl_in ?_) | trace_state))
    all_goals (refine dl_last 20 rfl (by decide) (by kernel_rfl) ?_; (repeat' (first | refine wl_pop rfl (po_assign rfl) ?_ | fail)); all_goals (first | refine wl_nil (dl_in ?_) | trace_state))
    all_goals refine dl_done (by kernel_rfl) ?_
    repeat' (first
      | refine wp_region_seq ?_
      | refine thru_seq_next ?_
      | refine thru_block_next ?_
      | refine wl_nil ?_
      | refine wl_pop rfl (po_move rfl) ?_
      | refine wl_pop rfl (po_assign rfl) ?_
      | refine wl_pop rfl (pc_add rfl rfl (by omega) (by omega)) ?_
      | fail)
    rename_i i4 σ4 g4 n4 h4 _ _ _ _ i5 σ5 g5 n5 h5 v' σ6 app mk kn ow one
    rw [e2, e3] at h4
    have r4 := rtsG_two (t' := (LB.getD k (0, nilT)).2) (t := p) (hG i4 (Nat.le_trans (LeS.len inI) n4.le)) inI (rk.les inI) h4
    refine ⟨(k + 1, v'), by dsimp only; omega, ⟨by dsimp only; omega, _, (hJ.step (y := ((LB.getD k (0, nilT)).1, parT p (LB.getD k (0, nilT)).2)) inI app kn ow e1 rfl rfl ((r4.les inI).kn kn inI)).eq ?_⟩, (by repeat' (first | exact sub_nil | refine sub_cons rfl ?_ | refine sub_int rfl (by first | rfl | omega | (push_cast; omega) | simp) ?_ | refine sub_eq rfl (by assumption) ?_))⟩
    dsimp only
    rw [map_take_succT _ hk', List.append_assoc]
  clear hxb
  obtain rfl : k = LB.length := by omega
  rw [List.take_length] at hJ
  generalize hM : LA.map (fun x : Stp => (x.1, parT x.2 q)) ++ LB.map (fun y : Stp => (y.1, parT p y.2)) = M at *
  have hMl : M.length = LA.length + LB.length := by rw [← hM]; simp
  refine wc_loop [(6, _), (7, _)] (fun x : Nat × AV => [(5, x.2), (10, I x.1)]) (fun x σ' => x.1 ≤ LA.length ∧ ∃ xs, LJ G σ1 σ' u u' xa xb LA LB x.2 xs (M ++ meetsL (LA.take x.1) LB)) (fun x => LA.length - x.1) (0, v) ⟨Nat.zero_le _, xs, hJ.eq (by simp [meetsL])⟩ (by repeat' (first | exact sub_nil | refine sub_cons rfl ?_ | refine sub_int rfl (by first | rfl | omega | (push_cast; omega) | simp) ?_ | refine sub_eq rfl (by assumption) ?_)) ?_
  clear hJ jle jra jrb jsa jsb jna jnb jow jsr hxl
  clear xs
  rintro ⟨k, v⟩ σ' ⟨hk, xs, hJ⟩
  dsimp only at hk hJ ⊢
  have hJ' := hJ
  obtain ⟨jle, jra, jrb, jsa, jsb, jna, jnb, jow, jsr⟩ := hJ'
  have := jle.grow
  have := jow.one
  repeat' (first
    | refine wl_pop rfl (pc_lenRow rfl inI inI) ?_
    | refine wp_seqA ?_
    | refine wp_region_seq ?_
    | refine thru_seq_next ?_
    | refine thru_seq ?_
    | refine thru_block_next ?_
    | refine exit_here ?_
    | refine wp_skipA ?_
    | refine wp_retA ?_
    | refine wp_exitA ?_
    | refine wp_blockA ?_
    | refine wl_nil ?_
    | refine wl_pop rfl (po_move rfl) ?_
    | refine wl_pop rfl (po_assign rfl) ?_
    | refine wl_pop rfl (po_binOp rfl rfl rfl) ?_
    | refine wp_condP rfl (fun _ => ?_) (fun _ => ?_)
    | refine at_ret (res1 rfl rfl) ?_
    | fail)
  rotate_left
  · obtain rfl : k = LA.length := by omega
    rw [List.take_length] at jsr
    exact ret_st (σ₁ := σ1) jow jsr inI inI rfl
  have hk' : k < LA.length := by omega
  have hxk : k < xa.length := by omega
  have hmk := meets_take_le (A := LA) (B := LB) (k + 1)
  rw [meets_take hk', List.length_append] at hmk
  have hrk := hra (LA.getD k (0, nilT)) (by simp [List.getD_eq_getElem?_getD, hk'])
  refine wc_loop [(6, _), (7, _), (10, _)] (fun x : Nat × AV => [(5, x.2), (11, I x.1)]) (fun x σ' => x.1 ≤ LB.length ∧ ∃ xs, LJ G σ1 σ' u u' xa xb LA LB x.2 xs (M ++ meetsL (LA.take k) LB ++ meetsL [LA.getD k (0, nilT)] (LB.take x.1))) (fun x => LB.length - x.1) (0, v) ⟨Nat.zero_le _, xs, hJ.eq (by simp [meetsL])⟩ (by repeat' (first | exact sub_nil | refine sub_cons rfl ?_ | refine sub_int rfl (by first | rfl | omega | (push_cast; omega) | simp) ?_ | refine sub_eq rfl (by assumption) ?_)) ?_
  clear hJ jle jra jrb jsa jsb jna jnb jow jsr
  clear xs
  rintro ⟨j, v⟩ σ' ⟨hj, xs, hJ⟩
  dsimp only at hj hJ ⊢
  have hJ' := hJ
  obtain ⟨jle, jra, jrb, jsa, jsb, jna, jnb, jow, jsr⟩ := hJ'
  have := jle.grow
  have := jow.one
  have hxl := jsr.len'
  have hml := meets1_take_le (x := LA.getD k (0, nilT)) (B := LB) j
  rw [List.length_append, List.length_append] at hxl
  repeat' (first
    | refine wl_pop rfl (pc_lenRow rfl inI inI) ?_
    | refine wp_seqA ?_
    | refine wp_region_seq ?_
    | refine thru_seq_next ?_
    | refine thru_seq ?_
    | refine thru_block_next ?_
    | refine exit_here ?_
    | refine wp_skipA ?_
    | refine wp_exitA ?_
    | refine wp_blockA ?_
    | refine wl_nil ?_
    | refine wl_pop rfl (po_move rfl) ?_
    | refine wl_pop rfl (po_assign rfl) ?_
    | refine wl_pop rfl (pc_add rfl rfl (by omega) (by omega)) ?_
    | refine wl_pop rfl (po_binOp rfl rfl rfl) ?_
    | refine wp_condP rfl (fun _ => ?_) (fun _ => ?_)
    | fail)
  rotate_left
  · obtain rfl : j = LB.length := by omega
    rw [List.take_length] at hJ
    refine ⟨(k + 1, v), by dsimp only; omega, ⟨by dsimp only; omega, xs, hJ.eq ?_⟩, (by repeat' (first | exact sub_nil | refine sub_cons rfl ?_ | refine sub_int rfl (by first | rfl | omega | (push_cast; omega) | simp) ?_ | refine sub_eq rfl (by assumption) ?_))⟩
    dsimp only
    rw [meets_take hk', List.append_assoc]
  have hj' : j < LB.length := by omega
  have hxj : j < xb.length := by omega
  obtain ⟨e1, e2, e3, rk⟩ := jsa.at hk'
  obtain ⟨f1, f2, f3, rj⟩ := jsb.at hj'
  have hok : One (xa.getD k Enc.dflt).s := ⟨(xa.getD k Enc.dflt).one⟩
  have hok' : One (xb.getD j Enc.dflt).s := ⟨(xb.getD j Enc.dflt).one⟩
  have hrj := hrb (LB.getD j (0, nilT)) (by simp [List.getD_eq_getElem?_getD, hj'])
  have hmt := meets1_take (x := LA.getD k (0, nilT)) hj'
  refine wc_drawn [] mixed_ rfl ?_
  all_goals refine da_takeC 0 rfl rfl (by kernel_rfl) (by first | exact po_move rfl | fail) ?_
  all_goals refine da_takeC 1 rfl rfl (by kernel_rfl) (by first | exact po_move rfl | fail) ?_
  all_goals refine da_takeC 2 rfl rfl (by kernel_rfl) (by first | exact pc_indexRow rfl rfl inI inI inI (by omega) | fail) ?_
  all_goals refine da_takeC 3 rfl rfl (by kernel_rfl) (by first | exact po_fieldAddr rfl inI | fail) ?_
  all_goals refine da_takeC 4 rfl rfl (by kernel_rfl) (by first | exact pc_ldStA rfl inI inI (by omega) inI | fail) ?_
  all_goals refine da_takeC 5 rfl rfl (by kernel_rfl) (by first | exact po_binOp rfl rfl rfl | fail) ?_
  all_goals refine da_takeC 6 rfl rfl (by kernel_rfl) (by first | exact po_move rfl | fail) ?_
  all_goals (first | refine da_onC 7 rfl rfl rfl rfl rfl (by kernel_rfl) (by first | exact po_move rfl | fail) ?_ | refine da_offC 7 rfl rfl rfl rfl rfl rfl (by kernel_rfl) ?_ | refine da_offU 7 rfl rfl rfl rfl rfl (by kernel_rfl) ?_ | ((first | refine da_caseP (t := 128) rfl (fun _ => ?_) (fun _ => ?_) | refine da_caseNP (t := 128) rfl (fun _ => ?_) (fun _ => ?_) | refine da_caseEq (t := 128) rfl (fun _ => ?_) (fun _ => ?_) | refine da_caseNe (t := 128) rfl (fun _ => ?_) (fun _ => ?_) | refine da_caseNB (t := 128) rfl (fun _ => ?_) (fun _ => ?_) | refine da_case (t := 128) rfl (fun _ => ?_) (fun _ => ?_)) <;> (first | refine da_onC 7 rfl rfl rfl rfl rfl (by kernel_rfl) (by first | exact po_move rfl | fail) ?_ | refine da_offC 7 rfl rfl rfl rfl rfl rfl (by kernel_rfl) ?_ | refine da_offU 7 rfl rfl rfl rfl rfl (by kernel_rfl) ?_)))
  all_goals (first | refine da_onC 8 rfl rfl rfl rfl rfl (by kernel_rfl) (by first | exact po_move rfl | fail) ?_ | refine da_offC 8 rfl rfl rfl rfl rfl rfl (by kernel_rfl) ?_ | refine da_offU 8 rfl rfl rfl rfl rfl (by kernel_rfl) ?_ | ((first | refine da_caseP (t := 128) rfl (fun _ => ?_) (fun _ => ?_) | refine da_caseNP (t := 128) rfl (fun _ => ?_) (fun _ => ?_) | refine da_caseEq (t := 128) rfl (fun _ => ?_) (fun _ => ?_) | refine da_caseNe (t := 128) rfl (fun _ => ?_) (fun _ => ?_) | refine da_caseNB (t := 128) rfl (fun _ => ?_) (fun _ => ?_) | refine da_case (t := 128) rfl (fun _ => ?_) (fun _ => ?_)) <;> (first | refine da_onC 8 rfl rfl rfl rfl rfl (by kernel_rfl) (by first | exact po_move rfl | fail) ?_ | refine da_offC 8 rfl rfl rfl rfl rfl rfl (by kernel_rfl) ?_ | refine da_offU 8 rfl rfl rfl rfl rfl (by kernel_rfl) ?_)))
  all_goals (first | refine da_onC 9 rfl rfl rfl rfl rfl (by kernel_rfl) (by first | exact pc_indexRow rfl rfl inI inI inI (by omega) | fail) ?_ | refine da_offC 9 rfl rfl rfl rfl rfl rfl (by kernel_rfl) ?_ | refine da_offU 9 rfl rfl rfl rfl rfl (by kernel_rfl) ?_ | ((first | refine da_caseP (t := 128) rfl (fun _ => ?_) (fun _ => ?_) | refine da_caseNP (t := 128) rfl (fun _ => ?_) (fun _ => ?_) | refine da_caseEq (t := 128) rfl (fun _ => ?_) (fun _ => ?_) | refine da_caseNe (t := 128) rfl (fun _ => ?_) (fun _ => ?_) | refine da_caseNB (t := 128) rfl (fun _ => ?_) (fun _ => ?_) | refine da_case (t := 128) rfl (fun _ => ?_) (fun _ => ?_)) <;> (first | refine da_onC 9 rfl rfl rfl rfl rfl (by kernel_rfl) (by first | exact pc_indexRow rfl rfl inI inI inI (by omega) | fail) ?_ | refine da_offC 9 rfl rfl rfl rfl rfl rfl (by kernel_rfl) ?_ | refine da_offU 9 rfl rfl rfl rfl rfl (by kernel_rfl) ?_)))
  all_goals (first | refine da_onC 10 rfl rfl rfl rfl rfl (by kernel_rfl) (by first | exact po_fieldAddr rfl inI | fail) ?_ | refine da_offC 10 rfl rfl rfl rfl rfl rfl (by kernel_rfl) ?_ | refine da_offU 10 rfl rfl rfl rfl rfl (by kernel_rfl) ?_ | ((first | refine da_caseP (t := 128) rfl (fun _ => ?_) (fun _ => ?_) | refine da_caseNP (t := 128) rfl (fun _ => ?_) (fun _ => ?_) | refine da_caseEq (t := 128) rfl (fun _ => ?_) (fun _ => ?_) | refine da_caseNe (t := 128) rfl (fun _ => ?_) (fun _ => ?_) | refine da_caseNB (t := 128) rfl (fun _ => ?_) (fun _ => ?_) | refine da_case (t := 128) rfl (fun _ => ?_) (fun _ => ?_)) <;> (first | refine da_onC 10 rfl rfl rfl rfl rfl (by kernel_rfl) (by first | exact po_fieldAddr rfl inI | fail) ?_ | refine da_offC 10 rfl rfl rfl rfl rfl rfl (by kernel_rfl) ?_ | refine da_offU 10 rfl rfl rfl rfl rfl (by kernel_rfl) ?_)))
  all_goals (first | refine da_onC 11 rfl rfl rfl rfl rfl (by kernel_rfl) (by first | exact pc_ldStA rfl inI inI (by omega) inI | fail) ?_ | refine da_offC 11 rfl rfl rfl rfl rfl rfl (by kernel_rfl) ?_ | refine da_offU 11 rfl rfl rfl rfl rfl (by kernel_rfl) ?_ | ((first | refine da_caseP (t := 128) rfl (fun _ => ?_) (fun _ => ?_) | refine da_caseNP (t := 128) rfl (fun _ => ?_) (fun _ => ?_) | refine da_caseEq (t := 128) rfl (fun _ => ?_) (fun _ => ?_) | refine da_caseNe (t := 128) rfl (fun _ => ?_) (fun _ => ?_) | refine da_caseNB (t := 128) rfl (fun _ => ?_) (fun _ => ?_) | refine da_case (t := 128) rfl (fun _ => ?_) (fun _ => ?_)) <;> (first | refine da_onC 11 rfl rfl rfl rfl rfl (by kernel_rfl) (by first | exact pc_ldStA rfl inI inI (by omega) inI | fail) ?_ | refine da_offC 11 rfl rfl rfl rfl rfl rfl (by kernel_rfl) ?_ | refine da_offU 11 rfl rfl rfl rfl rfl (by kernel_rfl) ?_)))
  all_goals (first | refine da_onC 12 rfl rfl rfl rfl rfl (by kernel_rfl) (by first | exact po_move rfl | fail) ?_ | refine da_offC 12 rfl rfl rfl rfl rfl rfl (by kernel_rfl) ?_ | refine da_offU 12 rfl rfl rfl rfl rfl (by kernel_rfl) ?_ | ((first | refine da_caseP (t := 128) rfl (fun _ => ?_) (fun _ => ?_) | refine da_caseNP (t := 128) rfl (fun _ => ?_) (fun _ => ?_) | refine da_caseEq (t := 128) rfl (fun _ => ?_) (fun _ => ?_) | refine da_caseNe (t := 128) rfl (fun _ => ?_) (fun _ => ?_) | refine da_caseNB (t := 128) rfl (fun _ => ?_) (fun _ => ?_) | refine da_case (t := 128) rfl (fun _ => ?_) (fun _ => ?_)) <;> (first | refine da_onC 12 rfl rfl rfl rfl rfl (by kernel_rfl) (by first | exact po_move rfl | fail) ?_ | refine da_offC 12 rfl rfl rfl rfl rfl rfl (by kernel_rfl) ?_ | refine da_offU 12 rfl rfl rfl rfl rfl (by kernel_rfl) ?_)))
  all_goals (first | refine da_onC 13 rfl rfl rfl rfl rfl (by kernel_rfl) (by first | exact po_move rfl | fail) ?_ | refine da_offC 13 rfl rfl rfl rfl rfl rfl (by kernel_rfl) ?_ | refine da_offU 13 rfl rfl rfl rfl rfl (by kernel_rfl) ?_ | ((first | refine da_caseP (t := 128) rfl (fun _ => ?_) (fun _ => ?_) | refine da_caseNP (t := 128) rfl (fun _ => ?_) (fun _ => ?_) | refine da_caseEq (t := 128) rfl (fun _ => ?_) (fun _ => ?_) | refine da_caseNe (t := 128) rfl (fun _ => ?_) (fun _ => ?_) | refine da_caseNB (t := 128) rfl (fun _ => ?_) (fun _ => ?_) | refine da_case (t := 128) rfl (fun _ => ?_) (fun _ => ?_)) <;> (first | refine da_onC 13 rfl rfl rfl rfl rfl (by kernel_rfl) (by first | exact po_move rfl | fail) ?_ | refine da_offC 13 rfl rfl rfl rfl rfl rfl (by kernel_rfl) ?_ | refine da_offU 13 rfl rfl rfl rfl rfl (by kernel_rfl) ?_)))
  all_goals (first | refine da_onC 14 rfl rfl rfl rfl rfl (by kernel_rfl) (by first | exact pc_indexRow rfl rfl inI inI inI (by omega) | fail) ?_ | refine da_offC 14 rfl rfl rfl rfl rfl rfl (by kernel_rfl) ?_ | refine da_offU 14 rfl rfl rfl rfl rfl (by kernel_rfl) ?_ | ((first | refine da_caseP (t := 128) rfl (fun _ => ?_) (fun _ => ?_) | refine da_caseNP (t := 128) rfl (fun _ => ?_) (fun _ => ?_) | refine da_caseEq (t := 128) rfl (fun _ => ?_) (fun _ => ?_) | refine da_caseNe (t := 128) rfl (fun _ => ?_) (fun _ => ?_) | refine da_caseNB (t := 128) rfl (fun _ => ?_) (fun _ => ?_) | refine da_case (t := 128) rfl (fun _ => ?_) (fun _ => ?_)) <;> (first | refine da_onC 14 rfl rfl rfl rfl rfl (by kernel_rfl) (by first | exact pc_indexRow rfl rfl inI inI inI (by omega) | fail) ?_ | refine da_offC 14 rfl rfl rfl rfl rfl rfl (by kernel_rfl) ?_ | refine da_offU 14 rfl rfl rfl rfl rfl (by kernel_rfl) ?_)))
  all_goals (first | refine da_onC 15 rfl rfl rfl rfl rfl (by kernel_rfl) (by first | exact po_fieldAddr rfl inI | fail) ?_ | refine da_offC 15 rfl rfl rfl rfl rfl rfl (by kernel_rfl) ?_ | refine da_offU 15 rfl rfl rfl rfl rfl (by kernel_rfl) ?_ | ((first | refine da_caseP (t := 128) rfl (fun _ => ?_) (fun _ => ?_) | refine da_caseNP (t := 128) rfl (fun _ => ?_) (fun _ => ?_) | refine da_caseEq (t := 128) rfl (fun _ => ?_) (fun _ => ?_) | refine da_caseNe (t := 128) rfl (fun _ => ?_) (fun _ => ?_) | refine da_caseNB (t := 128) rfl (fun _ => ?_) (fun _ => ?_) | refine da_case (t := 128) rfl (fun _ => ?_) (fun _ => ?_)) <;> (first | refine da_onC 15 rfl rfl rfl rfl rfl (by kernel_rfl) (by first | exact po_fieldAddr rfl inI | fail) ?_ | refine da_offC 15 rfl rfl rfl rfl rfl rfl (by kernel_rfl) ?_ | refine da_offU 15 rfl rfl rfl rfl rfl (by kernel_rfl) ?_)))
  all_goals (first | refine da_onC 16 rfl rfl rfl rfl rfl (by kernel_rfl) (by first | exact pc_ldStA rfl inI inI (by omega) inI | fail) ?_ | refine da_offC 16 rfl rfl rfl rfl rfl rfl (by kernel_rfl) ?_ | refine da_offU 16 rfl rfl rfl rfl rfl (by kernel_rfl) ?_ | ((first | refine da_caseP (t := 128) rfl (fun _ => ?_) (fun _ => ?_) | refine da_caseNP (t := 128) rfl (fun _ => ?_) (fun _ => ?_) | refine da_caseEq (t := 128) rfl (fun _ => ?_) (fun _ => ?_) | refine da_caseNe (t := 128) rfl (fun _ => ?_) (fun _ => ?_) | refine da_caseNB (t := 128) rfl (fun _ => ?_) (fun _ => ?_) | refine da_case (t := 128) rfl (fun _ => ?_) (fun _ => ?_)) <;> (first | refine da_onC 16 rfl rfl rfl rfl rfl (by kernel_rfl) (by first | exact pc_ldStA rfl inI inI (by omega) inI | fail) ?_ | refine da_offC 16 rfl rfl rfl rfl rfl rfl (by kernel_rfl) ?_ | refine da_offU 16 rfl rfl rfl rfl rfl (by kernel_rfl) ?_)))
  all_goals (first | refine da_onC 17 rfl rfl rfl rfl rfl (by kernel_rfl) (by first | exact pc_neg rfl (by omega) (by omega) | fail) ?_ | refine da_offC 17 rfl rfl rfl rfl rfl rfl (by kernel_rfl) ?_ | refine da_offU 17 rfl rfl rfl rfl rfl (by kernel_rfl) ?_ | ((first | refine da_caseP (t := 128) rfl (fun _ => ?_) (fun _ => ?_) | refine da_caseNP (t := 128) rfl (fun _ => ?_) (fun _ => ?_) | refine da_caseEq (t := 128) rfl (fun _ => ?_) (fun _ => ?_) | refine da_caseNe (t := 128) rfl (fun _ => ?_) (fun _ => ?_) | refine da_caseNB (t := 128) rfl (fun _ => ?_) (fun _ => ?_) | refine da_case (t := 128) rfl (fun _ => ?_) (fun _ => ?_)) <;> (first | refine da_onC 17 rfl rfl rfl rfl rfl (by kernel_rfl) (by first | exact pc_neg rfl (by omega) (by omega) | fail) ?_ | refine da_offC 17 rfl rfl rfl rfl rfl rfl (by kernel_rfl) ?_ | refine da_offU 17 rfl rfl rfl rfl rfl (by kernel_rfl) ?_)))
  all_goals (first | refine da_onC 18 rfl rfl rfl rfl rfl (by kernel_rfl) (by first | exact po_binOp rfl rfl rfl | fail) ?_ | refine da_offC 18 rfl rfl rfl rfl rfl rfl (by kernel_rfl) ?_ | refine da_offU 18 rfl rfl rfl rfl rfl (by kernel_rfl) ?_ | ((first | refine da_caseP (t := 128) rfl (fun _ => ?_) (fun _ => ?_) | refine da_caseNP (t := 128) rfl (fun _ => ?_) (fun _ => ?_) | refine da_caseEq (t := 128) rfl (fun _ => ?_) (fun _ => ?_) | refine da_caseNe (t := 128) rfl (fun _ => ?_) (fun _ => ?_) | refine da_caseNB (t := 128) rfl (fun _ => ?_) (fun _ => ?_) | refine da_case (t := 128) rfl (fun _ => ?_) (fun _ => ?_)) <;> (first | refine da_onC 18 rfl rfl rfl rfl rfl (by kernel_rfl) (by first | exact po_binOp rfl rfl rfl | fail) ?_ | refine da_offC 18 rfl rfl rfl rfl rfl rfl (by kernel_rfl) ?_ | refine da_offU 18 rfl rfl rfl rfl rfl (by kernel_rfl) ?_)))
  all_goals refine da_takeC 19 rfl rfl (by kernel_rfl) (by first | exact po_pick rfl rfl | fail) ?_
  all_goals refine da_done (by kernel_rfl) ?_
  repeat' (first
    | refine wp_region_seq ?_
    | refine thru_seq_next ?_
    | refine thru_block_next ?_
    | refine wp_skipA ?_
    | refine wl_nil ?_
    | refine wl_pop rfl (po_move rfl) ?_
    | refine wl_pop rfl (po_assign rfl) ?_
    | refine wl_pop rfl (pc_add rfl rfl (by omega) (by omega)) ?_
    | refine wp_condF rfl ?_
    | refine wp_condP rfl (fun _ => ?_) (fun _ => ?_)
    | fail)
  · rename_i hc1 hc2
    rw [if_pos (by omega)] at hmt
    refine wc_drawn [15, 16] mixed_ rfl ?_
    all_goals refine da_takeC 0 rfl rfl (by kernel_rfl) (by first | exact po_move rfl | fail) ?_
    all_goals refine da_takeC 1 rfl rfl (by kernel_rfl) (by first | exact po_move rfl | fail) ?_
    all_goals refine da_takeC 2 rfl rfl (by kernel_rfl) (by first | exact po_move rfl | fail) ?_
    all_goals refine da_takeC 3 rfl rfl (by kernel_rfl) (by first | exact pc_indexRow rfl rfl inI inI inI (by omega) | fail) ?_
    all_goals refine da_takeC 4 rfl rfl (by kernel_rfl) (by first | exact po_fieldAddr rfl inI | fail) ?_
    all_goals refine da_takeC 5 rfl rfl (by kernel_rfl) (by first | exact pc_ldStT rfl inI inI (by omega) inI | fail) ?_
    all_goals refine da_takeC 6 rfl rfl (by kernel_rfl) (by first | exact po_move rfl | fail) ?_
    all_goals refine da_takeC 7 rfl rfl (by kernel_rfl) (by first | exact po_move rfl | fail) ?_
    all_goals refine da_takeC 8 rfl rfl (by kernel_rfl) (by first | exact pc_indexRow rfl rfl inI inI inI (by omega) | fail) ?_
    all_goals refine da_takeC 9 rfl rfl (by kernel_rfl) (by first | exact po_fieldAddr rfl inI | fail) ?_
    all_goals refine da_takeC 10 rfl rfl (by kernel_rfl) (by first | exact pc_ldStT rfl inI inI (by omega) inI | fail) ?_
    all_goals (first | (refine da_one 11 rfl (by kernel_rfl) (fun _ _ _ _ => ?_); (repeat' (first | (refine wc_twoTm rfl rfl inI inI rfl (by decide) rfl ?_; intro _ _ _ _ _) | fail)); all_goals (first | refine wl_nil ⟨rfl, (by first | exact LeS.len inI | exact App.len (by assumption)), ?_⟩ | trace_state)))
    all_goals refine da_takeC 12 rfl rfl (by kernel_rfl) (by first | exact pc_tm02 rfl rfl inI inI rfl | fail) ?_
    all_goals refine da_takeC 13 rfl rfl (by kernel_rfl) (by first | exact pc_buildSt1 rfl inI inI rfl | fail) ?_
    all_goals (first | (refine da_one 14 rfl (by kernel_rfl) (fun _ _ _ _ => ?_); (repeat' (first | (refine wc_oneSt rfl inI inI rfl (by decide) rfl ?_; intro _ _ _ _ _) | fail)); all_goals (first | refine wl_nil ⟨rfl, (by first | exact LeS.len inI | exact App.len (by assumption)), ?_⟩ | trace_state)))
    all_goals (refine da_last 15 rfl (by decide) (by kernel_rfl) ?_; (repeat' (first | (refine wc_appendSt (σ₀ := σ1) rfl rfl inI inI rfl (by decide) (by decide) inI inI (by omega) (may_ge σ1) (LeS.len inI) rfl ?_; intro _ _ _ _ _ _ _) | fail)); all_goals (first | refine wl_nil (dl_in ?_) | trace_state))
    all_goals (refine dl_last 16 rfl (by decide) (by kernel_rfl) ?_; (repeat' (first | refine wl_pop rfl (po_assign rfl) ?_ | fail)); all_goals (first | refine wl_nil (dl_in ?_) | trace_state))
    all_goals refine dl_done (by kernel_rfl) ?_
    repeat' (first
      | refine wp_region_seq ?_
      | refine thru_seq_next ?_
      | refine thru_block_next ?_
      | refine wl_nil ?_
      | refine wl_pop rfl (po_move rfl) ?_
      | refine wl_pop rfl (po_assign rfl) ?_
      | refine wl_pop rfl (pc_add rfl rfl (by omega) (by omega)) ?_
      | fail)
    rename_i i4 σ4 g4 n4 h4 _ _ _ _ i5 σ5 g5 n5 h5 v' σ6 app mk kn ow one
    rw [e2, e3, f2, f3] at h4
    have r4 := rtsG_two (t := (LA.getD k (0, nilT)).2) (t' := (LB.getD j (0, nilT)).2) (hG i4 (Nat.le_trans (LeS.len inI) n4.le)) (rk.les inI) (rj.les inI) h4
    refine ⟨(j + 1, v'), by dsimp only; omega, ⟨by dsimp only; omega, _, (hJ.step (y := (0, parT (LA.getD k (0, nilT)).2 (LB.getD j (0, nilT)).2)) inI app kn ow rfl rfl rfl ((r4.les inI).kn kn inI)).eq ?_⟩, (by repeat' (first | exact sub_nil | refine sub_cons rfl ?_ | refine sub_int rfl (by first | rfl | omega | (push_cast; omega) | simp) ?_ | refine sub_eq rfl (by assumption) ?_))⟩
    dsimp only
    rw [hmt, List.append_assoc]
  all_goals
    rw [if_neg (by omega), List.append_nil] at hmt
    refine ⟨(j + 1, v), by dsimp only; omega, ⟨by dsimp only; omega, xs, (hJ.les inI).eq ?_⟩, (by repeat' (first | exact sub_nil | refine sub_cons rfl ?_ | refine sub_int rfl (by first | rfl | omega | (push_cast; omega) | simp) ?_ | refine sub_eq rfl (by assumption) ?_))⟩
    dsimp only
    rw [hmt]
end
end Go.Proofs.YthbodgnoadlbcaaGreatDoor.Asl
