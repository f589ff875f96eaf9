/- The graph of a term, as the judge says it: state by state. -/
import Derived.Test.YthbodgnoadlbcaaGreatDoorK3
import Derived.Test.YthbodgnoadlbcaaGreatDoorT28
import Derived.Test.YthbodgnoadlbcaaGreatDoorG22
namespace Go.Proofs.YthbodgnoadlbcaaGreatDoor.Asl
open Go.RowKit Go.Proofs.YthbodgnoadlbcaaGreatDoorW.PrintLast
set_option linter.unusedVariables false
set_option linter.unusedSimpArgs false
attribute [local irreducible] WP WL andThen inBlock noGoto atEnd ACall DA DL PO Hold nodeOk Tm.shape Tm.ok Tm.txt
set_option maxHeartbeats 4000000
set_option synthInstance.maxHeartbeats 400000
set_option synthInstance.maxSize 10000
theorem nes_nil (s : AV) : NeS s nilS := ⟨fun _ _ _ _ _ e => by cases e⟩
section
variable {base : Nat}
theorem c_l3Graph (t : Tm) (ds : List Tm) (hd1 : defsOk ds = true) (q1 : t.shape = true) (q2 : t.callLt ds.length = true) (q3 : t.cnt ≤ 24) (σ : Store) (s d : AV) [hs : RTs σ s t.ps] [hd : RTs σ d ds] : ACall Tryz.prog base F_spec_l3Graph [.agg [I t.op, I t.n, s], d] σ (fun _ => False) (RetGO σ (graphL ds t)) := by
  have := hs.one
  have := hd.one
  refine acall2 fun_spec_l3Graph rfl tmps_spec_l3Graph rfl fun N B w₀ ρ₀ => ?_
  repeat' (first
    | (refine wc_oneTmC rfl inI inI rfl (by decide) rfl ?_; intro _ _ _ _ _)
    | (refine wc_callR rfl inI rfl (c_l2Text t q1 (by omega) _ _ inI) rfl ?_; intro _ _)
    | (refine wc_oneStr rfl inI inI rfl (by decide) rfl ?_; intro _ _ _ _ _)
    | refine wl_pop rfl (pc_build0 (cs := [_]) inI inI rfl) ?_
    | refine wp_seqA ?_
    | refine wp_region_seq ?_
    | refine thru_seq_next ?_
    | refine wp_blockA ?_
    | refine wl_nil ?_
    | refine wl_pop rfl (po_assign rfl) ?_
    | refine wc_loadn rfl inI (at_has (cs := [_, _, _]) (.inl rfl) rfl rfl) rfl ?_
    | (refine wc_storeA rfl rfl inI inI rfl inI (Nat.le_of_ble_eq_true rfl) (.inr (may_new _)) ?_; intro _ _)
    | (refine wc_boxA rfl inI rfl ?_; intro _ _ _ _ _)
    | (refine wc_allocA (cs := [_]) inI rfl inI rfl ?_; intro _ _ _ _ _)
    | fail)
  rename_i i1 σ1 g1 n1 h1 i2 σ2 g2 n2 h2 i3 σ3 g3 n3 h3 σ4 g4 i5 σ5 g5 n5 h5 i8 σ8 g8 n8 h8 σ9 u9
  have l2 : LeS σ σ2 := inI
  have h89 : Has σ9 i8 ⟨.own, 1, [nilS], []⟩ := instHasUpd (g := u9)
  have l29 : LeS σ2 σ9 := inI
  have y3 := n3.le
  have y8 := n8.le
  have y5 := h5.lt
  have z1 := l2.len
  have z3 := g3.len
  have z4 := g4.len
  have z5 := g5.len
  have y5' := n5.le
  have h2i : σ2.length ≤ i8 := by omega
  have h0 : GS σ2 σ9 σ9 i8 (.sl i3 0 1) (.sl i5 0 1) nilS [⟨t.op, t.n, s, (inI : One s).eq⟩] [t] [] [] :=
    ⟨l29, Nat.le_refl _, ow_of_has inI n3.le rfl (by decide), .cons rfl rfl (rtsG_old hs (l2.trans l29) (fun j n e => by cases e; omega)) .nil, ow_of_has (l := [ofL t.txt]) inI (by omega) rfl (by decide), h89, OW.nilS _ _, ORs.nil _ _, nes_nil _, fun n e => by cases e; omega⟩
  refine wc_loop [(1, _), (4, _), (8, _)] (fun x : AV × AV × Nat => [(6, x.1), (7, x.2.1), (9, I x.2.2)]) (fun x σ' => One x.1 ∧ One x.2.1 ∧ ∃ gv xs S us g, GS σ2 σ9 σ' i8 x.1 x.2.1 gv xs S us g ∧ StOk ds S ∧ g.length = x.2.2 ∧ x.2.2 ≤ S.length ∧ growN ds (61 - x.2.2) (S, g) = graphL ds t) (fun x => 61 - x.2.2) (.sl i3 0 1, .sl i5 0 1, 0) ⟨inI, inI, nilS, _, [t], [], [], h0, ⟨fun u hu => by simp at hu; subst hu; exact ⟨q1, q2, q3⟩, by simp⟩, rfl, by simp, rfl⟩ (by repeat' (first | exact sub_nil | refine sub_cons rfl ?_ | refine sub_int rfl (by first | rfl | omega | (push_cast; omega) | simp) ?_ | refine sub_eq rfl (by assumption) ?_)) ?_
  rintro ⟨sv, tv, k⟩ σ' ⟨o1, o2, gv, xs, S, us, g, hJ, hS, hgk, hk, hN⟩
  dsimp only at o1 o2 hJ hgk hk hN ⊢
  have hxl := hJ.tr.len
  have hSl := hS.le
  have hr1 : RW σ' sv xs := hJ.so.rw
  have hJle := hJ.le
  have hJg := hJ.le.grow
  have hi8 := hJ.hb
  have hgo := hJ.go.one
  repeat' (first
    | refine wc_holdR 7 ?_
    | refine wc_holdR 23 ?_
    | refine wl_pop rfl (pc_lenRow rfl inI inI) ?_
    | refine wp_seqA ?_
    | refine wp_region_seq ?_
    | refine thru_seq_next ?_
    | refine thru_seq ?_
    | refine exit_here ?_
    | refine wp_skipA ?_
    | refine wp_exitA ?_
    | refine wp_blockA ?_
    | refine wl_nil ?_
    | refine wl_pop rfl (po_move rfl) ?_
    | refine wl_pop rfl (po_binOp rfl rfl rfl) ?_
    | refine wp_condP rfl (fun _ => ?_) (fun _ => ?_)
    | fail)
  rotate_left
  · rename_i hk1
    obtain rfl : k = S.length := by omega
    have hfin : graphL ds t = some g := by
      rw [← hN]
      have : 61 - S.length = (60 - S.length) + 1 := by omega
      rw [this]; simp only [growN]; rw [if_neg (by omega)]
    have hgo9 := hJ.go
    have hgr9 := hJ.gr
    refine hold_go ?_
    repeat' (first
      | refine wc_loadn rfl inI (at_has (cs := [_]) (.inl rfl) rfl rfl) rfl ?_
      | refine at_ret (res_cell2 rfl rfl inI (at_has (cs := [_]) (.inl rfl) rfl rfl) rfl) ?_
      | refine wp_region_seq ?_
      | refine thru_seq_next ?_
      | refine wp_retA ?_
      | refine wl_nil ?_
      | refine wl_pop rfl (po_assign rfl) ?_
      | (refine wc_storeA rfl rfl inI inI rfl inI (Nat.le_of_ble_eq_true rfl) (.inr (may_new _)) ?_; intro _ _)
      | fail)
    exact ret_go hfin inI (l2.trans l29) inI (l2.trans l29) inI
  rename_i hk1
  have hk' : k < S.length := by omega
  have hkx : k < xs.length := by omega
  obtain ⟨e1, e2, rS⟩ := hJ.tr.at hk'
  obtain ⟨a1, a2, a3⟩ := hS.ok (S.getD k nilT) (by simp [List.getD_eq_getElem?_getD, hk'])
  have hdG : RTsG (NA sv) σ' d ds := rtsG_old hd (l2.trans hJ.le) (fun j n e => Nat.le_trans z1 (ow_ids hJ.so j n e))
  have hcall : ACall Tryz.prog base F_spec_l3Steps [.agg [I (xs.getD k Enc.dflt).op, I (xs.getD k Enc.dflt).n, (xs.getD k Enc.dflt).s], d] σ' (fun _ => False) (RetSt (NA sv) σ' ((S.getD k nilT).steps ds)) := by
    rw [e1, e2]
    exact c_l3Steps hd1 a1 a2 a3 σ' _ d (na_new hJ.so) (hs := rS) (hd := hdG)
  have hL := Tm.steps_ok hd1 a1 a2 a3
  have hLl := Tm.steps_len hd1 a3
  have hgr1 : growN ds (61 - k) (S, g) = ((lookL S ((S.getD k nilT).steps ds)).map fun y => (y.1, g ++ [tidyL y.2])).bind (growN ds (60 - k)) := by
    have : 61 - k = (60 - k) + 1 := by omega
    rw [this]; simp only [growN]; rw [if_pos (by omega)]
    simp only [grow1, hgk]
  rw [hN] at hgr1
  generalize (S.getD k nilT).steps ds = L at *
  refine hold_go ?_
  repeat' (first
    | refine wl_pop rfl (pc_ldTmC rfl inI inI (by omega) inI) ?_
    | (refine wc_callSt rfl inI rfl hcall rfl ?_; intro _ _ _ _ _ _ _)
    | (refine wc_row0 (α := Mv) inI inI rfl rfl (by decide) rfl ?_; intro _ _ _ _ _)
    | refine wl_pop rfl (pc_indexRow rfl rfl inI inI inI (by omega)) ?_
    | refine wp_seqA ?_
    | refine wp_region_seq ?_
    | refine thru_seq_next ?_
    | refine wp_blockA ?_
    | refine wl_nil ?_
    | refine wl_pop rfl (po_move rfl) ?_
    | refine wl_pop rfl (po_assign rfl) ?_
    | fail)
  rename_i u ls σ10 o10 ow10 sr10 g10 i11 σ11 g11 n11 h11
  have hll := sr10.len'
  have l11 : LeS σ' σ11 := inI
  have l010 : LeS σ σ10 := (l2.trans hJ.le).trans inI
  have hJ11 := hJ.les l11
  have l210 : σ2.length ≤ σ10.length := by have := hJ.le.len; have := g10.len; omega
  have hus : ∀ j n m, AV.sl i11 0 0 = .sl j 0 n → AV.sl j 0 m ∉ us := fun j n m e hm => by
    cases e
    have := hJ.gr.lt hm
    have := n11.le
    have := g10.len
    omega
  refine wc_loop [(1, _), (4, _), (8, _), (9, _), (10, _)] (fun x : AV × AV × AV × Nat => [(6, x.1), (7, x.2.1), (11, x.2.2.1), (12, I x.2.2.2)]) (fun x σ'' => One x.1 ∧ One x.2.1 ∧ x.2.2.2 ≤ L.length ∧ σ10.length ≤ σ''.length ∧ ∃ xs S' ms, GS σ2 σ9 σ'' i8 x.1 x.2.1 gv xs S' us g ∧ lookL S (L.take x.2.2.2) = some (S', ms) ∧ RW σ'' u ls ∧ SR (NA x.1) σ'' ls L ∧ OW σ10 σ'' x.2.2.1 ms ∧ ∀ j n m, x.2.2.1 = .sl j 0 n → AV.sl j 0 m ∉ us) (fun x => L.length - x.2.2.2) (sv, tv, .sl i11 0 0, 0) ⟨inI, inI, Nat.zero_le _, g11.len, xs, S, [], hJ11, rfl, inI, inI, ow_of_has h11 n11.le rfl (by decide), hus⟩ (by repeat' (first | exact sub_nil | refine sub_cons rfl ?_ | refine sub_int rfl (by first | rfl | omega | (push_cast; omega) | simp) ?_ | refine sub_eq rfl (by assumption) ?_)) ?_
  clear hJ hJ11 hJle hJg hi8 hgo hr1 rS hdG hcall e1 e2 o1 o2 hxl hk1 hkx hus
  clear xs
  rintro ⟨sv, tv, w, i⟩ σ'' ⟨o1, o2, hi, hlen, xs, S', ms, hJ, hlk, hru, hsr, how, hus⟩
  dsimp only at o1 o2 hi hJ hlk hsr how hus ⊢
  have hJg := hJ.le.grow
  have hi8 := hJ.hb
  have hgo := hJ.go.one
  have how1 := how.one
  obtain ⟨hS', hSS', hmsl⟩ : StOk ds S' ∧ S.length ≤ S'.length ∧ ms.length = (L.take i).length := lookL_ok hS (fun y hy => hL y (List.mem_of_mem_take hy)) hlk
  have hS'l := hS'.le
  have hml : ms.length ≤ L.length := by rw [hmsl]; exact List.length_take_le' _ _
  repeat' (first
    | refine wc_holdR 12 ?_
    | refine wl_pop rfl (pc_lenRow rfl inI inI) ?_
    | refine wp_seqA ?_
    | refine wp_region_seq ?_
    | refine thru_seq_next ?_
    | refine thru_seq ?_
    | refine exit_here ?_
    | refine wp_skipA ?_
    | refine wp_exitA ?_
    | refine wp_blockA ?_
    | refine wl_nil ?_
    | refine wl_pop rfl (po_move rfl) ?_
    | refine wl_pop rfl (po_binOp rfl rfl rfl) ?_
    | refine wp_condP rfl (fun _ => ?_) (fun _ => ?_)
    | fail)
  rotate_left
  · rename_i hi1
    obtain rfl : i = L.length := by omega
    rw [List.take_length] at hlk
    have hgo9 := hJ.go
    refine wc_drawn [5, 6, 7] mixed_ rfl ?_
    all_goals refine da_takeC 0 rfl rfl (by kernel_rfl) (by first | exact po_fieldAddr rfl inI | fail) ?_
    all_goals refine da_takeC 1 rfl rfl (by kernel_rfl) (by first | exact pc_load1L rfl inI (at_has (.inl rfl) rfl rfl) inI | fail) ?_
    all_goals refine da_takeC 2 rfl rfl (by kernel_rfl) (by first | exact po_move rfl | fail) ?_
    all_goals (first | (refine da_one 3 rfl (by kernel_rfl) (fun _ _ _ _ => ?_); (repeat' (first | (refine wc_callOW rfl inI rfl (c_l3Sorted _ _ (by omega)) rfl ?_; intro _ _ _ _ _) | fail)); all_goals (first | refine wl_nil ⟨rfl, (by first | exact LeS.len inI | exact App.len (by assumption)), ?_⟩ | trace_state)))
    all_goals (first | (refine da_one 4 rfl (by kernel_rfl) (fun _ _ _ _ => ?_); (repeat' (first | (refine wc_oneAV rfl inI inI rfl (by decide) rfl ?_; intro _ _ _ _ _) | fail)); all_goals (first | refine wl_nil ⟨rfl, (by first | exact LeS.len inI | exact App.len (by assumption)), ?_⟩ | trace_state)))
    all_goals (refine da_last 5 rfl (by decide) (by kernel_rfl) ?_; (repeat' (first | (refine wc_append1 (α := AV) (σ₀ := σ9) rfl rfl inI inI rfl (by decide) (by decide) inI inI (one_av inI) (by have := hJ.gr.len; omega) (may_ge σ9) (Nat.le_trans hJ.lb (LeS.len inI)) rfl ?_; intro _ _ _ _ _ _) | fail)); all_goals (first | refine wl_nil (dl_in ?_) | trace_state))
    all_goals (refine dl_last 6 rfl (by decide) (by kernel_rfl) ?_; (repeat' (first | refine wl_pop rfl (po_fieldAddr rfl inI) ?_ | fail)); all_goals (first | refine wl_nil (dl_in ?_) | trace_state))
    all_goals (refine dl_last 7 rfl (by decide) (by kernel_rfl) ?_; (repeat' (first | (refine wc_store1 rfl rfl inI inI inI (Nat.le_of_ble_eq_true rfl) (.inr (may_new _)) ?_; intro _ _) | fail)); all_goals (first | refine wl_nil (dl_in ?_) | trace_state))
    all_goals refine dl_done (by kernel_rfl) ?_
    repeat' (first
      | refine wp_region_seq ?_
      | refine thru_seq_next ?_
      | refine thru_block_next ?_
      | refine wl_nil ?_
      | refine wl_pop rfl (po_move rfl) ?_
      | refine wl_pop rfl (po_assign rfl) ?_
      | refine wl_pop rfl (pc_add rfl rfl (by omega) (by omega)) ?_
      | fail)
    rename_i r σ12 or12 wr12 gr12 _ _ _ _ iv σ13 g13 n13 h13 gv' σ14 happ mk14 how14 ov' σ15 u15
    rw [hlk] at hgr1
    have hG := hJ.appG (instHasUpd (g := u9)) h2i (inI : LeS σ'' σ13) (inI : OW σ'' σ13 r _) happ how14 u15
    refine ⟨(sv, tv, k + 1), by dsimp only; omega, ⟨o1, o2, gv', xs, S', us ++ [r], g ++ [tidyL ms], hG, hS', by simp; omega, by dsimp only; omega, ?_⟩, (by repeat' (first | exact sub_nil | refine sub_cons rfl ?_ | refine sub_int rfl (by first | rfl | omega | (push_cast; omega) | simp) ?_ | refine sub_eq rfl (by assumption) ?_))⟩
    dsimp only
    rw [hgr1, show 61 - (k + 1) = 60 - k by omega]
    rfl
  rename_i hi1
  have hi' : i < L.length := by omega
  have hil : i < ls.length := by omega
  obtain ⟨e1, e2, e3, rk⟩ := hsr.at hi'
  have hy := hL (L.getD i (0, nilT)) (by simp [List.getD_eq_getElem?_getD, hi'])
  have hlk1 := lookL_take (S := S) hi'
  rw [hlk] at hlk1
  generalize hyy : L.getD i (0, nilT) = y at *
  have hct : ACall Tryz.prog base F_spec_l2Text [.agg [I (ls.getD i Enc.dflt).op, I (ls.getD i Enc.dflt).n, (ls.getD i Enc.dflt).s]] σ'' (fun _ => False) (Ret σ'' (Str (ofL y.2.txt))) := by
    rw [e2, e3]
    exact c_l2Text _ hy.2.1 (by have := hy.2.2.2; omega) _ _ ⟨rk.rep.mono (fun _ _ _ h => h) (fun _ _ => trivial)⟩
  have hone : One (ls.getD i Enc.dflt).s := ⟨(ls.getD i Enc.dflt).one⟩
  have hrt : RW σ'' tv (S'.map fun u => ofL u.txt) := hJ.to.rw
  have hmapl : (S'.map fun u => ofL u.txt).length = S'.length := List.length_map _
  refine hold_go ?_
  repeat' (first
    | refine wl_pop rfl (pc_ldStT rfl inI inI (by omega) inI) ?_
    | (refine wc_callR rfl inI rfl hct rfl ?_; intro _ _)
    | refine wl_pop rfl (pc_indexRow rfl rfl inI inI inI (by omega)) ?_
    | refine wp_seqA ?_
    | refine wp_region_seq ?_
    | refine thru_seq_next ?_
    | refine wp_blockA ?_
    | refine wl_nil ?_
    | refine wl_pop rfl (po_move rfl) ?_
    | refine wl_pop rfl (po_assign rfl) ?_
    | refine wl_pop rfl (po_fieldAddr rfl inI) ?_
    | fail)
  rename_i σ12 g12
  have hbt : ∀ q, q < S'.length → (S'.map fun u => ofL u.txt)[q]? = some (ofL (S'.getD q nilT).txt) := fun q hq => by simp [List.getD_eq_getElem?_getD, hq]
  refine wc_loop [(1, _), (4, _), (6, _), (7, _), (8, _), (9, _), (10, _), (11, _), (12, _), (13, _)] (fun q : Nat => [(14, I q)]) (fun q σx => σx = σ12 ∧ q ≤ S'.length ∧ ∀ j, j < q → (S'.getD j nilT).txt ≠ y.2.txt) (fun q => S'.length - q) 0 ⟨rfl, Nat.zero_le _, fun j hj => by omega⟩ (by repeat' (first | exact sub_nil | refine sub_cons rfl ?_ | refine sub_int rfl (by first | rfl | omega | (push_cast; omega) | simp) ?_ | refine sub_eq rfl (by assumption) ?_)) ?_
  rintro q σx ⟨rfl, hq, hno⟩
  repeat' (first
    | refine wl_pop rfl (pc_ldStrE (S'.getD q nilT).txt rfl inI inI (hbt q (by omega)) inI) ?_
    | refine wl_pop rfl (pc_strNe rfl rfl) ?_
    | refine wc_holdR 16 ?_
    | refine wl_pop rfl (pc_indexRow rfl rfl inI inI inI (by omega)) ?_
    | refine wl_pop rfl (pc_lenRow rfl inI inI) ?_
    | refine wp_seqA ?_
    | refine wp_region_seq ?_
    | refine thru_seq_next ?_
    | refine thru_seq ?_
    | refine thru_block_next ?_
    | refine exit_here ?_
    | refine wp_skipA ?_
    | refine wp_exitA ?_
    | refine wp_blockA ?_
    | refine wl_nil ?_
    | refine wl_pop rfl (po_move rfl) ?_
    | refine wl_pop rfl (po_assign rfl) ?_
    | refine wl_pop rfl (pc_add rfl rfl (by omega) (by omega)) ?_
    | refine wl_pop rfl (po_binOp rfl rfl rfl) ?_
    | refine wl_pop rfl (po_pick rfl rfl) ?_
    | refine wc_guardT_true rfl rfl rfl ?_
    | refine wc_guardF_true rfl rfl rfl rfl ?_
    | refine wc_guardP_true rfl rfl rfl rfl (fun _ => ?_) (fun _ => ?_)
    | refine wp_condF rfl ?_
    | refine wp_condNP rfl (fun _ => ?_) (fun _ => ?_)
    | fail)
  · rename_i hq1 hq2
    refine ⟨q + 1, by omega, ⟨rfl, by omega, fun j hj => ?_⟩, (by repeat' (first | exact sub_nil | refine sub_cons rfl ?_ | refine sub_int rfl (by first | rfl | omega | (push_cast; omega) | simp) ?_ | refine sub_eq rfl (by assumption) ?_))⟩
    by_cases e : j = q
    · subst e; exact hq2
    · exact hno j (by omega)
  · rename_i hq1 hq2
    have hqS : q < S'.length := by omega
    have hidx : idxT S' y.2.txt = q := idxT_hit hqS hq2 hno
    have hlk2 : lookL S (L.take (i + 1)) = some (S', ms ++ [(y.1, (q : Int))]) := by
      rw [hlk1]
      simp only [Option.bind_some, look1, hidx]
      rw [if_pos hqS]
    refine hold_go ?_
    repeat' (first
      | refine wl_pop rfl (pc_ldStA rfl inI inI (by omega) inI) ?_
      | refine wl_pop rfl (pc_buildMv rfl rfl inI inI rfl) ?_
      | (refine wc_append1 (α := Mv) (σ₀ := σ10) rfl rfl inI inI rfl (by decide) (by decide) inI inI (one_mv _ _) (by omega) (may_ge σ10) (Nat.le_trans hlen (LeS.len inI)) rfl ?_; intro _ _ _ _ _ _)
      | refine wl_pop rfl (pc_indexRow rfl rfl inI inI inI (by omega)) ?_
      | refine wl_pop rfl (pc_lenRow rfl inI inI) ?_
      | refine at_ret (res_cell2 rfl rfl inI (at_has (cs := [_]) (.inl rfl) rfl rfl) rfl) ?_
      | refine wl_pop rfl (pc_build0 (cs := [_]) inI inI rfl) ?_
      | (refine wc_oneMv rfl inI inI rfl (by decide) rfl ?_; intro _ _ _ _ _)
      | refine wp_seqA ?_
      | refine wp_region_seq ?_
      | refine thru_seq_next ?_
      | refine thru_seq_ret ?_
      | refine thru_block_ret ?_
      | refine thru_block_next ?_
      | refine wp_skipA ?_
      | refine wp_retA ?_
      | refine wl_nil ?_
      | refine wl_pop rfl (po_move rfl) ?_
      | refine wl_pop rfl (po_assign rfl) ?_
      | refine wl_pop rfl (pc_add rfl rfl (by omega) (by omega)) ?_
      | refine wl_pop rfl (po_binOp rfl rfl rfl) ?_
      | refine wl_pop rfl (po_fieldAddr rfl inI) ?_
      | (refine wc_storeA rfl rfl inI inI rfl inI (Nat.le_of_ble_eq_true rfl) (.inr (may_new _)) ?_; intro _ _)
      | refine wl_pop rfl (po_pick rfl rfl) ?_
      | refine wc_guardT_false rfl rfl rfl ?_
      | refine wc_guardF_false rfl rfl rfl rfl ?_
      | refine wc_guardP_false rfl rfl rfl rfl (fun _ => ?_) (fun _ => ?_)
      | refine wp_condT rfl ?_
      | refine wp_condP rfl (fun _ => ?_) (fun _ => ?_)
      | fail)
    all_goals try (exfalso; omega)
    rename_i hq3 i13 σ13 g13 n13 h13 w' σ14 app mk how14 o14
    have hmsl2 := how14.bound
    obtain ⟨hG, hus'⟩ := (hJ.les (inI : LeS σ'' σ13)).appM l210 (how.les inI) hus app
    have kn : KN σ13 2 σ14 := app.kn (how.les (inI : LeS σ'' σ13))
    rw [e1] at how14
    exact ⟨(sv, tv, w', i + 1), by dsimp only; omega, ⟨o1, o2, by dsimp only; omega, by have := app.len; have := (inI : LeS σ'' σ13).len; omega, xs, S', _, hG, hlk2, (hru.les (inI : LeS σ'' σ13)).kn kn (by decide), (hsr.les (inI : LeS σ'' σ13)).kn kn ⟨by decide⟩, how14, hus'⟩, (by repeat' (first | exact sub_nil | refine sub_cons rfl ?_ | refine sub_int rfl (by first | rfl | omega | (push_cast; omega) | simp) ?_ | refine sub_eq rfl (by assumption) ?_))⟩
  · rename_i hq1
    obtain rfl : q = S'.length := by omega
    have hidx : idxT S' y.2.txt = S'.length := idxT_miss hno
    have hcn : ACall Tryz.prog base F_spec_l2Nodes [.agg [I (ls.getD i Enc.dflt).op, I (ls.getD i Enc.dflt).n, (ls.getD i Enc.dflt).s]] σx (fun _ => False) (Ret σx (I ((min y.2.cnt 1000 : Nat) : Int))) := by
      have hrt2 : RTs σx (ls.getD i Enc.dflt).s y.2.ps := ⟨(rk.les inI).rep.mono (fun _ _ _ h => h) (fun _ _ => trivial)⟩
      have := c_l2Nodes (base := base) y.2 σx (ls.getD i Enc.dflt).s
      rw [if_pos hy.2.1] at this
      rw [e2, e3]; exact this
    have hlkn : S'.length = 60 ∨ 24 < y.2.cnt → graphL ds t = none := by
      intro hf
      have : lookL S L = none := lookL_none (k := i + 1) (by
        rw [hlk1]
        simp only [Option.bind_some, look1, hidx]
        rw [if_neg (by omega), if_pos hf])
      rw [hgr1, this]; rfl
    refine hold_go ?_
    repeat' (first
      | refine wl_pop rfl (pc_ldStT rfl inI inI (by omega) inI) ?_
      | (refine wc_callR rfl inI rfl hcn rfl ?_; intro _ _)
      | refine wc_holdR 19 ?_
      | refine wl_pop rfl (pc_indexRow rfl rfl inI inI inI (by omega)) ?_
      | refine wl_pop rfl (pc_lenRow rfl inI inI) ?_
      | refine at_ret (res_cell2 rfl rfl inI (at_has (cs := [_]) (.inl rfl) rfl rfl) rfl) ?_
      | refine wl_pop rfl (pc_build0 (cs := [_]) inI inI rfl) ?_
      | refine wp_seqA ?_
      | refine wp_region_seq ?_
      | refine thru_seq_next ?_
      | refine thru_seq_ret ?_
      | refine thru_block_ret ?_
      | refine wp_skipA ?_
      | refine wp_retA ?_
      | refine wl_nil ?_
      | refine wl_pop rfl (po_move rfl) ?_
      | refine wl_pop rfl (po_assign rfl) ?_
      | refine wl_pop rfl (po_binOp rfl rfl rfl) ?_
      | refine wl_pop rfl (po_fieldAddr rfl inI) ?_
      | (refine wc_storeA rfl rfl inI inI rfl inI (Nat.le_of_ble_eq_true rfl) (.inr (may_new _)) ?_; intro _ _)
      | refine wl_pop rfl (po_pick rfl rfl) ?_
      | refine wc_guardT_false rfl rfl rfl ?_
      | refine wc_guardF_false rfl rfl rfl rfl ?_
      | refine wc_guardP_false rfl rfl rfl rfl (fun _ => ?_) (fun _ => ?_)
      | refine wp_condT rfl ?_
      | refine wp_condP rfl (fun _ => ?_) (fun _ => ?_)
      | fail)
    all_goals try (exfalso; omega)
    · exact ret_go_none (hlkn (.inr (by omega))) inI
    rotate_left
    · exact ret_go_none (hlkn (.inl (by omega))) inI
    rename_i hq2 hq3 σ13 g13 hq4
    have hcnt : y.2.cnt ≤ 24 := by omega
    have hlk2 : lookL S (L.take (i + 1)) = some (S' ++ [y.2], ms ++ [(y.1, (S'.length : Int))]) := by
      rw [hlk1]
      simp only [Option.bind_some, look1, hidx]
      rw [if_neg (by omega), if_neg (by omega)]
    have hJ13 := hJ.les (inI : LeS σ'' σ13)
    have hso13 := hJ13.so
    refine hold_go ?_
    repeat' (first
      | refine wl_pop rfl (pc_ldStT rfl inI inI (by omega) inI) ?_
      | (refine wc_oneTmC rfl inI inI rfl (by decide) rfl ?_; intro _ _ _ _ _)
      | (refine wc_append1 (α := TmC) (σ₀ := σ2) rfl rfl inI inI rfl (by decide) (by decide) inI inI (one_tmc _) (by have := hJ.tr.len; omega) (may_ge σ2) (Nat.le_trans hJ13.le.len (LeS.len inI)) rfl ?_; intro _ _ _ _ _ _)
      | refine wc_holdR 20 ?_
      | refine wl_pop rfl (pc_indexRow rfl rfl inI inI inI (by omega)) ?_
      | refine wp_region_seq ?_
      | refine thru_seq_next ?_
      | refine wl_nil ?_
      | refine wl_pop rfl (po_move rfl) ?_
      | refine wl_pop rfl (po_assign rfl) ?_
      | refine wl_pop rfl (po_fieldAddr rfl inI) ?_
      | fail)
    rename_i i14 σ14 g14 n14 h14 sv' σ15 appS mkS sow sone
    have hJ14 := hJ13.les (inI : LeS σ13 σ14)
    have l14 : LeS σ'' σ14 := inI
    have rk14 : RTsG (NA sv) σ14 (ls.getD i Enc.dflt).s y.2.ps := rk.les l14
    obtain ⟨b1, b2, b3, b4, b5, b6, b7⟩ := hJ14.appS appS sow (y := y.2) e2 e3 rk14
    have kn3 : KN σ14 3 σ15 := appS.kn hJ14.so
    have hru15 : RW σ15 u ls := (hru.les l14).kn kn3 (by decide)
    have hsr15 : SR (NA sv') σ15 ls L := ⟨(hsr.les l14).rep.app fun v ps hv => hv.app (α := TmC) appS⟩
    have how15 : OW σ10 σ15 w ms := (how.les l14).kn kn3 (by decide)
    have hlen15 : σ10.length ≤ σ15.length := by have := l14.len; have := appS.len; omega
    refine hold_go ?_
    repeat' (first
      | (refine wc_oneStr rfl inI inI rfl (by decide) rfl ?_; intro _ _ _ _ _)
      | (refine wc_append1 (α := ByteArray) (σ₀ := σ2) rfl rfl inI inI rfl (by decide) (by decide) inI inI (one_str _) (by omega) (may_ge σ2) (Nat.le_trans b1.len (LeS.len inI)) rfl ?_; intro _ _ _ _ _ _)
      | refine wp_region_seq ?_
      | refine thru_seq_next ?_
      | refine wl_nil ?_
      | refine wl_pop rfl (po_move rfl) ?_
      | refine wl_pop rfl (po_assign rfl) ?_
      | fail)
    rename_i i16 σ16 g16 n16 h16 tv' σ17 appT mkT tow tone
    have c1 : LeS σ15 σ16 := inI
    have kn1 : KN σ16 1 σ17 := appT.kn (b4.les c1)
    have hlen17 : σ10.length ≤ σ17.length := by have := c1.len; have := appT.len; omega
    have GS17 : GS σ2 σ9 σ17 i8 sv' tv' gv (xs ++ [⟨(ls.getD i Enc.dflt).op, (ls.getD i Enc.dflt).n, (ls.getD i Enc.dflt).s, hone.eq⟩]) (S' ++ [y.2]) us g := by
      refine ⟨appT.les (Nat.le_refl _) (b1.trans c1), by have := appT.len; have := c1.len; omega, (sow.les c1).kn kn1 (by decide), b3.app fun v ps hv => (hv.les c1).kn kn1 ⟨by decide⟩, by rw [List.map_append]; exact tow, appT.has ⟨c1.keep _ _ b5.get⟩ hJ.ni, appT.ow (b6.les c1) (fun j n m e => hJ.ne.ne j n 0 m e), (b7.les c1).kn kn1 (by decide), appT.nes (b6.les c1).rw hJ.ne, ?_⟩
      intro n e
      rcases appT.fresh with e' | ⟨j, m, e', hj⟩
      · exact hJ.ni n (by rw [← e']; exact e)
      · rw [e'] at e; cases e
        have := b5.lt
        have := c1.len
        omega
    have how17 : OW σ10 σ17 w ms := (how15.les c1).kn kn1 (by decide)
    have hru17 : RW σ17 u ls := (hru15.les c1).kn kn1 (by decide)
    have hsr17 : SR (NA sv') σ17 ls L := (hsr15.les c1).kn kn1 ⟨by decide⟩
    repeat' (first
      | refine wl_pop rfl (pc_ldStA rfl inI inI (by omega) inI) ?_
      | refine wl_pop rfl (pc_buildMv rfl rfl inI inI rfl) ?_
      | (refine wc_append1 (α := Mv) (σ₀ := σ10) rfl rfl inI inI rfl (by decide) (by decide) inI inI (one_mv _ _) (by omega) (may_ge σ10) (Nat.le_trans hlen17 (LeS.len inI)) rfl ?_; intro _ _ _ _ _ _)
      | refine wl_pop rfl (pc_indexRow rfl rfl inI inI inI (by omega)) ?_
      | (refine wc_oneMv rfl inI inI rfl (by decide) rfl ?_; intro _ _ _ _ _)
      | refine wp_region_seq ?_
      | refine thru_seq_next ?_
      | refine thru_block_next ?_
      | refine wl_nil ?_
      | refine wl_pop rfl (po_move rfl) ?_
      | refine wl_pop rfl (po_assign rfl) ?_
      | refine wl_pop rfl (pc_add rfl rfl (by omega) (by omega)) ?_
      | refine wl_pop rfl (po_fieldAddr rfl inI) ?_
      | fail)
    rename_i i18 σ18 g18 n18 h18 w' σ19 appM mkM how19 o19
    have c2 : LeS σ17 σ18 := inI
    obtain ⟨hG, hus'⟩ := (GS17.les c2).appM l210 (how17.les c2) hus appM
    have kn2 : KN σ18 2 σ19 := appM.kn (how17.les c2)
    rw [e1] at how19
    exact ⟨(sv', tv', w', i + 1), by dsimp only; omega, ⟨sone, tone, by dsimp only; omega, by have := appM.len; have := c2.len; omega, _, _, _, hG, hlk2, (hru17.les c2).kn kn2 (by decide), (hsr17.les c2).kn kn2 ⟨by decide⟩, how19, hus'⟩, (by repeat' (first | exact sub_nil | refine sub_cons rfl ?_ | refine sub_int rfl (by first | rfl | omega | (push_cast; omega) | simp) ?_ | refine sub_eq rfl (by assumption) ?_))⟩
def fitsO (ds : List Tm) (t : Tm) : Bool := defsOk ds && t.fits ds.length
theorem c_sGraphOf (t : Tm) (ds : List Tm) (σ : Store) (s d : AV) [hs : RTs σ s t.ps] [hd : RTs σ d ds] : ACall Tryz.prog base F_spec_GraphOf [.agg [I t.op, I t.n, s], d] σ (fun _ => False) (RetGO σ (graphO ds t)) := by
  have := hs.one
  have := hd.one
  by_cases h : (defsOk ds && t.fits ds.length) = true
  · have hO : graphO ds t = graphL ds t := by unfold graphO; rw [if_pos h]
    simp only [Bool.and_eq_true] at h
    obtain ⟨a1, a2, a3⟩ := fits_get h.2
    have h' : (defsOk ds && t.fits ds.length) = true := by simp [h.1, h.2]
    rw [hO]
    refine acall2 fun_spec_GraphOf rfl tmps_spec_GraphOf rfl fun N B w₀ ρ₀ => ?_
    repeat' (first
      | (refine wc_callR rfl inI rfl (h' ▸ c_l3Asked t ds _ _ _) rfl ?_; intro _ _)
      | (refine wc_callGO rfl inI rfl (c_l3Graph t ds h.1 a1 a2 a3 _ _ _) rfl ?_; intro _ _ _ _ _ _ _)
      | refine at_ret (res_cell2 rfl rfl inI (at_has (cs := [_]) (.inl rfl) rfl rfl) rfl) ?_
      | refine wp_seqA ?_
      | refine wp_region_seq ?_
      | refine thru_seq_next ?_
      | refine wp_skipA ?_
      | refine wp_retA ?_
      | refine wl_nil ?_
      | refine wl_pop rfl (po_move rfl) ?_
      | refine wl_pop rfl (po_assign rfl) ?_
      | refine wc_loadn rfl inI (at_has (cs := [_, _, _]) (.inl rfl) rfl rfl) rfl ?_
      | refine wl_pop rfl (po_not rfl) ?_
      | (refine wc_storeA rfl rfl inI inI rfl inI (Nat.le_of_ble_eq_true rfl) (.inr (may_new _)) ?_; intro _ _)
      | refine wl_pop rfl (po_extract rfl rfl) ?_
      | (refine wc_boxA rfl inI rfl ?_; intro _ _ _ _ _)
      | (refine wc_allocA (cs := [_]) inI rfl inI rfl ?_; intro _ _ _ _ _)
      | refine wp_condF rfl ?_
      | fail)
    rename_i i1 σ1 g1 n1 h1 i2 σ2 g2 n2 h2 σ3 g3 u us σ4 o4 ow4 or4 g4 σ5 u5
    have l3 : LeS σ σ3 := inI
    have l5 : LeS σ σ5 := inI
    exact ⟨u, us, rfl, (inI : OW σ3 σ5 u us).down l3.len, (inI : ORs σ3 σ5 us ((graphL ds t).getD [])).down l3.len, l5.grow⟩
  · have hO : graphO ds t = none := by unfold graphO; rw [if_neg h]
    have h' : (defsOk ds && t.fits ds.length) = false := by simpa using h
    rw [hO]
    refine acall2 fun_spec_GraphOf rfl tmps_spec_GraphOf rfl fun N B w₀ ρ₀ => ?_
    repeat' (first
      | (refine wc_callR rfl inI rfl (h' ▸ c_l3Asked t ds _ _ _) rfl ?_; intro _ _)
      | refine at_ret (res_cell2 rfl rfl inI (at_has (cs := [_]) (.inl rfl) rfl rfl) rfl) ?_
      | refine wl_pop rfl (pc_build0 (cs := [_]) inI inI rfl) ?_
      | refine wp_seqA ?_
      | refine wp_region_seq ?_
      | refine thru_seq_next ?_
      | refine thru_seq_ret ?_
      | refine wp_retA ?_
      | refine wl_nil ?_
      | refine wl_pop rfl (po_move rfl) ?_
      | refine wl_pop rfl (po_assign rfl) ?_
      | refine wc_loadn rfl inI (at_has (cs := [_, _, _]) (.inl rfl) rfl rfl) rfl ?_
      | refine wl_pop rfl (po_not rfl) ?_
      | (refine wc_storeA rfl rfl inI inI rfl inI (Nat.le_of_ble_eq_true rfl) (.inr (may_new _)) ?_; intro _ _)
      | (refine wc_boxA rfl inI rfl ?_; intro _ _ _ _ _)
      | (refine wc_allocA (cs := [_]) inI rfl inI rfl ?_; intro _ _ _ _ _)
      | refine wp_condT rfl ?_
      | fail)
    exact ret_go_none rfl inI
end
end Go.Proofs.YthbodgnoadlbcaaGreatDoor.Asl
