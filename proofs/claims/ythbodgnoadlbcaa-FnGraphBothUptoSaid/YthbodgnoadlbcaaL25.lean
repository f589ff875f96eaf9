/- Several texts in one. -/
import Derived.Test.YthbodgnoadlbcaaM2
import Derived.Test.YthbodgnoadlbcaaK6
import Derived.Test.YthbodgnoadlbcaaS6
import Derived.Test.YthbodgnoadlbcaaG6
import Derived.Test.YthbodgnoadlbcaaPP
import Derived.Test.YthbodgnoadlbcaaK22
import Derived.Test.YthbodgnoadlbcaaG7
/- The drawn laws' helper on the first states of two graphs. -/
namespace Go.Proofs.Ythbodgnoadlbcaa.Asl
open Go.RowKit Go.Proofs.YthbodgnoadlbcaaW.PrintLast
set_option linter.unusedVariables false
set_option linter.unusedSimpArgs false
attribute [local irreducible] WP WL andThen inBlock noGoto atEnd ACall DA DL PO Hold
set_option maxHeartbeats 4000000
set_option synthInstance.maxHeartbeats 400000
set_option synthInstance.maxSize 10000
theorem optB_pos {α : Type} {p : Prop} {x : α} (h : p) : optB p x = some x := by
  unfold optB; rw [prB_true h]
theorem optB_neg {α : Type} {p : Prop} {x : α} (h : ¬ p) : optB p x = none := by
  unfold optB; rw [prB_false h]
theorem both_lim {a b : Gr} (ha : ∀ k, (a.getD k []).length < 4294967296) (hb : ∀ k, (b.getD k []).length < 4294967296) : ∀ k, ((bothL a b).getD k []).length < 4294967296 := by
  intro k
  rcases Nat.lt_or_ge k a.length with h | h
  · have := both_row_lt (b := b) h
    unfold rowOf at this
    rw [this]; exact ha k
  · have := both_row_ge a b (k - a.length)
    rw [show a.length + (k - a.length) = k by omega] at this
    unfold rowOf at this
    rw [this, List.length_map]; exact hb _
end Go.Proofs.Ythbodgnoadlbcaa.Asl

/- The drawn law FnGraphBoth. -/
namespace Go.Proofs.Ythbodgnoadlbcaa.Asl
open Go.RowKit Go.Proofs.YthbodgnoadlbcaaW.PrintLast
set_option linter.unusedVariables false
set_option linter.unusedSimpArgs false
attribute [local irreducible] WP WL andThen inBlock noGoto atEnd ACall DA DL PO Hold
set_option maxHeartbeats 4000000
set_option synthInstance.maxHeartbeats 400000
set_option synthInstance.maxSize 10000
section
variable {α : Type} [Enc α] {E : Env} {ops : Array Oper} {l : List Oper} {Q : Exit → Slots → Store → Prop} {S : Slots} {σ : Store} {d : Option Tmp} {ty : TypeId} {pos : String} {af : Array Edge} {x y : Operand}
/-- A call that gives a row of its own that is not empty: its value and its object spelt out. -/
theorem wc_callOWh {args : Array Operand} {ats : Array TypeId} {f : FuncId} {rs caps : List AV} {L : List α} (hf : S.ev x = some (.fn f caps)) (hc : Callable E.P f) (hargs : evs S args.toList = some rs)
    (h : ACall E.P E.base f (rs ++ caps) σ (fun _ => False) (RetOW σ L)) (hne : L ≠ []) (hd : okd E d = true) (k : ∀ id σ', Has σ' id (Row L) → L.length ≤ 4294967296 → Grow σ σ' → WL E ops l Q (S.put d (.sl id 0 L.length)) σ') :
    WL E ops (⟨d, .call ⟨.value x, args, ats⟩, ty, pos, af, none⟩ :: l) Q S σ :=
  wc_callOW hf hc hargs h hd fun u σ' _ how hg => by
    have hb := how.bound
    rcases how.rep with ⟨e, _⟩ | ⟨id, rfl, _, hh⟩
    · exact absurd e hne
    · exact k id σ' hh hb hg
end
theorem getD_take {α : Type} {l : List α} {k n : Nat} {d : α} (h : k < n) : (l.take n).getD k d = l.getD k d := by
  simp [List.getD_eq_getElem?_getD, List.getElem?_take, h]
theorem getD_drop {α : Type} {l : List α} {k n : Nat} {d : α} : (l.drop n).getD k d = l.getD (n + k) d := by
  simp [List.getD_eq_getElem?_getD]
theorem lim_ofT {g : Gr} (h : ∀ l ∈ g, l.length ≤ 331776) : ∀ k, (g.getD k []).length < 4294967296 := fun k => Nat.lt_of_le_of_lt (getD_all (p := fun (l : List Mv) => l.length ≤ 331776) h (by simp) k) (by decide)
theorem row_take {σ : Store} {i n : Nat} {L : List Nat} (h : Has σ i (Row L)) (hn : n ≤ L.length) (hb : L.length ≤ 4294967296) : RW σ (.sl i 0 n) (L.take n) :=
  ⟨by rw [List.length_take]; omega, .inr ⟨i, 0, _, by rw [List.length_take, Nat.min_eq_left hn], h.get, .inr rfl, rfl, fun k x hx => by
    have hk : L[k]? = some x := by
      rw [List.getElem?_take] at hx
      split at hx
      · exact hx
      · cases hx
    rw [cut_cutL, Nat.zero_add]; exact rowCells_cut hk⟩⟩
theorem row_drop {σ : Store} {i n : Nat} {L : List Nat} (h : Has σ i (Row L)) (hn : n ≤ L.length) (hb : L.length ≤ 4294967296) : RW σ (.sl i (0 + n * 1) (L.length - n)) (L.drop n) :=
  ⟨by rw [List.length_drop]; omega, .inr ⟨i, 0 + n * 1, _, by rw [List.length_drop], h.get, .inr rfl, rfl, fun k x hx => by
    have hk : L[n + k]? = some x := by rw [List.getElem?_drop] at hx; exact hx
    rw [cut_cutL]
    have e : 0 + n * 1 + k * Enc.e Nat = (n + k) * Enc.e Nat := by show 0 + n * 1 + k * 1 = (n + k) * 1; omega
    rw [e]
    exact rowCells_cut hk⟩⟩
theorem finer_both {a b : Gr} (ha : GOk a) (hb : GOk b) (h60 : a.length + b.length ≤ 60) :
    Finer ((lastC (bothL a b)).take a.length) (lastC a) ∧ Finer (lastC a) ((lastC (bothL a b)).take a.length) ∧ Finer ((lastC (bothL a b)).drop a.length) (lastC b) ∧ Finer (lastC b) ((lastC (bothL a b)).drop a.length) := by
  have h1 := lastC_len (bothL a b)
  rw [both_len] at h1
  have h2 := lastC_len a
  have h3 := lastC_len b
  have t1 : ((lastC (bothL a b)).take a.length).length = a.length := by rw [List.length_take]; omega
  have t2 : ((lastC (bothL a b)).drop a.length).length = b.length := by rw [List.length_drop]; omega
  refine ⟨⟨by omega, fun s t hs ht e => ?_⟩, ⟨by omega, fun s t hs ht e => ?_⟩, ⟨by omega, fun s t hs ht e => ?_⟩, ⟨by omega, fun s t hs ht e => ?_⟩⟩
  · rw [getD_take (by omega), getD_take (by omega)] at e
    exact (both_left ha hb h60 (by omega) (by omega)).mp e
  · rw [getD_take (by omega), getD_take (by omega)]
    exact (both_left ha hb h60 (by omega) (by omega)).mpr e
  · rw [getD_drop, getD_drop] at e
    exact (both_right ha hb h60 (by omega) (by omega)).mp e
  · rw [getD_drop, getD_drop]
    exact (both_right ha hb h60 (by omega) (by omega)).mpr e
section
variable {base : Nat}
theorem c_FnGraphBoth (b : AV) (gb : List UInt8) (σ : Store) [hs : RW σ b gb] : ACall Try.prog base F_laws_FnGraphBoth [b] σ (fun _ => False) (Ret σ (Bo true)) := by
  have := hs.one
  refine acall1 fun_laws_FnGraphBoth rfl tmps_laws_FnGraphBoth rfl fun N B w₀ ρ₀ => ?_
  repeat' (first
    | refine wl_pop rfl (pc_lenRow rfl hs inferInstance) ?_
    | (refine wc_callTw rfl inferInstance rfl (c_DrawGraphBoth b gb _ (by omega)) rfl ?_; intro _ _ _ _ _ _ _ _ _ _ _ _ _ _)
    | refine wc_holdR 4 ?_
    | refine wp_seqA ?_
    | refine wp_region_seq ?_
    | refine thru_seq_next ?_
    | refine thru_seq_ret ?_
    | refine wp_skipA ?_
    | refine wp_retA ?_
    | refine wl_nil ?_
    | refine wl_pop rfl (po_move rfl) ?_
    | refine wl_pop rfl (po_assign rfl) ?_
    | refine wl_pop rfl (po_binOp rfl rfl rfl) ?_
    | (refine wc_storeA rfl rfl inferInstance inferInstance rfl inferInstance (Nat.le_of_ble_eq_true rfl) (.inr (may_new _)) ?_; intro _ _)
    | refine wl_pop rfl (po_extract rfl rfl) ?_
    | (refine wc_allocA (cs := [_]) inferInstance rfl inferInstance rfl ?_; intro _ _ _ _ _)
    | refine wp_condP rfl (fun _ => ?_) (fun _ => ?_)
    | refine at_ret (res1 rfl rfl) ?_
    | exact ret_ inferInstance rfl
    | fail)
  rename_i hlen u us g u' us' g' σ1 ou ou' ng ng' hgb hgb' g1 i2 σ2 g2 n2 h2 i3 σ3 g3 n3 h3 σ4 u4 σ5 u5
  refine hold_go ?_
  have l5 : LeS σ σ5 := inferInstance
  have y1 := n2.le
  have y2 := n3.le
  have y3 := g2.len
  have k15 : ∀ (x : Nat) (o : Ob), x < σ1.length → σ1[x]? = some o → σ5[x]? = some o := fun x o hx ho => by
    rw [u5.eq, List.getElem?_set_ne (by omega), u4.eq, List.getElem?_set_ne (by omega)]; exact g3.keep x o (g2.keep x o ho)
  have y4 := h2.lt
  have hi2 : Has σ5 i2 ⟨.own, 1, [u], []⟩ := ⟨by rw [u5.eq, List.getElem?_set_ne (by omega)]; exact (instHasUpd (g := u4) : Has σ4 i2 ⟨.own, 1, [u], []⟩).get⟩
  have hi3 : Has σ5 i3 ⟨.own, 1, [u'], []⟩ := instHasUpd (g := u5)
  have ng5 : NG σ σ5 u us g := ng.keep fun x o hx ho => k15 x o (Has.lt ⟨ho⟩) ho
  have ng5' : NG σ σ5 u' us' g' := ng'.keep fun x o hx ho => k15 x o (Has.lt ⟨ho⟩) ho
  have rw5 : RW σ5 u us := inferInstance
  have rw5' : RW σ5 u' us' := inferInstance
  have rr5 : RRs σ5 us g := ng5.rrs
  have rr5' : RRs σ5 us' g' := ng5'.rrs
  have hgl := rr5.len
  have hub := rw5.bound
  have hlimA := lim_ofT hgb
  have hlimB := lim_ofT hgb'
  clear ng ng' ng5 ng5' u4 u5 n2 n3 h2 h3
  by_cases hB : GOk g ∧ GOk g' ∧ g.length + g'.length ≤ 60
  · have eB := optB_pos (x := bothL g g') hB
    have hbok := both_ok hB.1 hB.2.1 hB.2.2
    have eC : (optB (GOk (bothL g g')) (lastC (bothL g g'))).getD [] = lastC (bothL g g') := by rw [optB_pos hbok]; rfl
    have eA : (optB (GOk g) (lastC g)).getD [] = lastC g := by rw [optB_pos hB.1]; rfl
    have eD : (optB (GOk g') (lastC g')).getD [] = lastC g' := by rw [optB_pos hB.2.1]; rfl
    have hcl := lastC_len (bothL g g')
    rw [both_len] at hcl
    have hp1 := hB.1.pos
    have hp2 := hB.2.1.pos
    have hbl := both_lim hlimA hlimB
    obtain ⟨f1, f2, f3, f4⟩ := finer_both hB.1 hB.2.1 hB.2.2
    have hne : lastC (bothL g g') ≠ [] := by intro e; rw [e] at hcl; simp only [List.length_nil] at hcl; omega
    repeat' (first
      | (refine wc_callGO rfl inferInstance rfl (eB ▸ c_GraphBoth _ _ _ (a := g) (b := g')) rfl ?_; intro _ _ _ _ _ _ _)
      | (refine wc_callGO rfl inferInstance rfl (eB ▸ c_sGraphBoth _ _ _ (a := g) (b := g')) rfl ?_; intro _ _ _ _ _ _ _)
      | refine wc_holdR 6 ?_
      | refine wc_loadn rfl inferInstance (at_has (cs := [_]) (.inl rfl) rfl rfl) rfl ?_
      | refine wp_seqA ?_
      | refine wp_region_seq ?_
      | refine thru_seq_next ?_
      | refine wl_nil ?_
      | refine wl_pop rfl (po_move rfl) ?_
      | refine wl_pop rfl (po_assign rfl) ?_
      | (refine wc_storeA rfl rfl inferInstance inferInstance rfl inferInstance (Nat.le_of_ble_eq_true rfl) (.inr (may_new _)) ?_; intro _ _)
      | refine wl_pop rfl (po_extract rfl rfl) ?_
      | (refine wc_allocA (cs := [_]) inferInstance rfl inferInstance rfl ?_; intro _ _ _ _ _)
      | fail)
    rename_i v vs σ6 ov ow6 or6 g6 i7 σ7 g7 n7 h7 σ8 u8 v' vs' σ9 ov' ow9 or9 g9 i10 σ10 g10 n10 h10 σ11 u11
    have rF6 : RRs σ6 vs (bothL g g') := or6.rrs
    have rF9 : RRs σ9 vs' (bothL g g') := or9.rrs
    have h8 : Has σ8 i7 ⟨.own, 1, [v], []⟩ := instHasUpd (g := u8)
    have h11 : Has σ11 i10 ⟨.own, 1, [v'], []⟩ := instHasUpd (g := u11)
    have rFa : RRs σ11 vs (bothL g g') := inferInstance
    have rFb : RRs σ11 vs' (bothL g g') := inferInstance
    have rwa : RW σ11 v vs := inferInstance
    have rwb : RW σ11 v' vs' := inferInstance
    have rg : RRs σ11 us g := inferInstance
    have rg' : RRs σ11 us' g' := inferInstance
    have rwu : RW σ11 u us := inferInstance
    have rwu' : RW σ11 u' us' := inferInstance
    have l11 : LeS σ σ11 := inferInstance
    have h7a : Has σ11 i7 ⟨.own, 1, [v], []⟩ := inferInstance
    have hi2a : Has σ11 i2 ⟨.own, 1, [u], []⟩ := inferInstance
    have hi3a : Has σ11 i3 ⟨.own, 1, [u'], []⟩ := inferInstance
    clear u8 u11 n7 n10 h7 h10 h8 rF6 rF9
    refine hold_go ?_
    repeat' (first
      | (refine wc_callR rfl inferInstance rfl (c_mnGraphR (g := bothL g g') _ _ _) rfl ?_; intro _ _)
      | refine wc_holdR 10 ?_
      | refine wc_loadn rfl inferInstance (at_has (cs := [_]) (.inl rfl) rfl rfl) rfl ?_
      | refine wp_seqA ?_
      | refine wp_region_seq ?_
      | refine thru_seq_next ?_
      | refine wp_skipA ?_
      | refine wl_nil ?_
      | refine wl_pop rfl (po_move rfl) ?_
      | refine wl_pop rfl (pc_boolNeSelf rfl rfl inferInstance) ?_
      | refine wl_pop rfl (po_not rfl) ?_
      | refine wl_pop rfl (po_pick rfl rfl) ?_
      | refine wc_guardT_false rfl rfl rfl ?_
      | refine wp_condF rfl ?_
      | fail)
    rename_i σ12 g12
    have rwv12 : RW σ12 v vs := inferInstance
    have rrv12 : RRs σ12 vs (bothL g g') := inferInstance
    refine hold_go ?_
    repeat' (first
      | (refine wc_callOWh rfl inferInstance rfl (eC ▸ c_AlikeClasses _ v hbl) hne rfl ?_; intro _ _ _ _ _)
      | refine wc_holdR 11 ?_
      | refine wc_loadn rfl inferInstance (at_has (cs := [_]) (.inl rfl) rfl rfl) rfl ?_
      | refine wp_seqA ?_
      | refine wp_region_seq ?_
      | refine thru_seq_next ?_
      | refine wl_nil ?_
      | refine wl_pop rfl (po_assign rfl) ?_
      | fail)
    rename_i id σ13 hC hcb g13
    have rwu13 : RW σ13 u us := inferInstance
    have rT := row_take hC (n := g.length) (by omega) hcb
    have rD := row_drop hC (n := g.length) (by omega) hcb
    rw [← hgl] at rT rD f1 f2 f3 f4
    have hc1 : us.length < (lastC (bothL g g')).length := by omega
    refine hold_go ?_
    repeat' (first
      | refine wl_pop rfl (pc_lenRow rfl (rwu.les inferInstance) inferInstance) ?_
      | refine wc_holdR 12 ?_
      | refine wp_seqA ?_
      | refine wp_region_seq ?_
      | refine thru_seq_next ?_
      | refine wl_nil ?_
      | refine wl_pop rfl (po_assign rfl) ?_
      | refine wl_pop rfl (po_fieldAddr rfl inferInstance) ?_
      | refine wc_load1 rfl inferInstance (at_has (.inl rfl) rfl rfl) rfl ?_
      | fail)
    refine hold_go ?_
    refine wc_drawn [] mixed_ rfl ?_
    all_goals refine da_takeC 0 rfl rfl (by kernel_rfl) (by first | exact po_move rfl | fail) ?_
    all_goals refine da_takeC 1 rfl rfl (by kernel_rfl) (by first | exact po_move rfl | fail) ?_
    all_goals refine da_takeC 2 rfl rfl (by kernel_rfl) (by first | exact pc_sliceHi rfl rfl inferInstance inferInstance inferInstance (.inr rfl) rfl (Nat.le_of_lt hc1) | fail) ?_
    all_goals refine da_takeC 3 rfl rfl (by kernel_rfl) (by first | exact pc_loadnL rfl inferInstance (at_has (cs := [_]) (.inl rfl) rfl rfl) inferInstance | fail) ?_
    all_goals (first | (refine da_one 4 rfl (by kernel_rfl) (fun _ _ _ _ => ?_); (repeat' (first | (refine wc_callOW rfl inferInstance rfl (eA ▸ c_AlikeClasses _ u hlimA) rfl ?_; intro _ _ _ _ _) | fail)); all_goals (first | refine wl_nil ⟨rfl, (by first | exact LeS.len inferInstance | exact App.len (by assumption)), ?_⟩ | trace_state)))
    all_goals (first | (refine da_one 5 rfl (by kernel_rfl) (fun _ _ _ _ => ?_); (repeat' (first | (refine wc_callR rfl inferInstance rfl (c_mnFinerR _ _ _ (by assumption)) rfl ?_; intro _ _) | fail)); all_goals (first | refine wl_nil ⟨rfl, (by first | exact LeS.len inferInstance | exact App.len (by assumption)), ?_⟩ | trace_state)))
    all_goals refine da_takeC 6 rfl rfl (by kernel_rfl) (by first | exact po_move rfl | fail) ?_
    all_goals (first | refine da_onC 7 rfl rfl rfl rfl rfl (by kernel_rfl) (by first | exact pc_loadnL rfl inferInstance (at_has (cs := [_]) (.inl rfl) rfl rfl) inferInstance | fail) ?_ | refine da_offC 7 rfl rfl rfl rfl rfl rfl (by kernel_rfl) ?_ | refine da_offU 7 rfl rfl rfl rfl rfl (by kernel_rfl) ?_ | ((first | refine da_caseP (t := 53) rfl (fun _ => ?_) (fun _ => ?_) | refine da_caseNP (t := 53) rfl (fun _ => ?_) (fun _ => ?_) | refine da_caseEq (t := 53) rfl (fun _ => ?_) (fun _ => ?_) | refine da_caseNe (t := 53) rfl (fun _ => ?_) (fun _ => ?_) | refine da_caseNB (t := 53) rfl (fun _ => ?_) (fun _ => ?_) | refine da_case (t := 53) rfl (fun _ => ?_) (fun _ => ?_)) <;> (first | refine da_onC 7 rfl rfl rfl rfl rfl (by kernel_rfl) (by first | exact pc_loadnL rfl inferInstance (at_has (cs := [_]) (.inl rfl) rfl rfl) inferInstance | fail) ?_ | refine da_offC 7 rfl rfl rfl rfl rfl rfl (by kernel_rfl) ?_ | refine da_offU 7 rfl rfl rfl rfl rfl (by kernel_rfl) ?_)))
    all_goals (first | refine da_onC 9 rfl rfl rfl rfl rfl (by kernel_rfl) (by first | exact po_move rfl | fail) ?_ | refine da_offC 9 rfl rfl rfl rfl rfl rfl (by kernel_rfl) ?_ | refine da_offU 9 rfl rfl rfl rfl rfl (by kernel_rfl) ?_ | ((first | refine da_caseP (t := 53) rfl (fun _ => ?_) (fun _ => ?_) | refine da_caseNP (t := 53) rfl (fun _ => ?_) (fun _ => ?_) | refine da_caseEq (t := 53) rfl (fun _ => ?_) (fun _ => ?_) | refine da_caseNe (t := 53) rfl (fun _ => ?_) (fun _ => ?_) | refine da_caseNB (t := 53) rfl (fun _ => ?_) (fun _ => ?_) | refine da_case (t := 53) rfl (fun _ => ?_) (fun _ => ?_)) <;> (first | refine da_onC 9 rfl rfl rfl rfl rfl (by kernel_rfl) (by first | exact po_move rfl | fail) ?_ | refine da_offC 9 rfl rfl rfl rfl rfl rfl (by kernel_rfl) ?_ | refine da_offU 9 rfl rfl rfl rfl rfl (by kernel_rfl) ?_)))
    all_goals (first | refine da_onC 10 rfl rfl rfl rfl rfl (by kernel_rfl) (by first | exact po_move rfl | fail) ?_ | refine da_offC 10 rfl rfl rfl rfl rfl rfl (by kernel_rfl) ?_ | refine da_offU 10 rfl rfl rfl rfl rfl (by kernel_rfl) ?_ | ((first | refine da_caseP (t := 53) rfl (fun _ => ?_) (fun _ => ?_) | refine da_caseNP (t := 53) rfl (fun _ => ?_) (fun _ => ?_) | refine da_caseEq (t := 53) rfl (fun _ => ?_) (fun _ => ?_) | refine da_caseNe (t := 53) rfl (fun _ => ?_) (fun _ => ?_) | refine da_caseNB (t := 53) rfl (fun _ => ?_) (fun _ => ?_) | refine da_case (t := 53) rfl (fun _ => ?_) (fun _ => ?_)) <;> (first | refine da_onC 10 rfl rfl rfl rfl rfl (by kernel_rfl) (by first | exact po_move rfl | fail) ?_ | refine da_offC 10 rfl rfl rfl rfl rfl rfl (by kernel_rfl) ?_ | refine da_offU 10 rfl rfl rfl rfl rfl (by kernel_rfl) ?_)))
    all_goals (first | refine da_onC 11 rfl rfl rfl rfl rfl (by kernel_rfl) (by first | exact pc_sliceHi rfl rfl inferInstance inferInstance inferInstance (.inr rfl) rfl (Nat.le_of_lt hc1) | fail) ?_ | refine da_offC 11 rfl rfl rfl rfl rfl rfl (by kernel_rfl) ?_ | refine da_offU 11 rfl rfl rfl rfl rfl (by kernel_rfl) ?_ | ((first | refine da_caseP (t := 53) rfl (fun _ => ?_) (fun _ => ?_) | refine da_caseNP (t := 53) rfl (fun _ => ?_) (fun _ => ?_) | refine da_caseEq (t := 53) rfl (fun _ => ?_) (fun _ => ?_) | refine da_caseNe (t := 53) rfl (fun _ => ?_) (fun _ => ?_) | refine da_caseNB (t := 53) rfl (fun _ => ?_) (fun _ => ?_) | refine da_case (t := 53) rfl (fun _ => ?_) (fun _ => ?_)) <;> (first | refine da_onC 11 rfl rfl rfl rfl rfl (by kernel_rfl) (by first | exact pc_sliceHi rfl rfl inferInstance inferInstance inferInstance (.inr rfl) rfl (Nat.le_of_lt hc1) | fail) ?_ | refine da_offC 11 rfl rfl rfl rfl rfl rfl (by kernel_rfl) ?_ | refine da_offU 11 rfl rfl rfl rfl rfl (by kernel_rfl) ?_)))
    all_goals (first | refine da_offC 8 rfl rfl rfl rfl rfl rfl (by kernel_rfl) ?_ | refine da_offU 8 rfl rfl rfl rfl rfl (by kernel_rfl) ?_ | (refine da_one 8 rfl (by kernel_rfl) (fun _ _ _ _ => ?_); (repeat' (first | (refine wc_callOW rfl inferInstance rfl (eA ▸ c_AlikeClasses _ u hlimA) rfl ?_; intro _ _ _ _ _) | refine wc_guardT_true rfl rfl rfl ?_ | fail)); all_goals (first | refine wl_nil ⟨rfl, (by first | exact LeS.len inferInstance | exact App.len (by assumption)), ?_⟩ | trace_state)) | ((first | refine da_caseP (t := 53) rfl (fun _ => ?_) (fun _ => ?_) | refine da_caseNP (t := 53) rfl (fun _ => ?_) (fun _ => ?_) | refine da_caseEq (t := 53) rfl (fun _ => ?_) (fun _ => ?_) | refine da_caseNe (t := 53) rfl (fun _ => ?_) (fun _ => ?_) | refine da_caseNB (t := 53) rfl (fun _ => ?_) (fun _ => ?_) | refine da_case (t := 53) rfl (fun _ => ?_) (fun _ => ?_)) <;> (first | refine da_offC 8 rfl rfl rfl rfl rfl rfl (by kernel_rfl) ?_ | refine da_offU 8 rfl rfl rfl rfl rfl (by kernel_rfl) ?_ | (refine da_one 8 rfl (by kernel_rfl) (fun _ _ _ _ => ?_); (repeat' (first | (refine wc_callOW rfl inferInstance rfl (eA ▸ c_AlikeClasses _ u hlimA) rfl ?_; intro _ _ _ _ _) | refine wc_guardT_true rfl rfl rfl ?_ | fail)); all_goals (first | refine wl_nil ⟨rfl, (by first | exact LeS.len inferInstance | exact App.len (by assumption)), ?_⟩ | trace_state)))))
    all_goals (first | refine da_offC 12 rfl rfl rfl rfl rfl rfl (by kernel_rfl) ?_ | refine da_offU 12 rfl rfl rfl rfl rfl (by kernel_rfl) ?_ | (refine da_one 12 rfl (by kernel_rfl) (fun _ _ _ _ => ?_); (repeat' (first | (refine wc_callR rfl inferInstance rfl (c_mnFinerR _ _ _ (by assumption)) rfl ?_; intro _ _) | refine wc_guardT_true rfl rfl rfl ?_ | fail)); all_goals (first | refine wl_nil ⟨rfl, (by first | exact LeS.len inferInstance | exact App.len (by assumption)), ?_⟩ | trace_state)) | ((first | refine da_caseP (t := 53) rfl (fun _ => ?_) (fun _ => ?_) | refine da_caseNP (t := 53) rfl (fun _ => ?_) (fun _ => ?_) | refine da_caseEq (t := 53) rfl (fun _ => ?_) (fun _ => ?_) | refine da_caseNe (t := 53) rfl (fun _ => ?_) (fun _ => ?_) | refine da_caseNB (t := 53) rfl (fun _ => ?_) (fun _ => ?_) | refine da_case (t := 53) rfl (fun _ => ?_) (fun _ => ?_)) <;> (first | refine da_offC 12 rfl rfl rfl rfl rfl rfl (by kernel_rfl) ?_ | refine da_offU 12 rfl rfl rfl rfl rfl (by kernel_rfl) ?_ | (refine da_one 12 rfl (by kernel_rfl) (fun _ _ _ _ => ?_); (repeat' (first | (refine wc_callR rfl inferInstance rfl (c_mnFinerR _ _ _ (by assumption)) rfl ?_; intro _ _) | refine wc_guardT_true rfl rfl rfl ?_ | fail)); all_goals (first | refine wl_nil ⟨rfl, (by first | exact LeS.len inferInstance | exact App.len (by assumption)), ?_⟩ | trace_state)))))
    all_goals refine da_takeC 13 rfl rfl (by kernel_rfl) (by first | exact po_pick rfl rfl | fail) ?_
    all_goals refine da_takeC 14 rfl rfl (by kernel_rfl) (by first | exact po_move rfl | fail) ?_
    all_goals (first | refine da_onC 15 rfl rfl rfl rfl rfl (by kernel_rfl) (by first | exact po_move rfl | fail) ?_ | refine da_offC 15 rfl rfl rfl rfl rfl rfl (by kernel_rfl) ?_ | refine da_offU 15 rfl rfl rfl rfl rfl (by kernel_rfl) ?_ | ((first | refine da_caseP (t := 61) rfl (fun _ => ?_) (fun _ => ?_) | refine da_caseNP (t := 61) rfl (fun _ => ?_) (fun _ => ?_) | refine da_caseEq (t := 61) rfl (fun _ => ?_) (fun _ => ?_) | refine da_caseNe (t := 61) rfl (fun _ => ?_) (fun _ => ?_) | refine da_caseNB (t := 61) rfl (fun _ => ?_) (fun _ => ?_) | refine da_case (t := 61) rfl (fun _ => ?_) (fun _ => ?_)) <;> (first | refine da_onC 15 rfl rfl rfl rfl rfl (by kernel_rfl) (by first | exact po_move rfl | fail) ?_ | refine da_offC 15 rfl rfl rfl rfl rfl rfl (by kernel_rfl) ?_ | refine da_offU 15 rfl rfl rfl rfl rfl (by kernel_rfl) ?_)))
    all_goals (first | refine da_onC 16 rfl rfl rfl rfl rfl (by kernel_rfl) (by first | exact po_move rfl | fail) ?_ | refine da_offC 16 rfl rfl rfl rfl rfl rfl (by kernel_rfl) ?_ | refine da_offU 16 rfl rfl rfl rfl rfl (by kernel_rfl) ?_ | ((first | refine da_caseP (t := 61) rfl (fun _ => ?_) (fun _ => ?_) | refine da_caseNP (t := 61) rfl (fun _ => ?_) (fun _ => ?_) | refine da_caseEq (t := 61) rfl (fun _ => ?_) (fun _ => ?_) | refine da_caseNe (t := 61) rfl (fun _ => ?_) (fun _ => ?_) | refine da_caseNB (t := 61) rfl (fun _ => ?_) (fun _ => ?_) | refine da_case (t := 61) rfl (fun _ => ?_) (fun _ => ?_)) <;> (first | refine da_onC 16 rfl rfl rfl rfl rfl (by kernel_rfl) (by first | exact po_move rfl | fail) ?_ | refine da_offC 16 rfl rfl rfl rfl rfl rfl (by kernel_rfl) ?_ | refine da_offU 16 rfl rfl rfl rfl rfl (by kernel_rfl) ?_)))
    all_goals (first | refine da_onC 17 rfl rfl rfl rfl rfl (by kernel_rfl) (by first | exact pc_sliceLo rfl rfl inferInstance inferInstance inferInstance (.inr rfl) rfl hc1 | fail) ?_ | refine da_offC 17 rfl rfl rfl rfl rfl rfl (by kernel_rfl) ?_ | refine da_offU 17 rfl rfl rfl rfl rfl (by kernel_rfl) ?_ | ((first | refine da_caseP (t := 61) rfl (fun _ => ?_) (fun _ => ?_) | refine da_caseNP (t := 61) rfl (fun _ => ?_) (fun _ => ?_) | refine da_caseEq (t := 61) rfl (fun _ => ?_) (fun _ => ?_) | refine da_caseNe (t := 61) rfl (fun _ => ?_) (fun _ => ?_) | refine da_caseNB (t := 61) rfl (fun _ => ?_) (fun _ => ?_) | refine da_case (t := 61) rfl (fun _ => ?_) (fun _ => ?_)) <;> (first | refine da_onC 17 rfl rfl rfl rfl rfl (by kernel_rfl) (by first | exact pc_sliceLo rfl rfl inferInstance inferInstance inferInstance (.inr rfl) rfl hc1 | fail) ?_ | refine da_offC 17 rfl rfl rfl rfl rfl rfl (by kernel_rfl) ?_ | refine da_offU 17 rfl rfl rfl rfl rfl (by kernel_rfl) ?_)))
    all_goals (first | refine da_onC 18 rfl rfl rfl rfl rfl (by kernel_rfl) (by first | exact pc_loadnL rfl inferInstance (at_has (cs := [_]) (.inl rfl) rfl rfl) inferInstance | fail) ?_ | refine da_offC 18 rfl rfl rfl rfl rfl rfl (by kernel_rfl) ?_ | refine da_offU 18 rfl rfl rfl rfl rfl (by kernel_rfl) ?_ | ((first | refine da_caseP (t := 61) rfl (fun _ => ?_) (fun _ => ?_) | refine da_caseNP (t := 61) rfl (fun _ => ?_) (fun _ => ?_) | refine da_caseEq (t := 61) rfl (fun _ => ?_) (fun _ => ?_) | refine da_caseNe (t := 61) rfl (fun _ => ?_) (fun _ => ?_) | refine da_caseNB (t := 61) rfl (fun _ => ?_) (fun _ => ?_) | refine da_case (t := 61) rfl (fun _ => ?_) (fun _ => ?_)) <;> (first | refine da_onC 18 rfl rfl rfl rfl rfl (by kernel_rfl) (by first | exact pc_loadnL rfl inferInstance (at_has (cs := [_]) (.inl rfl) rfl rfl) inferInstance | fail) ?_ | refine da_offC 18 rfl rfl rfl rfl rfl rfl (by kernel_rfl) ?_ | refine da_offU 18 rfl rfl rfl rfl rfl (by kernel_rfl) ?_)))
    all_goals (first | refine da_offC 19 rfl rfl rfl rfl rfl rfl (by kernel_rfl) ?_ | refine da_offU 19 rfl rfl rfl rfl rfl (by kernel_rfl) ?_ | (refine da_one 19 rfl (by kernel_rfl) (fun _ _ _ _ => ?_); (repeat' (first | (refine wc_callOW rfl inferInstance rfl (eD ▸ c_AlikeClasses _ u' hlimB) rfl ?_; intro _ _ _ _ _) | refine wc_guardT_true rfl rfl rfl ?_ | fail)); all_goals (first | refine wl_nil ⟨rfl, (by first | exact LeS.len inferInstance | exact App.len (by assumption)), ?_⟩ | trace_state)) | ((first | refine da_caseP (t := 61) rfl (fun _ => ?_) (fun _ => ?_) | refine da_caseNP (t := 61) rfl (fun _ => ?_) (fun _ => ?_) | refine da_caseEq (t := 61) rfl (fun _ => ?_) (fun _ => ?_) | refine da_caseNe (t := 61) rfl (fun _ => ?_) (fun _ => ?_) | refine da_caseNB (t := 61) rfl (fun _ => ?_) (fun _ => ?_) | refine da_case (t := 61) rfl (fun _ => ?_) (fun _ => ?_)) <;> (first | refine da_offC 19 rfl rfl rfl rfl rfl rfl (by kernel_rfl) ?_ | refine da_offU 19 rfl rfl rfl rfl rfl (by kernel_rfl) ?_ | (refine da_one 19 rfl (by kernel_rfl) (fun _ _ _ _ => ?_); (repeat' (first | (refine wc_callOW rfl inferInstance rfl (eD ▸ c_AlikeClasses _ u' hlimB) rfl ?_; intro _ _ _ _ _) | refine wc_guardT_true rfl rfl rfl ?_ | fail)); all_goals (first | refine wl_nil ⟨rfl, (by first | exact LeS.len inferInstance | exact App.len (by assumption)), ?_⟩ | trace_state)))))
    all_goals (first | refine da_offC 20 rfl rfl rfl rfl rfl rfl (by kernel_rfl) ?_ | refine da_offU 20 rfl rfl rfl rfl rfl (by kernel_rfl) ?_ | (refine da_one 20 rfl (by kernel_rfl) (fun _ _ _ _ => ?_); (repeat' (first | (refine wc_callR rfl inferInstance rfl (c_mnFinerR _ _ _ (by assumption)) rfl ?_; intro _ _) | refine wc_guardT_true rfl rfl rfl ?_ | fail)); all_goals (first | refine wl_nil ⟨rfl, (by first | exact LeS.len inferInstance | exact App.len (by assumption)), ?_⟩ | trace_state)) | ((first | refine da_caseP (t := 61) rfl (fun _ => ?_) (fun _ => ?_) | refine da_caseNP (t := 61) rfl (fun _ => ?_) (fun _ => ?_) | refine da_caseEq (t := 61) rfl (fun _ => ?_) (fun _ => ?_) | refine da_caseNe (t := 61) rfl (fun _ => ?_) (fun _ => ?_) | refine da_caseNB (t := 61) rfl (fun _ => ?_) (fun _ => ?_) | refine da_case (t := 61) rfl (fun _ => ?_) (fun _ => ?_)) <;> (first | refine da_offC 20 rfl rfl rfl rfl rfl rfl (by kernel_rfl) ?_ | refine da_offU 20 rfl rfl rfl rfl rfl (by kernel_rfl) ?_ | (refine da_one 20 rfl (by kernel_rfl) (fun _ _ _ _ => ?_); (repeat' (first | (refine wc_callR rfl inferInstance rfl (c_mnFinerR _ _ _ (by assumption)) rfl ?_; intro _ _) | refine wc_guardT_true rfl rfl rfl ?_ | fail)); all_goals (first | refine wl_nil ⟨rfl, (by first | exact LeS.len inferInstance | exact App.len (by assumption)), ?_⟩ | trace_state)))))
    all_goals refine da_takeC 21 rfl rfl (by kernel_rfl) (by first | exact po_pick rfl rfl | fail) ?_
    all_goals refine da_takeC 22 rfl rfl (by kernel_rfl) (by first | exact po_move rfl | fail) ?_
    all_goals (first | refine da_onC 23 rfl rfl rfl rfl rfl (by kernel_rfl) (by first | exact pc_loadnL rfl inferInstance (at_has (cs := [_]) (.inl rfl) rfl rfl) inferInstance | fail) ?_ | refine da_offC 23 rfl rfl rfl rfl rfl rfl (by kernel_rfl) ?_ | refine da_offU 23 rfl rfl rfl rfl rfl (by kernel_rfl) ?_ | ((first | refine da_caseP (t := 69) rfl (fun _ => ?_) (fun _ => ?_) | refine da_caseNP (t := 69) rfl (fun _ => ?_) (fun _ => ?_) | refine da_caseEq (t := 69) rfl (fun _ => ?_) (fun _ => ?_) | refine da_caseNe (t := 69) rfl (fun _ => ?_) (fun _ => ?_) | refine da_caseNB (t := 69) rfl (fun _ => ?_) (fun _ => ?_) | refine da_case (t := 69) rfl (fun _ => ?_) (fun _ => ?_)) <;> (first | refine da_onC 23 rfl rfl rfl rfl rfl (by kernel_rfl) (by first | exact pc_loadnL rfl inferInstance (at_has (cs := [_]) (.inl rfl) rfl rfl) inferInstance | fail) ?_ | refine da_offC 23 rfl rfl rfl rfl rfl rfl (by kernel_rfl) ?_ | refine da_offU 23 rfl rfl rfl rfl rfl (by kernel_rfl) ?_)))
    all_goals (first | refine da_onC 25 rfl rfl rfl rfl rfl (by kernel_rfl) (by first | exact po_move rfl | fail) ?_ | refine da_offC 25 rfl rfl rfl rfl rfl rfl (by kernel_rfl) ?_ | refine da_offU 25 rfl rfl rfl rfl rfl (by kernel_rfl) ?_ | ((first | refine da_caseP (t := 69) rfl (fun _ => ?_) (fun _ => ?_) | refine da_caseNP (t := 69) rfl (fun _ => ?_) (fun _ => ?_) | refine da_caseEq (t := 69) rfl (fun _ => ?_) (fun _ => ?_) | refine da_caseNe (t := 69) rfl (fun _ => ?_) (fun _ => ?_) | refine da_caseNB (t := 69) rfl (fun _ => ?_) (fun _ => ?_) | refine da_case (t := 69) rfl (fun _ => ?_) (fun _ => ?_)) <;> (first | refine da_onC 25 rfl rfl rfl rfl rfl (by kernel_rfl) (by first | exact po_move rfl | fail) ?_ | refine da_offC 25 rfl rfl rfl rfl rfl rfl (by kernel_rfl) ?_ | refine da_offU 25 rfl rfl rfl rfl rfl (by kernel_rfl) ?_)))
    all_goals (first | refine da_onC 26 rfl rfl rfl rfl rfl (by kernel_rfl) (by first | exact po_move rfl | fail) ?_ | refine da_offC 26 rfl rfl rfl rfl rfl rfl (by kernel_rfl) ?_ | refine da_offU 26 rfl rfl rfl rfl rfl (by kernel_rfl) ?_ | ((first | refine da_caseP (t := 69) rfl (fun _ => ?_) (fun _ => ?_) | refine da_caseNP (t := 69) rfl (fun _ => ?_) (fun _ => ?_) | refine da_caseEq (t := 69) rfl (fun _ => ?_) (fun _ => ?_) | refine da_caseNe (t := 69) rfl (fun _ => ?_) (fun _ => ?_) | refine da_caseNB (t := 69) rfl (fun _ => ?_) (fun _ => ?_) | refine da_case (t := 69) rfl (fun _ => ?_) (fun _ => ?_)) <;> (first | refine da_onC 26 rfl rfl rfl rfl rfl (by kernel_rfl) (by first | exact po_move rfl | fail) ?_ | refine da_offC 26 rfl rfl rfl rfl rfl rfl (by kernel_rfl) ?_ | refine da_offU 26 rfl rfl rfl rfl rfl (by kernel_rfl) ?_)))
    all_goals (first | refine da_onC 27 rfl rfl rfl rfl rfl (by kernel_rfl) (by first | exact pc_sliceLo rfl rfl inferInstance inferInstance inferInstance (.inr rfl) rfl hc1 | fail) ?_ | refine da_offC 27 rfl rfl rfl rfl rfl rfl (by kernel_rfl) ?_ | refine da_offU 27 rfl rfl rfl rfl rfl (by kernel_rfl) ?_ | ((first | refine da_caseP (t := 69) rfl (fun _ => ?_) (fun _ => ?_) | refine da_caseNP (t := 69) rfl (fun _ => ?_) (fun _ => ?_) | refine da_caseEq (t := 69) rfl (fun _ => ?_) (fun _ => ?_) | refine da_caseNe (t := 69) rfl (fun _ => ?_) (fun _ => ?_) | refine da_caseNB (t := 69) rfl (fun _ => ?_) (fun _ => ?_) | refine da_case (t := 69) rfl (fun _ => ?_) (fun _ => ?_)) <;> (first | refine da_onC 27 rfl rfl rfl rfl rfl (by kernel_rfl) (by first | exact pc_sliceLo rfl rfl inferInstance inferInstance inferInstance (.inr rfl) rfl hc1 | fail) ?_ | refine da_offC 27 rfl rfl rfl rfl rfl rfl (by kernel_rfl) ?_ | refine da_offU 27 rfl rfl rfl rfl rfl (by kernel_rfl) ?_)))
    all_goals (first | refine da_offC 24 rfl rfl rfl rfl rfl rfl (by kernel_rfl) ?_ | refine da_offU 24 rfl rfl rfl rfl rfl (by kernel_rfl) ?_ | (refine da_one 24 rfl (by kernel_rfl) (fun _ _ _ _ => ?_); (repeat' (first | (refine wc_callOW rfl inferInstance rfl (eD ▸ c_AlikeClasses _ u' hlimB) rfl ?_; intro _ _ _ _ _) | refine wc_guardT_true rfl rfl rfl ?_ | fail)); all_goals (first | refine wl_nil ⟨rfl, (by first | exact LeS.len inferInstance | exact App.len (by assumption)), ?_⟩ | trace_state)) | ((first | refine da_caseP (t := 69) rfl (fun _ => ?_) (fun _ => ?_) | refine da_caseNP (t := 69) rfl (fun _ => ?_) (fun _ => ?_) | refine da_caseEq (t := 69) rfl (fun _ => ?_) (fun _ => ?_) | refine da_caseNe (t := 69) rfl (fun _ => ?_) (fun _ => ?_) | refine da_caseNB (t := 69) rfl (fun _ => ?_) (fun _ => ?_) | refine da_case (t := 69) rfl (fun _ => ?_) (fun _ => ?_)) <;> (first | refine da_offC 24 rfl rfl rfl rfl rfl rfl (by kernel_rfl) ?_ | refine da_offU 24 rfl rfl rfl rfl rfl (by kernel_rfl) ?_ | (refine da_one 24 rfl (by kernel_rfl) (fun _ _ _ _ => ?_); (repeat' (first | (refine wc_callOW rfl inferInstance rfl (eD ▸ c_AlikeClasses _ u' hlimB) rfl ?_; intro _ _ _ _ _) | refine wc_guardT_true rfl rfl rfl ?_ | fail)); all_goals (first | refine wl_nil ⟨rfl, (by first | exact LeS.len inferInstance | exact App.len (by assumption)), ?_⟩ | trace_state)))))
    all_goals (first | refine da_offC 28 rfl rfl rfl rfl rfl rfl (by kernel_rfl) ?_ | refine da_offU 28 rfl rfl rfl rfl rfl (by kernel_rfl) ?_ | (refine da_one 28 rfl (by kernel_rfl) (fun _ _ _ _ => ?_); (repeat' (first | (refine wc_callR rfl inferInstance rfl (c_mnFinerR _ _ _ (by assumption)) rfl ?_; intro _ _) | refine wc_guardT_true rfl rfl rfl ?_ | fail)); all_goals (first | refine wl_nil ⟨rfl, (by first | exact LeS.len inferInstance | exact App.len (by assumption)), ?_⟩ | trace_state)) | ((first | refine da_caseP (t := 69) rfl (fun _ => ?_) (fun _ => ?_) | refine da_caseNP (t := 69) rfl (fun _ => ?_) (fun _ => ?_) | refine da_caseEq (t := 69) rfl (fun _ => ?_) (fun _ => ?_) | refine da_caseNe (t := 69) rfl (fun _ => ?_) (fun _ => ?_) | refine da_caseNB (t := 69) rfl (fun _ => ?_) (fun _ => ?_) | refine da_case (t := 69) rfl (fun _ => ?_) (fun _ => ?_)) <;> (first | refine da_offC 28 rfl rfl rfl rfl rfl rfl (by kernel_rfl) ?_ | refine da_offU 28 rfl rfl rfl rfl rfl (by kernel_rfl) ?_ | (refine da_one 28 rfl (by kernel_rfl) (fun _ _ _ _ => ?_); (repeat' (first | (refine wc_callR rfl inferInstance rfl (c_mnFinerR _ _ _ (by assumption)) rfl ?_; intro _ _) | refine wc_guardT_true rfl rfl rfl ?_ | fail)); all_goals (first | refine wl_nil ⟨rfl, (by first | exact LeS.len inferInstance | exact App.len (by assumption)), ?_⟩ | trace_state)))))
    all_goals refine da_takeC 29 rfl rfl (by kernel_rfl) (by first | exact po_pick rfl rfl | fail) ?_
    all_goals refine da_takeC 30 rfl rfl (by kernel_rfl) (by first | exact po_assign rfl | fail) ?_
    all_goals refine da_done (by kernel_rfl) ?_
    repeat' (first
      | refine thru_seq_next ?_
      | refine wp_retA ?_
      | refine at_ret (res1 rfl rfl) ?_
      | exact ret_ inferInstance rfl
      | fail)
  · have eB := optB_neg (x := bothL g g') hB
    repeat' (first
      | (refine wc_callGO rfl inferInstance rfl (eB ▸ c_GraphBoth _ _ _ (a := g) (b := g')) rfl ?_; intro _ _ _ _ _ _ _)
      | (refine wc_callGO rfl inferInstance rfl (eB ▸ c_sGraphBoth _ _ _ (a := g) (b := g')) rfl ?_; intro _ _ _ _ _ _ _)
      | refine wc_holdR 6 ?_
      | refine wc_loadn rfl inferInstance (at_has (cs := [_]) (.inl rfl) rfl rfl) rfl ?_
      | refine wp_seqA ?_
      | refine wp_region_seq ?_
      | refine thru_seq_next ?_
      | refine wl_nil ?_
      | refine wl_pop rfl (po_move rfl) ?_
      | refine wl_pop rfl (po_assign rfl) ?_
      | (refine wc_storeA rfl rfl inferInstance inferInstance rfl inferInstance (Nat.le_of_ble_eq_true rfl) (.inr (may_new _)) ?_; intro _ _)
      | refine wl_pop rfl (po_extract rfl rfl) ?_
      | (refine wc_allocA (cs := [_]) inferInstance rfl inferInstance rfl ?_; intro _ _ _ _ _)
      | fail)
    rename_i v vs σ6 ov ow6 or6 g6 i7 σ7 g7 n7 h7 σ8 u8 v' vs' σ9 ov' ow9 or9 g9 i10 σ10 g10 n10 h10 σ11 u11
    have rF6 : RRs σ6 vs ([] : Gr) := or6.rrs
    have rF9 : RRs σ9 vs' ([] : Gr) := or9.rrs
    have h8 : Has σ8 i7 ⟨.own, 1, [v], []⟩ := instHasUpd (g := u8)
    have h11 : Has σ11 i10 ⟨.own, 1, [v'], []⟩ := instHasUpd (g := u11)
    have rFa : RRs σ11 vs ([] : Gr) := inferInstance
    have rFb : RRs σ11 vs' ([] : Gr) := inferInstance
    have rwa : RW σ11 v vs := inferInstance
    have rwb : RW σ11 v' vs' := inferInstance
    have l11 : LeS σ σ11 := inferInstance
    have h7a : Has σ11 i7 ⟨.own, 1, [v], []⟩ := inferInstance
    clear u8 u11 n7 n10 h7 h10 h8 rF6 rF9
    refine hold_go ?_
    repeat' (first
      | (refine wc_callR rfl inferInstance rfl (c_mnGraphR (g := ([] : Gr)) _ _ _) rfl ?_; intro _ _)
      | refine wc_loadn rfl inferInstance (at_has (cs := [_]) (.inl rfl) rfl rfl) rfl ?_
      | refine wp_seqA ?_
      | refine wp_region_seq ?_
      | refine thru_seq_next ?_
      | refine thru_seq_ret ?_
      | refine wp_skipA ?_
      | refine wp_retA ?_
      | refine wl_nil ?_
      | refine wl_pop rfl (po_move rfl) ?_
      | refine wl_pop rfl (po_assign rfl) ?_
      | refine wl_pop rfl (pc_boolNeSelf rfl rfl inferInstance) ?_
      | refine wl_pop rfl (po_not rfl) ?_
      | refine wl_pop rfl (po_pick rfl rfl) ?_
      | refine wc_guardT_false rfl rfl rfl ?_
      | refine wp_condT rfl ?_
      | refine wp_condF rfl ?_
      | refine at_ret (res1 rfl rfl) ?_
      | exact ret_ inferInstance rfl
      | fail)
end
end Go.Proofs.Ythbodgnoadlbcaa.Asl
