/- The law FnExactGraphBoth: a walk. -/
import Derived.Test.YtemhpkfijoodkaaG7
import Derived.Test.YtemhpkfijoodkaaG5
import Derived.Test.YtemhpkfijoodkaaPP
import Derived.Test.YtemhpkfijoodkaaB7
namespace Go.Proofs.Ytemhpkfijoodkaa.Asl
open Go.RowKit Go.Proofs.YtemhpkfijoodkaaW.PrintLast
set_option linter.unusedVariables false
set_option linter.unusedSimpArgs false
attribute [local irreducible] WP WL andThen inBlock noGoto atEnd ACall DA DL PO Hold
set_option maxHeartbeats 4000000
set_option synthInstance.maxHeartbeats 400000
set_option synthInstance.maxSize 10000
theorem total_small {g : Gr} (h : g.length ≤ 1048576 ∧ ∀ l ∈ g, l.length ≤ 1048576) : totalG g ≤ 1099511627776 := by
  have := totalG_bound h.2
  have := Nat.mul_le_mul_right 1048576 h.1
  omega
section
variable {α : Type} [Enc α] {E : Env} {ops : Array Oper} {l : List Oper} {Q : Exit → Slots → Store → Prop} {S : Slots} {σ : Store} {d : Option Tmp} {ty : TypeId} {pos : String} {af : Array Edge} {x y : Operand}
/-- A call that marks rows that lie between two stores; the slice that holds them stays. -/
theorem wc_callMkR2 {args : Array Operand} {ats : Array TypeId} {f : FuncId} {rs caps : List AV} {s : AV} {ss : List AV} {r : Int} {g g' : List (List α)} (σa σb : Store) (hf : S.ev x = some (.fn f caps)) (hc : Callable E.P f) (hargs : evs S args.toList = some rs)
    (hne : Enc.e AV ≠ Enc.e α) (how : OW σa σ s ss) (hg : ORs σa σ ss g') (hb : ORs σa σb ss g') (h : ACall E.P E.base f (rs ++ caps) σ (fun j => ∃ n, AV.sl j 0 n ∈ ss) (RetMarkR σa σ ss r g)) (hm : ∀ i, σa.length ≤ i → E.may i) (hd : okd E d = true)
    (k : ∀ σ', Mk σ σa σb σ' → OW σa σ' s ss → ORs σa σ' ss g → WL E ops l Q (S.put d (I r)) σ') :
    WL E ops (⟨d, .call ⟨.value x, args, ats⟩, ty, pos, af, none⟩ :: l) Q S σ :=
  wl_call hf hc hargs h (fun i ⟨n, hi⟩ => by
    obtain ⟨h1, l', h2⟩ := hg.has hi
    exact ⟨hm i h1, _, h2.get, .inl rfl⟩) hd fun r' σ' hK => by
    obtain ⟨e, h1, _, h3⟩ := hK
    subst e
    exact k σ' ⟨fun j o hj => h3 j o (fun n hn => by
      have h4 := (hg.has hn).1
      have h5 := hb.lt hn
      omega)⟩ (how.keep fun j o _ ⟨n, e⟩ ho => h3 j o (fun m hm => ors_ne_of_esz how hg hne j n m e hm) ho) h1
end
theorem c_FnExactGraphBoth {base : Nat} (σ : Store) (s s' : AV) {ss ss' : List AV} {a b : Gr} (ha : a.length ≤ 1048576 ∧ ∀ l ∈ a, l.length ≤ 1048576) (hb : b.length ≤ 1048576 ∧ ∀ l ∈ b, l.length ≤ 1048576) [hs : RW σ s ss] [hg : RRs σ ss a] [hs' : RW σ s' ss'] [hg' : RRs σ ss' b] :
    ACall Try.prog base F_laws_FnExactGraphBoth [.agg [s], .agg [s']] σ (fun _ => False) (Ret σ (Bo true)) := by
  have := hs.one
  have := hs'.one
  have hta := total_small ha
  have htb := total_small hb
  generalize ho : optB (GOk a ∧ GOk b ∧ a.length + b.length ≤ 60) (bothL a b) = o
  have hto : totalG (o.getD []) ≤ 2199023255552 := by
    subst ho
    unfold optB
    split
    · simp only [Option.getD_some]
      have : totalG (bothL a b) = totalG a + totalG b := by
        unfold totalG bothL
        rw [List.map_append, List.sum_append, List.map_map]
        congr 2
        apply List.map_congr_left
        intro l _; simp
      omega
    · simp [totalG]
  refine acall2 fun_laws_FnExactGraphBoth rfl tmps_laws_FnExactGraphBoth rfl fun N B w₀ ρ₀ => ?_
  repeat' (first
    | (refine wc_callI rfl inferInstance rfl (c_szGraph _ _ _) rfl ?_; intro _ _ _)
    | refine wc_holdR 8 ?_
    | refine wc_loadn rfl inferInstance (at_has (cs := [_]) (.inl rfl) rfl rfl) rfl ?_
    | refine wp_seqA ?_
    | refine wp_region_seq ?_
    | refine thru_seq_next ?_
    | refine thru_seq_ret ?_
    | refine wp_skipA ?_
    | refine wp_retA ?_
    | refine wl_nil ?_
    | refine wl_pop rfl (po_move rfl) ?_
    | refine wl_pop rfl (po_assign rfl) ?_
    | refine wl_pop rfl (po_binOp rfl rfl rfl) ?_
    | (refine wc_boxA rfl inferInstance rfl ?_; intro _ _ _ _ _)
    | refine wp_condP rfl (fun _ => ?_) (fun _ => ?_)
    | refine at_ret (res1 rfl rfl) ?_
    | exact ret_ inferInstance rfl
    | fail)
  rename_i i1 σ1 g1 n1 h1 i2 σ2 g2 n2 h2 z1 σ3 g3 hz1 z2 σ4 g4 hz2
  refine wc_cut (ι := Nat) [(2, .pt i1 0), (3, .pt i2 0)] (fun i => [(6, .pt i 0), (7, Bo o.isSome)]) (fun i σ' => LeS σ4 σ' ∧ σ4.length ≤ i ∧ ∃ u us, Has σ' i ⟨.own, 1, [u], []⟩ ∧ OW σ4 σ' u us ∧ ORs σ4 σ' us (o.getD [])) ?_ ?_
  · skip
    refine wc_drawn [9, 10] mixed_ rfl ?_
    all_goals refine da_takeC 0 rfl rfl (by kernel_rfl) (by first | exact pc_loadnL rfl inferInstance (at_has (cs := [_]) (.inl rfl) rfl rfl) inferInstance | fail) ?_
    all_goals refine da_takeC 2 rfl rfl (by kernel_rfl) (by first | exact pc_loadnL rfl inferInstance (at_has (cs := [_]) (.inl rfl) rfl rfl) inferInstance | fail) ?_
    all_goals (first | (refine da_one 1 rfl (by decide +kernel) (fun _ _ _ _ => ?_); (repeat' (first | (refine wc_callG rfl inferInstance rfl (c_toGraph _ _) rfl ?_; intro _ _ _ _ _ _ _) | fail)); all_goals (first | refine wl_nil ⟨rfl, (by first | exact LeS.len inferInstance | exact App.len (by assumption)), ?_⟩ | trace_state)) | (refine da_two 1 8 rfl rfl (by decide +kernel) (fun _ _ _ _ => ?_) (fun _ _ _ _ => ?_); (focus ((repeat' (first | (refine wc_callG rfl inferInstance rfl (c_toGraph _ _) rfl ?_; intro _ _ _ _ _ _ _) | fail)); all_goals (first | refine wl_nil ⟨rfl, (by first | exact LeS.len inferInstance | exact App.len (by assumption)), ?_⟩ | trace_state); first | (refine da_one 1 rfl (by decide +kernel) (fun _ _ _ _ => ?_); (repeat' (first | (refine wc_callG rfl inferInstance rfl (c_toGraph _ _) rfl ?_; intro _ _ _ _ _ _ _) | fail)); all_goals (first | refine wl_nil ⟨rfl, (by first | exact LeS.len inferInstance | exact App.len (by assumption)), ?_⟩ | trace_state)) | skip)); rotate_right; (focus ((repeat' (first | (refine wc_allocA (cs := [_]) inferInstance rfl inferInstance rfl ?_; intro _ _ _ _ _) | fail)); all_goals (first | refine wl_nil ⟨rfl, (by first | exact LeS.len inferInstance | exact App.len (by assumption)), ?_⟩ | trace_state); first | (refine da_one 1 rfl (by decide +kernel) (fun _ _ _ _ => ?_); (repeat' (first | (refine wc_callG rfl inferInstance rfl (c_toGraph _ _) rfl ?_; intro _ _ _ _ _ _ _) | fail)); all_goals (first | refine wl_nil ⟨rfl, (by first | exact LeS.len inferInstance | exact App.len (by assumption)), ?_⟩ | trace_state)) | skip))))
    all_goals (first | (refine da_one 3 rfl (by decide +kernel) (fun _ _ _ _ => ?_); (repeat' (first | (refine wc_callG rfl inferInstance rfl (c_toGraph _ _) rfl ?_; intro _ _ _ _ _ _ _) | fail)); all_goals (first | refine wl_nil ⟨rfl, (by first | exact LeS.len inferInstance | exact App.len (by assumption)), ?_⟩ | trace_state)) | (refine da_two 3 8 rfl rfl (by decide +kernel) (fun _ _ _ _ => ?_) (fun _ _ _ _ => ?_); (focus ((repeat' (first | (refine wc_callG rfl inferInstance rfl (c_toGraph _ _) rfl ?_; intro _ _ _ _ _ _ _) | fail)); all_goals (first | refine wl_nil ⟨rfl, (by first | exact LeS.len inferInstance | exact App.len (by assumption)), ?_⟩ | trace_state); first | (refine da_one 3 rfl (by decide +kernel) (fun _ _ _ _ => ?_); (repeat' (first | (refine wc_callG rfl inferInstance rfl (c_toGraph _ _) rfl ?_; intro _ _ _ _ _ _ _) | fail)); all_goals (first | refine wl_nil ⟨rfl, (by first | exact LeS.len inferInstance | exact App.len (by assumption)), ?_⟩ | trace_state)) | skip)); rotate_right; (focus ((repeat' (first | (refine wc_allocA (cs := [_]) inferInstance rfl inferInstance rfl ?_; intro _ _ _ _ _) | fail)); all_goals (first | refine wl_nil ⟨rfl, (by first | exact LeS.len inferInstance | exact App.len (by assumption)), ?_⟩ | trace_state); first | (refine da_one 3 rfl (by decide +kernel) (fun _ _ _ _ => ?_); (repeat' (first | (refine wc_callG rfl inferInstance rfl (c_toGraph _ _) rfl ?_; intro _ _ _ _ _ _ _) | fail)); all_goals (first | refine wl_nil ⟨rfl, (by first | exact LeS.len inferInstance | exact App.len (by assumption)), ?_⟩ | trace_state)) | skip))))
    all_goals (first | (refine da_one 4 rfl (by decide +kernel) (fun _ _ _ _ => ?_); (repeat' (first | (refine wc_callGO rfl inferInstance rfl (ho ▸ c_sGraphBoth _ _ _) rfl ?_; intro _ _ _ _ _ _ _) | fail)); all_goals (first | refine wl_nil ⟨rfl, (by first | exact LeS.len inferInstance | exact App.len (by assumption)), ?_⟩ | trace_state)) | (refine da_two 4 8 rfl rfl (by decide +kernel) (fun _ _ _ _ => ?_) (fun _ _ _ _ => ?_); (focus ((repeat' (first | (refine wc_callGO rfl inferInstance rfl (ho ▸ c_sGraphBoth _ _ _) rfl ?_; intro _ _ _ _ _ _ _) | fail)); all_goals (first | refine wl_nil ⟨rfl, (by first | exact LeS.len inferInstance | exact App.len (by assumption)), ?_⟩ | trace_state); first | (refine da_one 4 rfl (by decide +kernel) (fun _ _ _ _ => ?_); (repeat' (first | (refine wc_callGO rfl inferInstance rfl (ho ▸ c_sGraphBoth _ _ _) rfl ?_; intro _ _ _ _ _ _ _) | fail)); all_goals (first | refine wl_nil ⟨rfl, (by first | exact LeS.len inferInstance | exact App.len (by assumption)), ?_⟩ | trace_state)) | skip)); rotate_right; (focus ((repeat' (first | (refine wc_allocA (cs := [_]) inferInstance rfl inferInstance rfl ?_; intro _ _ _ _ _) | fail)); all_goals (first | refine wl_nil ⟨rfl, (by first | exact LeS.len inferInstance | exact App.len (by assumption)), ?_⟩ | trace_state); first | (refine da_one 4 rfl (by decide +kernel) (fun _ _ _ _ => ?_); (repeat' (first | (refine wc_callGO rfl inferInstance rfl (ho ▸ c_sGraphBoth _ _ _) rfl ?_; intro _ _ _ _ _ _ _) | fail)); all_goals (first | refine wl_nil ⟨rfl, (by first | exact LeS.len inferInstance | exact App.len (by assumption)), ?_⟩ | trace_state)) | skip))))
    all_goals refine da_takeC 5 rfl rfl (by kernel_rfl) (by first | exact po_move rfl | fail) ?_
    all_goals refine da_takeC 6 rfl rfl (by kernel_rfl) (by first | exact po_extract rfl rfl | fail) ?_
    all_goals refine da_extract 7 rfl rfl (by kernel_rfl) rfl rfl ?_
    all_goals (first | (refine da_one 8 rfl (by decide +kernel) (fun _ _ _ _ => ?_); (repeat' (first | (refine wc_allocA (cs := [_]) inferInstance rfl inferInstance rfl ?_; intro _ _ _ _ _) | fail)); all_goals (first | refine wl_nil ⟨rfl, (by first | exact LeS.len inferInstance | exact App.len (by assumption)), ?_⟩ | trace_state)) | skip)
    all_goals (refine da_last 9 rfl (by decide) (by kernel_rfl) ?_; (repeat' (first | (refine wc_storeA rfl rfl inferInstance inferInstance rfl inferInstance (Nat.le_of_ble_eq_true rfl) (.inr (may_new _)) ?_; intro _ _) | fail)); all_goals (first | refine wl_nil (dl_in ?_) | trace_state))
    all_goals (refine dl_last 10 rfl (by decide) (by kernel_rfl) ?_; (repeat' (first | refine wl_pop rfl (po_assign rfl) ?_ | fail)); all_goals (first | refine wl_nil (dl_in ?_) | trace_state))
    all_goals refine dl_done (by kernel_rfl) ?_
    repeat' (first
      | refine thru_seq_next ?_
      | fail)
    all_goals refine ⟨_, ⟨inferInstance, ?_, _, _, inferInstance, OW.down (inferInstance) ?_, ORs.down (inferInstance) ?_⟩, (by repeat' (first | exact sub_nil | refine sub_cons rfl ?_ | refine sub_int rfl (by first | rfl | omega | (push_cast; omega) | simp) ?_ | refine sub_eq rfl (by assumption) ?_))⟩
    all_goals first | exact LeS.len inferInstance | exact Nat.le_trans (LeS.len (inferInstance : LeS σ4 _)) (by first | exact (by assumption : New _ _).le | exact (inferInstance : New _ _).le)
  rintro i σ5 ⟨hle5, hi5, u5, us5, hh5, ho5, hr5⟩
  have := hle5.grow
  have : New σ4 i := ⟨hi5⟩
  have := ho5.one
  repeat' (first
    | (refine wc_callG rfl inferInstance rfl (c_toGraph _ _) rfl ?_; intro _ _ _ _ _ _ _)
    | (refine wc_callGO rfl inferInstance rfl (ho ▸ c_GraphBoth _ _ _) rfl ?_; intro _ _ _ _ _ _ _)
    | (refine wc_callR rfl inferInstance rfl (c_eqGraph _ _ _) rfl ?_; intro _ _)
    | refine wc_holdR 14 ?_
    | refine wc_loadn rfl inferInstance (at_has (cs := [_]) (.inl rfl) rfl rfl) rfl ?_
    | refine wc_guardNPr_false rfl rfl rfl rfl (fun _ => ?_) (fun _ => ?_)
    | refine wp_seqA ?_
    | refine wp_region_seq ?_
    | refine thru_seq_next ?_
    | refine thru_seq_ret ?_
    | refine wp_skipA ?_
    | refine wp_retA ?_
    | refine wl_nil ?_
    | refine wl_pop rfl (po_move rfl) ?_
    | refine wl_pop rfl (po_assign rfl) ?_
    | refine wl_pop rfl (pc_boolNeSelf rfl rfl inferInstance) ?_
    | refine wl_pop rfl (po_not rfl) ?_
    | (refine wc_storeA rfl rfl inferInstance inferInstance rfl inferInstance (Nat.le_of_ble_eq_true rfl) (.inr (may_new _)) ?_; intro _ _)
    | refine wl_pop rfl (po_extract rfl rfl) ?_
    | (refine wc_allocA (cs := [_]) inferInstance rfl inferInstance rfl ?_; intro _ _ _ _ _)
    | refine wl_pop rfl (po_pick rfl rfl) ?_
    | refine wc_guardT_false rfl rfl rfl ?_
    | refine wc_guardF_false rfl rfl rfl rfl ?_
    | refine wp_condT rfl ?_
    | refine wp_condF rfl ?_
    | refine at_ret (res1 rfl rfl) ?_
    | fail)
  all_goals try exact absurd rfl (by assumption)
  rename_i x0 xs0 σ6 xo0 xw0 xr0 xg0 i0 σ7 g7 n0 h0 σ8 up8 x1 xs1 σ9 xo1 xw1 xr1 xg1 ib σ10 g10 nb hib σ11 up11 x2 xs2 σ12 xo2 xw2 xr2 xg2 ig σ13 g13 ng hig σ14 up14 σ15 g15 _
  refine hold_go ?_
  refine wc_drawn [] mixed_ rfl ?_
  all_goals refine da_takeC 0 rfl rfl (by kernel_rfl) (by first | exact pc_loadnL rfl inferInstance (at_has (cs := [_]) (.inl rfl) rfl rfl) inferInstance | fail) ?_
  all_goals refine da_takeC 1 rfl rfl (by kernel_rfl) (by first | exact pc_loadnL rfl inferInstance (at_has (cs := [_]) (.inl rfl) rfl rfl) inferInstance | fail) ?_
  all_goals (first | (refine da_one 2 rfl (by kernel_rfl) (fun _ _ _ _ => ?_); (repeat' (first | (refine wc_callG rfl inferInstance rfl (c_toGraph _ _) rfl ?_; intro _ _ _ _ _ _ _) | fail)); all_goals (first | refine wl_nil ⟨rfl, (by first | exact LeS.len inferInstance | exact App.len (by assumption)), ?_⟩ | trace_state)))
  all_goals (first | (refine da_one 3 rfl (by kernel_rfl) (fun _ _ _ _ => ?_); (repeat' (first | (refine wc_callR rfl inferInstance rfl (c_eqGraph _ _ _) rfl ?_; intro _ _) | fail)); all_goals (first | refine wl_nil ⟨rfl, (by first | exact LeS.len inferInstance | exact App.len (by assumption)), ?_⟩ | trace_state)))
  all_goals refine da_takeC 4 rfl rfl (by kernel_rfl) (by first | exact po_not rfl | fail) ?_
  all_goals refine da_done (by kernel_rfl) ?_
  repeat' (first
    | refine wc_holdR 16 ?_
    | refine wp_condNPr rfl (fun _ => ?_) (fun _ => ?_)
    | refine wp_seqA ?_
    | refine wp_region_seq ?_
    | refine thru_seq_next ?_
    | refine thru_seq_ret ?_
    | refine wp_skipA ?_
    | refine wp_retA ?_
    | refine wl_nil ?_
    | refine wl_pop rfl (po_assign rfl) ?_
    | refine at_ret (res1 rfl rfl) ?_
    | fail)
  all_goals try exact absurd rfl (by assumption)
  refine hold_go ?_
  refine wc_drawn [] mixed_ rfl ?_
  all_goals refine da_takeC 0 rfl rfl (by kernel_rfl) (by first | exact pc_loadnL rfl inferInstance (at_has (cs := [_]) (.inl rfl) rfl rfl) inferInstance | fail) ?_
  all_goals refine da_takeC 1 rfl rfl (by kernel_rfl) (by first | exact pc_loadnL rfl inferInstance (at_has (cs := [_]) (.inl rfl) rfl rfl) inferInstance | fail) ?_
  all_goals (first | (refine da_one 2 rfl (by kernel_rfl) (fun _ _ _ _ => ?_); (repeat' (first | (refine wc_callG rfl inferInstance rfl (c_toGraph _ _) rfl ?_; intro _ _ _ _ _ _ _) | fail)); all_goals (first | refine wl_nil ⟨rfl, (by first | exact LeS.len inferInstance | exact App.len (by assumption)), ?_⟩ | trace_state)))
  all_goals (first | (refine da_one 3 rfl (by kernel_rfl) (fun _ _ _ _ => ?_); (repeat' (first | (refine wc_callR rfl inferInstance rfl (c_eqGraph _ _ _) rfl ?_; intro _ _) | fail)); all_goals (first | refine wl_nil ⟨rfl, (by first | exact LeS.len inferInstance | exact App.len (by assumption)), ?_⟩ | trace_state)))
  all_goals refine da_takeC 4 rfl rfl (by kernel_rfl) (by first | exact po_not rfl | fail) ?_
  all_goals refine da_done (by kernel_rfl) ?_
  repeat' (first
    | refine wc_loadn rfl inferInstance (at_has (cs := [_]) (.inl rfl) rfl rfl) rfl ?_
    | refine wp_condNPr rfl (fun _ => ?_) (fun _ => ?_)
    | refine wp_seqA ?_
    | refine wp_region_seq ?_
    | refine thru_seq_next ?_
    | refine thru_seq_ret ?_
    | refine wp_skipA ?_
    | refine wp_retA ?_
    | refine wl_nil ?_
    | refine wl_pop rfl (po_move rfl) ?_
    | refine wl_pop rfl (po_assign rfl) ?_
    | refine at_ret (res1 rfl rfl) ?_
    | fail)
  all_goals try exact absurd rfl (by assumption)
  refine wc_callMkR σ5 σ6 rfl inferInstance rfl (by infer_instance : ORs σ5 _ xs0 a) xr0 (c_markGraph _ x0 1 (by infer_instance : ORs σ5 _ xs0 a) (by omega) (by omega)) (may_ge σ5) rfl ?_
  intro σ16 m16 _
  repeat' (first
    | refine wc_loadn rfl inferInstance (at_has (cs := [_]) (.inl rfl) rfl rfl) rfl ?_
    | refine wp_seqA ?_
    | refine wp_region_seq ?_
    | refine thru_seq_next ?_
    | refine wl_nil ?_
    | refine wl_pop rfl (po_move rfl) ?_
    | refine wl_pop rfl (po_assign rfl) ?_
    | fail)
  refine wc_callMkR σ8 σ9 rfl inferInstance rfl (by infer_instance : ORs σ8 _ xs1 b) xr1 (c_markGraph _ x1 _ (by infer_instance : ORs σ8 _ xs1 b) (by omega) (by omega)) (may_ge σ8) rfl ?_
  intro σ17 m17 _
  have l17 : LeS σ5 σ17 := inferInstance
  have := l17.grow
  repeat' (first
    | (refine wc_callR rfl inferInstance rfl (c_eqGraph _ _ _) rfl ?_; intro _ _)
    | refine wc_loadn rfl inferInstance (at_has (cs := [_]) (.inl rfl) rfl rfl) rfl ?_
    | refine wc_guardNPr_false rfl rfl rfl rfl (fun _ => ?_) (fun _ => ?_)
    | refine wp_seqA ?_
    | refine wp_region_seq ?_
    | refine thru_seq_next ?_
    | refine thru_seq_ret ?_
    | refine wp_skipA ?_
    | refine wp_retA ?_
    | refine wl_nil ?_
    | refine wl_pop rfl (po_move rfl) ?_
    | refine wl_pop rfl (po_assign rfl) ?_
    | refine wl_pop rfl (po_binOp rfl rfl rfl) ?_
    | refine wl_pop rfl (pc_boolNeSelf rfl rfl inferInstance) ?_
    | refine wl_pop rfl (po_not rfl) ?_
    | refine wl_pop rfl (po_pick rfl rfl) ?_
    | refine wc_guardT_false rfl rfl rfl ?_
    | refine wc_guardF_false rfl rfl rfl rfl ?_
    | refine wp_condT rfl ?_
    | refine wp_condF rfl ?_
    | refine at_ret (res1 rfl rfl) ?_
    | fail)
  all_goals try exact absurd rfl (by assumption)
  rename_i σ18 g18 _
  refine wc_callMkR2 σ11 σ12 rfl inferInstance rfl (by decide) (by infer_instance : OW σ11 _ x2 xs2) (by infer_instance : ORs σ11 _ xs2 (o.getD [])) xr2 (c_markGraph _ x2 1 (by infer_instance : ORs σ11 _ xs2 (o.getD [])) (by omega) (by omega)) (may_ge σ11) rfl ?_
  intro σ19 m19 wx2 rx2
  have l19 : LeS σ5 σ19 := inferInstance
  have := l19.grow
  have hig : Has σ19 ig ⟨.own, 1, [x2], []⟩ := inferInstance
  clear m16 m17 m19 l17
  repeat' (first
    | (refine wc_callR rfl inferInstance rfl (c_heldGraph _ _ _ (by omega) (by omega)) rfl ?_; intro _ _)
    | refine wc_holdR 31 ?_
    | refine wc_loadn rfl inferInstance (at_has (cs := [_]) (.inl rfl) rfl rfl) rfl ?_
    | refine wp_seqA ?_
    | refine wp_region_seq ?_
    | refine thru_seq_next ?_
    | refine thru_seq_ret ?_
    | refine wp_skipA ?_
    | refine wp_retA ?_
    | refine wl_nil ?_
    | refine wl_pop rfl (po_move rfl) ?_
    | refine wl_pop rfl (po_assign rfl) ?_
    | refine wl_pop rfl (po_binOp rfl rfl rfl) ?_
    | refine wp_condF rfl ?_
    | refine wp_condNP rfl (fun _ => ?_) (fun _ => ?_)
    | refine at_ret (res1 rfl rfl) ?_
    | fail)
  all_goals try exact absurd rfl (by assumption)
  rename_i σ20 g20 _
  refine wc_cut (ι := Nat) [(6, .pt i 0), (7, Bo o.isSome), (10, .pt ig 0), (13, I (1 + 2 * (totalG (o.getD []) : Int)))] (fun j => [(15, .pt j 0), (16, Bo o.isSome)]) (fun j σ' => LeS σ20 σ' ∧ ∃ u us, Has σ' j ⟨.own, 1, [u], []⟩ ∧ OW σ20 σ' u us ∧ ORs σ20 σ' us (o.getD [])) ?_ ?_
  · skip
    refine wc_drawn [9, 10] mixed_ rfl ?_
    all_goals refine da_takeC 0 rfl rfl (by kernel_rfl) (by first | exact pc_loadnL rfl inferInstance (at_has (cs := [_]) (.inl rfl) rfl rfl) inferInstance | fail) ?_
    all_goals refine da_takeC 2 rfl rfl (by kernel_rfl) (by first | exact pc_loadnL rfl inferInstance (at_has (cs := [_]) (.inl rfl) rfl rfl) inferInstance | fail) ?_
    all_goals (first | (refine da_one 1 rfl (by decide +kernel) (fun _ _ _ _ => ?_); (repeat' (first | (refine wc_callG rfl inferInstance rfl (c_toGraph _ _) rfl ?_; intro _ _ _ _ _ _ _) | fail)); all_goals (first | refine wl_nil ⟨rfl, (by first | exact LeS.len inferInstance | exact App.len (by assumption)), ?_⟩ | trace_state)) | (refine da_two 1 8 rfl rfl (by decide +kernel) (fun _ _ _ _ => ?_) (fun _ _ _ _ => ?_); (focus ((repeat' (first | (refine wc_callG rfl inferInstance rfl (c_toGraph _ _) rfl ?_; intro _ _ _ _ _ _ _) | fail)); all_goals (first | refine wl_nil ⟨rfl, (by first | exact LeS.len inferInstance | exact App.len (by assumption)), ?_⟩ | trace_state); first | (refine da_one 1 rfl (by decide +kernel) (fun _ _ _ _ => ?_); (repeat' (first | (refine wc_callG rfl inferInstance rfl (c_toGraph _ _) rfl ?_; intro _ _ _ _ _ _ _) | fail)); all_goals (first | refine wl_nil ⟨rfl, (by first | exact LeS.len inferInstance | exact App.len (by assumption)), ?_⟩ | trace_state)) | skip)); rotate_right; (focus ((repeat' (first | (refine wc_allocA (cs := [_]) inferInstance rfl inferInstance rfl ?_; intro _ _ _ _ _) | fail)); all_goals (first | refine wl_nil ⟨rfl, (by first | exact LeS.len inferInstance | exact App.len (by assumption)), ?_⟩ | trace_state); first | (refine da_one 1 rfl (by decide +kernel) (fun _ _ _ _ => ?_); (repeat' (first | (refine wc_callG rfl inferInstance rfl (c_toGraph _ _) rfl ?_; intro _ _ _ _ _ _ _) | fail)); all_goals (first | refine wl_nil ⟨rfl, (by first | exact LeS.len inferInstance | exact App.len (by assumption)), ?_⟩ | trace_state)) | skip))))
    all_goals (first | (refine da_one 3 rfl (by decide +kernel) (fun _ _ _ _ => ?_); (repeat' (first | (refine wc_callG rfl inferInstance rfl (c_toGraph _ _) rfl ?_; intro _ _ _ _ _ _ _) | fail)); all_goals (first | refine wl_nil ⟨rfl, (by first | exact LeS.len inferInstance | exact App.len (by assumption)), ?_⟩ | trace_state)) | (refine da_two 3 8 rfl rfl (by decide +kernel) (fun _ _ _ _ => ?_) (fun _ _ _ _ => ?_); (focus ((repeat' (first | (refine wc_callG rfl inferInstance rfl (c_toGraph _ _) rfl ?_; intro _ _ _ _ _ _ _) | fail)); all_goals (first | refine wl_nil ⟨rfl, (by first | exact LeS.len inferInstance | exact App.len (by assumption)), ?_⟩ | trace_state); first | (refine da_one 3 rfl (by decide +kernel) (fun _ _ _ _ => ?_); (repeat' (first | (refine wc_callG rfl inferInstance rfl (c_toGraph _ _) rfl ?_; intro _ _ _ _ _ _ _) | fail)); all_goals (first | refine wl_nil ⟨rfl, (by first | exact LeS.len inferInstance | exact App.len (by assumption)), ?_⟩ | trace_state)) | skip)); rotate_right; (focus ((repeat' (first | (refine wc_allocA (cs := [_]) inferInstance rfl inferInstance rfl ?_; intro _ _ _ _ _) | fail)); all_goals (first | refine wl_nil ⟨rfl, (by first | exact LeS.len inferInstance | exact App.len (by assumption)), ?_⟩ | trace_state); first | (refine da_one 3 rfl (by decide +kernel) (fun _ _ _ _ => ?_); (repeat' (first | (refine wc_callG rfl inferInstance rfl (c_toGraph _ _) rfl ?_; intro _ _ _ _ _ _ _) | fail)); all_goals (first | refine wl_nil ⟨rfl, (by first | exact LeS.len inferInstance | exact App.len (by assumption)), ?_⟩ | trace_state)) | skip))))
    all_goals (first | (refine da_one 4 rfl (by decide +kernel) (fun _ _ _ _ => ?_); (repeat' (first | (refine wc_callGO rfl inferInstance rfl (ho ▸ c_GraphBoth _ _ _) rfl ?_; intro _ _ _ _ _ _ _) | fail)); all_goals (first | refine wl_nil ⟨rfl, (by first | exact LeS.len inferInstance | exact App.len (by assumption)), ?_⟩ | trace_state)) | (refine da_two 4 8 rfl rfl (by decide +kernel) (fun _ _ _ _ => ?_) (fun _ _ _ _ => ?_); (focus ((repeat' (first | (refine wc_callGO rfl inferInstance rfl (ho ▸ c_GraphBoth _ _ _) rfl ?_; intro _ _ _ _ _ _ _) | fail)); all_goals (first | refine wl_nil ⟨rfl, (by first | exact LeS.len inferInstance | exact App.len (by assumption)), ?_⟩ | trace_state); first | (refine da_one 4 rfl (by decide +kernel) (fun _ _ _ _ => ?_); (repeat' (first | (refine wc_callGO rfl inferInstance rfl (ho ▸ c_GraphBoth _ _ _) rfl ?_; intro _ _ _ _ _ _ _) | fail)); all_goals (first | refine wl_nil ⟨rfl, (by first | exact LeS.len inferInstance | exact App.len (by assumption)), ?_⟩ | trace_state)) | skip)); rotate_right; (focus ((repeat' (first | (refine wc_allocA (cs := [_]) inferInstance rfl inferInstance rfl ?_; intro _ _ _ _ _) | fail)); all_goals (first | refine wl_nil ⟨rfl, (by first | exact LeS.len inferInstance | exact App.len (by assumption)), ?_⟩ | trace_state); first | (refine da_one 4 rfl (by decide +kernel) (fun _ _ _ _ => ?_); (repeat' (first | (refine wc_callGO rfl inferInstance rfl (ho ▸ c_GraphBoth _ _ _) rfl ?_; intro _ _ _ _ _ _ _) | fail)); all_goals (first | refine wl_nil ⟨rfl, (by first | exact LeS.len inferInstance | exact App.len (by assumption)), ?_⟩ | trace_state)) | skip))))
    all_goals refine da_takeC 5 rfl rfl (by kernel_rfl) (by first | exact po_move rfl | fail) ?_
    all_goals refine da_takeC 6 rfl rfl (by kernel_rfl) (by first | exact po_extract rfl rfl | fail) ?_
    all_goals refine da_extract 7 rfl rfl (by kernel_rfl) rfl rfl ?_
    all_goals (first | (refine da_one 8 rfl (by decide +kernel) (fun _ _ _ _ => ?_); (repeat' (first | (refine wc_allocA (cs := [_]) inferInstance rfl inferInstance rfl ?_; intro _ _ _ _ _) | fail)); all_goals (first | refine wl_nil ⟨rfl, (by first | exact LeS.len inferInstance | exact App.len (by assumption)), ?_⟩ | trace_state)) | skip)
    all_goals (refine da_last 9 rfl (by decide) (by kernel_rfl) ?_; (repeat' (first | (refine wc_storeA rfl rfl inferInstance inferInstance rfl inferInstance (Nat.le_of_ble_eq_true rfl) (.inr (may_new _)) ?_; intro _ _) | fail)); all_goals (first | refine wl_nil (dl_in ?_) | trace_state))
    all_goals (refine dl_last 10 rfl (by decide) (by kernel_rfl) ?_; (repeat' (first | refine wl_pop rfl (po_assign rfl) ?_ | fail)); all_goals (first | refine wl_nil (dl_in ?_) | trace_state))
    all_goals refine dl_done (by kernel_rfl) ?_
    repeat' (first
      | refine thru_seq_next ?_
      | fail)
    all_goals refine ⟨_, ⟨inferInstance, _, _, inferInstance, OW.down (inferInstance) ?_, ORs.down (inferInstance) ?_⟩, (by repeat' (first | exact sub_nil | refine sub_cons rfl ?_ | refine sub_int rfl (by first | rfl | omega | (push_cast; omega) | simp) ?_ | refine sub_eq rfl (by assumption) ?_))⟩
    all_goals exact LeS.len inferInstance
  rintro ir σ21 ⟨hle21, u21, us21, hh21, ho21, hr21⟩
  have := hle21.grow
  have := ho21.one
  repeat' (first
    | (refine wc_callR rfl inferInstance rfl (c_eqGraph _ _ _) rfl ?_; intro _ _)
    | (refine wc_callR rfl inferInstance rfl (c_heldGraph _ _ _ (by omega) (by omega)) rfl ?_; intro _ _)
    | refine wc_loadn rfl inferInstance (at_has (cs := [_]) (.inl rfl) rfl rfl) rfl ?_
    | refine wc_guardNPr_false rfl rfl rfl rfl (fun _ => ?_) (fun _ => ?_)
    | refine wp_seqA ?_
    | refine wp_region_seq ?_
    | refine thru_seq_next ?_
    | refine thru_seq_ret ?_
    | refine wp_skipA ?_
    | refine wp_retA ?_
    | refine wl_nil ?_
    | refine wl_pop rfl (po_move rfl) ?_
    | refine wl_pop rfl (po_assign rfl) ?_
    | refine wl_pop rfl (po_binOp rfl rfl rfl) ?_
    | refine wl_pop rfl (pc_boolNeSelf rfl rfl inferInstance) ?_
    | refine wl_pop rfl (po_not rfl) ?_
    | refine wl_pop rfl (po_pick rfl rfl) ?_
    | refine wc_guardT_false rfl rfl rfl ?_
    | refine wc_guardF_false rfl rfl rfl rfl ?_
    | refine wp_condT rfl ?_
    | refine wp_condF rfl ?_
    | refine wp_condNP rfl (fun _ => ?_) (fun _ => ?_)
    | refine at_ret (res1 rfl rfl) ?_
    | exact ret_ inferInstance rfl
    | fail)
  all_goals first | exact absurd rfl (by assumption) | exact ret_ inferInstance rfl | (exfalso; omega)
end Go.Proofs.Ytemhpkfijoodkaa.Asl
