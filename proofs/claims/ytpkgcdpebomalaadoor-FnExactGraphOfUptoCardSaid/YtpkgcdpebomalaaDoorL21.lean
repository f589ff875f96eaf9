/- The law FnExactGraphOf: a walk. -/
import Derived.Test.YtpkgcdpebomalaaDoorK11
import Derived.Test.YtpkgcdpebomalaaDoorK4
import Derived.Test.YtpkgcdpebomalaaDoorL2
import Derived.Test.YtpkgcdpebomalaaDoorG5
import Derived.Test.YtpkgcdpebomalaaDoorTU
namespace Go.Proofs.YtpkgcdpebomalaaDoor.Asl
open Go.RowKit Go.Proofs.YtpkgcdpebomalaaDoorW.PrintLast
set_option linter.unusedVariables false
set_option linter.unusedSimpArgs false
attribute [local irreducible] WP WL andThen inBlock noGoto atEnd ACall DA DL PO Hold nodeOk Tm.shape Tm.ok graphO
set_option maxHeartbeats 4000000
set_option synthInstance.maxHeartbeats 400000
set_option synthInstance.maxSize 10000
theorem graphO_len (t : Tm) (ds : List Tm) : ((graphO ds t).getD []).length ≤ 60 := by
  cases h : graphO ds t with
  | none => simp
  | some g =>
    obtain ⟨S, a, b, c, _⟩ := graphO_spec h
    have := (a.gok c b).most
    simpa using this
theorem ORs.total {α : Type} [Enc α] {σ₀ σ : Store} {ss : List AV} {g : List (List α)} (h : ORs σ₀ σ ss g) (hl : g.length ≤ 60) : totalG g ≤ 300000000000 := by
  have h1 : ∀ l ∈ g, l.length ≤ 4294967296 := fun l hl => by
    obtain ⟨k, hk, rfl⟩ := List.getElem_of_mem hl
    have := (h.row k).bound
    simpa [List.getD_eq_getElem?_getD, hk] using this
  have := totalG_bound h1
  have := Nat.mul_le_mul_right 4294967296 hl
  omega
section
variable {α : Type} [Enc α] {E : Env} {ops : Array Oper} {l : List Oper} {Q : Exit → Slots → Store → Prop} {S : Slots} {σ : Store} {d : Option Tmp} {ty : TypeId} {pos : String} {af : Array Edge} {x y : Operand}
/-- A call that marks rows that lie between two stores; the slice that holds them stays. -/
theorem wc_callMkR3 {args : Array Operand} {ats : Array TypeId} {f : FuncId} {rs caps : List AV} {s : AV} {ss : List AV} {r : Int} {g g' : List (List α)} (σa σb : Store) (hf : S.ev x = some (.fn f caps)) (hc : Callable E.P f) (hargs : evs S args.toList = some rs)
    (hne : Enc.e AV ≠ Enc.e α) (how : OW σa σ s ss) (hg : ORs σa σ ss g') (hb : ORs σa σb ss g') (h : ACall E.P E.base f (rs ++ caps) σ (fun j => ∃ n, AV.sl j 0 n ∈ ss) (RetMarkR σa σ ss r g)) (hm : ∀ i, σa.length ≤ i → E.may i) (hd : okd E d = true)
    (k : ∀ σ', Mk σ σa σb σ' → OW σa σ' s ss → ORs σa σ' ss g → WL E ops l Q (S.put d (I r)) σ') :
    WL E ops (⟨d, .call ⟨.value x, args, ats⟩, ty, pos, af, none⟩ :: l) Q S σ :=
  wl_call hf hc hargs h (fun i ⟨n, hi⟩ => by
    obtain ⟨h1, l', h2⟩ := hg.has hi
    exact ⟨hm i h1, _, h2.get, .inl rfl⟩) hd fun r' σ' hK => by
    obtain ⟨e, h1, _, h3⟩ := hK
    subst e
    exact k σ' ⟨fun j o hj => h3 j o (fun n hn => by
      have h4 := (hg.has hn).1
      have h5 := hb.lt hn
      omega)⟩ (how.keep fun j o _ ⟨n, e⟩ ho => h3 j o (fun m hm => ors_ne_of_esz how hg hne j n m e hm) ho) h1
end
section
variable {base : Nat}
theorem c_toTermSL2 {ds : List Tm} {s : AV} {σ₀ : Store} (hs : RTs σ₀ s ds) (σ : Store) [g : LeS σ₀ σ] : ACall Tryd.prog base F_laws_toTermS [s] σ (fun _ => False) (RetTmsD σ ds) :=
  have := hs.les g
  c_toTermSD_of (fun p _ => c_toTermD p) σ s
theorem c_FnExactGraphOf (t : Tm) (hct : Tm.cnts t.ps ≤ 1048576) (ds : List Tm) (hcd : Tm.cnts ds ≤ 1048576) (σ : Store) (s d : AV) [hs : RTs σ s t.ps] [hd : RTs σ d ds] : ACall Tryd.prog base F_laws_FnExactGraphOf [.agg [I t.op, I t.n, s], d] σ (fun _ => False) (Ret σ (Bo true)) := by
  have := hs.one
  have := hd.one
  have hbd := graphO_len t ds
  obtain ⟨o, ho⟩ : ∃ o, graphO ds t = o := ⟨_, rfl⟩
  rw [ho] at hbd
  refine acall2 fun_laws_FnExactGraphOf rfl tmps_laws_FnExactGraphOf rfl fun N B w₀ ρ₀ => ?_
  repeat' (first
    | (refine wc_callI rfl inferInstance rfl (c_szTerm t _ _ _) rfl ?_; intro _ _ _)
    | (refine wc_callI rfl inferInstance rfl (c_szTermS ds _ _ _) rfl ?_; intro _ _ _)
    | refine wc_holdR 8 ?_
    | refine wp_seqA ?_
    | refine wp_region_seq ?_
    | refine thru_seq_next ?_
    | refine thru_seq_ret ?_
    | refine wp_skipA ?_
    | refine wp_retA ?_
    | refine wl_nil ?_
    | refine wl_pop rfl (po_move rfl) ?_
    | refine wl_pop rfl (po_assign rfl) ?_
    | refine wl_pop rfl (po_binOp rfl rfl rfl) ?_
    | refine wc_loadn rfl inferInstance (at_has (cs := [_, _, _]) (.inl rfl) rfl rfl) rfl ?_
    | (refine wc_boxA rfl inferInstance rfl ?_; intro _ _ _ _ _)
    | refine wp_condP rfl (fun _ => ?_) (fun _ => ?_)
    | refine at_ret (res1 rfl rfl) ?_
    | exact ret_ inferInstance rfl
    | fail)
  rename_i i1 σ1 g1 n1 h1 z σ2 g2 hz z2 σ3 g3 hz2
  refine hold_go ?_
  repeat' (first
    | refine wc_holdR 9 ?_
    | (refine wc_callTD rfl inferInstance rfl (c_toTermL hs _) rfl ?_; intro _ _ _ _ _)
    | (refine wc_callTsD rfl inferInstance rfl (c_toTermSL2 hd _) rfl ?_; intro _ _ _ _ _)
    | (refine wc_callGO rfl inferInstance rfl (ho ▸ c_sGraphOf t ds _ _ _) rfl ?_; intro _ _ _ _ _ _ _)
    | refine wp_seqA ?_
    | refine wp_region_seq ?_
    | refine thru_seq_next ?_
    | refine wl_nil ?_
    | refine wl_pop rfl (po_move rfl) ?_
    | refine wl_pop rfl (po_assign rfl) ?_
    | refine wc_loadn rfl inferInstance (at_has (cs := [_, _, _]) (.inl rfl) rfl rfl) rfl ?_
    | (refine wc_storeA rfl rfl inferInstance inferInstance rfl inferInstance (Nat.le_of_ble_eq_true rfl) (.inr (may_new _)) ?_; intro _ _)
    | refine wl_pop rfl (po_extract rfl rfl) ?_
    | (refine wc_allocA (cs := [_]) inferInstance rfl inferInstance rfl ?_; intro _ _ _ _ _)
    | fail)
  rename_i sa σ4 oa ra g4 da σ5 ob rb g5 uw xw σ6 ow oww orw g6 iw σ6a g6a n6 h6 σ6b u6
  have ruw : RW σ6b uw xw := inferInstance
  have rrw : RRs σ6b xw (o.getD []) := inferInstance
  have hiw : Has σ6b iw ⟨.own, 1, [uw], []⟩ := inferInstance
  have l6 : LeS σ1 σ6b := inferInstance
  have l06 : LeS σ σ6b := inferInstance
  have h16 : Has σ6b i1 ⟨.own, 1, [I t.op, I t.n, s], []⟩ := inferInstance
  have y0 : σ.length ≤ σ6b.length := l06.len
  have ow' : One uw := ow
  clear oww orw
  refine hold_go ?_
  repeat' (first
    | refine wc_holdR 11 ?_
    | (refine wc_callTD rfl inferInstance rfl (c_toTermL hs _) rfl ?_; intro _ _ _ _ _)
    | (refine wc_callTsD rfl inferInstance rfl (c_toTermSL2 hd _) rfl ?_; intro _ _ _ _ _)
    | refine wp_seqA ?_
    | refine wp_region_seq ?_
    | refine thru_seq_next ?_
    | refine wl_nil ?_
    | refine wl_pop rfl (po_move rfl) ?_
    | refine wl_pop rfl (po_assign rfl) ?_
    | refine wc_loadn rfl inferInstance (at_has (cs := [_, _, _]) (.inl rfl) rfl rfl) rfl ?_
    | (refine wc_storeA rfl rfl inferInstance inferInstance rfl inferInstance (Nat.le_of_ble_eq_true rfl) (.inr (may_new _)) ?_; intro _ _)
    | (refine wc_allocA (cs := [_, _, _]) inferInstance rfl inferInstance rfl ?_; intro _ _ _ _ _)
    | fail)
  rename_i sx σ7 o7 r7 g7 ix σ8 g8 n8 h8 σ9 u9 dx σ10 o10 r10 g10
  have hx0 := r7.rep.lt
  have hy0 := r10.rep.lt
  refine hold_go ?_
  repeat' (first
    | refine wc_holdR 12 ?_
    | (refine wc_callGO rfl inferInstance rfl (ho ▸ c_GraphOf t ds _ _ _) rfl ?_; intro _ _ _ _ _ _ _)
    | refine wp_seqA ?_
    | refine wp_region_seq ?_
    | refine thru_seq_next ?_
    | refine wl_nil ?_
    | refine wl_pop rfl (po_move rfl) ?_
    | refine wl_pop rfl (po_assign rfl) ?_
    | refine wc_loadn rfl inferInstance (at_has (cs := [_, _, _]) (.inl rfl) rfl rfl) rfl ?_
    | (refine wc_storeA rfl rfl inferInstance inferInstance rfl inferInstance (Nat.le_of_ble_eq_true rfl) (.inr (may_new _)) ?_; intro _ _)
    | refine wl_pop rfl (po_extract rfl rfl) ?_
    | (refine wc_allocA (cs := [_]) inferInstance rfl inferInstance rfl ?_; intro _ _ _ _ _)
    | fail)
  rename_i ug xg σ11 o11 ow11 or11 g11 ig σ12 g12 n12 h12 σ13 u13
  have htot := or11.total hbd
  refine hold_go ?_
  repeat' (first
    | (refine wc_callR rfl inferInstance rfl (c_eqGraph _ _ _) rfl ?_; intro _ _)
    | refine wc_holdR 14 ?_
    | refine wc_loadn rfl inferInstance (at_has (cs := [_]) (.inl rfl) rfl rfl) rfl ?_
    | refine wc_guardNPr_false rfl rfl rfl rfl (fun _ => ?_) (fun _ => ?_)
    | refine wp_seqA ?_
    | refine wp_region_seq ?_
    | refine thru_seq_next ?_
    | refine thru_seq_ret ?_
    | refine wp_skipA ?_
    | refine wp_retA ?_
    | refine wl_nil ?_
    | refine wl_pop rfl (po_move rfl) ?_
    | refine wl_pop rfl (po_assign rfl) ?_
    | refine wl_pop rfl (pc_boolNeSelf rfl rfl inferInstance) ?_
    | refine wl_pop rfl (po_not rfl) ?_
    | refine wl_pop rfl (po_pick rfl rfl) ?_
    | refine wc_guardT_false rfl rfl rfl ?_
    | refine wc_guardF_false rfl rfl rfl rfl ?_
    | refine wp_condT rfl ?_
    | refine wp_condF rfl ?_
    | refine at_ret (res1 rfl rfl) ?_
    | fail)
  all_goals try exact absurd rfl (by assumption)
  rename_i σ14 g14 _
  refine hold_go ?_
  refine wc_drawn [] mixed_ rfl ?_
  all_goals refine da_takeC 0 rfl rfl (by kernel_rfl) (by first | exact pc_loadnL rfl inferInstance (at_has (cs := [_, _, _]) (.inl rfl) rfl rfl) inferInstance | fail) ?_
  all_goals refine da_takeC 1 rfl rfl (by kernel_rfl) (by first | exact pc_loadnL rfl inferInstance (at_has (cs := [_, _, _]) (.inl rfl) rfl rfl) inferInstance | fail) ?_
  all_goals (first | (refine da_one 2 rfl (by kernel_rfl) (fun _ _ _ _ => ?_); (repeat' (first | (refine wc_callTD rfl inferInstance rfl (c_toTermL hs _) rfl ?_; intro _ _ _ _ _) | fail)); all_goals (first | refine wl_nil ⟨rfl, (by first | exact LeS.len inferInstance | exact App.len (by assumption)), ?_⟩ | trace_state)))
  all_goals (first | (refine da_one 3 rfl (by kernel_rfl) (fun _ _ _ _ => ?_); (repeat' (first | (refine wc_callR rfl inferInstance rfl (c_eqTerm_self t _ _ _) rfl ?_; intro _ _) | fail)); all_goals (first | refine wl_nil ⟨rfl, (by first | exact LeS.len inferInstance | exact App.len (by assumption)), ?_⟩ | trace_state)))
  all_goals refine da_takeC 4 rfl rfl (by kernel_rfl) (by first | exact po_not rfl | fail) ?_
  all_goals refine da_done (by kernel_rfl) ?_
  repeat' (first
    | (refine wc_callTsD rfl inferInstance rfl (c_toTermSL2 hd _) rfl ?_; intro _ _ _ _ _)
    | (refine wc_callR rfl inferInstance rfl (c_eqTermS_self ds _ _ _) rfl ?_; intro _ _)
    | refine wp_seqA ?_
    | refine wp_region_seq ?_
    | refine thru_seq_next ?_
    | refine wp_skipA ?_
    | refine wl_nil ?_
    | refine wl_pop rfl (po_move rfl) ?_
    | refine wl_pop rfl (po_assign rfl) ?_
    | refine wc_loadn rfl inferInstance (at_has (cs := [_, _, _]) (.inl rfl) rfl rfl) rfl ?_
    | refine wl_pop rfl (po_not rfl) ?_
    | refine wp_condF rfl ?_
    | fail)
  rename_i sy σ15 o15 r15 g15 _ _ _ _ σ16 g16 dy σ17 o17 r17 g17 σ18 g18
  have l718 : LeS σ7 σ18 := inferInstance
  have l1018 : LeS σ10 σ18 := inferInstance
  have y1 : σ7.length ≤ σ9.length := (inferInstance : LeS σ7 σ9).len
  have y2 : σ.length ≤ σ9.length := (inferInstance : LeS σ σ9).len
  have y3 : σ.length ≤ σ10.length := (inferInstance : LeS σ σ10).len
  have l710 : LeS σ7 σ10 := inferInstance
  have l910 : LeS σ9 σ10 := inferInstance
  have h1s : Has σ18 i1 ⟨.own, 1, [I t.op, I t.n, s], []⟩ := inferInstance
  have owg : OW σ10 σ18 ug xg := inferInstance
  have org : ORs σ10 σ18 xg (o.getD []) := inferInstance
  have hig18 : Has σ18 ig ⟨.own, 1, [ug], []⟩ := inferInstance
  have hiw18 : Has σ18 iw ⟨.own, 1, [uw], []⟩ := inferInstance
  have hix18 : Has σ18 ix ⟨.own, 1, [I t.op, I t.n, sx], []⟩ := inferInstance
  have ruw18 : RW σ18 uw xw := inferInstance
  have rrw18 : RRs σ18 xw (o.getD []) := inferInstance
  have l618 : LeS σ6b σ18 := inferInstance
  have l018 : LeS σ σ18 := inferInstance
  have hownx : ∀ i, ((σ6b.length ≤ i ∧ i < σ7.length) ∧ ∃ l, Has σ18 i ⟨.own, 3, l, []⟩) → ∃ l, Has σ18 i ⟨.own, 3, l, []⟩ := fun i hi => hi.2
  have hrepx := (hx0.mono (fun i o _ ho => l718.keep i o ho) (fun _ h => h)).own
  refine wc_callMk σ6b σ7 rfl inferInstance rfl (c_markTerm t _ sx 1 σ18 hownx hrepx (by omega) (by omega)) (fun j hj => hj.1) hownx (fun i hi => .inr (Nat.le_trans y0 hi.1.1)) rfl ?_
  intro σ19 m19 _
  have hy19 := (hy0.mono (fun i o hi ho => m19.keep i o (.inr (by omega)) (l1018.keep i o ho)) (fun _ h => h)).own
  have owg19 : OW σ10 σ19 ug xg := inferInstance
  have org19 : ORs σ10 σ19 xg (o.getD []) := inferInstance
  have zig : σ10.length ≤ ig := by have := n12.le; have := g11.len; omega
  have hig19 : Has σ19 ig ⟨.own, 1, [ug], []⟩ := ⟨m19.keep _ _ (.inr (by have := l710.len; omega)) hig18.get⟩
  repeat' (first
    | refine wp_seqA ?_
    | refine wp_region_seq ?_
    | refine thru_seq_next ?_
    | refine wl_nil ?_
    | refine wl_pop rfl (po_move rfl) ?_
    | refine wl_pop rfl (po_assign rfl) ?_
    | fail)
  have hown19 : ∀ i, ((σ9.length ≤ i ∧ i < σ10.length) ∧ ∃ l, Has σ19 i ⟨.own, 3, l, []⟩) → ∃ l, Has σ19 i ⟨.own, 3, l, []⟩ := fun i hi => hi.2
  refine wc_callMk σ9 σ10 rfl inferInstance rfl (c_markTermS_all (.node 0 0 ds) _ dx (1 + 2 * (Tm.cnts t.ps : Int)) σ19 hown19 hy19 (by omega) (by show 1 + 2 * (Tm.cnts t.ps : Int) + 2 * (Tm.cnts ds : Int) ≤ 1000000000000; omega)) (fun j hj => hj.1) hown19 (fun i hi => .inr (Nat.le_trans y2 hi.1.1)) rfl ?_
  intro σ20 m20 _
  have l620 : LeS σ6b σ20 := inferInstance
  have l020 : LeS σ σ20 := l06.trans l620
  have ruw20 := ruw.les l620
  have rrw20 := rrw.les l620
  have hiw20 : Has σ20 iw ⟨.own, 1, [uw], []⟩ := ⟨l620.keep _ _ hiw.get⟩
  have h120 : Has σ20 i1 ⟨.own, 1, [I t.op, I t.n, s], []⟩ := ⟨l620.keep _ _ h16.get⟩
  have hig20 : Has σ20 ig ⟨.own, 1, [ug], []⟩ := ⟨m20.keep _ _ (.inr zig) hig19.get⟩
  have owg20 : OW σ10 σ20 ug xg := owg19.keep fun j o hj _ ho => m20.keep j o (.inr hj) ho
  have org20 : ORs σ10 σ20 xg (o.getD []) := org19.keep fun j o hj _ ho => m20.keep j o (.inr hj) ho
  have rwg20 : RW σ20 ug xg := owg20.rw
  have rrg20 : RRs σ20 xg (o.getD []) := org20.rrs
  have l610 : LeS σ6b σ10 := inferInstance
  have zig2 : σ11.length ≤ ig := n12.le
  clear m19 m20 hy19 hown19 hrepx hownx hx0 hy0 r7 r10 r15 r17 u6 u9 u13 h6 h8 h12 h1 owg19 org19 owg org hig19 hig18 hiw18 hix18 ruw18 rrw18
  repeat' (first
    | (refine wc_callR rfl inferInstance rfl (c_eqGraph _ _ _) rfl ?_; intro _ _)
    | refine wc_holdR 23 ?_
    | refine wc_loadn rfl inferInstance (at_has (cs := [_]) (.inl rfl) rfl rfl) rfl ?_
    | refine wc_guardNPr_false rfl rfl rfl rfl (fun _ => ?_) (fun _ => ?_)
    | refine wp_seqA ?_
    | refine wp_region_seq ?_
    | refine thru_seq_next ?_
    | refine thru_seq_ret ?_
    | refine wp_skipA ?_
    | refine wp_retA ?_
    | refine wl_nil ?_
    | refine wl_pop rfl (po_move rfl) ?_
    | refine wl_pop rfl (po_assign rfl) ?_
    | refine wl_pop rfl (po_binOp rfl rfl rfl) ?_
    | refine wl_pop rfl (pc_boolNeSelf rfl rfl inferInstance) ?_
    | refine wl_pop rfl (po_not rfl) ?_
    | refine wl_pop rfl (po_pick rfl rfl) ?_
    | refine wc_guardT_false rfl rfl rfl ?_
    | refine wc_guardF_false rfl rfl rfl rfl ?_
    | refine wp_condT rfl ?_
    | refine wp_condF rfl ?_
    | refine at_ret (res1 rfl rfl) ?_
    | fail)
  all_goals try exact absurd rfl (by assumption)
  rename_i σ21 g21 _
  have owg21 : OW σ10 σ21 ug xg := owg20.keep fun j o _ _ ho => g21.keep j o ho
  have org21 : ORs σ10 σ21 xg (o.getD []) := org20.keep fun j o _ _ ho => g21.keep j o ho
  refine hold_go ?_
  repeat' (first
    | refine wc_loadn rfl inferInstance (at_has (cs := [_]) (.inl rfl) rfl rfl) rfl ?_
    | refine wp_seqA ?_
    | refine wp_region_seq ?_
    | refine thru_seq_next ?_
    | refine wl_nil ?_
    | refine wl_pop rfl (po_move rfl) ?_
    | refine wl_pop rfl (po_assign rfl) ?_
    | fail)
  refine wc_callMkR3 σ10 σ11 rfl inferInstance rfl (by decide) owg21 org21 or11 (c_markGraph _ ug 1 org21 (by omega) (by omega)) (fun i hi => .inr (Nat.le_trans y3 hi)) rfl ?_
  intro σ22 m22 ow22 or22
  have l622 : LeS σ6b σ22 := inferInstance
  have l022 : LeS σ σ22 := l06.trans l622
  have rw22 : RW σ22 uw xw := ruw.les l622
  have rr22 : RRs σ22 xw (o.getD []) := rrw.les l622
  have hiw22 : Has σ22 iw ⟨.own, 1, [uw], []⟩ := ⟨l622.keep _ _ hiw.get⟩
  have h122 : Has σ22 i1 ⟨.own, 1, [I t.op, I t.n, s], []⟩ := ⟨l622.keep _ _ h16.get⟩
  have hig22 : Has σ22 ig ⟨.own, 1, [ug], []⟩ := ⟨m22.keep _ _ (.inr zig2) (g21.keep _ _ hig20.get)⟩
  have rwg22 : RW σ22 ug xg := ow22.rw
  have rrg22 : RRs σ22 xg (mkG 1 (o.getD [])) := or22.rrs
  clear m22 ow22 or22 owg21 org21 owg20 org20 rwg20 rrg20 hig20 h120 hiw20 rrw20 ruw20 l620 l020 ruw rrw h16 hiw l6 l06
  repeat' (first
    | (refine wc_callR rfl inferInstance rfl (c_heldGraph _ _ _ (by omega) (by omega)) rfl ?_; intro _ _)
    | (refine wc_callTD rfl inferInstance rfl (c_toTermL hs _) rfl ?_; intro _ _ _ _ _)
    | (refine wc_callTsD rfl inferInstance rfl (c_toTermSL2 hd _) rfl ?_; intro _ _ _ _ _)
    | (refine wc_callGO rfl inferInstance rfl (ho ▸ c_GraphOf t ds _ _ _) rfl ?_; intro _ _ _ _ _ _ _)
    | (refine wc_callR rfl inferInstance rfl (c_eqGraph _ _ _) rfl ?_; intro _ _)
    | refine wc_loadn rfl inferInstance (at_has (cs := [_]) (.inl rfl) rfl rfl) rfl ?_
    | refine wc_guardNPr_false rfl rfl rfl rfl (fun _ => ?_) (fun _ => ?_)
    | refine wp_seqA ?_
    | refine wp_region_seq ?_
    | refine thru_seq_next ?_
    | refine thru_seq_ret ?_
    | refine wp_skipA ?_
    | refine wp_retA ?_
    | refine wl_nil ?_
    | refine wl_pop rfl (po_move rfl) ?_
    | refine wl_pop rfl (po_assign rfl) ?_
    | refine wl_pop rfl (po_binOp rfl rfl rfl) ?_
    | refine wl_pop rfl (pc_boolNeSelf rfl rfl inferInstance) ?_
    | refine wc_loadn rfl inferInstance (at_has (cs := [_, _, _]) (.inl rfl) rfl rfl) rfl ?_
    | refine wl_pop rfl (po_not rfl) ?_
    | (refine wc_storeA rfl rfl inferInstance inferInstance rfl inferInstance (Nat.le_of_ble_eq_true rfl) (.inr (may_new _)) ?_; intro _ _)
    | refine wl_pop rfl (po_extract rfl rfl) ?_
    | (refine wc_allocA (cs := [_]) inferInstance rfl inferInstance rfl ?_; intro _ _ _ _ _)
    | refine wl_pop rfl (po_pick rfl rfl) ?_
    | refine wc_guardT_false rfl rfl rfl ?_
    | refine wc_guardF_false rfl rfl rfl rfl ?_
    | refine wp_condT rfl ?_
    | refine wp_condF rfl ?_
    | refine wp_condNP rfl (fun _ => ?_) (fun _ => ?_)
    | refine at_ret (res1 rfl rfl) ?_
    | exact ret_ inferInstance rfl
    | fail)
  all_goals first
    | (exfalso; omega)
    | exact absurd rfl (by assumption)
    | exact ret_ inferInstance rfl
end
end Go.Proofs.YtpkgcdpebomalaaDoor.Asl
