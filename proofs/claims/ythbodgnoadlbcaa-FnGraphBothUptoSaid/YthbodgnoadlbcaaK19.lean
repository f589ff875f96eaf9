/- Several texts in one. -/
import Derived.Test.YthbodgnoadlbcaaT32
import Derived.Test.YthbodgnoadlbcaaK6
import Derived.Test.YthbodgnoadlbcaaG28
/- What FnTermsAlike draws. -/
namespace Go.Proofs.Ythbodgnoadlbcaa.Asl
open Go.RowKit
set_option linter.unusedVariables false
set_option linter.unusedSimpArgs false
attribute [local irreducible] WP WL andThen inBlock noGoto atEnd ACall DA DL PO Hold
set_option maxHeartbeats 4000000
set_option synthInstance.maxHeartbeats 400000
set_option synthInstance.maxSize 10000
section
variable {E : Env} {ops : Array Oper} {l : List Oper} {Q : Exit → Slots → Store → Prop} {S : Slots} {σ : Store} {d : Option Tmp} {ty : TypeId} {pos : String} {af : Array Edge} {x y : Operand}
theorem wc_callPr {args : Array Operand} {ats : Array TypeId} {f : FuncId} {rs caps : List AV} {i : Nat} {s : AV} {p K : Int} (hf : S.ev x = some (.fn f caps)) (hc : Callable E.P f) (hargs : evs S args.toList = some rs)
    (h : ACall E.P E.base f (rs ++ caps) σ (fun j => j = i) (RetRd σ i s p K (QPair σ))) (ho : Has σ i (RdO s p)) (hm : E.may i) (hd : okd E d = true) (k : ∀ (t t' : Tm) (u u' v : AV) (xs : List Tm) (p' : Int) σ₁ σ', One u → One u' → One v → RTsN σ σ' u t.ps → RTsN σ σ' u' t'.ps → RTsN σ σ' v xs → xs.length ≤ 3 → p ≤ p' → p' ≤ p + K → Grow σ σ₁ → Upd σ₁ i (RdO s p') σ' → WL E ops l Q (S.put d (.tup [.agg [I t.op, I t.n, u], .agg [I t'.op, I t'.n, u'], v])) σ') :
    WL E ops (⟨d, .call ⟨.value x, args, ats⟩, ty, pos, af, none⟩ :: l) Q S σ :=
  wc_callRd hf hc hargs h ho hm hd fun r p' σ₁ σ' h1 h2 g u hq => by
    obtain ⟨t, t', v, v', w, xs, rfl, h3, h4, h5, h6⟩ := hq
    exact k t t' v v' w xs p' σ₁ σ' h3.rts.one h4.rts.one h5.rts.one h3 h4 h5 h6 h1 h2 g u
/-- Two terms and definitions that are drawn, alone. -/
def RetTT (σ : Store) : AV → Store → Prop := fun r σ' => ∃ (t t' : Tm) (u u' v : AV) (xs : List Tm), r = .tup [.agg [I t.op, I t.n, u], .agg [I t'.op, I t'.n, u'], v] ∧ RTs σ' u t.ps ∧ RTs σ' u' t'.ps ∧ RTs σ' v xs ∧ xs.length ≤ 3 ∧ Grow σ σ'
end
end Go.Proofs.Ythbodgnoadlbcaa.Asl

/- The reader: two graphs that are often alike. -/
namespace Go.Proofs.Ythbodgnoadlbcaa.Asl
open Go.RowKit Go.Proofs.YthbodgnoadlbcaaW.PrintLast
set_option linter.unusedVariables false
set_option linter.unusedSimpArgs false
attribute [local irreducible] WP WL andThen inBlock noGoto atEnd ACall DA DL DX PO Hold nodeOk Tm.shape Tm.ok Tm.txt graphO
set_option maxHeartbeats 4000000
set_option synthInstance.maxHeartbeats 400000
set_option synthInstance.maxSize 10000
theorem fold_bnd {g : Gr} (h : ∀ l ∈ g, l.length ≤ 331776) : ∀ l ∈ foldG g (lastC g), l.length ≤ 331776 := by
  intro l hl
  simp only [foldG, List.mem_map] at hl
  obtain ⟨k, _, rfl⟩ := hl
  have := tidyL_lenK ((rowOf g k).map fun m => ((m.1, (((reps (lastC g)).idxOf ((lastC g).getD m.2.toNat 0) : Nat) : Int)) : Mv))
  rw [List.length_map] at this
  exact Nat.le_trans this (getD_all (p := fun (l : List Mv) => l.length ≤ 331776) h (by simp) k)
section
variable {base : Nat}
/-- Two graphs that are drawn. -/
def QTw (σ : Store) : AV → Store → Prop := fun r σ' => ∃ (u : AV) (us : List AV) (g : Gr) (u' : AV) (us' : List AV) (g' : Gr), r = .tup [.agg [u], .agg [u']] ∧ NG σ σ' u us g ∧ NG σ σ' u' us' g' ∧ (∀ l ∈ g, l.length ≤ 331776) ∧ ∀ l ∈ g', l.length ≤ 331776
theorem c_l91Twins (i : Nat) (s : AV) (b : List UInt8) (p : Int) (σ : Store) [hi : Has σ i (RdO s p)] [hb : Bk σ i s b] (hp : 0 ≤ p) (hp2 : p ≤ 999700000) : ACall Try.prog base F_spec_l91Twins [.pt i 0] σ (fun j => j = i) (RetRd σ i s p 16000 (QTw σ)) := by
  have := hb.rw.one
  have hi0 := hi.lt
  refine acall1 fun_spec_l91Twins rfl tmps_spec_l91Twins rfl fun N B w₀ ρ₀ => ?_
  repeat' (first
    | (refine wc_callQG rfl inferInstance rfl (c_l91Graph i s b _ _ (hb := hb.le inferInstance) (by omega) (by omega)) inferInstance (.inl rfl) rfl ?_; intro _ _ _ _ _ _ _ _ _ _ _ _ _)
    | (refine wc_storeA rfl rfl inferInstance inferInstance rfl inferInstance (Nat.le_of_ble_eq_true rfl) (.inr (may_newB i σ)) ?_; intro _ _)
    | refine wc_holdR 2 ?_
    | refine wp_seqA ?_
    | refine wp_region_seq ?_
    | refine thru_seq_next ?_
    | refine wl_nil ?_
    | refine wl_pop rfl (po_move rfl) ?_
    | (refine wc_allocA (cs := [_]) inferInstance rfl inferInstance rfl ?_; intro _ _ _ _ _)
    | fail)
  rename_i i1 σ1 g1 n1 h1 i2 σ2 g2 n2 h2 u us gr p3 σ3 σ4 o4 ng4 hg4 a1 a2 g4 u4 u' us' gr' p5 σ5 σ6 o6 ng6 hg6 a3 a4 g6 u6 j σ7 g7 n7 h7 j2 σ8 g8 n8 h8 σ9 u9 σ10 u10
  have y1 := n1.le
  have y2 := h1.lt
  have y3 := n2.le
  have y4 := h2.lt
  have y5 := (inferInstance : LeB i σ σ1).len
  have y6 := (inferInstance : LeB i σ2 σ4).len
  have y7 := (inferInstance : LeB i σ4 σ6).len
  have y8 := n7.le
  have y9 := h7.lt
  have y10 := n8.le
  have y11 := h8.lt
  have y12 := Upd.len u9
  have y13 := Upd.len u10
  have y14 := g7.len
  have y15 := g8.len
  have k610 : ∀ (x : Nat) (o : Ob), x < σ6.length → σ6[x]? = some o → σ10[x]? = some o := fun x o hx ho => by rw [u10.eq, List.getElem?_set_ne (by omega), u9.eq, List.getElem?_set_ne (by omega)]; exact g8.keep x o (g7.keep x o ho)
  have k210 : ∀ (x : Nat) (o : Ob), x ≠ i → σ2[x]? = some o → σ10[x]? = some o := fun x o hx ho => k610 x o (by have := Has.lt ⟨ho⟩; omega) ((inferInstance : LeB i σ2 σ6).keep.keep x o hx ho)
  have hj10 : Has σ10 j ⟨.own, 1, [u], []⟩ := ⟨by rw [u10.eq, List.getElem?_set_ne (by omega)]; exact (instHasUpd (g := u9) : Has σ9 j ⟨.own, 1, [u], []⟩).get⟩
  have hk10 : Has σ10 j2 ⟨.own, 1, [u'], []⟩ := instHasUpd (g := u10)
  have hi110 : Has σ10 i1 ⟨.own, 1, [nilS], []⟩ := ⟨k210 _ _ (by omega) ((inferInstance : Has σ2 i1 ⟨.own, 1, [nilS], []⟩).get)⟩
  have hi210 : Has σ10 i2 ⟨.own, 1, [nilS], []⟩ := ⟨k210 _ _ (by omega) h2.get⟩
  have hi10 : Has σ10 i (RdO s p5) := inferInstance
  have hle10 : LeB i σ σ10 := inferInstance
  have NA : NG σ2 σ10 u us gr := ng4.keep fun x o hx ho => k610 x o (by have := Has.lt ⟨ho⟩; omega) ((inferInstance : LeB i σ4 σ6).keep.keep x o (by omega) ho)
  have NB : NG σ2 σ10 u' us' gr' := (ng6.down (by omega : σ2.length ≤ σ4.length) : NG σ2 σ6 u' us' gr').keep fun x o hx ho => k610 x o (Has.lt ⟨ho⟩) ho
  have b10 : Bk σ10 i s b := hb.le hle10
  clear u4 u6 u9 u10 h1 h2 h7 h8 ng4 ng6
  refine hold_go ?_
  repeat' (first
    | (refine wc_callP rfl inferInstance rfl (c_pick i s b _ _ _ (hb := hb.le inferInstance) (by omega) (by omega)) inferInstance (.inl rfl) rfl ?_; intro _ _ _ _ _ _ _ _ _ _)
    | refine wc_hold 0 ?_
    | refine wp_region_seq ?_
    | refine thru_seq_next ?_
    | refine wl_nil ?_
    | refine wl_pop rfl (po_move rfl) ?_
    | fail)
  rename_i v p12 σ11 σ12 c1 c2 c3 c4 g12 u12
  have k12 : ∀ (x : Nat) (o : Ob), x ≠ i → σ10[x]? = some o → σ12[x]? = some o := fun x o hx ho => (inferInstance : LeB i σ10 σ12).keep.keep x o hx ho
  have z12 := (inferInstance : LeB i σ10 σ12).len
  have hj : Has σ12 j ⟨.own, 1, [u], []⟩ := ⟨k12 _ _ (by omega) hj10.get⟩
  have hk : Has σ12 j2 ⟨.own, 1, [u'], []⟩ := ⟨k12 _ _ (by omega) hk10.get⟩
  have hi1 : Has σ12 i1 ⟨.own, 1, [nilS], []⟩ := ⟨k12 _ _ (by omega) hi110.get⟩
  have hi2 : Has σ12 i2 ⟨.own, 1, [nilS], []⟩ := ⟨k12 _ _ (by omega) hi210.get⟩
  have hi12 : Has σ12 i (RdO s p12) := inferInstance
  have hle12 : LeB i σ σ12 := inferInstance
  have NA12 : NG σ2 σ12 u us gr := NA.keep fun x o hx ho => k12 x o (by omega) ho
  have NB12 : NG σ2 σ12 u' us' gr' := NB.keep fun x o hx ho => k12 x o (by omega) ho
  have rwA : RW σ12 u us := inferInstance
  have rrA : RRs σ12 us gr := NA12.rrs
  have hlim : ∀ k, (gr.getD k []).length < 4294967296 := fun k => Nat.lt_of_le_of_lt (getD_all (p := fun (l : List Mv) => l.length ≤ 331776) hg4 (by simp) k) (by decide)
  clear u12 NA NB hj10 hk10 hi110 hi210 hi10 hle10 b10
  refine wc_cut (ι := Int) [(2, .pt i1 0), (3, .pt i2 0), (4, .pt j 0), (5, .pt j2 0)] (fun _ => []) (fun q σ' => p ≤ q ∧ q ≤ p + 16000 ∧ Has σ' i (RdO s q) ∧ LeB i σ σ' ∧ Has σ' j ⟨.own, 1, [u], []⟩ ∧ Has σ' j2 ⟨.own, 1, [u'], []⟩ ∧ Has σ' i1 ⟨.own, 1, [nilS], []⟩ ∧ Has σ' i2 ⟨.own, 1, [nilS], []⟩ ∧ NG σ2 σ' u us gr ∧ NG σ2 σ' u' us' gr') ?_ ?_
  rotate_left
  · clear hj hk hi1 hi2 hi12 NA12 NB12 rwA rrA hle12
    rintro q σ' ⟨c1, c2, c3, c4, hj, hk, hi1, hi2, N1, N2⟩
    repeat' (first
      | refine wc_holdR 13 ?_
      | refine wp_seqA ?_
      | fail)
    refine hold_go ?_
    refine wc_drawnXp (t := 2) i1 [3] mixed_ rfl rfl ?_
    refine dx_loadnB 0 rfl rfl (by kernel_rfl) rfl inferInstance (at_has (h := hj) (cs := [_]) (.inl rfl) rfl rfl) hj.lt hi1 (by omega) ?_
    refine dx_loadnB 1 rfl rfl (by kernel_rfl) rfl inferInstance (at_has (h := hk) (cs := [_]) (.inl rfl) rfl rfl) hk.lt hi1 (by omega) ?_
    refine dx_one 2 rfl (by kernel_rfl) hi1 (.inr (by omega)) ?_
    intro N' B' w' r' may' hmay
    refine wc_storeA rfl rfl inferInstance hi1 rfl inferInstance (Nat.le_of_ble_eq_true rfl) (hmay _ (.inl rfl)) ?_
    intro σx ux
    have d12 : Has σx i2 ⟨.own, 1, [nilS], []⟩ := ⟨by rw [ux.eq, List.getElem?_set_ne (by omega)]; exact hi2.get⟩
    refine wl_nil ⟨rfl, by have := Upd.len ux; omega, ?_⟩
    refine dx_last 3 rfl (by decide) (by kernel_rfl) ?_
    refine wc_storeA rfl rfl inferInstance d12 rfl inferInstance (Nat.le_of_ble_eq_true rfl) (.inr (by show σ.length ≤ i2; omega)) ?_
    intro σy uy
    refine wl_nil (dl_in ?_)
    refine dl_done (by kernel_rfl) ?_
    have e1 : Has σy i1 ⟨.own, 1, [u], []⟩ := ⟨by rw [uy.eq, List.getElem?_set_ne (by omega)]; exact (instHasUpd (g := ux) : Has σx i1 ⟨.own, 1, [u], []⟩).get⟩
    have e2 : Has σy i2 ⟨.own, 1, [u'], []⟩ := instHasUpd (g := uy)
    have kk : ∀ (x : Nat) (o : Ob), x ≠ i1 → x ≠ i2 → σ'[x]? = some o → σy[x]? = some o := fun x o h1 h2 ho => by rw [uy.eq, List.getElem?_set_ne (by omega), ux.eq, List.getElem?_set_ne (by omega)]; exact ho
    have ly : σy.length = σ'.length := by have := Upd.len uy; have := Upd.len ux; omega
    repeat' (first
      | refine at_ret (res_cc rfl rfl inferInstance (at_has (h := e1) (cs := [_]) (.inl rfl) rfl rfl) rfl inferInstance (at_has (h := e2) (cs := [_]) (.inl rfl) rfl rfl)) ?_
      | refine thru_seq_next ?_
      | refine wp_retA ?_
      | fail)
    exact ⟨⟨q, c1, c2, ⟨kk _ _ (by omega) (by omega) c3.get⟩⟩, ⟨⟨fun x o hx ho => kk x o (by have := Has.lt ⟨ho⟩; omega) (by have := Has.lt ⟨ho⟩; omega) (c4.keep.keep x o hx ho)⟩, by have := c4.len; omega⟩, u, us, gr, u', us', gr', rfl, (N1.keep fun x o hx ho => kk x o (by omega) (by omega) ho).down (by omega), (N2.keep fun x o hx ho => kk x o (by omega) (by omega) ho).down (by omega), hg4, hg6⟩
  · repeat' (first
      | (refine wc_callPr rfl inferInstance rfl (c_l91Pair i s b _ _ (hb := hb.le inferInstance) (by omega) (by omega)) inferInstance (.inl rfl) rfl ?_; intro _ _ _ _ _ _ _ _ _ _ _ _ _ _ _ _ _ _ _ _)
      | (refine wc_storeA rfl rfl inferInstance inferInstance rfl inferInstance (Nat.le_of_ble_eq_true rfl) (.inr (may_newB i σ)) ?_; intro _ _)
      | (refine wc_callGO rfl inferInstance rfl (c_sGraphFold _ _ hlim) rfl ?_; intro _ _ _ _ _ _ _)
      | refine wc_holdR 5 ?_
      | refine wc_holdR 11 ?_
      | refine wc_loadn rfl inferInstance (at_has (cs := [_]) (.inl rfl) rfl rfl) rfl ?_
      | refine wp_seqA ?_
      | refine wp_region_seq ?_
      | refine thru_seq_next ?_
      | refine thru_block_next ?_
      | refine wp_skipA ?_
      | refine wp_blockA ?_
      | refine wl_nil ?_
      | refine wl_pop rfl (po_move rfl) ?_
      | refine wl_pop rfl (po_assign rfl) ?_
      | refine wl_pop rfl (po_binOp rfl rfl rfl) ?_
      | refine wl_pop rfl (po_extract rfl rfl) ?_
      | (refine wc_allocA (cs := [_]) inferInstance rfl inferInstance rfl ?_; intro _ _ _ _ _)
      | (refine wc_allocA (cs := [_, _, _]) inferInstance rfl inferInstance rfl ?_; intro _ _ _ _ _)
      | refine wp_condP rfl (fun _ => ?_) (fun _ => ?_)
      | fail)
    · rename_i h0 t t' w w' vv xs p13 σ13 σ14 o1 o2 o3 rw1 rw2 rw3 hx b1 b2 g14 u14 j3 σ15 g15 n15 h15 j4 σ16 g16 n16 h16 σ17 u17 σ18 u18
      have z1 := (inferInstance : LeB i σ12 σ14).len
      have z2 := n15.le
      have z3 := h15.lt
      have z4 := n16.le
      have z5 := h16.lt
      have z6 := Upd.len u17
      have z7 := Upd.len u18
      have z8 := g15.len
      have z9 := g16.len
      have q1 := hj.lt
      have q2 := hk.lt
      have q3 := hi1.lt
      have q4 := hi2.lt
      have k1418 : ∀ (x : Nat) (o : Ob), x < σ14.length → σ14[x]? = some o → σ18[x]? = some o := fun x o hx ho => by rw [u18.eq, List.getElem?_set_ne (by omega), u17.eq, List.getElem?_set_ne (by omega)]; exact g16.keep x o (g15.keep x o ho)
      have k1218 : ∀ (x : Nat) (o : Ob), x ≠ i → σ12[x]? = some o → σ18[x]? = some o := fun x o hx ho => k1418 x o (by have := Has.lt ⟨ho⟩; omega) ((inferInstance : LeB i σ12 σ14).keep.keep x o hx ho)
      have ha3 : Has σ18 j3 ⟨.own, 1, [I t.op, I t.n, w], []⟩ := ⟨by rw [u18.eq, List.getElem?_set_ne (by omega)]; exact (instHasUpd (g := u17) : Has σ17 j3 ⟨.own, 1, [I t.op, I t.n, w], []⟩).get⟩
      have ha4 : Has σ18 j4 ⟨.own, 1, [I t'.op, I t'.n, w'], []⟩ := instHasUpd (g := u18)
      have R1 : RTs σ18 w t.ps := ⟨rw1.rep.mono (fun x o _ ho => k1418 x o (Has.lt ⟨ho⟩) ho) (fun _ _ => trivial)⟩
      have R2 : RTs σ18 w' t'.ps := ⟨rw2.rep.mono (fun x o _ ho => k1418 x o (Has.lt ⟨ho⟩) ho) (fun _ _ => trivial)⟩
      have R3 : RTs σ18 vv xs := ⟨rw3.rep.mono (fun x o _ ho => k1418 x o (Has.lt ⟨ho⟩) ho) (fun _ _ => trivial)⟩
      have hi18 : Has σ18 i (RdO s p13) := inferInstance
      have hle18 : LeB i σ σ18 := inferInstance
      have hj' : Has σ18 j ⟨.own, 1, [u], []⟩ := ⟨k1218 _ _ (by omega) hj.get⟩
      have hk' : Has σ18 j2 ⟨.own, 1, [u'], []⟩ := ⟨k1218 _ _ (by omega) hk.get⟩
      have hi1' : Has σ18 i1 ⟨.own, 1, [nilS], []⟩ := ⟨k1218 _ _ (by omega) hi1.get⟩
      have hi2' : Has σ18 i2 ⟨.own, 1, [nilS], []⟩ := ⟨k1218 _ _ (by omega) hi2.get⟩
      have N1' : NG σ2 σ18 u us gr := NA12.keep fun x o hx ho => k1218 x o (by omega) ho
      have N2' : NG σ2 σ18 u' us' gr' := NB12.keep fun x o hx ho => k1218 x o (by omega) ho
      clear u14 u17 u18 h15 h16 rw1 rw2 rw3 hj hk hi1 hi2 hi12 NA12 NB12 rwA rrA hle12
      refine hold_go ?_
      repeat' (first
        | (refine wc_callGO rfl inferInstance rfl (c_sGraphOf t xs _ _ _) rfl ?_; intro _ _ _ _ _ _ _)
        | (refine wc_callGO rfl inferInstance rfl (c_sGraphOf t' xs _ _ _) rfl ?_; intro _ _ _ _ _ _ _)
        | (refine wc_storeA rfl rfl inferInstance inferInstance rfl inferInstance (Nat.le_of_ble_eq_true rfl) (.inr (may_newB i σ)) ?_; intro _ _)
        | refine wc_holdR 7 ?_
        | refine wp_seqA ?_
        | refine wp_region_seq ?_
        | refine thru_seq_next ?_
        | refine wl_nil ?_
        | refine wl_pop rfl (po_move rfl) ?_
        | refine wl_pop rfl (po_assign rfl) ?_
        | refine wc_loadn rfl inferInstance (at_has (cs := [_, _, _]) (.inl rfl) rfl rfl) rfl ?_
        | refine wl_pop rfl (po_extract rfl rfl) ?_
        | (refine wc_allocA (cs := [_]) inferInstance rfl inferInstance rfl ?_; intro _ _ _ _ _)
        | fail)
      rename_i x0 ws0 σ19 ox0 ow0 or0 g19 j5 σ20 g20 n20 h20 σ21 u21 x1 ws1 σ22 ox1 ow1 or1 g22 j6 σ23 g23 n23 h23 σ' u24
      have v1 := n20.le
      have v2 := h20.lt
      have v3 := Upd.len u21
      have v4 := n23.le
      have v5 := h23.lt
      have v6 := Upd.len u24
      have v7 := g19.len
      have v8 := g20.len
      have v9 := g22.len
      have v10 := g23.len
      have k22 : ∀ (x : Nat) (o : Ob), x < σ22.length → σ22[x]? = some o → σ'[x]? = some o := fun x o hx ho => by rw [u24.eq, List.getElem?_set_ne (by omega)]; exact g23.keep x o ho
      have k19 : ∀ (x : Nat) (o : Ob), x < σ19.length → σ19[x]? = some o → σ'[x]? = some o := fun x o hx ho => k22 x o (by omega) (g22.keep x o (by rw [u21.eq, List.getElem?_set_ne (by omega)]; exact g20.keep x o ho))
      have k18 : ∀ (x : Nat) (o : Ob), σ18[x]? = some o → σ'[x]? = some o := fun x o ho => k19 x o (by have := Has.lt ⟨ho⟩; omega) (g19.keep x o ho)
      have m1 : NG σ18 σ19 x0 ws0 ((graphO xs t).getD []) := .of ow0 or0 (Nat.le_refl _)
      have m2 : NG σ21 σ22 x1 ws1 ((graphO xs t').getD []) := .of ow1 or1 (Nat.le_refl _)
      have N1 : NG σ18 σ' x0 ws0 ((graphO xs t).getD []) := m1.keep fun x o hx ho => k19 x o (Has.lt ⟨ho⟩) ho
      have N2 : NG σ21 σ' x1 ws1 ((graphO xs t').getD []) := m2.keep fun x o hx ho => k22 x o (Has.lt ⟨ho⟩) ho
      have ha : Has σ' j5 ⟨.own, 1, [x0], []⟩ := ⟨k22 _ _ (by omega) (g22.keep _ _ (instHasUpd (g := u21) : Has σ21 j5 ⟨.own, 1, [x0], []⟩).get)⟩
      have hb6 : Has σ' j6 ⟨.own, 1, [x1], []⟩ := instHasUpd (g := u24)
      have hi1c : Has σ' i1 ⟨.own, 1, [nilS], []⟩ := ⟨k18 _ _ hi1'.get⟩
      have hi2c : Has σ' i2 ⟨.own, 1, [nilS], []⟩ := ⟨k18 _ _ hi2'.get⟩
      have c3 : Has σ' i (RdO s p13) := ⟨k18 _ _ hi18.get⟩
      have c4 : LeB i σ σ' := ⟨⟨fun x o hx ho => k18 x o (hle18.keep.keep x o hx ho)⟩, by have := hle18.len; omega⟩
      have l18 : σ2.length ≤ σ18.length := by omega
      have hjc : Has σ' j ⟨.own, 1, [u], []⟩ := ⟨k18 _ _ hj'.get⟩
      have hkc : Has σ' j2 ⟨.own, 1, [u'], []⟩ := ⟨k18 _ _ hk'.get⟩
      have N1c : NG σ2 σ' u us gr := N1'.keep fun x o hx ho => k18 x o ho
      have N2c : NG σ2 σ' u' us' gr' := N2'.keep fun x o hx ho => k18 x o ho
      have hout : p ≤ p13 ∧ p13 ≤ p + 16000 ∧ Has σ' i (RdO s p13) ∧ LeB i σ σ' ∧ Has σ' j ⟨.own, 1, [u], []⟩ ∧ Has σ' j2 ⟨.own, 1, [u'], []⟩ ∧ Has σ' i1 ⟨.own, 1, [nilS], []⟩ ∧ Has σ' i2 ⟨.own, 1, [nilS], []⟩ ∧ NG σ2 σ' u us gr ∧ NG σ2 σ' u' us' gr' := ⟨by omega, by omega, c3, c4, hjc, hkc, hi1c, hi2c, N1c, N2c⟩
      clear u21 u24 h20 h23 hjc hkc N1c N2c hj' hk' hi1' hi2' hi18 hle18 N1' N2' R1 R2 R3 m1 m2 ha3 ha4
      refine hold_go ?_
      repeat' (first
        | refine wc_holdR 8 ?_
        | refine wp_seqA ?_
        | refine wp_region_seq ?_
        | refine thru_seq_next ?_
        | refine thru_block_next ?_
        | refine wp_skipA ?_
        | refine wl_nil ?_
        | refine wl_pop rfl (po_move rfl) ?_
        | refine wl_pop rfl (po_pick rfl rfl) ?_
        | refine wc_guard rfl rfl rfl rfl (fun _ => ?_) (fun _ => ?_)
        | refine wp_condF rfl ?_
        | refine wp_condA rfl (fun _ => ?_) (fun _ => ?_)
        | fail)
      all_goals first | (exact ⟨p13, hout, (by repeat' (first | exact sub_nil | refine sub_cons rfl ?_ | refine sub_int rfl (by first | rfl | omega | (push_cast; omega) | simp) ?_ | refine sub_eq rfl (by assumption) ?_))⟩) | skip
      refine hold_go ?_
      refine wc_drawnXp (t := 2) i1 [3] mixed_ rfl rfl ?_
      refine dx_loadnB 0 rfl rfl (by kernel_rfl) rfl inferInstance (at_has (h := ha) (cs := [_]) (.inl rfl) rfl rfl) ha.lt hi1c (by omega) ?_
      refine dx_loadnB 1 rfl rfl (by kernel_rfl) rfl inferInstance (at_has (h := hb6) (cs := [_]) (.inl rfl) rfl rfl) hb6.lt hi1c (by omega) ?_
      refine dx_one 2 rfl (by kernel_rfl) hi1c (.inr (by omega)) ?_
      intro N' B' w' r' may' hmay
      refine wc_storeA rfl rfl inferInstance hi1c rfl inferInstance (Nat.le_of_ble_eq_true rfl) (hmay _ (.inl rfl)) ?_
      intro σx ux
      have d12 : Has σx i2 ⟨.own, 1, [nilS], []⟩ := ⟨by rw [ux.eq, List.getElem?_set_ne (by omega)]; exact hi2c.get⟩
      refine wl_nil ⟨rfl, by have := Upd.len ux; omega, ?_⟩
      refine dx_last 3 rfl (by decide) (by kernel_rfl) ?_
      refine wc_storeA rfl rfl inferInstance d12 rfl inferInstance (Nat.le_of_ble_eq_true rfl) (.inr (by show σ.length ≤ i2; omega)) ?_
      intro σy uy
      refine wl_nil (dl_in ?_)
      refine dl_done (by kernel_rfl) ?_
      have e1 : Has σy i1 ⟨.own, 1, [x0], []⟩ := ⟨by rw [uy.eq, List.getElem?_set_ne (by omega)]; exact (instHasUpd (g := ux) : Has σx i1 ⟨.own, 1, [x0], []⟩).get⟩
      have e2 : Has σy i2 ⟨.own, 1, [x1], []⟩ := instHasUpd (g := uy)
      have kk : ∀ (x : Nat) (o : Ob), x ≠ i1 → x ≠ i2 → σ'[x]? = some o → σy[x]? = some o := fun x o h1 h2 ho => by rw [uy.eq, List.getElem?_set_ne (by omega), ux.eq, List.getElem?_set_ne (by omega)]; exact ho
      have ly : σy.length = σ'.length := by have := Upd.len uy; have := Upd.len ux; omega
      repeat' (first
        | refine at_ret (res_cc rfl rfl inferInstance (at_has (h := e1) (cs := [_]) (.inl rfl) rfl rfl) rfl inferInstance (at_has (h := e2) (cs := [_]) (.inl rfl) rfl rfl)) ?_
        | refine thru_seq_next ?_
        | refine thru_seq_ret ?_
        | refine thru_block_ret ?_
        | refine wp_retA ?_
        | fail)
      exact ⟨⟨p13, (by omega), (by omega), ⟨kk _ _ (by omega) (by omega) c3.get⟩⟩, ⟨⟨fun x o hx ho => kk x o (by have := Has.lt ⟨ho⟩; omega) (by have := Has.lt ⟨ho⟩; omega) (c4.keep.keep x o hx ho)⟩, by have := c4.len; omega⟩, x0, ws0, _, x1, ws1, _, rfl, (N1.keep fun x o hx ho => kk x o (by omega) (by omega) ho).down (by omega), (N2.keep fun x o hx ho => kk x o (by omega) (by omega) ho).down (by omega), graphO_bnd, graphO_bnd⟩
    · rename_i h0 h1 x1 ws1 σ13 ox1 ow1 or1 g13 j6 σ14 g14 n14 h14 σ' u15
      have v4 := n14.le
      have v5 := h14.lt
      have v6 := Upd.len u15
      have v7 := g13.len
      have v8 := g14.len
      have q1 := hj.lt
      have q2 := hk.lt
      have q3 := hi1.lt
      have q4 := hi2.lt
      have k13 : ∀ (x : Nat) (o : Ob), x < σ13.length → σ13[x]? = some o → σ'[x]? = some o := fun x o hx ho => by rw [u15.eq, List.getElem?_set_ne (by omega)]; exact g14.keep x o ho
      have k12' : ∀ (x : Nat) (o : Ob), σ12[x]? = some o → σ'[x]? = some o := fun x o ho => k13 x o (by have := Has.lt ⟨ho⟩; omega) (g13.keep x o ho)
      have m2 : NG σ12 σ13 x1 ws1 ((optB (GOk gr) (foldG gr (lastC gr))).getD []) := .of ow1 or1 (Nat.le_refl _)
      have N2 : NG σ12 σ' x1 ws1 ((optB (GOk gr) (foldG gr (lastC gr))).getD []) := m2.keep fun x o hx ho => k13 x o (Has.lt ⟨ho⟩) ho
      have hgf : ∀ l ∈ (optB (GOk gr) (foldG gr (lastC gr))).getD [], l.length ≤ 331776 := by
        unfold optB
        split
        · exact fold_bnd hg4
        · simp
      have hb6 : Has σ' j6 ⟨.own, 1, [x1], []⟩ := instHasUpd (g := u15)
      have ha : Has σ' j ⟨.own, 1, [u], []⟩ := ⟨k12' _ _ hj.get⟩
      have hkc : Has σ' j2 ⟨.own, 1, [u'], []⟩ := ⟨k12' _ _ hk.get⟩
      have hi1c : Has σ' i1 ⟨.own, 1, [nilS], []⟩ := ⟨k12' _ _ hi1.get⟩
      have hi2c : Has σ' i2 ⟨.own, 1, [nilS], []⟩ := ⟨k12' _ _ hi2.get⟩
      have c3 : Has σ' i (RdO s p12) := ⟨k12' _ _ hi12.get⟩
      have c4 : LeB i σ σ' := ⟨⟨fun x o hx ho => k12' x o (hle12.keep.keep x o hx ho)⟩, by have := hle12.len; omega⟩
      have N1 : NG σ2 σ' u us gr := NA12.keep fun x o hx ho => k12' x o ho
      have N2c : NG σ2 σ' u' us' gr' := NB12.keep fun x o hx ho => k12' x o ho
      have hout : p ≤ p12 ∧ p12 ≤ p + 16000 ∧ Has σ' i (RdO s p12) ∧ LeB i σ σ' ∧ Has σ' j ⟨.own, 1, [u], []⟩ ∧ Has σ' j2 ⟨.own, 1, [u'], []⟩ ∧ Has σ' i1 ⟨.own, 1, [nilS], []⟩ ∧ Has σ' i2 ⟨.own, 1, [nilS], []⟩ ∧ NG σ2 σ' u us gr ∧ NG σ2 σ' u' us' gr' := ⟨by omega, by omega, c3, c4, ha, hkc, hi1c, hi2c, N1, N2c⟩
      clear u15 h14 hkc N2c hj hk hi1 hi2 hi12 hle12 m2 NA12 NB12 rwA rrA
      refine hold_go ?_
      repeat' (first
        | refine wc_holdR 12 ?_
        | refine wp_seqA ?_
        | refine wp_region_seq ?_
        | refine thru_seq_next ?_
        | refine thru_block_next ?_
        | refine wp_skipA ?_
        | refine wl_nil ?_
        | refine wl_pop rfl (po_move rfl) ?_
        | refine wp_condA rfl (fun _ => ?_) (fun _ => ?_)
        | fail)
      all_goals first | (exact ⟨p12, hout, (by repeat' (first | exact sub_nil | refine sub_cons rfl ?_ | refine sub_int rfl (by first | rfl | omega | (push_cast; omega) | simp) ?_ | refine sub_eq rfl (by assumption) ?_))⟩) | skip
      refine hold_go ?_
      refine wc_drawnXp (t := 2) i1 [3] mixed_ rfl rfl ?_
      refine dx_loadnB 0 rfl rfl (by kernel_rfl) rfl inferInstance (at_has (h := ha) (cs := [_]) (.inl rfl) rfl rfl) ha.lt hi1c (by omega) ?_
      refine dx_loadnB 1 rfl rfl (by kernel_rfl) rfl inferInstance (at_has (h := hb6) (cs := [_]) (.inl rfl) rfl rfl) hb6.lt hi1c (by omega) ?_
      refine dx_one 2 rfl (by kernel_rfl) hi1c (.inr (by omega)) ?_
      intro N' B' w' r' may' hmay
      refine wc_storeA rfl rfl inferInstance hi1c rfl inferInstance (Nat.le_of_ble_eq_true rfl) (hmay _ (.inl rfl)) ?_
      intro σx ux
      have d12 : Has σx i2 ⟨.own, 1, [nilS], []⟩ := ⟨by rw [ux.eq, List.getElem?_set_ne (by omega)]; exact hi2c.get⟩
      refine wl_nil ⟨rfl, by have := Upd.len ux; omega, ?_⟩
      refine dx_last 3 rfl (by decide) (by kernel_rfl) ?_
      refine wc_storeA rfl rfl inferInstance d12 rfl inferInstance (Nat.le_of_ble_eq_true rfl) (.inr (by show σ.length ≤ i2; omega)) ?_
      intro σy uy
      refine wl_nil (dl_in ?_)
      refine dl_done (by kernel_rfl) ?_
      have e1 : Has σy i1 ⟨.own, 1, [u], []⟩ := ⟨by rw [uy.eq, List.getElem?_set_ne (by omega)]; exact (instHasUpd (g := ux) : Has σx i1 ⟨.own, 1, [u], []⟩).get⟩
      have e2 : Has σy i2 ⟨.own, 1, [x1], []⟩ := instHasUpd (g := uy)
      have kk : ∀ (x : Nat) (o : Ob), x ≠ i1 → x ≠ i2 → σ'[x]? = some o → σy[x]? = some o := fun x o h1 h2 ho => by rw [uy.eq, List.getElem?_set_ne (by omega), ux.eq, List.getElem?_set_ne (by omega)]; exact ho
      have ly : σy.length = σ'.length := by have := Upd.len uy; have := Upd.len ux; omega
      repeat' (first
        | refine at_ret (res_cc rfl rfl inferInstance (at_has (h := e1) (cs := [_]) (.inl rfl) rfl rfl) rfl inferInstance (at_has (h := e2) (cs := [_]) (.inl rfl) rfl rfl)) ?_
        | refine thru_seq_next ?_
        | refine thru_seq_ret ?_
        | refine thru_block_ret ?_
        | refine wp_retA ?_
        | fail)
      exact ⟨⟨p12, (by omega), (by omega), ⟨kk _ _ (by omega) (by omega) c3.get⟩⟩, ⟨⟨fun x o hx ho => kk x o (by have := Has.lt ⟨ho⟩; omega) (by have := Has.lt ⟨ho⟩; omega) (c4.keep.keep x o hx ho)⟩, by have := c4.len; omega⟩, u, us, gr, x1, ws1, _, rfl, (N1.keep fun x o hx ho => kk x o (by omega) (by omega) ho).down (by omega), (N2.keep fun x o hx ho => kk x o (by omega) (by omega) ho).down (by omega), hg4, hgf⟩
    · exact ⟨p12, ⟨by omega, by omega, hi12, hle12, hj, hk, hi1, hi2, NA12, NB12⟩, (by repeat' (first | exact sub_nil | refine sub_cons rfl ?_ | refine sub_int rfl (by first | rfl | omega | (push_cast; omega) | simp) ?_ | refine sub_eq rfl (by assumption) ?_))⟩
end
end Go.Proofs.Ythbodgnoadlbcaa.Asl
