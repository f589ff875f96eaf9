/- Several texts in one. -/
import Derived.Test.YthbodgnoadlbcaaGreatDoorT32
import Derived.Test.YthbodgnoadlbcaaGreatDoorK13
/- What FnTermsAlike draws. -/
namespace Go.Proofs.YthbodgnoadlbcaaGreatDoor.Asl
open Go.RowKit
set_option linter.unusedVariables false
set_option linter.unusedSimpArgs false
attribute [local irreducible] WP WL andThen inBlock noGoto atEnd ACall DA DL PO Hold
set_option maxHeartbeats 4000000
set_option synthInstance.maxHeartbeats 400000
set_option synthInstance.maxSize 10000
section
variable {E : Env} {ops : Array Oper} {l : List Oper} {Q : Exit → Slots → Store → Prop} {S : Slots} {σ : Store} {d : Option Tmp} {ty : TypeId} {pos : String} {af : Array Edge} {x y : Operand}
theorem wc_callPr {args : Array Operand} {ats : Array TypeId} {f : FuncId} {rs caps : List AV} {i : Nat} {s : AV} {p K : Int} (hf : S.ev x = some (.fn f caps)) (hc : Callable E.P f) (hargs : evs S args.toList = some rs)
    (h : ACall E.P E.base f (rs ++ caps) σ (fun j => j = i) (RetRd σ i s p K (QPair σ))) (ho : Has σ i (RdO s p)) (hm : E.may i) (hd : okd E d = true) (k : ∀ (t t' : Tm) (u u' v : AV) (xs : List Tm) (p' : Int) σ₁ σ', One u → One u' → One v → RTsN σ σ' u t.ps → RTsN σ σ' u' t'.ps → RTsN σ σ' v xs → xs.length ≤ 3 → p ≤ p' → p' ≤ p + K → Grow σ σ₁ → Upd σ₁ i (RdO s p') σ' → WL E ops l Q (S.put d (.tup [.agg [I t.op, I t.n, u], .agg [I t'.op, I t'.n, u'], v])) σ') :
    WL E ops (⟨d, .call ⟨.value x, args, ats⟩, ty, pos, af, none⟩ :: l) Q S σ :=
  wc_callRd hf hc hargs h ho hm hd fun r p' σ₁ σ' h1 h2 g u hq => by
    obtain ⟨t, t', v, v', w, xs, rfl, h3, h4, h5, h6⟩ := hq
    exact k t t' v v' w xs p' σ₁ σ' h3.rts.one h4.rts.one h5.rts.one h3 h4 h5 h6 h1 h2 g u
/-- Two terms and definitions that are drawn, alone. -/
def RetTT (σ : Store) : AV → Store → Prop := fun r σ' => ∃ (t t' : Tm) (u u' v : AV) (xs : List Tm), r = .tup [.agg [I t.op, I t.n, u], .agg [I t'.op, I t'.n, u'], v] ∧ RTs σ' u t.ps ∧ RTs σ' u' t'.ps ∧ RTs σ' v xs ∧ xs.length ≤ 3 ∧ Grow σ σ'
theorem wc_callTT {args : Array Operand} {ats : Array TypeId} {f : FuncId} {rs caps : List AV} (hf : S.ev x = some (.fn f caps)) (hc : Callable E.P f) (hargs : evs S args.toList = some rs)
    (h : ACall E.P E.base f (rs ++ caps) σ (fun _ => False) (RetTT σ)) (hd : okd E d = true) (k : ∀ (t t' : Tm) (u u' v : AV) (xs : List Tm) σ', One u → One u' → One v → RTs σ' u t.ps → RTs σ' u' t'.ps → RTs σ' v xs → xs.length ≤ 3 → Grow σ σ' → WL E ops l Q (S.put d (.tup [.agg [I t.op, I t.n, u], .agg [I t'.op, I t'.n, u'], v])) σ') :
    WL E ops (⟨d, .call ⟨.value x, args, ats⟩, ty, pos, af, none⟩ :: l) Q S σ :=
  wc_call hf hc hargs h hd fun r' σ' h => by obtain ⟨t, t', u, u', v, xs, e, h1, h2, h3, h4, h5⟩ := h; subst e; exact k t t' u u' v xs σ' h1.one h2.one h3.one h1 h2 h3 h4 h5
end
section
variable {base : Nat}
theorem c_DrawTermsAlike (b : AV) (gb : List UInt8) (σ : Store) [hs : RW σ b gb] (hg : gb.length ≤ 1048576) : ACall Tryz.prog base F_spec_DrawTermsAlike [b] σ (fun _ => False) (RetTT σ) := by
  have := hs.one
  refine acall1 fun_spec_DrawTermsAlike rfl tmps_spec_DrawTermsAlike rfl fun N B w₀ ρ₀ => ?_
  repeat' (first
    | (refine wc_callOpen rfl inferInstance rfl (c_l6Open b gb _ hg) rfl ?_; intro _ _ _ _ _ _ _ _)
    | refine wc_holdR 2 ?_
    | refine wp_seqA ?_
    | refine wp_region_seq ?_
    | refine thru_seq_next ?_
    | refine wl_nil ?_
    | refine wl_pop rfl (po_move rfl) ?_
    | refine wl_pop rfl (po_assign rfl) ?_
    | (refine wc_allocA (cs := [_, _, _]) inferInstance rfl inferInstance rfl ?_; intro _ _ _ _ _)
    | fail)
  rename_i i1 σ1 g1 n1 h1 i2 σ2 g2 n2 h2 i s g σ3 g3 n3 h3 b3
  have z1 := n1.le
  have z2 := h1.lt
  have z3 := n2.le
  have z4 := h2.lt
  have z5 := n3.le
  have z6 := h3.lt
  have z7 := g1.len
  have z8 := g2.len
  have z9 := g3.len
  have hni : σ.length ≤ i := by omega
  have h13 : Has σ3 i1 ⟨.own, 1, [I 0, I 0, nilS], []⟩ := inferInstance
  have h23 : Has σ3 i2 ⟨.own, 1, [I 0, I 0, nilS], []⟩ := inferInstance
  have l3 : LeS σ σ3 := inferInstance
  refine hold_go ?_
  repeat' (first
    | (refine wc_callPr rfl inferInstance rfl (c_l91Pair i s g _ _ (by omega) (by omega)) inferInstance (.inr hni) rfl ?_; intro _ _ _ _ _ _ _ _ _ _ _ _ _ _ _ _ _ _ _ _)
    | (refine wc_storeA rfl rfl inferInstance inferInstance rfl inferInstance (Nat.le_of_ble_eq_true rfl) (.inr (may_newB i σ)) ?_; intro _ _)
    | refine wc_holdR 3 ?_
    | refine wp_seqA ?_
    | refine wp_region_seq ?_
    | refine thru_seq_next ?_
    | refine wl_nil ?_
    | refine wl_pop rfl (po_move rfl) ?_
    | refine wl_pop rfl (po_assign rfl) ?_
    | refine wl_pop rfl (po_extract rfl rfl) ?_
    | (refine wc_allocA (cs := [_, _, _]) inferInstance rfl inferInstance rfl ?_; intro _ _ _ _ _)
    | fail)
  rename_i t t' u u' v xs p4 σ4 σ5 ou ou' ov ru ru' rv hx a1 a2 g5 u5 j σ6 g6 n6 h6 j2 σ7 g7 n7 h7 σ8 u8 σ9 u9
  have y1 := (inferInstance : LeB i σ3 σ5).len
  have y2 := n6.le
  have y3 := h6.lt
  have y4 := n7.le
  have y5 := h7.lt
  have y6 := Upd.len u8
  have y7 := Upd.len u9
  have y8 := g6.len
  have y9 := g7.len
  have k59 : ∀ (x : Nat) (o : Ob), x < σ5.length → σ5[x]? = some o → σ9[x]? = some o := fun x o hx ho => by rw [u9.eq, List.getElem?_set_ne (by omega), u8.eq, List.getElem?_set_ne (by omega)]; exact g7.keep x o (g6.keep x o ho)
  have k39 : ∀ (x : Nat) (o : Ob), x ≠ i → σ3[x]? = some o → σ9[x]? = some o := fun x o hx ho => k59 x o (by have := Has.lt ⟨ho⟩; omega) ((inferInstance : LeB i σ3 σ5).keep.keep x o hx ho)
  have c1 : Has σ9 j ⟨.own, 1, [I t.op, I t.n, u], []⟩ := ⟨by rw [u9.eq, List.getElem?_set_ne (by omega)]; exact (instHasUpd (g := u8) : Has σ8 j ⟨.own, 1, [I t.op, I t.n, u], []⟩).get⟩
  have c2 : Has σ9 j2 ⟨.own, 1, [I t'.op, I t'.n, u'], []⟩ := instHasUpd (g := u9)
  have c3 : Has σ9 i1 ⟨.own, 1, [I 0, I 0, nilS], []⟩ := ⟨k39 _ _ (by omega) h13.get⟩
  have c4 : Has σ9 i2 ⟨.own, 1, [I 0, I 0, nilS], []⟩ := ⟨k39 _ _ (by omega) h23.get⟩
  have c5 := c1.lt
  have c6 := c2.lt
  have R1 : RepTs σ5 (fun x => σ3.length ≤ x) u t.ps := ru.rep
  have R2 : RepTs σ5 (fun x => σ3.length ≤ x) u' t'.ps := ru'.rep
  have R3 : RepTs σ5 (fun x => σ3.length ≤ x) v xs := rv.rep
  clear u5 u8 u9 h6 h7 ru ru' rv h1 h2
  refine hold_go ?_
  refine wc_drawnXp (t := 2) i1 [4, 5] mixed_ rfl rfl ?_
  refine dx_loadnB 0 rfl rfl (by kernel_rfl) rfl inferInstance (at_has (h := c1) (cs := [_, _, _]) (.inl rfl) rfl rfl) c5 c3 (by omega) ?_
  refine dx_loadnB 1 rfl rfl (by kernel_rfl) rfl inferInstance (at_has (h := c2) (cs := [_, _, _]) (.inl rfl) rfl rfl) c6 c3 (by omega) ?_
  refine dx_pure 2 rfl rfl (by kernel_rfl) (po_move rfl) ?_
  refine dx_one 3 rfl (by kernel_rfl) c3 (.inr (by omega)) ?_
  intro N' B' w' r' may' hmay
  refine wc_storeA rfl rfl inferInstance c3 rfl inferInstance (Nat.le_of_ble_eq_true rfl) (hmay _ (.inl rfl)) ?_
  intro σa ua'
  have d12 : Has σa i2 ⟨.own, 1, [I 0, I 0, nilS], []⟩ := ⟨by rw [ua'.eq, List.getElem?_set_ne (by omega)]; exact c4.get⟩
  refine wl_nil ⟨rfl, by have := Upd.len ua'; omega, ?_⟩
  refine dx_last 4 rfl (by decide) (by kernel_rfl) ?_
  refine wc_storeA rfl rfl inferInstance d12 rfl inferInstance (Nat.le_of_ble_eq_true rfl) (.inr (by show σ.length ≤ i2; omega)) ?_
  intro σb ub'
  refine wl_nil (dl_in ?_)
  refine dl_last 5 rfl (by decide) (by kernel_rfl) ?_
  refine wl_pop rfl (po_assign rfl) ?_
  refine wl_nil (dl_in ?_)
  refine dl_done (by kernel_rfl) ?_
  have e1 : Has σb i1 ⟨.own, 1, [I t.op, I t.n, u], []⟩ := ⟨by rw [ub'.eq, List.getElem?_set_ne (by omega)]; exact (instHasUpd (g := ua') : Has σa i1 ⟨.own, 1, [I t.op, I t.n, u], []⟩).get⟩
  have e2 : Has σb i2 ⟨.own, 1, [I t'.op, I t'.n, u'], []⟩ := instHasUpd (g := ub')
  have kk : ∀ (x : Nat) (o : Ob), x ≠ i1 → x ≠ i2 → σ9[x]? = some o → σb[x]? = some o := fun x o h1 h2 ho => by rw [ub'.eq, List.getElem?_set_ne (by omega), ua'.eq, List.getElem?_set_ne (by omega)]; exact ho
  have kr : ∀ (x : Nat) (o : Ob), σ3.length ≤ x → σ5[x]? = some o → σb[x]? = some o := fun x o hx ho => kk x o (by omega) (by omega) (k59 x o (Has.lt ⟨ho⟩) ho)
  repeat' (first
    | refine at_ret (res_cct rfl rfl inferInstance (at_has (h := e1) (cs := [_, _, _]) (.inl rfl) rfl rfl) rfl inferInstance (at_has (h := e2) (cs := [_, _, _]) (.inl rfl) rfl rfl) rfl) ?_
    | refine thru_seq_next ?_
    | refine wp_retA ?_
    | fail)
  refine ⟨t, t', u, u', v, xs, rfl, (R1.mono kr (fun _ h => h)).rts, (R2.mono kr (fun _ h => h)).rts, (R3.mono kr (fun _ h => h)).rts, hx, ⟨fun x o ho => ?_⟩⟩
  have hx1 : x < σ.length := Has.lt ⟨ho⟩
  exact kk x o (by omega) (by omega) (k39 x o (by omega) (l3.keep x o ho))
end
end Go.Proofs.YthbodgnoadlbcaaGreatDoor.Asl

/- The drawn law FnTermsAlike. -/
namespace Go.Proofs.YthbodgnoadlbcaaGreatDoor.Asl
open Go.RowKit Go.Proofs.YthbodgnoadlbcaaGreatDoorW.PrintLast
set_option linter.unusedVariables false
set_option linter.unusedSimpArgs false
attribute [local irreducible] WP WL andThen inBlock noGoto atEnd ACall DA DL PO Hold nodeOk Tm.shape Tm.ok graphO alkO
set_option maxHeartbeats 4000000
set_option synthInstance.maxHeartbeats 400000
set_option synthInstance.maxSize 10000
theorem pc_boolEqT {E : Env} {S : Slots} {σ : Store} {d : Option Tmp} {ty : TypeId} {pos : String} {af : Array Edge} {g : Option (Nat × Bool)} {n0 : Nat} {x y : Operand} {xt yt : TypeId} {a : Bool} (hx : S.ev x = some (Bo a)) (hy : S.ev y = some (Bo a)) (ht : Un E.P xt .bool) : PO E S σ n0 ⟨d, .binOp .eql xt x y yt, ty, pos, af, g⟩ (Bo true) := by
  have := pc_boolEq (E := E) (σ := σ) (n0 := n0) (d := d) (ty := ty) (pos := pos) (af := af) (g := g) (yt := yt) hx hy ht
  rwa [beq_self_eq_true] at this
section
variable {base : Nat}
theorem c_FnTermsAlike (b : AV) (gb : List UInt8) (σ : Store) [hs : RW σ b gb] : ACall Tryz.prog base F_laws_FnTermsAlike [b] σ (fun _ => False) (Ret σ (Bo true)) := by
  have := hs.one
  refine acall1 fun_laws_FnTermsAlike rfl tmps_laws_FnTermsAlike rfl fun N B w₀ ρ₀ => ?_
  repeat' (first
    | refine wl_pop rfl (pc_lenRow rfl hs inferInstance) ?_
    | (refine wc_callTT rfl inferInstance rfl (c_DrawTermsAlike b gb _ (by omega)) rfl ?_; intro _ _ _ _ _ _ _ _ _ _ _ _ _ _ _)
    | refine wc_holdR 4 ?_
    | refine wp_seqA ?_
    | refine wp_region_seq ?_
    | refine thru_seq_next ?_
    | refine thru_seq_ret ?_
    | refine wp_skipA ?_
    | refine wp_retA ?_
    | refine wl_nil ?_
    | refine wl_pop rfl (po_move rfl) ?_
    | refine wl_pop rfl (po_assign rfl) ?_
    | refine wl_pop rfl (po_binOp rfl rfl rfl) ?_
    | (refine wc_storeA rfl rfl inferInstance inferInstance rfl inferInstance (Nat.le_of_ble_eq_true rfl) (.inr (may_new _)) ?_; intro _ _)
    | refine wl_pop rfl (po_extract rfl rfl) ?_
    | (refine wc_allocA (cs := [_, _, _]) inferInstance rfl inferInstance rfl ?_; intro _ _ _ _ _)
    | refine wp_condP rfl (fun _ => ?_) (fun _ => ?_)
    | refine at_ret (res1 rfl rfl) ?_
    | exact ret_ inferInstance rfl
    | fail)
  rename_i hlen t u a a' v xs σ1 oa oa' ov ra ra' rv hx g1 i2 σ2 g2 n2 h2 i3 σ3 g3 n3 h3 σ4 u4 σ5 u5
  have h25 : Has σ5 i2 ⟨.own, 1, [I t.op, I t.n, a], []⟩ := (inferInstance : Has σ5 i2 ⟨.own, 1, splice [I 0, I 0, nilS] 0 [I t.op, I t.n, a], []⟩)
  have h35 : Has σ5 i3 ⟨.own, 1, [I u.op, I u.n, a'], []⟩ := instHasUpd (g := u5)
  have l5 : LeS σ σ5 := inferInstance
  have r1 : RTs σ5 a t.ps := inferInstance
  have r2 : RTs σ5 a' u.ps := inferInstance
  have r3 : RTs σ5 v xs := inferInstance
  clear u4 u5 h2 h3
  obtain ⟨o, ho⟩ : ∃ o, alkO xs t u = o := ⟨_, rfl⟩
  have ho' : alkO xs u t = o := alkO_swap.trans ho
  obtain ⟨os, hos⟩ : ∃ o, alkO xs t t = o := ⟨_, rfl⟩
  have hself : ∀ v, os = some v → v = true := fun v h => alkO_self (hos.trans h)
  refine hold_go ?_
  cases os with
  | none =>
    repeat' (first
      | (refine wc_callR rfl inferInstance rfl (ho ▸ c_TermsAlike t u xs _ _ _ _) rfl ?_; intro _ _)
      | (refine wc_callR rfl inferInstance rfl (ho ▸ c_sTermsAlike t u xs _ _ _ _) rfl ?_; intro _ _)
      | (refine wc_callR rfl inferInstance rfl (ho' ▸ c_TermsAlike u t xs _ _ _ _) rfl ?_; intro _ _)
      | (refine wc_callR rfl inferInstance rfl (hos ▸ c_TermsAlike t t xs _ _ _ _) rfl ?_; intro _ _)
      | refine wl_pop rfl (pc_boolEqT rfl rfl inferInstance) ?_
      | refine wp_seqA ?_
      | refine wp_region_seq ?_
      | refine thru_seq_next ?_
      | refine wp_skipA ?_
      | refine wp_retA ?_
      | refine wl_nil ?_
      | refine wl_pop rfl (po_move rfl) ?_
      | refine wl_pop rfl (po_assign rfl) ?_
      | refine wl_pop rfl (pc_boolNeSelf rfl rfl inferInstance) ?_
      | refine wc_loadn rfl inferInstance (at_has (cs := [_, _, _]) (.inl rfl) rfl rfl) rfl ?_
      | refine wl_pop rfl (po_not rfl) ?_
      | refine wl_pop rfl (po_extract rfl rfl) ?_
      | refine wl_pop rfl (po_pick rfl rfl) ?_
      | refine wc_guardT_true rfl rfl rfl ?_
      | refine wc_guardT_false rfl rfl rfl ?_
      | refine wc_guardF_false rfl rfl rfl rfl ?_
      | refine wp_condF rfl ?_
      | refine at_ret (res1 rfl rfl) ?_
      | exact ret_ inferInstance rfl
      | fail)


  | some w =>
    obtain rfl := hself w rfl
    repeat' (first
      | (refine wc_callR rfl inferInstance rfl (ho ▸ c_TermsAlike t u xs _ _ _ _) rfl ?_; intro _ _)
      | (refine wc_callR rfl inferInstance rfl (ho ▸ c_sTermsAlike t u xs _ _ _ _) rfl ?_; intro _ _)
      | (refine wc_callR rfl inferInstance rfl (ho' ▸ c_TermsAlike u t xs _ _ _ _) rfl ?_; intro _ _)
      | (refine wc_callR rfl inferInstance rfl (hos ▸ c_TermsAlike t t xs _ _ _ _) rfl ?_; intro _ _)
      | refine wl_pop rfl (pc_boolEqT rfl rfl inferInstance) ?_
      | refine wp_seqA ?_
      | refine wp_region_seq ?_
      | refine thru_seq_next ?_
      | refine wp_skipA ?_
      | refine wp_retA ?_
      | refine wl_nil ?_
      | refine wl_pop rfl (po_move rfl) ?_
      | refine wl_pop rfl (po_assign rfl) ?_
      | refine wl_pop rfl (pc_boolNeSelf rfl rfl inferInstance) ?_
      | refine wc_loadn rfl inferInstance (at_has (cs := [_, _, _]) (.inl rfl) rfl rfl) rfl ?_
      | refine wl_pop rfl (po_not rfl) ?_
      | refine wl_pop rfl (po_extract rfl rfl) ?_
      | refine wl_pop rfl (po_pick rfl rfl) ?_
      | refine wc_guardT_true rfl rfl rfl ?_
      | refine wc_guardT_false rfl rfl rfl ?_
      | refine wp_condF rfl ?_
      | refine at_ret (res1 rfl rfl) ?_
      | exact ret_ inferInstance rfl
      | fail)


end
end Go.Proofs.YthbodgnoadlbcaaGreatDoor.Asl
