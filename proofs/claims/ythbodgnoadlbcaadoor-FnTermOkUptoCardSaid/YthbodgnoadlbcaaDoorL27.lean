
/- The drawn law FnTermOk. -/
import Derived.Test.YthbodgnoadlbcaaDoorK17
import Derived.Test.YthbodgnoadlbcaaDoorT22
namespace Go.Proofs.YthbodgnoadlbcaaDoor.Asl
open Go.RowKit Go.Proofs.YthbodgnoadlbcaaDoorW.PrintLast
set_option linter.unusedVariables false
set_option linter.unusedSimpArgs false
attribute [local irreducible] WP WL andThen inBlock noGoto atEnd ACall DA DL PO Hold nodeOk Tm.shape Tm.ok Tm.txt Tm.text readO
set_option maxHeartbeats 4000000
set_option synthInstance.maxHeartbeats 400000
set_option synthInstance.maxSize 10000
theorem txt_ne (t : Tm) : t.txt ≠ [] := by
  intro h
  have h1 := congrArg List.length h
  cases t with
  | node op n ps =>
    revert h1
    unfold Tm.txt
    split
    · simp
    · split <;> simp
section
variable {E : Env} {ops : Array Oper} {L : List Oper} {Q : Exit → Slots → Store → Prop} {S : Slots} {σ σ₀ : Store} {d : Option Tmp} {ty : TypeId} {pos : String} {af : Array Edge} {g : Option (Nat × Bool)} {x y : Operand} {t : TypeId} {n0 : Nat}
theorem pc_lNeT {xt yt : TypeId} {a b : List UInt8} (h : a ≠ b) (hx : S.ev x = some (Str (ofL a))) (hy : S.ev y = some (Str (ofL b))) : PO E S σ n0 ⟨d, .binOp .neq xt x y yt, ty, pos, af, g⟩ (Bo true) := by
  have := pc_lNe (E := E) (σ := σ) (n0 := n0) (d := d) (ty := ty) (pos := pos) (af := af) (g := g) (xt := xt) (yt := yt) hx hy
  rwa [decide_eq_false h] at this
theorem pc_lNeF {xt yt : TypeId} {a : List UInt8} (hx : S.ev x = some (Str (ofL a))) (hy : S.ev y = some (Str (ofL a))) : PO E S σ n0 ⟨d, .binOp .neq xt x y yt, ty, pos, af, g⟩ (Bo false) := by
  have := pc_lNe (E := E) (σ := σ) (n0 := n0) (d := d) (ty := ty) (pos := pos) (af := af) (g := g) (xt := xt) (yt := yt) hx hy
  rwa [decide_eq_true rfl] at this
end
section
variable {base : Nat}
theorem c_DrawTermOk (b : AV) (gb : List UInt8) (σ : Store) [hs : RW σ b gb] (hg : gb.length ≤ 1048576) : ACall Tryd.prog base F_spec_DrawTermOk [b] σ (fun _ => False) (RetT1 σ) := by
  have := hs.one
  refine acall1 fun_spec_DrawTermOk rfl tmps_spec_DrawTermOk rfl fun N B w₀ ρ₀ => ?_
  repeat' (first
    | (refine wc_callOpen rfl inferInstance rfl (c_l6Open b gb _ hg) rfl ?_; intro _ _ _ _ _ _ _ _)
    | refine wc_holdR 2 ?_
    | refine wp_seqA ?_
    | refine wp_region_seq ?_
    | refine thru_seq_next ?_
    | refine wl_nil ?_
    | refine wl_pop rfl (po_move rfl) ?_
    | refine wl_pop rfl (po_assign rfl) ?_
    | (refine wc_allocA (cs := [_, _, _]) inferInstance rfl inferInstance rfl ?_; intro _ _ _ _ _)
    | fail)
  rename_i i1 σ1 g1 n1 h1 i s g σ2 g2 n2 h2 b2
  have hni : σ.length ≤ i := Nat.le_trans g1.len n2.le
  have y0 := h1.lt
  have y1 := n2.le
  have y2 := h2.lt
  have y3 := g2.len
  refine hold_go ?_
  repeat' (first
    | (refine wc_callC rfl inferInstance rfl (c_l91Called i s g _ _ (by omega) (by omega)) inferInstance (.inr hni) rfl ?_; intro _ _ _ _ _ _ _ _ _ _ _ _ _ _ _ _)
    | (refine wc_storeA rfl rfl inferInstance inferInstance rfl inferInstance (Nat.le_of_ble_eq_true rfl) (.inr (may_newB i σ)) ?_; intro _ _)
    | refine wc_holdR 3 ?_
    | refine wp_seqA ?_
    | refine wp_region_seq ?_
    | refine thru_seq_next ?_
    | refine wl_nil ?_
    | refine wl_pop rfl (po_move rfl) ?_
    | refine wl_pop rfl (po_assign rfl) ?_
    | refine wl_pop rfl (po_extract rfl rfl) ?_
    | (refine wc_allocA (cs := [_, _, _]) inferInstance rfl inferInstance rfl ?_; intro _ _ _ _ _)
    | fail)
  rename_i t u v xs p3 σ3 σ4 ou ov ru rv hx a1 a2 g4 u4 j σ5 g5 n5 h5 σ6 u6
  have y4 := (inferInstance : LeB i σ2 σ4).len
  have y5 := n5.le
  have RU : RepD σ6 (fun x => σ2.length ≤ x ∧ x < σ4.length) u t.ps := ru.rep.lt.mono (fun x o hx ho => (inferInstance : LeB i σ4 σ6).keep.keep x o (by omega) ho) (fun x hx => hx)
  have d1 : Dif i1 j := ⟨by omega⟩
  have d2 : Dif i j := ⟨by omega⟩
  refine hold_go ?_
  repeat' (first
    | refine wp_region_seq ?_
    | refine thru_seq_next ?_
    | refine wp_retA ?_
    | refine wl_nil ?_
    | refine wc_loadn rfl inferInstance (at_has (cs := [_, _, _]) (.inl rfl) rfl rfl) rfl ?_
    | (refine wc_storeA rfl rfl inferInstance inferInstance rfl inferInstance (Nat.le_of_ble_eq_true rfl) (.inr (may_new _)) ?_; intro _ _)
    | refine at_ret (res_cell rfl rfl inferInstance (at_has (cs := [_, _, _]) (.inl rfl) rfl rfl)) ?_
    | fail)
  rename_i σ7 u7
  have hl := (inferInstance : LeB i σ σ7)
  refine ⟨t, u, rfl, ⟨(RU.mono (F' := fun _ => True) (fun x o hx ho => ?_) (fun _ _ => trivial)).rep⟩, ⟨fun x o ho => hl.keep.keep x o (by have := Has.lt (σ := σ) (i := x) ⟨ho⟩; omega) ho⟩⟩
  rw [u7.eq, List.getElem?_set_ne (by omega)]
  exact ho
theorem readO_nil : readO [] = none := by
  cases h : readO [] with
  | none => rfl
  | some t => exact absurd (readO_iff.mp h).2 (txt_ne t)
theorem c_FnTermOk (b : AV) (gb : List UInt8) (σ : Store) [hs : RW σ b gb] : ACall Tryd.prog base F_laws_FnTermOk [b] σ (fun _ => False) (Ret σ (Bo true)) := by
  have := hs.one
  refine acall1 fun_laws_FnTermOk rfl tmps_laws_FnTermOk rfl fun N B w₀ ρ₀ => ?_
  repeat' (first
    | refine wl_pop rfl (pc_lenRow rfl hs inferInstance) ?_
    | (refine wc_callT1 rfl inferInstance rfl (c_DrawTermOk b gb _ (by omega)) rfl ?_; intro _ _ _ _ _ _)
    | refine wc_holdR 4 ?_
    | refine wp_seqA ?_
    | refine wp_region_seq ?_
    | refine thru_seq_next ?_
    | refine thru_seq_ret ?_
    | refine wp_skipA ?_
    | refine wp_retA ?_
    | refine wl_nil ?_
    | refine wl_pop rfl (po_move rfl) ?_
    | refine wl_pop rfl (po_assign rfl) ?_
    | refine wl_pop rfl (po_binOp rfl rfl rfl) ?_
    | (refine wc_storeA rfl rfl inferInstance inferInstance rfl inferInstance (Nat.le_of_ble_eq_true rfl) (.inr (may_new _)) ?_; intro _ _)
    | (refine wc_allocA (cs := [_, _, _]) inferInstance rfl inferInstance rfl ?_; intro _ _ _ _ _)
    | refine wp_condP rfl (fun _ => ?_) (fun _ => ?_)
    | refine at_ret (res1 rfl rfl) ?_
    | exact ret_ inferInstance rfl
    | fail)
  rename_i hlen t u σ1 ou ru g1 i2 σ2 g2 n2 h2 σ3 u3
  refine hold_go ?_
  have h3 : Has σ3 i2 ⟨.own, 1, [I t.op, I t.n, u], []⟩ := instHasUpd (g := u3)
  have r3 : RTs σ3 u t.ps := inferInstance
  have l3 : LeS σ σ3 := inferInstance
  have htl := text_len t
  clear u3
  by_cases hok : t.ok = true
  · have ht : t.text = t.txt := text_ok hok
    have hne : t.text ≠ [] := by rw [ht]; exact txt_ne t
    have hrd : readO t.text = some t := readO_iff.mpr ⟨hok, ht.symm⟩
    repeat' (first
      | (refine wc_callR rfl inferInstance rfl (hok ▸ c_TermOk t _ _) rfl ?_; intro _ _)
      | (refine wc_callR rfl inferInstance rfl (hok ▸ c_sTermOk t _ _) rfl ?_; intro _ _)
      | (refine wc_callR rfl inferInstance rfl (c_TermText t _ _) rfl ?_; intro _ _)
      | (refine wc_callTO (o := some t) rfl inferInstance rfl (hrd ▸ c_TermRead t.text (by omega) _) rfl ?_; intro _ _ _ _ _)
      | refine wl_pop rfl (pc_lNeT (b := []) hne rfl rfl) ?_
      | (refine wc_callR rfl inferInstance rfl (c_mnTerm t _ _ _) rfl ?_; intro _ _)
      | refine wp_seqA ?_
      | refine wp_region_seq ?_
      | refine thru_seq_next ?_
      | refine wp_skipA ?_
      | refine wp_retA ?_
      | refine wl_nil ?_
      | refine wl_pop rfl (po_move rfl) ?_
      | refine wl_pop rfl (po_assign rfl) ?_
      | refine wl_pop rfl (pc_boolNeSelf rfl rfl inferInstance) ?_
      | refine wl_pop rfl (pc_boolEq rfl rfl inferInstance) ?_
      | refine wc_loadn rfl inferInstance (at_has (cs := [_, _, _]) (.inl rfl) rfl rfl) rfl ?_
      | refine wl_pop rfl (po_not rfl) ?_
      | (refine wc_storeA rfl rfl inferInstance inferInstance rfl inferInstance (Nat.le_of_ble_eq_true rfl) (.inr (may_new _)) ?_; intro _ _)
      | refine wl_pop rfl (po_extract rfl rfl) ?_
      | (refine wc_allocA (cs := [_, _, _]) inferInstance rfl inferInstance rfl ?_; intro _ _ _ _ _)
      | refine wl_pop rfl (po_pick rfl rfl) ?_
      | refine wc_guardT_true rfl rfl rfl ?_
      | refine wc_guardT_false rfl rfl rfl ?_
      | refine wp_condF rfl ?_
      | refine at_ret (res1 rfl rfl) ?_
      | exact ret_ inferInstance rfl
      | fail)
  · have hok' : t.ok = false := by simpa using hok
    have ht : t.text = [] := text_no hok'
    have hrd : readO t.text = none := by rw [ht]; exact readO_nil
    repeat' (first
      | (refine wc_callR rfl inferInstance rfl (hok' ▸ c_TermOk t _ _) rfl ?_; intro _ _)
      | (refine wc_callR rfl inferInstance rfl (hok' ▸ c_sTermOk t _ _) rfl ?_; intro _ _)
      | (refine wc_callR rfl inferInstance rfl (ht ▸ c_TermText t _ _) rfl ?_; intro _ _)
      | (refine wc_callTO (o := none) rfl inferInstance rfl ((ht ▸ hrd : readO [] = none) ▸ c_TermRead [] (by decide) _) rfl ?_; intro _ _ _ _ _)
      | refine wl_pop rfl (pc_lNeF (a := []) rfl rfl) ?_
      | refine wp_seqA ?_
      | refine wp_region_seq ?_
      | refine thru_seq_next ?_
      | refine wp_skipA ?_
      | refine wp_retA ?_
      | refine wl_nil ?_
      | refine wl_pop rfl (po_move rfl) ?_
      | refine wl_pop rfl (po_assign rfl) ?_
      | refine wl_pop rfl (pc_boolNeSelf rfl rfl inferInstance) ?_
      | refine wl_pop rfl (pc_boolEq rfl rfl inferInstance) ?_
      | refine wc_loadn rfl inferInstance (at_has (cs := [_, _, _]) (.inl rfl) rfl rfl) rfl ?_
      | refine wl_pop rfl (po_not rfl) ?_
      | (refine wc_storeA rfl rfl inferInstance inferInstance rfl inferInstance (Nat.le_of_ble_eq_true rfl) (.inr (may_new _)) ?_; intro _ _)
      | refine wl_pop rfl (po_extract rfl rfl) ?_
      | (refine wc_allocA (cs := [_, _, _]) inferInstance rfl inferInstance rfl ?_; intro _ _ _ _ _)
      | refine wl_pop rfl (po_pick rfl rfl) ?_
      | refine wc_guardT_true rfl rfl rfl ?_
      | refine wc_guardF_false rfl rfl rfl rfl ?_
      | refine wp_condF rfl ?_
      | refine at_ret (res1 rfl rfl) ?_
      | exact ret_ inferInstance rfl
      | fail)
end
end Go.Proofs.YthbodgnoadlbcaaDoor.Asl
