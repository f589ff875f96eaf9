/- The drawn law FnTermRead. -/
import Derived.Test.YthbodgnoadlbcaaDoorK17
import Derived.Test.YthbodgnoadlbcaaDoorK21
import Derived.Test.YthbodgnoadlbcaaDoorK23
import Derived.Test.YthbodgnoadlbcaaDoorT22
import Derived.Test.YthbodgnoadlbcaaDoorL20
namespace Go.Proofs.YthbodgnoadlbcaaDoor.Asl
open Go.RowKit Go.Proofs.YthbodgnoadlbcaaDoorW.PrintLast
set_option linter.unusedVariables false
set_option linter.unusedSimpArgs false
attribute [local irreducible] WP WL andThen inBlock noGoto atEnd ACall DA DL PO Hold nodeOk Tm.shape Tm.ok Tm.txt Tm.text readO
set_option maxHeartbeats 4000000
set_option synthInstance.maxHeartbeats 400000
set_option synthInstance.maxSize 10000
def RetS (σ : Store) (n : Nat) : AV → Store → Prop := fun r σ' => ∃ l : List UInt8, r = Str (ofL l) ∧ l.length ≤ n ∧ Grow σ σ'
theorem wc_callS {E : Env} {ops : Array Oper} {l : List Oper} {Q : Exit → Slots → Store → Prop} {S : Slots} {σ : Store} {d : Option Tmp} {ty : TypeId} {pos : String} {af : Array Edge} {x : Operand} {args : Array Operand} {ats : Array TypeId} {f : FuncId} {rs caps : List AV} {n : Nat} (hf : S.ev x = some (.fn f caps)) (hc : Callable E.P f) (hargs : evs S args.toList = some rs)
    (h : ACall E.P E.base f (rs ++ caps) σ (fun _ => False) (RetS σ n)) (hd : okd E d = true) (k : ∀ (b : List UInt8) σ', b.length ≤ n → Grow σ σ' → WL E ops l Q (S.put d (Str (ofL b))) σ') :
    WL E ops (⟨d, .call ⟨.value x, args, ats⟩, ty, pos, af, none⟩ :: l) Q S σ :=
  wc_call hf hc hargs h hd fun r' σ' h => by obtain ⟨b, e, h1, hg⟩ := h; subst e; exact k b σ' h1 hg
section
variable {base : Nat}
theorem c_DrawTermRead (b : AV) (gb : List UInt8) (σ : Store) [hs : RW σ b gb] (hg : gb.length ≤ 1048576) : ACall Tryd.prog base F_spec_DrawTermRead [b] σ (fun _ => False) (RetS σ 4000000) := by
  have := hs.one
  refine acall1 fun_spec_DrawTermRead rfl tmps_spec_DrawTermRead rfl fun N B w₀ ρ₀ => ?_
  repeat' (first
    | (refine wc_callOpen rfl inferInstance rfl (c_l6Open b gb _ hg) rfl ?_; intro _ _ _ _ _ _ _ _)
    | refine wc_holdR 2 ?_
    | refine wp_seqA ?_
    | refine wp_region_seq ?_
    | refine thru_seq_next ?_
    | refine wl_nil ?_
    | refine wl_pop rfl (po_move rfl) ?_
    | refine wl_pop rfl (po_assign rfl) ?_
    | fail)
  rename_i i s g σ2 g2 n2 h2 b2
  have hni : σ.length ≤ i := n2.le
  have y2 := h2.lt
  have y3 := g2.len
  refine hold_go ?_
  repeat' (first
    | (refine wc_callC rfl inferInstance rfl (c_l91Called i s g _ _ (by omega) (by omega)) inferInstance (.inr hni) rfl ?_; intro _ _ _ _ _ _ _ _ _ _ _ _ _ _ _ _)
    | (refine wc_storeA rfl rfl inferInstance inferInstance rfl inferInstance (Nat.le_of_ble_eq_true rfl) (.inr (may_newB i σ)) ?_; intro _ _)
    | refine wc_holdR 3 ?_
    | refine wp_seqA ?_
    | refine wp_region_seq ?_
    | refine thru_seq_next ?_
    | refine wl_nil ?_
    | refine wl_pop rfl (po_move rfl) ?_
    | refine wl_pop rfl (po_assign rfl) ?_
    | refine wl_pop rfl (po_extract rfl rfl) ?_
    | (refine wc_allocA (cs := [_, _, _]) inferInstance rfl inferInstance rfl ?_; intro _ _ _ _ _)
    | fail)
  rename_i t u v xs p3 σ3 σ4 ou ov ru rv hx a1 a2 g4 u4 j σ5 g5 n5 h5 σ6 u6
  have y4 := (inferInstance : LeB i σ2 σ4).len
  have y5 := n5.le
  have RU : RTs σ6 u t.ps := ⟨(ru.rep.lt.mono (fun x o hx ho => (inferInstance : LeB i σ4 σ6).keep.keep x o (by omega) ho) (fun x hx => hx)).rep.mono (fun _ _ _ h => h) (fun _ _ => trivial)⟩
  have d2 : Dif i j := ⟨by omega⟩
  have hlt := text_len t
  have h6 : Has σ6 j ⟨.own, 1, [I t.op, I t.n, u], []⟩ := instHasUpd (g := u6)
  have hi6 : Has σ6 i (RdO s p3) := inferInstance
  have hl6 : LeB i σ2 σ6 := inferInstance
  have hl0 : LeB i σ σ6 := inferInstance
  have b6 := b2.le hl6
  clear u6 h5 u4 rv ru
  refine hold_go ?_
  repeat' (first
    | (refine wc_callR rfl inferInstance rfl (c_sTermText t _ _) rfl ?_; intro _ _)
    | (refine wc_callP rfl inferInstance rfl (c_pick i s g _ _ _ (hb := b6.le inferInstance) (by omega) (by omega)) inferInstance (.inr hni) rfl ?_; intro _ _ _ _ _ _ _ _ _ _)
    | (refine wc_callStr rfl inferInstance rfl (c_l91Spoil i s g _ _ (by omega) _ (hb := b6.le inferInstance) (by omega) (by omega)) inferInstance (.inr hni) rfl ?_; intro _ _ _ _ _ _ _ _ _)
    | refine wp_seqA ?_
    | refine wp_region_seq ?_
    | refine thru_seq_next ?_
    | refine wp_skipA ?_
    | refine wp_retA ?_
    | refine wl_nil ?_
    | refine wl_pop rfl (po_move rfl) ?_
    | refine wl_pop rfl (po_assign rfl) ?_
    | refine wl_pop rfl (po_binOp rfl rfl rfl) ?_
    | refine wc_loadn rfl inferInstance (at_has (cs := [_, _, _]) (.inl rfl) rfl rfl) rfl ?_
    | refine wp_condP rfl (fun _ => ?_) (fun _ => ?_)
    | refine at_ret (res1 rfl rfl) ?_
    | fail)
  · rename_i m p4 σ7 σ8 c1 c2 c3 c4 g8 u8 b9 p5 σ9 σ10 c5 c6 hb9 g10 u10
    have hl : LeB i σ σ10 := inferInstance
    exact ⟨b9, rfl, by omega, ⟨fun x o ho => hl.keep.keep x o (by have := Has.lt (σ := σ) (i := x) ⟨ho⟩; omega) ho⟩⟩
  · rename_i m p4 σ7 σ8 c1 c2 c3 c4 g8 u8 hm
    have hl : LeB i σ σ8 := inferInstance
    exact ⟨t.text, rfl, by omega, ⟨fun x o ho => hl.keep.keep x o (by have := Has.lt (σ := σ) (i := x) ⟨ho⟩; omega) ho⟩⟩
theorem c_FnTermRead (b : AV) (gb : List UInt8) (σ : Store) [hs : RW σ b gb] : ACall Tryd.prog base F_laws_FnTermRead [b] σ (fun _ => False) (Ret σ (Bo true)) := by
  have := hs.one
  refine acall1 fun_laws_FnTermRead rfl tmps_laws_FnTermRead rfl fun N B w₀ ρ₀ => ?_
  repeat' (first
    | refine wl_pop rfl (pc_lenRow rfl hs inferInstance) ?_
    | (refine wc_callS rfl inferInstance rfl (c_DrawTermRead b gb _ (by omega)) rfl ?_; intro _ _ _ _)
    | refine wc_holdR 4 ?_
    | refine wp_seqA ?_
    | refine wp_region_seq ?_
    | refine thru_seq_next ?_
    | refine thru_seq_ret ?_
    | refine wp_skipA ?_
    | refine wp_retA ?_
    | refine wl_nil ?_
    | refine wl_pop rfl (po_move rfl) ?_
    | refine wl_pop rfl (po_assign rfl) ?_
    | refine wl_pop rfl (po_binOp rfl rfl rfl) ?_
    | refine wp_condP rfl (fun _ => ?_) (fun _ => ?_)
    | refine at_ret (res1 rfl rfl) ?_
    | exact ret_ inferInstance rfl
    | fail)
  rename_i hlen l σ1 hl g1
  refine hold_go ?_
  cases hrd : readO l with
  | none =>
    have hI := fun σ => c_TermRead (base := base) l (by omega) σ
    have hJ := fun σ => c_sTermRead (base := base) l (by omega) σ
    rw [hrd] at hI hJ
    repeat' (first
      | (refine wc_callTO (o := none) rfl inferInstance rfl (hI _) rfl ?_; intro _ _ _ _ _)
      | (refine wc_callTO (o := none) rfl inferInstance rfl (hJ _) rfl ?_; intro _ _ _ _ _)
      | (refine wc_callR rfl inferInstance rfl (c_mnTerm (tmO none) _ _ _) rfl ?_; intro _ _)
      | refine wp_seqA ?_
      | refine wp_region_seq ?_
      | refine thru_seq_next ?_
      | refine wp_skipA ?_
      | refine wp_retA ?_
      | refine wl_nil ?_
      | refine wl_pop rfl (po_move rfl) ?_
      | refine wl_pop rfl (po_assign rfl) ?_
      | refine wl_pop rfl (pc_boolNeSelf rfl rfl inferInstance) ?_
      | refine wc_loadn rfl inferInstance (at_has (cs := [_, _, _]) (.inl rfl) rfl rfl) rfl ?_
      | refine wl_pop rfl (po_not rfl) ?_
      | (refine wc_storeA rfl rfl inferInstance inferInstance rfl inferInstance (Nat.le_of_ble_eq_true rfl) (.inr (may_new _)) ?_; intro _ _)
      | refine wl_pop rfl (po_extract rfl rfl) ?_
      | (refine wc_allocA (cs := [_, _, _]) inferInstance rfl inferInstance rfl ?_; intro _ _ _ _ _)
      | refine wl_pop rfl (po_pick rfl rfl) ?_
      | refine wc_guardU rfl rfl rfl rfl ?_
      | refine wc_guardT_false rfl rfl rfl ?_
      | refine wc_guardF_false rfl rfl rfl rfl ?_
      | refine wp_condF rfl ?_
      | refine at_ret (res1 rfl rfl) ?_
      | exact ret_ inferInstance rfl
      | fail)
  | some t =>
    obtain ⟨hok, htx⟩ := readO_iff.mp hrd
    have hte : t.text = l := by rw [text_ok hok]; exact htx
    have hI := fun σ => c_TermRead (base := base) l (by omega) σ
    have hJ := fun σ => c_sTermRead (base := base) l (by omega) σ
    rw [hrd] at hI hJ
    repeat' (first
      | (refine wc_callTO (o := some t) rfl inferInstance rfl (hI _) rfl ?_; intro _ _ _ _ _)
      | (refine wc_callTO (o := some t) rfl inferInstance rfl (hJ _) rfl ?_; intro _ _ _ _ _)
      | (refine wc_callR rfl inferInstance rfl (c_mnTerm (tmO (some t)) _ _ _) rfl ?_; intro _ _)
      | (refine wc_callR rfl inferInstance rfl (hok ▸ c_TermOk t _ _) rfl ?_; intro _ _)
      | (refine wc_callR rfl inferInstance rfl (hte ▸ c_TermText t _ _) rfl ?_; intro _ _)
      | refine wl_pop rfl (pc_lEq rfl rfl) ?_
      | refine wp_seqA ?_
      | refine wp_region_seq ?_
      | refine thru_seq_next ?_
      | refine wp_skipA ?_
      | refine wp_retA ?_
      | refine wl_nil ?_
      | refine wl_pop rfl (po_move rfl) ?_
      | refine wl_pop rfl (po_assign rfl) ?_
      | refine wl_pop rfl (pc_boolNeSelf rfl rfl inferInstance) ?_
      | refine wc_loadn rfl inferInstance (at_has (cs := [_, _, _]) (.inl rfl) rfl rfl) rfl ?_
      | refine wl_pop rfl (po_not rfl) ?_
      | (refine wc_storeA rfl rfl inferInstance inferInstance rfl inferInstance (Nat.le_of_ble_eq_true rfl) (.inr (may_new _)) ?_; intro _ _)
      | refine wl_pop rfl (po_extract rfl rfl) ?_
      | (refine wc_allocA (cs := [_, _, _]) inferInstance rfl inferInstance rfl ?_; intro _ _ _ _ _)
      | refine wl_pop rfl (po_pick rfl rfl) ?_
      | refine wc_guardT_true rfl rfl rfl ?_
      | refine wc_guardT_false rfl rfl rfl ?_
      | refine wp_condF rfl ?_
      | refine at_ret (res1 rfl rfl) ?_
      | fail)
    all_goals exact ret_ inferInstance (by simp)
end
end Go.Proofs.YthbodgnoadlbcaaDoor.Asl
