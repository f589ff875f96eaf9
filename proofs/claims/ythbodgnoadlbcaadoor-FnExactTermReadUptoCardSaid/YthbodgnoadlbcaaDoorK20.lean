/- Reading a term: the judge's way. -/
import Derived.Test.YthbodgnoadlbcaaDoorK18
import Derived.Test.YthbodgnoadlbcaaDoorH6
import Derived.Test.YthbodgnoadlbcaaDoorB9
import Derived.Test.YthbodgnoadlbcaaDoorDD
namespace Go.Proofs.YthbodgnoadlbcaaDoor.Asl
open Go.RowKit Go.Proofs.YthbodgnoadlbcaaDoorW.PrintLast
set_option linter.unusedVariables false
set_option linter.unusedSimpArgs false
theorem parts_zero (rd : List UInt8 → Option (Tm × List UInt8)) (q : List UInt8) : partsL rd 0 q = some ([], q) := rfl
theorem readL_zero (s : List UInt8) : readL 0 s = none := rfl
theorem eat_empty {c : UInt8} {r : List UInt8} (h : r = []) : eatL c r = none := by subst h; rfl
theorem isSome_no {α : Type} {o : Option α} (h : (!o.isSome) = !false) : o = none := by cases o <;> simp_all
theorem isSome_yes {α : Type} {o : Option α} (h : (!o.isSome) = false) : o.isSome = true := by simpa using h
theorem decB_len (n : Int) : (decB n).length = 1 := rfl
attribute [local irreducible] WP WL andThen inBlock noGoto atEnd ACall DA DL DX PO Hold nodeOk readL leafL nodeL partsL nameL eatL wordL restL opOf decB
set_option maxHeartbeats 4000000
set_option synthInstance.maxHeartbeats 400000
set_option synthInstance.maxSize 10000
section
variable {E : Env} {S : Slots} {σ : Store} {d : Option Tmp} {ty : TypeId} {pos : String} {af : Array Edge} {g : Option (Nat × Bool)} {x y : Operand} {t : TypeId} {n0 : Nat}
theorem pc_lAt0 {l : List UInt8} (hx : S.ev x = some (Str (ofL l))) (hy : S.ev y = some (I 0)) (ht : Un E.P t .string) (h : ¬ l = []) :
    PO E S σ n0 ⟨d, .index t x y, ty, pos, af, g⟩ (.lit (.int .u8 ((l.getD 0 0).toNat : Int))) :=
  pc_lAt (i := 0) hx hy ht (Int.le_refl _) (List.length_pos_iff.mpr h)
theorem pc_lFrom1 {l : List UInt8} {lo : Operand} (hx : S.ev x = some (Str (ofL l))) (hlo : S.ev lo = some (I 1)) (ht : Un E.P t .string) (h : ¬ l = []) :
    PO E S σ n0 ⟨d, .slice t x (some lo) none none, ty, pos, af, g⟩ (Str (ofL (l.drop 1))) :=
  pc_lFrom (a := 1) hx ht hlo (by decide) (List.length_pos_iff.mpr h)
end
def tmR (o : Option (Tm × List UInt8)) : Tm := (o.map Prod.fst).getD (.node 0 0 [])
def rsR (s : List UInt8) (o : Option (Tm × List UInt8)) : List UInt8 := (o.map Prod.snd).getD s
def RetRO (σ : Store) (s : List UInt8) (o : Option (Tm × List UInt8)) : AV → Store → Prop := fun r σ' => ∃ u, r = .tup [.agg [I (tmR o).op, I (tmR o).n, u], Str (ofL (rsR s o)), Bo o.isSome] ∧ RTsD σ σ' u (tmR o).ps ∧ Grow σ σ'
theorem ret_ro_none {σ σ' : Store} {s : List UInt8} {o : Option (Tm × List UInt8)} (h : o = none) (l : LeS σ σ') : RetRO σ s o (.tup [.agg [I 0, I 0, nilS], Str (ofL s), Bo false]) σ' := by
  subst h; exact ⟨nilS, rfl, ⟨.nil⟩, l.grow⟩
theorem ret_ro {σ σ₁ σ' : Store} {s q : List UInt8} {o : Option (Tm × List UInt8)} {op n : Int} {ps : List Tm} {u : AV} (h : o = some (.node op n ps, q)) (h1 : RTsD σ₁ σ' u ps) (k1 : LeS σ σ₁) (l : LeS σ σ') : RetRO σ s o (.tup [.agg [I op, I n, u], Str (ofL q), Bo true]) σ' := by
  subst h; exact ⟨u, rfl, h1.down k1.len, l.grow⟩
theorem ret_ro_leaf {σ σ' : Store} {s q : List UInt8} {o : Option (Tm × List UInt8)} {op n : Int} (h : o = some (.node op n [], q)) (l : LeS σ σ') : RetRO σ s o (.tup [.agg [I op, I n, nilS], Str (ofL q), Bo true]) σ' := by
  subst h; exact ⟨nilS, rfl, ⟨.nil⟩, l.grow⟩
theorem wc_callRO {E : Env} {ops : Array Oper} {l : List Oper} {Q : Exit → Slots → Store → Prop} {S : Slots} {σ : Store} {d : Option Tmp} {ty : TypeId} {pos : String} {af : Array Edge} {x : Operand} {args : Array Operand} {ats : Array TypeId} {f : FuncId} {rs caps : List AV} {s : List UInt8} {o : Option (Tm × List UInt8)} (hf : S.ev x = some (.fn f caps)) (hc : Callable E.P f) (hargs : evs S args.toList = some rs)
    (h : ACall E.P E.base f (rs ++ caps) σ (fun _ => False) (RetRO σ s o)) (hd : okd E d = true) (k : ∀ u σ', One u → RTsD σ σ' u (tmR o).ps → Grow σ σ' → WL E ops l Q (S.put d (.tup [.agg [I (tmR o).op, I (tmR o).n, u], Str (ofL (rsR s o)), Bo o.isSome])) σ') :
    WL E ops (⟨d, .call ⟨.value x, args, ats⟩, ty, pos, af, none⟩ :: l) Q S σ :=
  wc_call hf hc hargs h hd fun r' σ' h => by obtain ⟨u, e, hr, hg⟩ := h; subst e; exact k u σ' hr.new.rts.one hr hg
theorem wordsB_wd {k : Nat} (h1 : 1 ≤ k) (h2 : k ≤ 4) : wordsB[k]? = some (ofL (wdL k)) := by
  rcases (by omega : k = 1 ∨ k = 2 ∨ k = 3 ∨ k = 4) with rfl | rfl | rfl | rfl <;> rfl
theorem sub_bo {S' : Slots} {S : Slots} {t : Nat} {b b' : Bool} (h : S'.get t = some (Bo b')) (e : b' = b) (hs : Sub S S') : Sub ((t, Bo b) :: S) S' := by subst e; exact sub_cons h hs
def CRd (base f : Nat) : Prop := ∀ (s : List UInt8) (d : Int) (σ : Store), s.length ≤ 4000000 → 1 ≤ d → d + f = 25 → ACall Tryd.prog base F_spec_l2Read [Str (ofL s), I d] σ (fun _ => False) (RetRO σ s (readL f s))
section
variable {base : Nat}
theorem c_rd_stop (s : List UInt8) (d : Int) (h : s = [] ∨ 24 < d) (σ : Store) : ACall Tryd.prog base F_spec_l2Read [Str (ofL s), I d] σ (fun _ => False) (RetRO σ s none) := by
  refine acall2 fun_spec_l2Read rfl tmps_spec_l2Read rfl fun N B w₀ ρ₀ => ?_
  repeat' (first
    | refine wl_pop rfl (pc_lEq (b := []) rfl rfl) ?_
    | refine wl_pop rfl (pc_build0 (cs := [I 0, I 0, nilS]) inferInstance inferInstance rfl) ?_
    | (refine wc_storeA rfl rfl inferInstance inferInstance rfl inferInstance (Nat.le_of_ble_eq_true rfl) (.inr (may_new _)) ?_; intro _ _)
    | refine at_ret (res_ctt rfl rfl inferInstance (at_has (cs := [_, _, _]) (.inl rfl) rfl rfl) rfl rfl) ?_
    | refine wc_holdR 3 ?_
    | refine wp_seqA ?_
    | refine wp_region_seq ?_
    | refine thru_seq_next ?_
    | refine thru_seq_ret ?_
    | refine wp_skipA ?_
    | refine wp_retA ?_
    | refine wl_nil ?_
    | refine wl_pop rfl (po_move rfl) ?_
    | refine wl_pop rfl (po_assign rfl) ?_
    | refine wl_pop rfl (po_binOp rfl rfl rfl) ?_
    | (refine wc_allocA (cs := [_, _, _]) inferInstance rfl inferInstance rfl ?_; intro _ _ _ _ _)
    | refine wl_pop rfl (po_pick rfl rfl) ?_
    | refine wc_guardT_false rfl rfl rfl ?_
    | refine wc_guardF_false rfl rfl rfl rfl ?_
    | refine wc_guardP_false rfl rfl rfl rfl (fun _ => ?_) (fun _ => ?_)
    | refine wp_condT rfl ?_
    | refine wp_condP rfl (fun _ => ?_) (fun _ => ?_)
    | fail)
  all_goals first
    | exact ret_ro_none rfl inferInstance
    | (exfalso; rcases h with h | h
       · contradiction
       · omega)
theorem c_rd_leaf (f : Nat) (s : List UInt8) (hs : s.length ≤ 4000000) (d : Int) (hd1 : 1 ≤ d) (hd : d ≤ 24) (h0 : ¬ s = []) (hc : ¬ ((s.getD 0 0).toNat : Int) = 40) (σ : Store) : ACall Tryd.prog base F_spec_l2Read [Str (ofL s), I d] σ (fun _ => False) (RetRO σ s (readL (f + 1) s)) := by
  rw [readL_leaf f h0 hc]
  refine acall2 fun_spec_l2Read rfl tmps_spec_l2Read rfl fun N B w₀ ρ₀ => ?_
  have hwl := restL_len s
  have hword := c_l2Word (base := base) s hs
  generalize wordL s = w at *
  generalize restL s = r at *
  repeat' (first
    | refine wl_pop rfl (pc_lEq (b := []) rfl rfl) ?_
    | refine wl_pop rfl (pc_lEq rfl rfl) ?_
    | refine wl_pop rfl (pc_lAt0 rfl rfl inferInstance (by assumption)) ?_
    | (refine wc_callR rfl inferInstance rfl (hword _) rfl ?_; intro _ _)
    | refine wl_pop rfl (pc_build0 (cs := [I 0, I 0, nilS]) inferInstance inferInstance rfl) ?_
    | (refine wc_storeA rfl rfl inferInstance inferInstance rfl inferInstance (Nat.le_of_ble_eq_true rfl) (.inr (may_new _)) ?_; intro _ _)
    | refine at_ret (res_ctt rfl rfl inferInstance (at_has (cs := [_, _, _]) (.inl rfl) rfl rfl) rfl rfl) ?_
    | refine wc_holdR 7 ?_
    | refine wc_holdR 13 ?_
    | refine wp_seqA ?_
    | refine wp_region_seq ?_
    | refine thru_seq_next ?_
    | refine thru_seq_ret ?_
    | refine wp_skipA ?_
    | refine wp_retA ?_
    | refine wl_nil ?_
    | refine wl_pop rfl (po_move rfl) ?_
    | refine wl_pop rfl (po_assign rfl) ?_
    | refine wl_pop rfl (po_binOp rfl rfl rfl) ?_
    | refine wl_pop rfl (po_extract rfl rfl) ?_
    | (refine wc_allocA (cs := [_, _, _]) inferInstance rfl inferInstance rfl ?_; intro _ _ _ _ _)
    | refine wl_pop rfl (po_pick rfl rfl) ?_
    | refine wc_guardT_false rfl rfl rfl ?_
    | refine wc_guardF_false rfl rfl rfl rfl ?_
    | refine wc_guardP_false rfl rfl rfl rfl (fun _ => ?_) (fun _ => ?_)
    | refine wp_condT rfl ?_
    | refine wp_condP rfl (fun _ => ?_) (fun _ => ?_)
    | refine wp_condNP rfl (fun _ => ?_) (fun _ => ?_)
    | fail)
  all_goals first
    | (exfalso; first | contradiction | omega)
    | skip
  · rename_i hw _ _
    exact ret_ro_leaf (by rw [hw, leaf_zero]; rfl) inferInstance
  rename_i i1 σ1 g1 n1 h1 e1 e2 e3 σ2 g2 hw
  refine hold_go ?_
  repeat' (first
    | refine wp_region_seq ?_
    | refine thru_seq_next ?_
    | refine wp_blockA ?_
    | refine wl_nil ?_
    | refine wl_pop rfl (po_assign rfl) ?_
    | fail)
  refine wc_loop [(0, _), (4, _), (7, _), (8, _)] (fun k : Nat => [(9, I k)]) (fun k σ' => k ≤ 3 ∧ (∀ j : Nat, j < k → ¬ w = [88] ++ decB (j : Int)) ∧ LeS σ2 σ') (fun k => 3 - k) 0 ⟨by decide, fun j hj => by omega, inferInstance⟩ (by repeat' (first | exact sub_nil | refine sub_cons rfl ?_ | refine sub_int rfl (by first | rfl | omega | (push_cast; omega) | simp) ?_ | refine sub_eq rfl (by assumption) ?_)) ?_
  rintro k σ' ⟨hk, hno, hg⟩
  have := hg.grow
  repeat' (first
    | (refine wc_callR rfl inferInstance rfl (c_l6Dec _ (by omega) (by omega) _) rfl ?_; intro _ _)
    | refine wl_pop rfl (pc_cat (a := [88]) rfl rfl (by rw [decB_len]; decide)) ?_
    | refine wl_pop rfl (pc_lEq rfl rfl) ?_
    | refine wl_pop rfl (pc_tm2 rfl rfl inferInstance inferInstance rfl) ?_
    | refine wl_pop rfl (pc_build0 (cs := [I 0, I 0, nilS]) inferInstance inferInstance rfl) ?_
    | (refine wc_storeA rfl rfl inferInstance inferInstance rfl inferInstance (Nat.le_of_ble_eq_true rfl) (.inr (may_new _)) ?_; intro _ _)
    | refine at_ret (res_ctt rfl rfl inferInstance (at_has (cs := [_, _, _]) (.inl rfl) rfl rfl) rfl rfl) ?_
    | refine wp_seqA ?_
    | refine wp_region_seq ?_
    | refine thru_seq_next ?_
    | refine thru_seq_ret ?_
    | refine thru_seq ?_
    | refine thru_block_ret ?_
    | refine thru_block_next ?_
    | refine exit_here ?_
    | refine wp_skipA ?_
    | refine wp_retA ?_
    | refine wp_exitA ?_
    | refine wp_blockA ?_
    | refine wl_nil ?_
    | refine wl_pop rfl (po_move rfl) ?_
    | refine wl_pop rfl (po_assign rfl) ?_
    | refine wl_pop rfl (pc_add rfl rfl (by omega) (by omega)) ?_
    | refine wl_pop rfl (po_binOp rfl rfl rfl) ?_
    | refine wp_condP rfl (fun _ => ?_) (fun _ => ?_)
    | fail)
  · rename_i hk3 σ3 g3 hw3 σ4 u4
    exact ret_ro_leaf (by rw [leaf_hit (by omega) hw3]; rfl) inferInstance
  · rename_i hk3 σ3 g3 hw3
    refine ⟨k + 1, by omega, ⟨by omega, fun j hj => ?_, inferInstance⟩, (by repeat' (first | exact sub_nil | refine sub_cons rfl ?_ | refine sub_int rfl (by first | rfl | omega | (push_cast; omega) | simp) ?_ | refine sub_eq rfl (by assumption) ?_))⟩
    by_cases e : j = k
    · subst e; exact hw3
    · exact hno j (by omega)
  · rename_i hk3 σ4 u4
    exact ret_ro_none (by rw [leaf_no hw (fun j hj => hno j (by omega))]; rfl) inferInstance
theorem c_rd_node (f : Nat) (ih : CRd base f) (s : List UInt8) (hs : s.length ≤ 4000000) (d : Int) (hd1 : 1 ≤ d) (hd : d + (f + 1 : Nat) = 25) (hd2 : d ≤ 24) (h0 : ¬ s = []) (hc : ((s.getD 0 0).toNat : Int) = 40) (σ : Store) : ACall Tryd.prog base F_spec_l2Read [Str (ofL s), I d] σ (fun _ => False) (RetRO σ s (readL (f + 1) s)) := by
  rw [readL_node f h0 hc]
  refine acall2 fun_spec_l2Read rfl tmps_spec_l2Read rfl fun N B w₀ ρ₀ => ?_
  have hwl := restL_len (s.drop 1)
  have hdl : (s.drop 1).length ≤ s.length := by simp
  have hword := c_l2Word (base := base) (s.drop 1) (by omega)
  generalize wordL (s.drop 1) = w at *
  generalize restL (s.drop 1) = r at *
  have hrl : r.length ≤ s.length := by omega
  clear hwl hdl
  repeat' (first
    | refine wl_pop rfl (pc_lEq (b := []) rfl rfl) ?_
    | refine wl_pop rfl (pc_lAt0 rfl rfl inferInstance (by assumption)) ?_
    | (refine wc_callR rfl inferInstance rfl (hword _) rfl ?_; intro _ _)
    | refine wl_pop rfl (pc_build0 (cs := [I 0, I 0, nilS]) inferInstance inferInstance rfl) ?_
    | (refine wc_storeA rfl rfl inferInstance inferInstance rfl inferInstance (Nat.le_of_ble_eq_true rfl) (.inr (may_new _)) ?_; intro _ _)
    | refine at_ret (res_ctt rfl rfl inferInstance (at_has (cs := [_, _, _]) (.inl rfl) rfl rfl) rfl rfl) ?_
    | refine wl_pop rfl (pc_lFrom1 rfl rfl inferInstance (by assumption)) ?_
    | refine wc_holdR 4 ?_
    | refine wc_holdR 15 ?_
    | refine wp_seqA ?_
    | refine wp_region_seq ?_
    | refine thru_seq_next ?_
    | refine thru_seq_ret ?_
    | refine wp_skipA ?_
    | refine wp_retA ?_
    | refine wl_nil ?_
    | refine wl_pop rfl (po_move rfl) ?_
    | refine wl_pop rfl (po_assign rfl) ?_
    | refine wl_pop rfl (po_binOp rfl rfl rfl) ?_
    | refine wl_pop rfl (po_extract rfl rfl) ?_
    | (refine wc_allocA (cs := [_, _, _]) inferInstance rfl inferInstance rfl ?_; intro _ _ _ _ _)
    | refine wl_pop rfl (po_pick rfl rfl) ?_
    | refine wc_guardT_false rfl rfl rfl ?_
    | refine wc_guardF_false rfl rfl rfl rfl ?_
    | refine wc_guardP_false rfl rfl rfl rfl (fun _ => ?_) (fun _ => ?_)
    | refine wp_condT rfl ?_
    | refine wp_condP rfl (fun _ => ?_) (fun _ => ?_)
    | refine wp_condNP rfl (fun _ => ?_) (fun _ => ?_)
    | fail)
  all_goals first
    | (exfalso; first | contradiction | omega)
    | skip
  rename_i i1 σ1 g1 n1 h1 e1 e2 e3 σ2 g2 it σ3 g3 n3 h3 σ4 u4
  obtain ⟨o, ho⟩ : ∃ o, (if opOf w = 0 then none else nodeL (readL f) (opOf w) r) = o := ⟨_, rfl⟩
  rw [ho]
  have h4 : Has σ4 it ⟨.own, 1, [I (if opOf w < ((1 : Nat) : Int) then opOf w else 0), I 0, nilS], []⟩ := by
    have := (opOf_rng w).1
    have e : (if opOf w < ((1 : Nat) : Int) then opOf w else 0) = 0 := by split <;> omega
    rw [e]; exact (instHasUpd (g := u4) : Has σ4 it ⟨.own, 1, splice [I 0, I 0, nilS] 0 [I 0, I 0, nilS], []⟩)
  have l4 : LeS σ2 σ4 := inferInstance
  have nit : New σ2 it := inferInstance
  have l34 := Upd.len u4
  have y1 := h1.lt
  have y2 := g2.len
  have y3 := g3.len
  clear u4
  refine hold_go ?_
  repeat' (first
    | refine wp_region_seq ?_
    | refine thru_seq_next ?_
    | refine wp_blockA ?_
    | refine wl_nil ?_
    | refine wl_pop rfl (po_assign rfl) ?_
    | fail)
  refine wc_loop [(0, _), (1, _), (4, _), (10, _), (11, _), (12, _)] (fun k : Nat => [(13, I k)]) (fun k σ' => 1 ≤ k ∧ k ≤ 5 ∧ LeS σ2 σ' ∧ σ3.length ≤ σ'.length ∧ Has σ' it ⟨.own, 1, [I (if opOf w < (k : Int) then opOf w else 0), I 0, nilS], []⟩) (fun k => 5 - k) 1 ⟨by decide, by decide, l4, by omega, h4⟩ (by repeat' (first | exact sub_nil | refine sub_cons rfl ?_ | refine sub_int rfl (by first | rfl | omega | (push_cast; omega) | simp) ?_ | refine sub_eq rfl (by assumption) ?_)) ?_
  rintro k σ' ⟨hk1, hk5, hg, hgl, hit⟩
  have := hg.grow
  repeat' (first
    | (refine wc_callOW rfl inferInstance rfl (c_l2Words _) rfl ?_; intro _ _ _ _ _)
    | refine wl_pop rfl (pc_indexRow rfl rfl inferInstance inferInstance inferInstance (by have e : wordsB.length = 5 := rfl; omega)) ?_
    | refine wl_pop rfl (pc_ldStrE (wdL k) rfl inferInstance inferInstance (wordsB_wd hk1 (by omega)) inferInstance) ?_
    | refine wl_pop rfl (pc_lEq rfl rfl) ?_
    | (refine wc_store1 rfl rfl inferInstance inferInstance inferInstance (Nat.le_of_ble_eq_true rfl) (.inr (may_new _)) ?_; intro _ _)
    | refine wc_holdR 20 ?_
    | refine wp_seqA ?_
    | refine wp_region_seq ?_
    | refine thru_seq_next ?_
    | refine thru_seq ?_
    | refine thru_block_next ?_
    | refine exit_here ?_
    | refine wp_skipA ?_
    | refine wp_exitA ?_
    | refine wp_blockA ?_
    | refine wl_nil ?_
    | refine wl_pop rfl (po_move rfl) ?_
    | refine wl_pop rfl (po_assign rfl) ?_
    | refine wl_pop rfl (pc_add rfl rfl (by omega) (by omega)) ?_
    | refine wl_pop rfl (po_binOp rfl rfl rfl) ?_
    | refine wl_pop rfl (po_fieldAddr rfl inferInstance) ?_
    | refine wp_condP rfl (fun _ => ?_) (fun _ => ?_)
    | fail)
  · rename_i hk4 u σ5 o5 w5 g5 hw σ6 u6
    have l6 := Upd.len u6
    have l5 := g5.len
    refine ⟨k + 1, by omega, ⟨by omega, by omega, inferInstance, by omega, ?_⟩, (by repeat' (first | exact sub_nil | refine sub_cons rfl ?_ | refine sub_int rfl (by first | rfl | omega | (push_cast; omega) | simp) ?_ | refine sub_eq rfl (by assumption) ?_))⟩
    rw [← opOf_step hk1 (by omega) hw]
    exact (instHasUpd (g := u6) : Has σ6 it _)
  · rename_i hk4 u σ5 o5 w5 g5 hw
    have l5 := g5.len
    refine ⟨k + 1, by omega, ⟨by omega, by omega, inferInstance, by omega, ?_⟩, (by repeat' (first | exact sub_nil | refine sub_cons rfl ?_ | refine sub_int rfl (by first | rfl | omega | (push_cast; omega) | simp) ?_ | refine sub_eq rfl (by assumption) ?_))⟩
    rw [← opOf_skip hk1 (by omega) hw]
    exact (inferInstance : Has σ5 it _)
  rename_i hk4
  have hr4 := opOf_rng w
  rw [if_pos (by omega)] at hit
  clear hword h4 l4
  generalize opOf w = op at *
  refine hold_go ?_
  repeat' (first
    | refine wl_pop rfl (pc_build0 (cs := [I 0, I 0, nilS]) inferInstance inferInstance rfl) ?_
    | (refine wc_storeA rfl rfl inferInstance inferInstance rfl inferInstance (Nat.le_of_ble_eq_true rfl) (.inr (may_new _)) ?_; intro _ _)
    | refine at_ret (res_ctt rfl rfl inferInstance (at_has (cs := [_, _, _]) (.inl rfl) rfl rfl) rfl rfl) ?_
    | refine wc_holdR 22 ?_
    | refine wp_seqA ?_
    | refine wp_region_seq ?_
    | refine thru_seq_next ?_
    | refine thru_seq_ret ?_
    | refine wp_skipA ?_
    | refine wp_retA ?_
    | refine wl_nil ?_
    | refine wl_pop rfl (po_move rfl) ?_
    | refine wl_pop rfl (po_assign rfl) ?_
    | refine wl_pop rfl (po_binOp rfl rfl rfl) ?_
    | refine wl_pop rfl (po_fieldAddr rfl inferInstance) ?_
    | refine wc_load1 rfl inferInstance (at_has (.inl rfl) rfl rfl) rfl ?_
    | refine wp_condP rfl (fun _ => ?_) (fun _ => ?_)
    | fail)
  · rename_i hop σ5 u5
    exact ret_ro_none (by rw [← ho, if_pos hop]) inferInstance
  rename_i hop
  rw [if_neg hop] at ho
  refine wc_cut (ι := Unit) [(0, Str (ofL s)), (1, I d), (4, .pt i1 0), (11, Str (ofL r)), (12, .pt it 0)] (fun _ => [(88, Bo (decide (op = 1 ∨ op = 4)))]) (fun _ σ5 => LeS σ2 σ5 ∧ σ3.length ≤ σ5.length ∧ Has σ5 it ⟨.own, 1, [I op, I 0, nilS], []⟩) ?_ ?_
  · repeat' (first
      | refine wp_region_seq ?_
      | refine thru_seq_next ?_
      | refine wl_nil ?_
      | refine wl_pop rfl (po_move rfl) ?_
      | refine wl_pop rfl (po_binOp rfl rfl rfl) ?_
      | refine wl_pop rfl (po_fieldAddr rfl inferInstance) ?_
      | refine wc_load1 rfl inferInstance (at_has (.inl rfl) rfl rfl) rfl ?_
      | refine wl_pop rfl (po_pick rfl rfl) ?_
      | refine wc_guardT_false rfl rfl rfl ?_
      | refine wc_guardF_false rfl rfl rfl rfl ?_
      | refine wc_guardP_false rfl rfl rfl rfl (fun _ => ?_) (fun _ => ?_)
      | fail)
    all_goals exact ⟨(), ⟨hg, hgl, hit⟩, sub_bo rfl (by rw [Bool.eq_iff_iff]; simp; omega) (by repeat' (first | exact sub_nil | refine sub_cons rfl ?_ | refine sub_int rfl (by first | rfl | omega | (push_cast; omega) | simp) ?_ | refine sub_eq rfl (by assumption) ?_))⟩
  clear hg hgl hit this
  have har := act_rng (wordL (List.drop 1 r))
  rintro _ σ5 ⟨hg, hgl, hit⟩
  have := hg.grow
  repeat' (first
    | refine wc_holdIf (c := .tmp 88) ?_
    | fail)
  refine wc_cut (ι := Int × List UInt8) [(0, Str (ofL s)), (1, I d), (4, .pt i1 0), (12, .pt it 0)] (fun x => [(11, Str (ofL x.2))]) (fun x σ6 => nameL op r = some x ∧ x.2.length ≤ s.length ∧ LeS σ2 σ6 ∧ σ3.length ≤ σ6.length ∧ Has σ6 it ⟨.own, 1, [I op, I x.1, nilS], []⟩) ?_ ?_
  · repeat' (first
      | refine wl_pop rfl (pc_lEq (b := []) rfl rfl) ?_
      | refine wl_pop rfl (pc_lAt0 rfl rfl inferInstance (by assumption)) ?_
      | refine wl_pop rfl (pc_lFrom1 rfl rfl inferInstance (by assumption)) ?_
      | (refine wc_callR rfl inferInstance rfl (c_l2Word _ (by first | omega | (simp only [List.length_drop]; omega)) _) rfl ?_; intro _ _)
      | refine wl_pop rfl (pc_build0 (cs := [I 0, I 0, nilS]) inferInstance inferInstance rfl) ?_
      | (refine wc_storeA rfl rfl inferInstance inferInstance rfl inferInstance (Nat.le_of_ble_eq_true rfl) (.inr (may_new _)) ?_; intro _ _)
      | refine at_ret (res_ctt rfl rfl inferInstance (at_has (cs := [_, _, _]) (.inl rfl) rfl rfl) rfl rfl) ?_
      | (refine wc_callR rfl inferInstance rfl (c_sActRead _ _) rfl ?_; intro _ _)
      | (refine wc_store1 rfl rfl inferInstance inferInstance inferInstance (Nat.le_of_ble_eq_true rfl) (.inr (may_new _)) ?_; intro _ _)
      | refine wp_seqA ?_
      | refine wp_region_seq ?_
      | refine thru_seq_next ?_
      | refine thru_seq_ret ?_
      | refine wp_skipA ?_
      | refine wp_retA ?_
      | refine wl_nil ?_
      | refine wl_pop rfl (po_move rfl) ?_
      | refine wl_pop rfl (po_assign rfl) ?_
      | refine wl_pop rfl (pc_sub rfl rfl (by omega) (by omega)) ?_
      | refine wl_pop rfl (po_binOp rfl rfl rfl) ?_
      | refine wl_pop rfl (po_fieldAddr rfl inferInstance) ?_
      | refine wc_load1 rfl inferInstance (at_has (.inl rfl) rfl rfl) rfl ?_
      | refine wl_pop rfl (po_not rfl) ?_
      | refine wl_pop rfl (po_extract rfl rfl) ?_
      | refine wl_pop rfl (po_pick rfl rfl) ?_
      | refine wc_guardU rfl rfl rfl rfl ?_
      | refine wc_guardT_true rfl rfl rfl ?_
      | refine wc_guardF_true rfl rfl rfl rfl ?_
      | refine wc_guardT_false rfl rfl rfl ?_
      | refine wc_guardF_false rfl rfl rfl rfl ?_
      | refine wc_guardP_true rfl rfl rfl rfl (fun _ => ?_) (fun _ => ?_)
      | refine wc_guardP_false rfl rfl rfl rfl (fun _ => ?_) (fun _ => ?_)
      | refine wc_guard rfl rfl rfl rfl (fun _ => ?_) (fun _ => ?_)
      | refine wp_condT rfl ?_
      | refine wp_condF rfl ?_
      | refine wp_condP rfl (fun _ => ?_) (fun _ => ?_)
      | refine wp_condNP rfl (fun _ => ?_) (fun _ => ?_)
      | fail)
    all_goals try (exfalso; first | contradiction | omega)
    · rename_i h14 hr h32 σ6 u6
      exact ret_ro_none (by rw [← ho, node_name (name_eat h14 (eat_no h32))]) inferInstance
    · rename_i h14 hr h32 σ6 g6 σ7 g7 hs7 h4 hle σ8 u8
      exact ret_ro_none (by rw [← ho, node_name (name_low h4 (eat_yes hr h32) hle)]) inferInstance
    · rename_i h14 hr h32 σ6 g6 σ7 g7 hs7 h4 hle σ8 u8 h4' σ9 u9
      have e := restL_len (List.drop 1 r)
      have e2 : (List.drop 1 r).length ≤ r.length := by simp
      have e6 := g6.len
      have e7 := g7.len
      have e8 := Upd.len u8
      have e9 := Upd.len u9
      exact ⟨(_, _), ⟨name_hide h4 (eat_yes hr h32) (isSome_yes hs7) hle, by dsimp only; omega, inferInstance, by omega, (instHasUpd (g := u9) : Has σ9 it _)⟩, (by repeat' (first | exact sub_nil | refine sub_cons rfl ?_ | refine sub_int rfl (by first | rfl | omega | (push_cast; omega) | simp) ?_ | refine sub_eq rfl (by assumption) ?_))⟩
    · rename_i h14 hr h32 σ6 g6 σ7 g7 hs7 h4 σ8 u8 h4'
      have e := restL_len (List.drop 1 r)
      have e2 : (List.drop 1 r).length ≤ r.length := by simp
      have e6 := g6.len
      have e7 := g7.len
      have e8 := Upd.len u8
      exact ⟨(_, _), ⟨name_act (by omega) (eat_yes hr h32) (isSome_yes hs7), by dsimp only; omega, inferInstance, by omega, (instHasUpd (g := u8) : Has σ8 it _)⟩, (by repeat' (first | exact sub_nil | refine sub_cons rfl ?_ | refine sub_int rfl (by first | rfl | omega | (push_cast; omega) | simp) ?_ | refine sub_eq rfl (by assumption) ?_))⟩
    · rename_i h14 hr h32 σ6 g6 σ7 g7 hs7 σ8 u8
      exact ret_ro_none (by rw [← ho, node_name (name_no h14 (eat_yes hr h32) (isSome_no hs7))]) inferInstance
    · rename_i h14 hr σ6 u6
      exact ret_ro_none (by rw [← ho, node_name (name_eat h14 (eat_empty hr))]) inferInstance
    · rename_i h14
      exact ⟨(0, r), ⟨name_none (by omega) (by omega), hrl, hg, hgl, hit⟩, (by repeat' (first | exact sub_nil | refine sub_cons rfl ?_ | refine sub_int rfl (by first | rfl | omega | (push_cast; omega) | simp) ?_ | refine sub_eq rfl (by assumption) ?_))⟩
  rintro ⟨n, q⟩ σ6 ⟨hn, hq, hg6, hgl6, hit6⟩
  dsimp only at hq hit6 ⊢
  clear hg hgl hit this
  have := hg6.grow
  repeat' (first
    | refine wc_holdR 34 ?_
    | refine wp_seqA ?_
    | refine wp_region_seq ?_
    | refine thru_seq_next ?_
    | refine wl_nil ?_
    | refine wl_pop rfl (po_assign rfl) ?_
    | fail)
  refine wc_cut (ι := Unit) [(0, Str (ofL s)), (1, I d), (4, .pt i1 0), (11, Str (ofL q)), (12, .pt it 0), (18, I 1)] (fun _ => [(138, Bo (decide (op = 2 ∨ op = 3)))]) (fun _ σ7 => LeS σ2 σ7 ∧ σ3.length ≤ σ7.length ∧ Has σ7 it ⟨.own, 1, [I op, I n, nilS], []⟩) ?_ ?_
  · repeat' (first
      | refine wp_region_seq ?_
      | refine thru_seq_next ?_
      | refine wl_nil ?_
      | refine wl_pop rfl (po_move rfl) ?_
      | refine wl_pop rfl (po_binOp rfl rfl rfl) ?_
      | refine wl_pop rfl (po_fieldAddr rfl inferInstance) ?_
      | refine wc_load1 rfl inferInstance (at_has (.inl rfl) rfl rfl) rfl ?_
      | refine wl_pop rfl (po_pick rfl rfl) ?_
      | refine wc_guardT_false rfl rfl rfl ?_
      | refine wc_guardF_false rfl rfl rfl rfl ?_
      | refine wc_guardP_false rfl rfl rfl rfl (fun _ => ?_) (fun _ => ?_)
      | fail)
    all_goals exact ⟨(), ⟨hg6, hgl6, hit6⟩, sub_bo rfl (by rw [Bool.eq_iff_iff]; simp; omega) (by repeat' (first | exact sub_nil | refine sub_cons rfl ?_ | refine sub_int rfl (by first | rfl | omega | (push_cast; omega) | simp) ?_ | refine sub_eq rfl (by assumption) ?_))⟩
  clear hg6 hgl6 hit6 this
  rintro _ σ7 ⟨hg7, hgl7, hit7⟩
  have := hg7.grow
  repeat' (first
    | refine wc_holdIf (c := .tmp 138) ?_
    | fail)
  refine wc_cut (ι := Unit) [(0, Str (ofL s)), (1, I d), (4, .pt i1 0), (11, Str (ofL q)), (12, .pt it 0)] (fun _ => [(18, I (manyOf op))]) (fun _ σ7 => LeS σ2 σ7 ∧ σ3.length ≤ σ7.length ∧ Has σ7 it ⟨.own, 1, [I op, I n, nilS], []⟩) ?_ ?_
  · repeat' (first
      | refine wp_region_seq ?_
      | refine thru_seq_next ?_
      | refine wp_skipA ?_
      | refine wl_nil ?_
      | refine wl_pop rfl (po_assign rfl) ?_
      | refine wp_condP rfl (fun _ => ?_) (fun _ => ?_)
      | fail)
    · rename_i h23
      exact ⟨(), ⟨hg7, hgl7, hit7⟩, sub_int rfl (by rw [many_two h23]; rfl) (by repeat' (first | exact sub_nil | refine sub_cons rfl ?_ | refine sub_int rfl (by first | rfl | omega | (push_cast; omega) | simp) ?_ | refine sub_eq rfl (by assumption) ?_))⟩
    · rename_i h23
      exact ⟨(), ⟨hg7, hgl7, hit7⟩, sub_int rfl (by rw [many_one (by omega) (by omega)]; rfl) (by repeat' (first | exact sub_nil | refine sub_cons rfl ?_ | refine sub_int rfl (by first | rfl | omega | (push_cast; omega) | simp) ?_ | refine sub_eq rfl (by assumption) ?_))⟩
  clear hg7 hgl7 hit7 this
  rintro _ σ8 ⟨hg8, hgl8, hit8⟩
  have := hg8.grow
  obtain ⟨m, hm⟩ : ∃ m, manyOf op = m := ⟨_, rfl⟩
  have hm2 : m ≤ 2 := by rw [← hm]; unfold manyOf; split <;> omega
  rw [hm]
  repeat' (first
    | refine wp_seqA ?_
    | refine wp_region_seq ?_
    | refine thru_seq_next ?_
    | refine wp_blockA ?_
    | refine wl_nil ?_
    | refine wl_pop rfl (po_assign rfl) ?_
    | fail)
  refine wc_loop [(0, _), (1, _), (4, _), (12, _), (18, _)] (fun x : Nat × List UInt8 × AV × List Tm => [(11, Str (ofL x.2.1)), (19, I x.1)]) (fun x σ' => x.1 ≤ m ∧ partsL (readL f) x.1 q = some (x.2.2.2, x.2.1) ∧ x.2.1.length ≤ s.length ∧ LeS σ2 σ' ∧ σ3.length ≤ σ'.length ∧ Has σ' it ⟨.own, 1, [I op, I n, x.2.2.1], []⟩ ∧ One x.2.2.1 ∧ (x.2.2.2 = [] → x.2.2.1 = nilS) ∧ RepD σ' (fun y => σ3.length ≤ y) x.2.2.1 x.2.2.2 ∧ x.2.2.2.length = x.1) (fun x => m - x.1) (0, q, nilS, []) ⟨Nat.zero_le _, parts_zero _ _, hq, hg8, hgl8, hit8, ⟨rfl⟩, fun _ => rfl, .nil, rfl⟩ (by repeat' (first | exact sub_nil | refine sub_cons rfl ?_ | refine sub_int rfl (by first | rfl | omega | (push_cast; omega) | simp) ?_ | refine sub_eq rfl (by assumption) ?_)) ?_
  clear hg8 hgl8 hit8 this
  rintro ⟨k, qk, v, xs⟩ σ' ⟨hkm, hp, hqk, hg, hgl, hit, hone, hnil, hrep, hlen⟩
  dsimp only at hkm hp hqk hit hone hnil hrep hlen ⊢
  have := hg.grow
  repeat' (first
    | refine wl_pop rfl (pc_lEq (b := []) rfl rfl) ?_
    | refine wl_pop rfl (pc_lAt0 rfl rfl inferInstance (by assumption)) ?_
    | refine wl_pop rfl (pc_build0 (cs := [I 0, I 0, nilS]) inferInstance inferInstance rfl) ?_
    | (refine wc_storeA rfl rfl inferInstance inferInstance rfl inferInstance (Nat.le_of_ble_eq_true rfl) (.inr (may_new _)) ?_; intro _ _)
    | refine at_ret (res_ctt rfl rfl inferInstance (at_has (cs := [_, _, _]) (.inl rfl) rfl rfl) rfl rfl) ?_
    | refine wc_holdR 41 ?_
    | refine wc_holdR 48 ?_
    | refine wp_seqA ?_
    | refine wp_region_seq ?_
    | refine thru_seq_next ?_
    | refine thru_seq_ret ?_
    | refine thru_seq ?_
    | refine thru_block_ret ?_
    | refine exit_here ?_
    | refine wp_skipA ?_
    | refine wp_retA ?_
    | refine wp_exitA ?_
    | refine wp_blockA ?_
    | refine wl_nil ?_
    | refine wl_pop rfl (po_move rfl) ?_
    | refine wl_pop rfl (po_assign rfl) ?_
    | refine wl_pop rfl (po_binOp rfl rfl rfl) ?_
    | refine wl_pop rfl (po_pick rfl rfl) ?_
    | refine wc_guardT_false rfl rfl rfl ?_
    | refine wc_guardF_false rfl rfl rfl rfl ?_
    | refine wc_guardP_false rfl rfl rfl rfl (fun _ => ?_) (fun _ => ?_)
    | refine wp_condT rfl ?_
    | refine wp_condP rfl (fun _ => ?_) (fun _ => ?_)
    | refine wp_condNP rfl (fun _ => ?_) (fun _ => ?_)
    | fail)
  all_goals try (exfalso; first | contradiction | omega)
  · rename_i hkl hne h32 σ9 u9
    exact ret_ro_none (by rw [← ho, node_parts hn (by rw [hm]; exact partsL_no (parts_eat hp (eat_no h32)) (by omega))]) inferInstance
  · rename_i hkl hne h32
    have e1 : eatL 32 qk = some (List.drop 1 qk) := eat_yes hne h32
    have hl1 : (List.drop 1 qk).length ≤ 4000000 := by simp only [List.length_drop]; omega
    have ih' := fun σ => ih (List.drop 1 qk) (d + 1) σ hl1 (by omega) (by omega)
    refine hold_go ?_
    cases e2 : readL f (List.drop 1 qk) with
    | none =>
      rw [e2] at ih'
      repeat' (first
        | refine wl_pop rfl (pc_lFrom1 rfl rfl inferInstance (by assumption)) ?_
        | (refine wc_callRO rfl inferInstance rfl (ih' _) rfl ?_; intro _ _ _ _ _)
        | refine wl_pop rfl (pc_build0 (cs := [I 0, I 0, nilS]) inferInstance inferInstance rfl) ?_
        | (refine wc_storeA rfl rfl inferInstance inferInstance rfl inferInstance (Nat.le_of_ble_eq_true rfl) (.inr (may_new _)) ?_; intro _ _)
        | refine at_ret (res_ctt rfl rfl inferInstance (at_has (cs := [_, _, _]) (.inl rfl) rfl rfl) rfl rfl) ?_
        | refine wp_seqA ?_
        | refine wp_region_seq ?_
        | refine thru_seq_next ?_
        | refine thru_seq_ret ?_
        | refine thru_block_ret ?_
        | refine wp_retA ?_
        | refine wl_nil ?_
        | refine wl_pop rfl (po_move rfl) ?_
        | refine wl_pop rfl (po_assign rfl) ?_
        | refine wl_pop rfl (pc_add rfl rfl (by omega) (by omega)) ?_
        | refine wl_pop rfl (po_not rfl) ?_
        | refine wl_pop rfl (po_extract rfl rfl) ?_
        | (refine wc_allocA (cs := [_, _, _]) inferInstance rfl inferInstance rfl ?_; intro _ _ _ _ _)
        | refine wp_condT rfl ?_
        | fail)
      all_goals exact ret_ro_none (by rw [← ho, node_parts hn (by rw [hm]; exact partsL_no (parts_sub hp e1 e2) (by omega))]) inferInstance
    | some y =>
      obtain ⟨t, q3⟩ := y
      rw [e2] at ih'
      have hq3 : q3.length ≤ s.length := by
        have := congrArg List.length (readL_sound f _ _ _ e2)
        rw [List.length_append, List.length_drop] at this
        omega
      repeat' (first
        | refine wl_pop rfl (pc_lFrom1 rfl rfl inferInstance (by assumption)) ?_
        | (refine wc_callRO rfl inferInstance rfl (ih' _) rfl ?_; intro _ _ _ _ _)
        | (refine wc_oneTm rfl inferInstance inferInstance rfl (by decide) rfl ?_; intro _ _ _ _ _)
        | refine wp_seqA ?_
        | refine wp_region_seq ?_
        | refine thru_seq_next ?_
        | refine wp_skipA ?_
        | refine wl_nil ?_
        | refine wl_pop rfl (po_move rfl) ?_
        | refine wl_pop rfl (po_assign rfl) ?_
        | refine wl_pop rfl (pc_add rfl rfl (by omega) (by omega)) ?_
        | refine wl_pop rfl (po_fieldAddr rfl inferInstance) ?_
        | refine wc_load1 rfl inferInstance (at_has (.inl rfl) rfl rfl) rfl ?_
        | refine wc_loadn rfl inferInstance (at_has (cs := [_, _, _]) (.inl rfl) rfl rfl) rfl ?_
        | refine wl_pop rfl (po_not rfl) ?_
        | (refine wc_storeA rfl rfl inferInstance inferInstance rfl inferInstance (Nat.le_of_ble_eq_true rfl) (.inr (may_new _)) ?_; intro _ _)
        | refine wl_pop rfl (po_extract rfl rfl) ?_
        | (refine wc_allocA (cs := [_, _, _]) inferInstance rfl inferInstance rfl ?_; intro _ _ _ _ _)
        | refine wp_condF rfl ?_
        | fail)
      rename_i u σa ou ra ga ip σb gb nb hb σc uc ij σd gd nd hd
      have z1 := nb.le
      have z2 := ga.len
      have z3 := gb.len
      have z4 := Upd.len uc
      have z5 := gd.len
      have ru : RepD σd (fun x => σ'.length ≤ x) u (tmR (some (t, q3))).ps := ra.rep.lt.mono (fun x o hx ho => gd.keep x o (by rw [uc.eq, List.getElem?_set_ne (by omega)]; exact gb.keep x o ho)) (fun x hx => hx.1)
      refine wc_appendTm (σ₀ := σ3) (tm := tmR (some (t, q3))) σ'.length rfl rfl inferInstance inferInstance rfl (by decide) (by decide) (hrep.at inferInstance) hnil ru hgl (by omega) hd ou (by omega) (may_ge σ3) rfl ?_
      intro v' σe ape mke re oe
      repeat' (first
        | refine wp_region_seq ?_
        | refine thru_seq_next ?_
        | refine thru_block_next ?_
        | refine wl_nil ?_
        | refine wl_pop rfl (po_move rfl) ?_
        | refine wl_pop rfl (po_assign rfl) ?_
        | refine wl_pop rfl (pc_add rfl rfl (by omega) (by omega)) ?_
        | refine wl_pop rfl (po_fieldAddr rfl inferInstance) ?_
        | (refine wc_store1 rfl rfl inferInstance inferInstance inferInstance (Nat.le_of_ble_eq_true rfl) (.inr (may_new _)) ?_; intro _ _)
        | fail)
      rename_i σf uf
      have z6 := ape.len
      have z7 := Upd.len uf
      have hf : Has σf it ⟨.own, 1, [I op, I n, v'], []⟩ := instHasUpd (g := uf)
      have nlt := h3.lt
      refine ⟨(k + 1, q3, v', xs ++ [t]), by dsimp only; omega, ⟨by dsimp only; omega, parts_ok hp e1 e2, hq3, inferInstance, by omega, hf, oe, fun e => by simp at e, re.mono (fun x o hx ho => ?_) (fun _ h => h), by simp [hlen]⟩, (by repeat' (first | exact sub_nil | refine sub_cons rfl ?_ | refine sub_int rfl (by first | rfl | omega | (push_cast; omega) | simp) ?_ | refine sub_eq rfl (by assumption) ?_))⟩
      rw [uf.eq, List.getElem?_set_ne ?_]
      · exact ho
      · omega
  · rename_i hkl hne σ9 u9
    exact ret_ro_none (by rw [← ho, node_parts hn (by rw [hm]; exact partsL_no (parts_eat hp (eat_empty hne)) (by omega))]) inferInstance
  · rename_i hkl hne h41 σ9 u9
    obtain rfl : k = m := by omega
    exact ret_ro_none (by rw [← ho, node_end hn (by rw [hm]; exact hp) (eat_no h41)]) inferInstance
  · rename_i hkl hne h41
    obtain rfl : k = m := by omega
    refine hold_go ?_
    refine wc_drawn [3, 4, 5] mixed_ rfl ?_
    refine da_takeC 0 rfl rfl (by kernel_rfl) (pc_loadnL rfl inferInstance (at_has (cs := [_, _, _]) (.inl rfl) rfl rfl) inferInstance) ?_
    refine da_pureW 1 rfl rfl (by kernel_rfl) (po_move rfl) ?_
    refine da_pureW 2 rfl rfl (by kernel_rfl) (pc_lFrom1 rfl rfl inferInstance hne) ?_
    refine da_last 3 rfl (by decide) (by kernel_rfl) ?_
    (refine wc_storeA rfl rfl inferInstance inferInstance rfl inferInstance (Nat.le_of_ble_eq_true rfl) (.inr (may_new _)) ?_; intro _ _)
    refine wl_nil (dl_in ?_)
    refine dl_last 4 rfl (by decide) (by kernel_rfl) ?_
    refine wl_pop rfl (po_assign rfl) ?_
    refine wl_nil (dl_in ?_)
    refine dl_last 5 rfl (by decide) (by kernel_rfl) ?_
    refine wl_pop rfl (po_assign rfl) ?_
    refine wl_nil (dl_in ?_)
    refine dl_done (by kernel_rfl) ?_
    repeat' (first
      | refine at_ret (res_ctt rfl rfl inferInstance (at_has (cs := [_, _, _]) (.inl rfl) rfl rfl) rfl rfl) ?_
      | refine thru_seq_next ?_
      | refine wp_retA ?_
      | fail)
    rename_i σ9 u9
    refine ret_ro (σ₁ := σ3) (by rw [← ho, node_ok hn (by rw [hm]; exact hp) (eat_yes hne h41)]) ⟨hrep.mono (fun x o hx hxo => ?_) (fun _ h => h)⟩ inferInstance inferInstance
    rw [u9.eq, List.getElem?_set_ne (by omega)]; exact hxo
  · rename_i hkl hne σ9 u9
    obtain rfl : k = m := by omega
    exact ret_ro_none (by rw [← ho, node_end hn (by rw [hm]; exact hp) (eat_empty hne)]) inferInstance
theorem c_l2Read : ∀ f, CRd base f := by
  intro f
  induction f with
  | zero =>
    intro s d σ hs h1 h2
    rw [readL_zero]
    exact c_rd_stop s d (.inr (by omega)) σ
  | succ f ih =>
    intro s d σ hs h1 h2
    by_cases h0 : s = []
    · subst h0; rw [readL_nil]; exact c_rd_stop [] d (.inl rfl) σ
    by_cases hc : ((s.getD 0 0).toNat : Int) = 40
    · exact c_rd_node f ih s hs d h1 h2 (by omega) h0 hc σ
    · exact c_rd_leaf f s hs d h1 (by omega) h0 hc σ
end
end Go.Proofs.YthbodgnoadlbcaaDoor.Asl
