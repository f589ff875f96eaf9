/- The drawn law FnTermNames. -/
import Derived.Test.YtcmkkmlgdkhmiaaM1
import Derived.Test.YtcmkkmlgdkhmiaaT29
namespace Go.Proofs.Ytcmkkmlgdkhmiaa.Asl
open Go.RowKit Go.Proofs.YtcmkkmlgdkhmiaaW.PrintLast
set_option linter.unusedVariables false
set_option linter.unusedSimpArgs false
attribute [local irreducible] WP WL andThen inBlock noGoto atEnd ACall DA DL PO Hold nodeOk Tm.shape Tm.ok Tm.names
set_option maxHeartbeats 4000000
set_option synthInstance.maxHeartbeats 400000
set_option synthInstance.maxSize 10000
def Tm.namesN (t : Tm) : Nat → List Nat
  | 0 => []
  | k + 1 => t.namesN k ++ if t.ok && t.fr k then [k] else []
theorem namesN_eq (t : Tm) (k : Nat) : t.namesTo k = (t.namesN k).map fun n : Nat => (n : Int) := by
  induction k with
  | zero => rfl
  | succ k ih => simp only [Tm.namesTo, Tm.namesN, ih, List.map_append]; split <;> rfl
theorem ints_row (l : List Nat) : Ints (l.map fun n : Nat => (n : Int)) = Row l := by
  have : (l.map fun n : Nat => (n : Int)).map I = rowCells l := by
    induction l with
    | nil => rfl
    | cons x l ih => rw [rowCells_cons, ← ih]; rfl
  simp only [Ints, Row, this]; rfl
theorem namesN_mem {t : Tm} {k m : Nat} : m ∈ t.namesN k ↔ m < k ∧ (t.ok && t.fr m) = true := by
  induction k with
  | zero => simp [Tm.namesN]
  | succ k ih =>
    simp only [Tm.namesN, List.mem_append, ih]
    by_cases h : (t.ok && t.fr k) = true
    · rw [if_pos h]; simp only [List.mem_singleton]
      constructor
      · rintro (h1 | rfl)
        · exact ⟨by omega, h1.2⟩
        · exact ⟨by omega, h⟩
      · rintro ⟨h1, h2⟩
        by_cases e : m = k
        · exact .inr e
        · exact .inl ⟨by omega, h2⟩
    · rw [if_neg h]; simp only [List.not_mem_nil, or_false]
      constructor
      · rintro ⟨h1, h2⟩; exact ⟨by omega, h2⟩
      · rintro ⟨h1, h2⟩
        by_cases e : m = k
        · subst e; exact absurd h2 h
        · exact ⟨by omega, h2⟩
theorem namesN_lt {t : Tm} {k i : Nat} (h : i < (t.namesN k).length) : (t.namesN k).getD i 0 < k := by
  have : (t.namesN k).getD i 0 ∈ t.namesN k := by simp [List.getD_eq_getElem?_getD, h]
  exact (namesN_mem.mp this).1
theorem namesN_rises (t : Tm) (k : Nat) : Rises (t.namesN k) := by
  induction k with
  | zero => intro i hi; simp [Tm.namesN] at hi
  | succ k ih =>
    intro i hi
    simp only [Tm.namesN] at hi ⊢
    by_cases h : (t.ok && t.fr k) = true
    · rw [if_pos h] at hi ⊢
      simp only [List.length_append, List.length_cons, List.length_nil] at hi
      by_cases e : i + 1 < (t.namesN k).length
      · have := ih i e
        simp only [List.getD_eq_getElem?_getD] at this ⊢
        rw [List.getElem?_append_left (by omega), List.getElem?_append_left e]; exact this
      · have e1 : i + 1 = (t.namesN k).length := by omega
        have := namesN_lt (t := t) (k := k) (i := i) (by omega)
        simp only [List.getD_eq_getElem?_getD] at this ⊢
        rw [List.getElem?_append_left (by omega), List.getElem?_append_right (by omega), ← e1, Nat.sub_self]
        simpa using this
    · rw [if_neg h, List.append_nil] at hi ⊢
      exact ih i hi
theorem namesN_hide {t : Tm} {n m : Nat} (hok : (hideT n t).ok = true) (hm : m < 4) : (∃ x ∈ (hideT n t).namesN 4, (x : Int) = (m : Int)) ↔ (∃ x ∈ t.namesN 4, (x : Int) = (m : Int)) ∧ m ≠ n := by
  have ht : t.ok = true := by
    have hc : (hideT n t).cnt = 1 + t.cnt := by simp [hideT, Tm.cnt, Tm.cnts]
    have h1 : (hideT n t).cnt ≤ 24 := by
      unfold Tm.ok at hok; simp only [Bool.and_eq_true, decide_eq_true_eq] at hok; exact hok.1
    have h2 : t.shape = true := by
      unfold Tm.ok at hok; simp only [Bool.and_eq_true] at hok
      exact (Tm.shape_node (show (Tm.node 4 n [t]).shape = true from hok.2)).2 t (by simp)
    unfold Tm.ok
    simp only [Bool.and_eq_true, decide_eq_true_eq]
    exact ⟨by omega, h2⟩
  have e : ∀ (u : Tm), (∃ x ∈ u.namesN 4, (x : Int) = (m : Int)) ↔ (u.ok && u.fr m) = true := by
    intro u
    constructor
    · rintro ⟨x, hx, hxm⟩
      have : x = m := by omega
      subst this
      exact (namesN_mem.mp hx).2
    · intro h; exact ⟨m, namesN_mem.mpr ⟨hm, h⟩, rfl⟩
  rw [e, e, hok, ht]
  simp only [Bool.true_and, hideT, Tm.fr, Tm.frs, Bool.or_false]
  by_cases h : n = m
  · subst h; simp
  · have : ¬ ((n : Int) = (m : Int)) := by omega
    simp [this, show ¬ m = n from fun q => h q.symm]
section
variable {E : Env} {ops : Array Oper} {l : List Oper} {Q : Exit → Slots → Store → Prop} {S : Slots} {σ : Store} {d : Option Tmp} {ty : TypeId} {pos : String} {af : Array Edge} {x y : Operand}
theorem wc_callNames {args : Array Operand} {ats : Array TypeId} {f : FuncId} {rs caps : List AV} {t : Tm} (hf : S.ev x = some (.fn f caps)) (hc : Callable E.P f) (hargs : evs S args.toList = some rs)
    (h : ACall E.P E.base f (rs ++ caps) σ (fun _ => False) (RetInts σ t.names)) (hd : okd E d = true) (k : ∀ u σ', One u → OW σ σ' u (t.namesN 4) → Grow σ σ' → WL E ops l Q (S.put d u) σ') :
    WL E ops (⟨d, .call ⟨.value x, args, ats⟩, ty, pos, af, none⟩ :: l) Q S σ :=
  wc_call hf hc hargs h hd fun r' σ' h => by
    obtain ⟨i, e, hn, hh, hg⟩ := h
    subst e
    have e2 : t.names = (t.namesN 4).map fun n : Nat => (n : Int) := by unfold Tm.names; exact namesN_eq t 4
    rw [e2, ints_row] at hh
    have hl : t.names.length = (t.namesN 4).length := by rw [e2, List.length_map]
    have := names_len t
    exact k _ σ' ⟨rfl⟩ (ow_of_has hh hn.le hl.symm (by omega)) hg
end
theorem rts_one {σ : Store} {j : Nat} {t : Tm} {u : AV} (h : RTs σ u t.ps) (hh : Has σ j ⟨.own, 3, [I t.op, I t.n, u], []⟩) : RTs σ (.sl j 0 1) [t] :=
  ⟨(rtsG_one (G := fun _ => True) trivial (.of h) hh).rep⟩
theorem has_cases {t : Tm} {n m : Nat} (hok : (hideT n t).ok = true) (hm : m < 4) : (prB (∃ x ∈ (hideT n t).namesN 4, (x : Int) = (m : Int)) = false ∧ prB (∃ x ∈ t.namesN 4, (x : Int) = (m : Int)) = false) ∨
    (prB (∃ x ∈ (hideT n t).namesN 4, (x : Int) = (m : Int)) = true ∧ prB (∃ x ∈ t.namesN 4, (x : Int) = (m : Int)) = true ∧ m ≠ n) ∨
    (prB (∃ x ∈ (hideT n t).namesN 4, (x : Int) = (m : Int)) = false ∧ prB (∃ x ∈ t.namesN 4, (x : Int) = (m : Int)) = true ∧ m = n) := by
  have hi := namesN_hide hok hm
  by_cases hB : ∃ x ∈ t.namesN 4, (x : Int) = (m : Int)
  · by_cases e : m = n
    · exact .inr (.inr ⟨prB_false (fun h => (hi.mp h).2 e), prB_true hB, e⟩)
    · exact .inr (.inl ⟨prB_true (hi.mpr ⟨hB, e⟩), prB_true hB, e⟩)
  · exact .inl ⟨prB_false (fun h => hB (hi.mp h).1), prB_false hB⟩
section
variable {base : Nat}
/-- A term that is drawn, alone. -/
def RetT1 (σ : Store) : AV → Store → Prop := fun r σ' => ∃ (t : Tm) (u : AV), r = .agg [I t.op, I t.n, u] ∧ RTs σ' u t.ps ∧ Grow σ σ'
theorem wc_callT1 {E : Env} {ops : Array Oper} {l : List Oper} {Q : Exit → Slots → Store → Prop} {S : Slots} {σ : Store} {d : Option Tmp} {ty : TypeId} {pos : String} {af : Array Edge} {x : Operand} {args : Array Operand} {ats : Array TypeId} {f : FuncId} {rs caps : List AV} (hf : S.ev x = some (.fn f caps)) (hc : Callable E.P f) (hargs : evs S args.toList = some rs)
    (h : ACall E.P E.base f (rs ++ caps) σ (fun _ => False) (RetT1 σ)) (hd : okd E d = true) (k : ∀ (t : Tm) (u : AV) σ', One u → RTs σ' u t.ps → Grow σ σ' → WL E ops l Q (S.put d (.agg [I t.op, I t.n, u])) σ') :
    WL E ops (⟨d, .call ⟨.value x, args, ats⟩, ty, pos, af, none⟩ :: l) Q S σ :=
  wc_call hf hc hargs h hd fun r' σ' h => by obtain ⟨t, u, e, h1, h4⟩ := h; subst e; exact k t u σ' h1.one h1 h4
theorem c_DrawTermNames (b : AV) (gb : List UInt8) (σ : Store) [hs : RW σ b gb] (hg : gb.length ≤ 1048576) : ACall Try.prog base F_spec_DrawTermNames [b] σ (fun _ => False) (RetT1 σ) := by
  have := hs.one
  refine acall1 fun_spec_DrawTermNames rfl tmps_spec_DrawTermNames rfl fun N B w₀ ρ₀ => ?_
  repeat' (first
    | (refine wc_callOpen rfl inferInstance rfl (c_l6Open b gb _ hg) rfl ?_; intro _ _ _ _ _ _ _ _)
    | refine wc_holdR 2 ?_
    | refine wp_seqA ?_
    | refine wp_region_seq ?_
    | refine thru_seq_next ?_
    | refine wl_nil ?_
    | refine wl_pop rfl (po_move rfl) ?_
    | refine wl_pop rfl (po_assign rfl) ?_
    | (refine wc_allocA (cs := [_, _, _]) inferInstance rfl inferInstance rfl ?_; intro _ _ _ _ _)
    | fail)
  rename_i i1 σ1 g1 n1 h1 i s g σ2 g2 n2 h2 b2
  have hni : σ.length ≤ i := Nat.le_trans g1.len n2.le
  have y0 := h1.lt
  have y1 := n2.le
  have y2 := h2.lt
  have y3 := g2.len
  refine hold_go ?_
  repeat' (first
    | (refine wc_callC rfl inferInstance rfl (c_l91Called i s g _ _ (by omega) (by omega)) inferInstance (.inr hni) rfl ?_; intro _ _ _ _ _ _ _ _ _ _ _ _ _ _ _ _)
    | (refine wc_storeA rfl rfl inferInstance inferInstance rfl inferInstance (Nat.le_of_ble_eq_true rfl) (.inr (may_newB i σ)) ?_; intro _ _)
    | refine wp_seqA ?_
    | refine wp_region_seq ?_
    | refine thru_seq_next ?_
    | refine wp_retA ?_
    | refine wl_nil ?_
    | refine wl_pop rfl (po_move rfl) ?_
    | refine wl_pop rfl (po_assign rfl) ?_
    | refine wc_loadn rfl inferInstance (at_has (cs := [_, _, _]) (.inl rfl) rfl rfl) rfl ?_
    | refine wl_pop rfl (po_extract rfl rfl) ?_
    | (refine wc_allocA (cs := [_, _, _]) inferInstance rfl inferInstance rfl ?_; intro _ _ _ _ _)
    | refine at_ret (res_cell rfl rfl inferInstance (at_has (cs := [_, _, _]) (.inl rfl) rfl rfl)) ?_
    | fail)
  rename_i t u v xs p3 σ3 σ4 ou ov ru rv hx a1 a2 g4 u4 j σ5 g5 n5 h5 σ6 u6 σ7 u7
  have y4 := (inferInstance : LeB i σ2 σ4).len
  have y5 := n5.le
  have hl := (inferInstance : LeB i σ σ6)
  have RU : RepD σ7 (fun x => σ2.length ≤ x ∧ x < σ4.length) u t.ps := ru.rep.lt.mono (fun x o hx ho => by rw [u7.eq, List.getElem?_set_ne (by omega)]; exact (inferInstance : LeB i σ4 σ6).keep.keep x o (by omega) ho) (fun x hx => hx)
  have z1 := n1.le
  refine ⟨t, u, rfl, ⟨RU.rep.mono (fun _ _ _ h => h) (fun _ _ => trivial)⟩, ⟨fun x o ho => ?_⟩⟩
  have hx1 : x < σ.length := Has.lt ⟨ho⟩
  rw [u7.eq, List.getElem?_set_ne (by omega)]
  exact hl.keep.keep x o (by omega) ho
theorem c_FnTermNames (b : AV) (gb : List UInt8) (σ : Store) [hs : RW σ b gb] : ACall Try.prog base F_laws_FnTermNames [b] σ (fun _ => False) (Ret σ (Bo true)) := by
  have := hs.one
  refine acall1 fun_laws_FnTermNames rfl tmps_laws_FnTermNames rfl fun N B w₀ ρ₀ => ?_
  repeat' (first
    | refine wl_pop rfl (pc_lenRow rfl hs inferInstance) ?_
    | (refine wc_callT1 rfl inferInstance rfl (c_DrawTermNames b gb _ (by omega)) rfl ?_; intro _ _ _ _ _ _)
    | refine wc_holdR 4 ?_
    | refine wp_seqA ?_
    | refine wp_region_seq ?_
    | refine thru_seq_next ?_
    | refine thru_seq_ret ?_
    | refine wp_skipA ?_
    | refine wp_retA ?_
    | refine wl_nil ?_
    | refine wl_pop rfl (po_move rfl) ?_
    | refine wl_pop rfl (po_assign rfl) ?_
    | refine wl_pop rfl (po_binOp rfl rfl rfl) ?_
    | (refine wc_storeA rfl rfl inferInstance inferInstance rfl inferInstance (Nat.le_of_ble_eq_true rfl) (.inr (may_new _)) ?_; intro _ _)
    | (refine wc_allocA (cs := [_, _, _]) inferInstance rfl inferInstance rfl ?_; intro _ _ _ _ _)
    | refine wp_condP rfl (fun _ => ?_) (fun _ => ?_)
    | refine at_ret (res1 rfl rfl) ?_
    | exact ret_ inferInstance rfl
    | fail)
  rename_i hlen t u σ1 ou ru g1 i2 σ2 g2 n2 h2 σ3 u3
  refine hold_go ?_
  have l3 : LeS σ σ3 := inferInstance
  have h3 : Has σ3 i2 ⟨.own, 1, [I t.op, I t.n, u], []⟩ := instHasUpd (g := u3)
  have r3 : RTs σ3 u t.ps := inferInstance
  repeat' (first
    | (refine wc_callNames rfl inferInstance rfl (c_TermNames t _ _) rfl ?_; intro _ _ _ _ _)
    | (refine wc_callNames rfl inferInstance rfl (c_sTermNames t _ _) rfl ?_; intro _ _ _ _ _)
    | (refine wc_callR rfl inferInstance rfl (c_mnIntsR _ _ _) rfl ?_; intro _ _)
    | (refine wc_callR rfl inferInstance rfl (c_mnRisesR _ _ (namesN_rises t 4)) rfl ?_; intro _ _)
    | refine wp_seqA ?_
    | refine wp_region_seq ?_
    | refine thru_seq_next ?_
    | refine wp_skipA ?_
    | refine wp_blockA ?_
    | refine wl_nil ?_
    | refine wl_pop rfl (po_move rfl) ?_
    | refine wl_pop rfl (po_assign rfl) ?_
    | refine wc_loadn rfl inferInstance (at_has (cs := [_, _, _]) (.inl rfl) rfl rfl) rfl ?_
    | refine wl_pop rfl (po_not rfl) ?_
    | refine wp_condF rfl ?_
    | fail)
  rename_i v σ4 o4 ow4 g4 v' σ5 o5 ow5 g5 σ6 g6 σ7 g7
  have l7 : LeS σ3 σ7 := inferInstance
  have ow7 : OW σ3 σ7 v (t.namesN 4) := inferInstance
  refine wc_loop [(3, _), (4, _)] (fun k : Nat => [(6, I k)]) (fun k σ' => k ≤ 4 ∧ LeS σ7 σ') (fun k => 4 - k) 0 ⟨Nat.zero_le _, inferInstance⟩ (by repeat' (first | exact sub_nil | refine sub_cons rfl ?_ | refine sub_int rfl (by first | rfl | omega | (push_cast; omega) | simp) ?_ | refine sub_eq rfl (by assumption) ?_)) ?_
  rintro k σ' ⟨hk, hg⟩
  have := hg.grow
  repeat' (first
    | (refine wc_oneTm rfl inferInstance inferInstance rfl (by decide) rfl ?_; intro _ _ _ _ _)
    | (refine wc_callR rfl inferInstance rfl (c_mnPut _ _ _ _) rfl ?_; intro _ _)
    | refine wc_holdR 14 ?_
    | refine wp_seqA ?_
    | refine wp_region_seq ?_
    | refine thru_seq_next ?_
    | refine thru_seq ?_
    | refine exit_here ?_
    | refine wp_skipA ?_
    | refine wp_retA ?_
    | refine wp_exitA ?_
    | refine wp_blockA ?_
    | refine wl_nil ?_
    | refine wl_pop rfl (po_move rfl) ?_
    | refine wl_pop rfl (po_assign rfl) ?_
    | refine wl_pop rfl (po_binOp rfl rfl rfl) ?_
    | refine wc_loadn rfl inferInstance (at_has (cs := [_, _, _]) (.inl rfl) rfl rfl) rfl ?_
    | (refine wc_storeA rfl rfl inferInstance inferInstance rfl inferInstance (Nat.le_of_ble_eq_true rfl) (.inr (may_new _)) ?_; intro _ _)
    | (refine wc_allocA (cs := [_, _, _]) inferInstance rfl inferInstance rfl ?_; intro _ _ _ _ _)
    | refine wp_condP rfl (fun _ => ?_) (fun _ => ?_)
    | refine at_ret (res1 rfl rfl) ?_
    | exact ret_ inferInstance rfl
    | fail)
  rename_i hk4 i8 σ8 g8 n8 h8 σ9 g9 i10 σ10 g10 n10 h10 σ11 u11
  have rt8 : RTs σ8 (.sl i8 0 1) [t] := rts_one inferInstance h8
  have h11 : Has σ11 i10 ⟨.own, 1, [I 4, I (k : Int), .sl i8 0 1], []⟩ := instHasUpd (g := u11)
  have rt11 : RTs σ11 (.sl i8 0 1) [t] := inferInstance
  have l11 : LeS σ7 σ11 := inferInstance
  refine hold_go ?_
  repeat' (first
    | (refine wc_callNames rfl inferInstance rfl (c_TermNames (hideT k t) _ _) rfl ?_; intro _ _ _ _ _)
    | refine wp_seqA ?_
    | refine wp_region_seq ?_
    | refine thru_seq_next ?_
    | refine wp_blockA ?_
    | refine wl_nil ?_
    | refine wl_pop rfl (po_assign rfl) ?_
    | refine wc_loadn rfl inferInstance (at_has (cs := [_, _, _]) (.inl rfl) rfl rfl) rfl ?_
    | fail)
  rename_i w σ12 o12 ow12 g12
  refine wc_loop [(3, _), (4, _), (6, _), (7, _), (8, _)] (fun m : Nat => [(9, I m)]) (fun m σ' => m ≤ 4 ∧ LeS σ12 σ') (fun m => 4 - m) 0 ⟨Nat.zero_le _, inferInstance⟩ (by repeat' (first | exact sub_nil | refine sub_cons rfl ?_ | refine sub_int rfl (by first | rfl | omega | (push_cast; omega) | simp) ?_ | refine sub_eq rfl (by assumption) ?_)) ?_
  rintro m σ'' ⟨hm, hg2⟩
  have := hg2.grow
  have l12 : LeS σ7 σ'' := inferInstance
  by_cases hok : (hideT k t).ok = true
  · by_cases hm4 : m < 4
    · rcases has_cases hok hm4 with ⟨q1, q2⟩ | ⟨q1, q2, q3⟩ | ⟨q1, q2, q3⟩
      · repeat' (first
          | (refine wc_callR rfl inferInstance rfl (hok ▸ c_TermOk (hideT k t) _ _) rfl ?_; intro _ _)
          | (refine wc_callR rfl inferInstance rfl (q1 ▸ c_mnHas m _ _ (hs := ow12.rw.les inferInstance)) rfl ?_; intro _ _)
          | (refine wc_callR rfl inferInstance rfl (q2 ▸ c_mnHas m _ _ (hs := ow7.rw.les inferInstance)) rfl ?_; intro _ _)
          | refine wp_seqA ?_
          | refine wp_region_seq ?_
          | refine thru_seq_next ?_
          | refine thru_seq ?_
          | refine thru_block_next ?_
          | refine exit_here ?_
          | refine wp_skipA ?_
          | refine wp_exitA ?_
          | refine wp_blockA ?_
          | refine wl_nil ?_
          | refine wl_pop rfl (po_move rfl) ?_
          | refine wl_pop rfl (po_assign rfl) ?_
          | refine wl_pop rfl (pc_add rfl rfl (by omega) (by omega)) ?_
          | refine wl_pop rfl (po_binOp rfl rfl rfl) ?_
          | refine wl_pop rfl (pc_boolNeSelf rfl rfl inferInstance) ?_
          | refine wc_loadn rfl inferInstance (at_has (cs := [_, _, _]) (.inl rfl) rfl rfl) rfl ?_
          | refine wl_pop rfl (po_pick rfl rfl) ?_
          | refine wc_guardT_true rfl rfl rfl ?_
          | refine wc_guardF_true rfl rfl rfl rfl ?_
          | refine wc_guardP_true rfl rfl rfl rfl (fun _ => ?_) (fun _ => ?_)
          | refine wp_condT rfl ?_
          | refine wp_condF rfl ?_
          | fail)
        all_goals first | exact ⟨m + 1, by omega, ⟨by omega, inferInstance⟩, (by repeat' (first | exact sub_nil | refine sub_cons rfl ?_ | refine sub_int rfl (by first | rfl | omega | (push_cast; omega) | simp) ?_ | refine sub_eq rfl (by assumption) ?_))⟩ | (exfalso; omega) | (exfalso; rename_i hz; simp at hz; done) | (exfalso; rename_i hz; simp at hz; omega) | skip
        all_goals trace_state
      · repeat' (first
          | (refine wc_callR rfl inferInstance rfl (hok ▸ c_TermOk (hideT k t) _ _) rfl ?_; intro _ _)
          | (refine wc_callR rfl inferInstance rfl (q1 ▸ c_mnHas m _ _ (hs := ow12.rw.les inferInstance)) rfl ?_; intro _ _)
          | (refine wc_callR rfl inferInstance rfl (q2 ▸ c_mnHas m _ _ (hs := ow7.rw.les inferInstance)) rfl ?_; intro _ _)
          | refine wp_seqA ?_
          | refine wp_region_seq ?_
          | refine thru_seq_next ?_
          | refine thru_seq_ret ?_
          | refine thru_seq ?_
          | refine thru_block_ret ?_
          | refine thru_block_next ?_
          | refine exit_here ?_
          | refine wp_skipA ?_
          | refine wp_retA ?_
          | refine wp_exitA ?_
          | refine wp_blockA ?_
          | refine wl_nil ?_
          | refine wl_pop rfl (po_move rfl) ?_
          | refine wl_pop rfl (po_assign rfl) ?_
          | refine wl_pop rfl (pc_add rfl rfl (by omega) (by omega)) ?_
          | refine wl_pop rfl (po_binOp rfl rfl rfl) ?_
          | refine wl_pop rfl (pc_boolNe rfl rfl inferInstance) ?_
          | refine wc_loadn rfl inferInstance (at_has (cs := [_, _, _]) (.inl rfl) rfl rfl) rfl ?_
          | refine wl_pop rfl (po_pick rfl rfl) ?_
          | refine wc_guardT_true rfl rfl rfl ?_
          | refine wc_guardF_true rfl rfl rfl rfl ?_
          | refine wc_guardP_true rfl rfl rfl rfl (fun _ => ?_) (fun _ => ?_)
          | refine wp_condT rfl ?_
          | refine wp_condF rfl ?_
          | refine wp_condNP rfl (fun _ => ?_) (fun _ => ?_)
          | refine at_ret (res1 rfl rfl) ?_
          | fail)
        all_goals first | exact ⟨m + 1, by omega, ⟨by omega, inferInstance⟩, (by repeat' (first | exact sub_nil | refine sub_cons rfl ?_ | refine sub_int rfl (by first | rfl | omega | (push_cast; omega) | simp) ?_ | refine sub_eq rfl (by assumption) ?_))⟩ | (exfalso; omega) | (exfalso; rename_i hz; simp at hz; done) | (exfalso; rename_i hz; simp at hz; omega) | skip
        all_goals trace_state
      · repeat' (first
          | (refine wc_callR rfl inferInstance rfl (hok ▸ c_TermOk (hideT k t) _ _) rfl ?_; intro _ _)
          | (refine wc_callR rfl inferInstance rfl (q1 ▸ c_mnHas m _ _ (hs := ow12.rw.les inferInstance)) rfl ?_; intro _ _)
          | (refine wc_callR rfl inferInstance rfl (q2 ▸ c_mnHas m _ _ (hs := ow7.rw.les inferInstance)) rfl ?_; intro _ _)
          | refine wp_seqA ?_
          | refine wp_region_seq ?_
          | refine thru_seq_next ?_
          | refine thru_seq_ret ?_
          | refine thru_seq ?_
          | refine thru_block_ret ?_
          | refine thru_block_next ?_
          | refine exit_here ?_
          | refine wp_skipA ?_
          | refine wp_retA ?_
          | refine wp_exitA ?_
          | refine wp_blockA ?_
          | refine wl_nil ?_
          | refine wl_pop rfl (po_move rfl) ?_
          | refine wl_pop rfl (po_assign rfl) ?_
          | refine wl_pop rfl (pc_add rfl rfl (by omega) (by omega)) ?_
          | refine wl_pop rfl (po_binOp rfl rfl rfl) ?_
          | refine wl_pop rfl (pc_boolNe rfl rfl inferInstance) ?_
          | refine wc_loadn rfl inferInstance (at_has (cs := [_, _, _]) (.inl rfl) rfl rfl) rfl ?_
          | refine wl_pop rfl (po_pick rfl rfl) ?_
          | refine wc_guardT_true rfl rfl rfl ?_
          | refine wc_guardF_true rfl rfl rfl rfl ?_
          | refine wc_guardP_true rfl rfl rfl rfl (fun _ => ?_) (fun _ => ?_)
          | refine wp_condT rfl ?_
          | refine wp_condF rfl ?_
          | refine wp_condNP rfl (fun _ => ?_) (fun _ => ?_)
          | refine at_ret (res1 rfl rfl) ?_
          | fail)
        all_goals first | exact ⟨m + 1, by omega, ⟨by omega, inferInstance⟩, (by repeat' (first | exact sub_nil | refine sub_cons rfl ?_ | refine sub_int rfl (by first | rfl | omega | (push_cast; omega) | simp) ?_ | refine sub_eq rfl (by assumption) ?_))⟩ | (exfalso; omega) | (exfalso; rename_i hz; simp at hz; done) | (exfalso; rename_i hz; simp at hz; omega) | skip
        all_goals trace_state
    · repeat' (first
        | refine wp_seqA ?_
        | refine wp_region_seq ?_
        | refine thru_seq_next ?_
        | refine thru_seq ?_
        | refine thru_block_next ?_
        | refine exit_here ?_
        | refine wp_exitA ?_
        | refine wl_nil ?_
        | refine wl_pop rfl (po_move rfl) ?_
        | refine wl_pop rfl (po_assign rfl) ?_
        | refine wl_pop rfl (pc_add rfl rfl (by omega) (by omega)) ?_
        | refine wl_pop rfl (po_binOp rfl rfl rfl) ?_
        | refine wc_loadn rfl inferInstance (at_has (cs := [_, _, _]) (.inl rfl) rfl rfl) rfl ?_
        | refine wl_pop rfl (po_pick rfl rfl) ?_
        | refine wc_guardT_true rfl rfl rfl ?_
        | refine wc_guardF_true rfl rfl rfl rfl ?_
        | refine wc_guardP_true rfl rfl rfl rfl (fun _ => ?_) (fun _ => ?_)
        | refine wp_condF rfl ?_
        | fail)
      all_goals first | (exfalso; omega) | skip
      all_goals exact ⟨k + 1, by omega, ⟨by omega, inferInstance⟩, (by repeat' (first | exact sub_nil | refine sub_cons rfl ?_ | refine sub_int rfl (by first | rfl | omega | (push_cast; omega) | simp) ?_ | refine sub_eq rfl (by assumption) ?_))⟩
  · have hok' : (hideT k t).ok = false := by simpa using hok
    repeat' (first
      | (refine wc_callR rfl inferInstance rfl (hok' ▸ c_TermOk (hideT k t) _ _) rfl ?_; intro _ _)
      | refine wp_seqA ?_
      | refine wp_region_seq ?_
      | refine thru_seq_next ?_
      | refine thru_seq ?_
      | refine thru_block_next ?_
      | refine exit_here ?_
      | refine wp_exitA ?_
      | refine wl_nil ?_
      | refine wl_pop rfl (po_move rfl) ?_
      | refine wl_pop rfl (po_assign rfl) ?_
      | refine wl_pop rfl (pc_add rfl rfl (by omega) (by omega)) ?_
      | refine wl_pop rfl (po_binOp rfl rfl rfl) ?_
      | refine wc_loadn rfl inferInstance (at_has (cs := [_, _, _]) (.inl rfl) rfl rfl) rfl ?_
      | refine wl_pop rfl (po_pick rfl rfl) ?_
      | refine wc_guardT_true rfl rfl rfl ?_
      | refine wc_guardF_true rfl rfl rfl rfl ?_
      | refine wc_guardP_true rfl rfl rfl rfl (fun _ => ?_) (fun _ => ?_)
      | refine wp_condF rfl ?_
      | fail)
    all_goals exact ⟨k + 1, by omega, ⟨by omega, inferInstance⟩, (by repeat' (first | exact sub_nil | refine sub_cons rfl ?_ | refine sub_int rfl (by first | rfl | omega | (push_cast; omega) | simp) ?_ | refine sub_eq rfl (by assumption) ?_))⟩
end
end Go.Proofs.Ytcmkkmlgdkhmiaa.Asl
