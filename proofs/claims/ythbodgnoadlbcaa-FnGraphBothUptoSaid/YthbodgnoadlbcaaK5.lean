/- The reader: a graph. -/
import Derived.Test.YthbodgnoadlbcaaK4
import Derived.Test.YthbodgnoadlbcaaDD
import Derived.Test.YthbodgnoadlbcaaBB
namespace Go.Proofs.Ythbodgnoadlbcaa.Asl
open Go.RowKit Go.Proofs.YthbodgnoadlbcaaW.PrintLast
set_option linter.unusedVariables false
set_option linter.unusedSimpArgs false
attribute [local irreducible] WP WL andThen inBlock noGoto atEnd ACall DA DL DX PO Hold nodeOk Tm.shape Tm.ok Tm.txt
set_option maxHeartbeats 4000000
set_option synthInstance.maxHeartbeats 400000
set_option synthInstance.maxSize 10000
theorem ow_leB {α : Type} [Enc α] {i : Nat} {σb σ σ' : Store} {u : AV} {l : List α} (h : OW σb σ u l) (k : LeB i σ σ') (hi : i < σb.length) : OW σb σ' u l :=
  h.keep fun j o hj _ ho => k.keep.keep j o (by omega) ho
theorem ors_leB {α : Type} [Enc α] {i : Nat} {σb σ σ' : Store} {us : List AV} {g : List (List α)} (h : ORs σb σ us g) (k : LeB i σ σ') (hi : i < σb.length) : ORs σb σ' us g :=
  h.keep fun j o hj _ ho => k.keep.keep j o (by omega) ho
theorem App.leB' {i : Nat} {σ₀ σa σ σ' : Store} {s s' : AV} (h : App σ₀ σ s s' σ') (k : LeB i σa σ) (hl : σa.length ≤ σ₀.length) : LeB i σa σ' :=
  ⟨⟨fun j o hj ho => h.keep j o (.inl (Nat.lt_of_lt_of_le (Has.lt ⟨ho⟩) hl)) (k.keep.keep j o hj ho)⟩, Nat.le_trans k.len h.len⟩
theorem insM_len (m : Mv) (l : List Mv) : (insM m l).length ≤ l.length + 1 := by
  induction l with
  | nil => simp [insM]
  | cons x l ih =>
    unfold insM
    repeat' split
    all_goals simp
    all_goals omega
theorem tidyL_lenK (l : List Mv) : (tidyL l).length ≤ l.length := by
  have key : ∀ (l acc : List Mv), (l.foldl (fun out m => insM m out) acc).length ≤ acc.length + l.length := by
    intro l
    induction l with
    | nil => intro acc; simp
    | cons x l ih =>
      intro acc
      have h1 := ih (insM x acc)
      have h2 := insM_len x acc
      simp only [List.foldl_cons, List.length_cons]
      omega
  have := key l []
  simp only [List.length_nil, Nat.zero_add] at this
  exact this
theorem rrs_setX {σb σ1 σ3 : Store} {us : List AV} {g : Gr} {s' : AV} {l' : List Mv} {k : Nat} (h : ORs σb σ1 us g) (hk : k < us.length) (hkeep : ∀ (i : Nat) (o : Ob), σb.length ≤ i → (∀ n, us.getD k nilS ≠ .sl i 0 n) → o.esz = 2 → σ1[i]? = some o → σ3[i]? = some o) (hr : RW σ3 s' l') : RRs σ3 (us.set k s') (g.set k l') := by
  have hl := h.len
  refine ⟨by simp [hl], fun j => ?_⟩
  by_cases e : j = k
  · subst e
    have e1 : (us.set j s').getD j nilS = s' := by simp [List.getD_eq_getElem?_getD, hk]
    have e2 : (g.set j l').getD j [] = l' := by simp [List.getD_eq_getElem?_getD, ← hl, hk]
    rw [e1, e2]; exact hr
  · have e1 : (us.set k s').getD j nilS = us.getD j nilS := by simp [List.getD_eq_getElem?_getD, List.getElem?_set_ne (Ne.symm e)]
    have e2 : (g.set k l').getD j [] = g.getD j [] := by simp [List.getD_eq_getElem?_getD, List.getElem?_set_ne (Ne.symm e)]
    rw [e1, e2]
    have hrow := h.row j
    have hne : ∀ i m n, us.getD j nilS = .sl i 0 m → us.getD k nilS ≠ .sl i 0 n := by
      intro i m n h1 h2
      by_cases hj : j < us.length
      · exact e (h.apart j k i m n (by rw [← h1]; simp [List.getD_eq_getElem?_getD, hj]) (by rw [← h2]; simp [List.getD_eq_getElem?_getD, hk]))
      · rw [List.getD_eq_getElem?_getD, List.getElem?_eq_none (by omega)] at h1; cases h1
    rcases hrow.rep with ⟨h1, h2⟩ | ⟨id, h1, hq, h3⟩
    · rw [h1, h2]; exact .nil _ _ _
    · have h4 : Has σ3 id (Row (g.getD j [])) := ⟨hkeep id _ hq (fun n => hne id _ n h1) rfl h3.get⟩
      rw [h1]; exact rw_of_has h4 rfl hrow.bound
/-- A graph in new objects. -/
class NG (σ : outParam Store) (σ' : Store) (u : AV) (us : outParam (List AV)) (g : outParam Gr) : Prop where
  to : ∀ σ'' : Store, (∀ (j : Nat) (o : Ob), σ.length ≤ j → σ'[j]? = some o → σ''[j]? = some o) → RW σ'' u us ∧ RRs σ'' us g
theorem NG.of {σ σ7 σ' : Store} {u : AV} {us : List AV} {g : Gr} (h : OW σ7 σ' u us) (k : ORs σ7 σ' us g) (hl : σ.length ≤ σ7.length) : NG σ σ' u us g :=
  ⟨fun σ'' kk => ⟨(h.keep fun j o hj _ ho => kk j o (by omega) ho).rw, (k.keep fun j o hj _ ho => kk j o (by omega) ho).rrs⟩⟩
theorem NG.nil (σ σ' : Store) : NG σ σ' nilS [] [] := ⟨fun _ _ => ⟨.nil _ _ _, ⟨rfl, fun j => by simpa using RW.nil _ _ _⟩⟩⟩
theorem NG.keep {σ σ' σ2 : Store} {u : AV} {us : List AV} {g : Gr} (h : NG σ σ' u us g) (k : ∀ (j : Nat) (o : Ob), σ.length ≤ j → σ'[j]? = some o → σ2[j]? = some o) : NG σ σ2 u us g :=
  ⟨fun σ'' kk => h.to σ'' fun j o hj ho => kk j o hj (k j o hj ho)⟩
theorem NG.down {σ σ1 σ' : Store} {u : AV} {us : List AV} {g : Gr} (h : NG σ1 σ' u us g) (hl : σ.length ≤ σ1.length) : NG σ σ' u us g :=
  ⟨fun σ'' kk => h.to σ'' fun j o hj ho => kk j o (by omega) ho⟩
instance instNGGrow {σ σ' σ2 : Store} {u : AV} {us : List AV} {g : Gr} [gr : Grow σ' σ2] [h : NG σ σ' u us g] : NG σ σ2 u us g := h.keep fun j o _ ho => gr.keep j o ho
instance instNGUpd {σ σ' σ2 : Store} {i : Nat} {o o' : Ob} {u : AV} {us : List AV} {g : Gr} [gr : Upd σ' i o' σ2] [k : Has σ i o] [h : NG σ σ' u us g] : NG σ σ2 u us g :=
  h.keep fun j o hj ho => by have := k.lt; rw [gr.eq, List.getElem?_set_ne (by omega)]; exact ho
instance instNGRW {σ σ' : Store} {u : AV} {us : List AV} {g : Gr} [h : NG σ σ' u us g] : RW σ' u us := (h.to σ' fun _ _ _ ho => ho).1
theorem NG.rrs {σ σ' : Store} {u : AV} {us : List AV} {g : Gr} (h : NG σ σ' u us g) : RRs σ' us g := (h.to σ' fun _ _ _ ho => ho).2
theorem set_bnd {g : Gr} {k : Nat} {l' : List Mv} (h : ∀ r ∈ g, r.length ≤ 3) (hl : l'.length ≤ 4) : ∀ l ∈ g.set k l', l.length ≤ 331776 := by
  intro l hm
  rcases List.mem_or_eq_of_mem_set hm with h1 | rfl
  · have := h l h1; omega
  · omega
/-- A graph that is drawn. -/
def QG (σ : Store) : AV → Store → Prop := fun r σ' => ∃ (u : AV) (us : List AV) (g : Gr), r = .agg [u] ∧ NG σ σ' u us g ∧ ∀ l ∈ g, l.length ≤ 331776
section
variable {E : Env} {ops : Array Oper} {l : List Oper} {Q : Exit → Slots → Store → Prop} {S : Slots} {σ σ₀ : Store} {d : Option Tmp} {ty : TypeId} {pos : String} {af : Array Edge} {g : Option (Nat × Bool)} {n0 : Nat} {x y : Operand} {t e : TypeId}
theorem pc_buildMv0 {bytes : Nat} {z : Value} {a : Int} (hx : S.ev x = some (I a)) (hst : StructAt E.P t [(0, 1), (1, 1)]) (ht : Ty E.P t true 2 bytes z) (hz : z.cells.toList = [.int .i64 0, .int .i64 0]) :
    PO E S σ n0 ⟨d, .build t #[(0, x)], ty, pos, af, g⟩ (.agg [I a, I 0]) := by
  have hzs : z.cells.size = 2 := by rw [← Array.length_toList, hz]; rfl
  refine po_build (rs := [(0, I a)]) hst ht (by simp [evParts, hx]) ?_ ?_
  · intro r hr
    simp only [List.mem_cons, List.not_mem_nil, or_false] at hr
    subst hr
    exact ⟨0, 1, rfl, rfl, by omega⟩
  · rw [hz]; rfl
theorem pc_buildMv1 {bytes : Nat} {z : Value} {a : Int} (hx : S.ev x = some (I a)) (hst : StructAt E.P t [(0, 1), (1, 1)]) (ht : Ty E.P t true 2 bytes z) (hz : z.cells.toList = [.int .i64 0, .int .i64 0]) :
    PO E S σ n0 ⟨d, .build t #[(1, x)], ty, pos, af, g⟩ (.agg [I 0, I a]) := by
  have hzs : z.cells.size = 2 := by rw [← Array.length_toList, hz]; rfl
  refine po_build (rs := [(1, I a)]) hst ht (by simp [evParts, hx]) ?_ ?_
  · intro r hr
    simp only [List.mem_cons, List.not_mem_nil, or_false] at hr
    subst hr
    exact ⟨1, 1, rfl, rfl, by omega⟩
  · rw [hz]; rfl
theorem wc_callQG {args : Array Operand} {ats : Array TypeId} {f : FuncId} {rs caps : List AV} {i : Nat} {s : AV} {p K : Int} (hf : S.ev x = some (.fn f caps)) (hc : Callable E.P f) (hargs : evs S args.toList = some rs)
    (h : ACall E.P E.base f (rs ++ caps) σ (fun j => j = i) (RetRd σ i s p K (QG σ))) (ho : Has σ i (RdO s p)) (hm : E.may i) (hd : okd E d = true) (k : ∀ (u : AV) (us : List AV) (g : Gr) (p' : Int) σ₁ σ', One u → NG σ σ' u us g → (∀ l ∈ g, l.length ≤ 331776) → p ≤ p' → p' ≤ p + K → Grow σ σ₁ → Upd σ₁ i (RdO s p') σ' → WL E ops l Q (S.put d (.agg [u])) σ') :
    WL E ops (⟨d, .call ⟨.value x, args, ats⟩, ty, pos, af, none⟩ :: l) Q S σ :=
  wc_callRd hf hc hargs h ho hm hd fun r p' σ₁ σ' h1 h2 g u hq => by
    obtain ⟨v, us, gg, rfl, h3, h5⟩ := hq
    exact k v us gg p' σ₁ σ' (instNGRW (h := h3)).one h3 h5 h1 h2 g u
end
section
variable {base : Nat}
theorem c_l91Wild (i : Nat) (s : AV) (b : List UInt8) (p : Int) (σ : Store) [hi : Has σ i (RdO s p)] [hb : Bk σ i s b] (hp : 0 ≤ p) (hp2 : p ≤ 999900000) : ACall Try.prog base F_spec_l91Wild [.pt i 0, I 6] σ (fun j => j = i) (RetRd σ i s p 100 (QG σ)) := by
  have := hb.rw.one
  have hi0 := hi.lt
  refine acall2 fun_spec_l91Wild rfl tmps_spec_l91Wild rfl fun N B w₀ ρ₀ => ?_
  repeat' (first
    | (refine wc_callP rfl inferInstance rfl (c_pick i s b _ _ _ (hb := hb.le inferInstance) (by omega) (by omega)) inferInstance (.inl rfl) rfl ?_; intro _ _ _ _ _ _ _ _ _ _)
    | refine wl_pop rfl (pc_build0 (cs := [_]) inferInstance inferInstance rfl) ?_
    | refine wp_seqA ?_
    | refine wp_region_seq ?_
    | refine thru_seq_next ?_
    | refine wp_blockA ?_
    | refine wl_nil ?_
    | refine wl_pop rfl (po_move rfl) ?_
    | refine wl_pop rfl (po_assign rfl) ?_
    | refine wl_pop rfl (pc_add rfl rfl (by omega) (by omega)) ?_
    | refine wl_pop rfl (po_binOp rfl rfl rfl) ?_
    | (refine wc_storeA rfl rfl inferInstance inferInstance rfl inferInstance (Nat.le_of_ble_eq_true rfl) (.inr (may_new _)) ?_; intro _ _)
    | (refine wc_allocA (cs := [_]) inferInstance rfl inferInstance rfl ?_; intro _ _ _ _ _)
    | fail)
  rename_i i4 σ1 g1 n1 h1 i5 σ2 g2 n2 h2 σ3 u3 v1 p1 σ4 σ5 a1 a2 a3 a4 g5 u5 v2 p2 σ6 σ7 a5 a6 a7 a8 g7 u7
  have y1 := n1.le
  have y2 := n2.le
  have z1 := h1.lt
  have z2 := h2.lt
  have l37 : LeB i σ3 σ7 := inferInstance
  have z3 := Upd.len u3
  have h57 : Has σ7 i5 ⟨.own, 1, [nilS], []⟩ := by
    have : Has σ3 i5 ⟨.own, 1, [nilS], []⟩ := instHasUpd (g := u3)
    exact ⟨l37.keep.keep _ _ (by omega) this.get⟩
  have h47 : Has σ7 i4 ⟨.own, 1, [nilS], []⟩ := by
    have : Has σ3 i4 ⟨.own, 1, [nilS], []⟩ := ⟨by rw [u3.eq, List.getElem?_set_ne (by omega)]; exact g2.keep _ _ h1.get⟩
    exact ⟨l37.keep.keep _ _ (by omega) this.get⟩
  have hi7 : Has σ7 i (RdO s p2) := inferInstance
  have le7 : LeB i σ σ7 := inferInstance
  have d4 : Dif i4 i := ⟨by omega⟩
  have d4' : Dif i i4 := ⟨by omega⟩
  have d5 : Dif i5 i := ⟨by omega⟩
  have d5' : Dif i i5 := ⟨by omega⟩
  have d45 : Dif i4 i5 := ⟨by omega⟩
  have i7lt := hi7.lt
  have l7len := le7.len
  generalize hfew : (v2 == 0) = few at *
  clear u7 g7 u5 g5 l37 u3
  refine wc_loop [(0, _), (4, _), (5, _), (6, _), (7, _)] (fun x : Nat × AV × Int => [(8, I x.1)]) (fun x σ' => (x.1 : Int) ≤ 1 + v1 ∧ LeB i σ σ' ∧ σ7.length ≤ σ'.length ∧ Has σ' i (RdO s x.2.2) ∧ p ≤ x.2.2 ∧ x.2.2 ≤ p + 2 + 13 * x.1 ∧ Has σ' i4 ⟨.own, 1, [nilS], []⟩ ∧ Has σ' i5 ⟨.own, 1, [x.2.1], []⟩ ∧ ∃ (us : List AV) (g : Gr), OW σ7 σ' x.2.1 us ∧ ORs σ7 σ' us g ∧ g.length = x.1 ∧ ∀ r ∈ g, r.length ≤ 3) (fun x => (1 + v1 - x.1).toNat) (0, nilS, p2) ⟨by dsimp only; omega, le7, Nat.le_refl _, hi7, by dsimp only; omega, by dsimp only; omega, h47, h57, [], [], OW.nilS _ _, ORs.nil _ _, rfl, by simp⟩ (by repeat' (first | exact sub_nil | refine sub_cons rfl ?_ | refine sub_int rfl (by first | rfl | omega | (push_cast; omega) | simp) ?_ | refine sub_eq rfl (by assumption) ?_)) ?_
  rintro ⟨k, gv, q⟩ σ' ⟨hk, hle, hlen, hiq, hq1, hq2, hi4, hi5, us, g, hgo, hgr, hgl, hg3⟩
  dsimp only at hk hiq hq1 hq2 hi5 hgo hgl ⊢
  have hgv1 := hgo.one
  repeat' (first
    | (refine wc_callP rfl inferInstance rfl (c_pick i s b _ _ _ (hb := hb.le inferInstance) (by omega) (by omega)) inferInstance (.inl rfl) rfl ?_; intro _ _ _ _ _ _ _ _ _ _)
    | (refine wc_row0 (α := Mv) inferInstance inferInstance rfl rfl (by decide) rfl ?_; intro _ _ _ _ _)
    | refine wc_loadn rfl inferInstance (at_has (cs := [_]) (.inl rfl) rfl rfl) rfl ?_
    | refine at_ret (res_cell rfl rfl inferInstance (at_has (cs := [_]) (.inl rfl) rfl rfl)) ?_
    | refine wl_pop rfl (pc_build0 (cs := [_]) inferInstance inferInstance rfl) ?_
    | refine wp_seqA ?_
    | refine wp_region_seq ?_
    | refine thru_seq_next ?_
    | refine thru_seq_ret ?_
    | refine thru_seq ?_
    | refine thru_block_ret ?_
    | refine thru_block_next ?_
    | refine exit_here ?_
    | refine wp_skipA ?_
    | refine wp_retA ?_
    | refine wp_exitA ?_
    | refine wp_blockA ?_
    | refine wl_nil ?_
    | refine wl_pop rfl (po_move rfl) ?_
    | refine wl_pop rfl (po_assign rfl) ?_
    | refine wl_pop rfl (po_binOp rfl rfl rfl) ?_
    | (refine wc_storeA rfl rfl inferInstance inferInstance rfl inferInstance (Nat.le_of_ble_eq_true rfl) (.inr (may_new _)) ?_; intro _ _)
    | refine wp_condP rfl (fun _ => ?_) (fun _ => ?_)
    | fail)
  · rename_i hk1 i10 σ10 g10 n10 h10 v3 p3 σ11 σ12 c1 c2 c3 c4 g12 u12
    have hσ' := hle.len
    refine wc_loop [(0, _), (4, _), (5, _), (6, _), (7, _), (8, _)] (fun x : AV × Int × Int => [(9, x.1), (10, I x.2.1)]) (fun x σ'' => 0 ≤ x.2.1 ∧ x.2.1 ≤ 3 ∧ One x.1 ∧ LeB i σ' σ'' ∧ Has σ'' i (RdO s x.2.2) ∧ q ≤ x.2.2 ∧ x.2.2 + 4 * x.2.1 ≤ q + 13 ∧ ∃ ms : List Mv, OW σ' σ'' x.1 ms ∧ (ms.length : Int) + x.2.1 ≤ 3) (fun x => x.2.1.toNat) (.sl i10 0 0, v3, p3) ⟨c3, by dsimp only; omega, inferInstance, inferInstance, inferInstance, by dsimp only; omega, by dsimp only; omega, [], ow_of_has inferInstance n10.le rfl (by decide), by dsimp only; simp; omega⟩ (by repeat' (first | exact sub_nil | refine sub_cons rfl ?_ | refine sub_int rfl (by first | rfl | omega | (push_cast; omega) | simp) ?_ | refine sub_eq rfl (by assumption) ?_)) ?_
    clear u12 g12 h10 g10
    rintro ⟨w, z, q'⟩ σ'' ⟨e1, e2, e3, e4, e5, e6, e7, ms, how, hml⟩
    dsimp only at e1 e2 e3 e5 e6 e7 how hml ⊢
    have hσ'' := e4.len
    have leσ : LeB i σ σ'' := ⟨⟨fun j o hj ho => e4.keep.keep j o hj (hle.keep.keep j o hj ho)⟩, by omega⟩
    have hi5'' : Has σ'' i5 ⟨.own, 1, [gv], []⟩ := ⟨e4.keep.keep _ _ (by have := d5.ne; exact this) hi5.get⟩
    have hi4'' : Has σ'' i4 ⟨.own, 1, [nilS], []⟩ := ⟨e4.keep.keep _ _ (by have := d4.ne; exact this) hi4.get⟩
    have hgo'' : OW σ7 σ'' gv us := ow_leB hgo e4 i7lt
    have hgr'' : ORs σ7 σ'' us g := ors_leB hgr e4 i7lt
    rcases few with _ | _
    · repeat' (first
        | (refine wc_callP rfl inferInstance rfl (c_pick i s b _ _ _ (hb := hb.le inferInstance) (by omega) (by omega)) inferInstance (.inl rfl) rfl ?_; intro _ _ _ _ _ _ _ _ _ _)
        | (refine wc_callP rfl inferInstance rfl (c_l91Do i s b _ _ (hb := hb.le inferInstance) (by omega) (by omega)) inferInstance (.inl rfl) rfl ?_; intro _ _ _ _ _ _ _ _ _ _)
        | (refine wc_append1 (α := Mv) (σ₀ := σ') rfl rfl inferInstance inferInstance rfl (by decide) (by decide) inferInstance inferInstance (one_mv _ _) (by omega) (fun j hj => .inr (Nat.le_trans hσ' hj)) (inferInstance : LeB i σ' _).len rfl ?_; intro _ _ _ _ _ _)
        | refine wl_pop rfl (pc_buildMv rfl rfl inferInstance inferInstance rfl) ?_
        | (refine wc_oneMv rfl inferInstance inferInstance rfl (by decide) rfl ?_; intro _ _ _ _ _)
        | refine wp_seqA ?_
        | refine wp_region_seq ?_
        | refine thru_seq_next ?_
        | refine thru_seq ?_
        | refine thru_block_next ?_
        | refine exit_here ?_
        | refine wp_skipA ?_
        | refine wp_exitA ?_
        | refine wp_blockA ?_
        | refine wl_nil ?_
        | refine wl_pop rfl (po_move rfl) ?_
        | refine wl_pop rfl (po_assign rfl) ?_
        | refine wl_pop rfl (pc_sub rfl rfl (by omega) (by omega)) ?_
        | refine wl_pop rfl (po_binOp rfl rfl rfl) ?_
        | refine wl_pop rfl (po_not rfl) ?_
        | refine wp_condT rfl ?_
        | refine wp_condP rfl (fun _ => ?_) (fun _ => ?_)
        | fail)
      · rename_i v5 p5 σ21 σ22 f1 f2 f3 f4 g22 u22 i23 σ23 g23 n23 h23 w' σ24 app mk how24 o24
        have l24 : LeB i σ' σ24 := app.leB inferInstance
        exact ⟨(w', z - 1, p5), by dsimp only; omega, ⟨by dsimp only; omega, by dsimp only; omega, o24, l24, inferInstance, by dsimp only; omega, by dsimp only; omega, _, how24, by dsimp only; rw [List.length_append]; simp; omega⟩, (by repeat' (first | exact sub_nil | refine sub_cons rfl ?_ | refine sub_int rfl (by first | rfl | omega | (push_cast; omega) | simp) ?_ | refine sub_eq rfl (by assumption) ?_))⟩
      · rename_i hz0
        refine wc_drawn [5, 6, 7] mixed_ rfl ?_
        all_goals refine da_takeC 0 rfl rfl (by kernel_rfl) (by first | exact po_fieldAddr rfl inferInstance | fail) ?_
        all_goals refine da_takeC 1 rfl rfl (by kernel_rfl) (by first | exact pc_load1L rfl inferInstance (at_has (.inl rfl) rfl rfl) inferInstance | fail) ?_
        all_goals refine da_takeC 2 rfl rfl (by kernel_rfl) (by first | exact po_move rfl | fail) ?_
        all_goals (first | (refine da_one 3 rfl (by kernel_rfl) (fun _ _ _ _ => ?_); (repeat' (first | (refine wc_callOW rfl inferInstance rfl (c_l3Sorted _ _ (by omega)) rfl ?_; intro _ _ _ _ _) | fail)); all_goals (first | refine wl_nil ⟨rfl, (by first | exact LeS.len inferInstance | exact App.len (by assumption)), ?_⟩ | trace_state)))
        all_goals (first | (refine da_one 4 rfl (by kernel_rfl) (fun _ _ _ _ => ?_); (repeat' (first | (refine wc_oneAV rfl inferInstance inferInstance rfl (by decide) rfl ?_; intro _ _ _ _ _) | fail)); all_goals (first | refine wl_nil ⟨rfl, (by first | exact LeS.len inferInstance | exact App.len (by assumption)), ?_⟩ | trace_state)))
        all_goals (refine da_last 5 rfl (by decide) (by kernel_rfl) ?_; (repeat' (first | (refine wc_append1 (α := AV) (σ₀ := σ7) rfl rfl inferInstance inferInstance rfl (by decide) (by decide) inferInstance inferInstance (one_av inferInstance) (by have := hgr.len; omega) (fun j hj => .inr (Nat.le_trans l7len hj)) (Nat.le_trans (Nat.le_trans hlen hσ'') (LeS.len inferInstance)) rfl ?_; intro _ _ _ _ _ _) | fail)); all_goals (first | refine wl_nil (dl_in ?_) | trace_state))
        all_goals (refine dl_last 6 rfl (by decide) (by kernel_rfl) ?_; (repeat' (first | refine wl_pop rfl (po_fieldAddr rfl inferInstance) ?_ | fail)); all_goals (first | refine wl_nil (dl_in ?_) | trace_state))
        all_goals (refine dl_last 7 rfl (by decide) (by kernel_rfl) ?_; (repeat' (first | (refine wc_store1 rfl rfl inferInstance inferInstance inferInstance (Nat.le_of_ble_eq_true rfl) (.inr (may_new _)) ?_; intro _ _) | fail)); all_goals (first | refine wl_nil (dl_in ?_) | trace_state))
        all_goals refine dl_done (by kernel_rfl) ?_
        repeat' (first
          | refine wp_region_seq ?_
          | refine thru_seq_next ?_
          | refine thru_block_next ?_
          | refine wl_nil ?_
          | refine wl_pop rfl (po_move rfl) ?_
          | refine wl_pop rfl (po_assign rfl) ?_
          | refine wl_pop rfl (pc_add rfl rfl (by omega) (by omega)) ?_
          | fail)
        rename_i r σ25 or25 wr25 gr25 _ _ _ _ iv σ26 g26 n26 h26 gv' σ27 happ mk27 how27 ov' σ28 u28
        have hb5 : Has σ7 i5 ⟨.own, 1, [nilS], []⟩ := h57
        have hpush := rows_push (by decide) hgr'' hgo'' (Nat.le_trans hlen hσ'') hb5 (inferInstance : OW σ'' σ26 r _) inferInstance happ u28
        have l27 : LeB i σ σ27 := happ.leB' ⟨⟨fun j o hj ho => (inferInstance : LeS σ'' σ26).keep j o (leσ.keep.keep j o hj ho)⟩, Nat.le_trans leσ.len (inferInstance : LeS σ'' σ26).len⟩ l7len
        have l28 : LeB i σ σ28 := inferInstance
        have hl28 : σ7.length ≤ σ28.length := by
          have := happ.len
          have := (inferInstance : LeS σ'' σ26).len
          have := Upd.len u28
          omega
        exact ⟨(k + 1, gv', q'), by dsimp only; omega, ⟨by dsimp only; omega, l28, hl28, inferInstance, by dsimp only; omega, by dsimp only; omega, inferInstance, instHasUpd (g := u28), us ++ [r], g ++ [tidyL ms], inferInstance, hpush, by simp [hgl], fun x hx => by
          rcases List.mem_append.mp hx with hx | hx
          · exact hg3 x hx
          · simp at hx; subst hx
            have := tidyL_lenK ms
            omega⟩, (by repeat' (first | exact sub_nil | refine sub_cons rfl ?_ | refine sub_int rfl (by first | rfl | omega | (push_cast; omega) | simp) ?_ | refine sub_eq rfl (by assumption) ?_))⟩
    · repeat' (first
        | (refine wc_callP rfl inferInstance rfl (c_pick i s b _ _ _ (hb := hb.le inferInstance) (by omega) (by omega)) inferInstance (.inl rfl) rfl ?_; intro _ _ _ _ _ _ _ _ _ _)
        | (refine wc_append1 (α := Mv) (σ₀ := σ') rfl rfl inferInstance inferInstance rfl (by decide) (by decide) inferInstance inferInstance (one_mv _ _) (by omega) (fun j hj => .inr (Nat.le_trans hσ' hj)) (inferInstance : LeB i σ' _).len rfl ?_; intro _ _ _ _ _ _)
        | refine wl_pop rfl (pc_buildMv rfl rfl inferInstance inferInstance rfl) ?_
        | (refine wc_oneMv rfl inferInstance inferInstance rfl (by decide) rfl ?_; intro _ _ _ _ _)
        | refine wp_seqA ?_
        | refine wp_region_seq ?_
        | refine thru_seq_next ?_
        | refine thru_seq ?_
        | refine thru_block_next ?_
        | refine exit_here ?_
        | refine wp_skipA ?_
        | refine wp_exitA ?_
        | refine wp_blockA ?_
        | refine wl_nil ?_
        | refine wl_pop rfl (po_move rfl) ?_
        | refine wl_pop rfl (po_assign rfl) ?_
        | refine wl_pop rfl (pc_sub rfl rfl (by omega) (by omega)) ?_
        | refine wl_pop rfl (po_binOp rfl rfl rfl) ?_
        | refine wl_pop rfl (po_not rfl) ?_
        | refine wp_condF rfl ?_
        | refine wp_condP rfl (fun _ => ?_) (fun _ => ?_)
        | fail)
      · rename_i v5 p5 σ21 σ22 f1 f2 f3 f4 g22 u22 i23 σ23 g23 n23 h23 w' σ24 app mk how24 o24
        have l24 : LeB i σ' σ24 := app.leB inferInstance
        exact ⟨(w', z - 1, p5), by dsimp only; omega, ⟨by dsimp only; omega, by dsimp only; omega, o24, l24, inferInstance, by dsimp only; omega, by dsimp only; omega, _, how24, by dsimp only; rw [List.length_append]; simp; omega⟩, (by repeat' (first | exact sub_nil | refine sub_cons rfl ?_ | refine sub_int rfl (by first | rfl | omega | (push_cast; omega) | simp) ?_ | refine sub_eq rfl (by assumption) ?_))⟩
      · rename_i hz0
        refine wc_drawn [5, 6, 7] mixed_ rfl ?_
        all_goals refine da_takeC 0 rfl rfl (by kernel_rfl) (by first | exact po_fieldAddr rfl inferInstance | fail) ?_
        all_goals refine da_takeC 1 rfl rfl (by kernel_rfl) (by first | exact pc_load1L rfl inferInstance (at_has (.inl rfl) rfl rfl) inferInstance | fail) ?_
        all_goals refine da_takeC 2 rfl rfl (by kernel_rfl) (by first | exact po_move rfl | fail) ?_
        all_goals (first | (refine da_one 3 rfl (by kernel_rfl) (fun _ _ _ _ => ?_); (repeat' (first | (refine wc_callOW rfl inferInstance rfl (c_l3Sorted _ _ (by omega)) rfl ?_; intro _ _ _ _ _) | fail)); all_goals (first | refine wl_nil ⟨rfl, (by first | exact LeS.len inferInstance | exact App.len (by assumption)), ?_⟩ | trace_state)))
        all_goals (first | (refine da_one 4 rfl (by kernel_rfl) (fun _ _ _ _ => ?_); (repeat' (first | (refine wc_oneAV rfl inferInstance inferInstance rfl (by decide) rfl ?_; intro _ _ _ _ _) | fail)); all_goals (first | refine wl_nil ⟨rfl, (by first | exact LeS.len inferInstance | exact App.len (by assumption)), ?_⟩ | trace_state)))
        all_goals (refine da_last 5 rfl (by decide) (by kernel_rfl) ?_; (repeat' (first | (refine wc_append1 (α := AV) (σ₀ := σ7) rfl rfl inferInstance inferInstance rfl (by decide) (by decide) inferInstance inferInstance (one_av inferInstance) (by have := hgr.len; omega) (fun j hj => .inr (Nat.le_trans l7len hj)) (Nat.le_trans (Nat.le_trans hlen hσ'') (LeS.len inferInstance)) rfl ?_; intro _ _ _ _ _ _) | fail)); all_goals (first | refine wl_nil (dl_in ?_) | trace_state))
        all_goals (refine dl_last 6 rfl (by decide) (by kernel_rfl) ?_; (repeat' (first | refine wl_pop rfl (po_fieldAddr rfl inferInstance) ?_ | fail)); all_goals (first | refine wl_nil (dl_in ?_) | trace_state))
        all_goals (refine dl_last 7 rfl (by decide) (by kernel_rfl) ?_; (repeat' (first | (refine wc_store1 rfl rfl inferInstance inferInstance inferInstance (Nat.le_of_ble_eq_true rfl) (.inr (may_new _)) ?_; intro _ _) | fail)); all_goals (first | refine wl_nil (dl_in ?_) | trace_state))
        all_goals refine dl_done (by kernel_rfl) ?_
        repeat' (first
          | refine wp_region_seq ?_
          | refine thru_seq_next ?_
          | refine thru_block_next ?_
          | refine wl_nil ?_
          | refine wl_pop rfl (po_move rfl) ?_
          | refine wl_pop rfl (po_assign rfl) ?_
          | refine wl_pop rfl (pc_add rfl rfl (by omega) (by omega)) ?_
          | fail)
        rename_i r σ25 or25 wr25 gr25 _ _ _ _ iv σ26 g26 n26 h26 gv' σ27 happ mk27 how27 ov' σ28 u28
        have hb5 : Has σ7 i5 ⟨.own, 1, [nilS], []⟩ := h57
        have hpush := rows_push (by decide) hgr'' hgo'' (Nat.le_trans hlen hσ'') hb5 (inferInstance : OW σ'' σ26 r _) inferInstance happ u28
        have l27 : LeB i σ σ27 := happ.leB' ⟨⟨fun j o hj ho => (inferInstance : LeS σ'' σ26).keep j o (leσ.keep.keep j o hj ho)⟩, Nat.le_trans leσ.len (inferInstance : LeS σ'' σ26).len⟩ l7len
        have l28 : LeB i σ σ28 := inferInstance
        have hl28 : σ7.length ≤ σ28.length := by
          have := happ.len
          have := (inferInstance : LeS σ'' σ26).len
          have := Upd.len u28
          omega
        exact ⟨(k + 1, gv', q'), by dsimp only; omega, ⟨by dsimp only; omega, l28, hl28, inferInstance, by dsimp only; omega, by dsimp only; omega, inferInstance, instHasUpd (g := u28), us ++ [r], g ++ [tidyL ms], inferInstance, hpush, by simp [hgl], fun x hx => by
          rcases List.mem_append.mp hx with hx | hx
          · exact hg3 x hx
          · simp at hx; subst hx
            have := tidyL_lenK ms
            omega⟩, (by repeat' (first | exact sub_nil | refine sub_cons rfl ?_ | refine sub_int rfl (by first | rfl | omega | (push_cast; omega) | simp) ?_ | refine sub_eq rfl (by assumption) ?_))⟩
  · rename_i hk1 v3 p3 σ8 σ9 c1 c2 c3 c4 g9 u9 hv0
    have hk0 : 0 < us.length := by have := hgr.len; omega
    have hk0' : (0 : Int) < us.length := by omega
    have hgo9 : OW σ7 σ9 gv us := inferInstance
    have hgr9 : ORs σ7 σ9 us g := inferInstance
    have hle9 : LeB i σ σ9 := inferInstance
    have l79 : σ7.length ≤ σ9.length := Nat.le_trans hlen (inferInstance : LeB i σ' σ9).len
    have hi9 : Has σ9 i (RdO s p3) := inferInstance
    have hi49 : Has σ9 i4 ⟨.own, 1, [nilS], []⟩ := inferInstance
    have hi59 : Has σ9 i5 ⟨.own, 1, [gv], []⟩ := inferInstance
    have hrl : (g.getD (Int.toNat 0) []).length ≤ 3 := by
      rcases Nat.lt_or_ge (Int.toNat 0) g.length with h | h
      · exact hg3 _ (by rw [getD_lt h]; exact List.getElem_mem _)
      · rw [List.getD_eq_getElem?_getD, List.getElem?_eq_none h]; simp
    clear hgo hgr hgv1
    rcases hgo9.rep with ⟨e, _⟩ | ⟨id, rfl, hid, hh⟩
    · rw [e] at hk0; simp at hk0
    have ho0 : OW σ7 σ9 (us.getD (Int.toNat 0) nilS) (g.getD (Int.toNat 0) []) := hgr9.row _
    have hlt5 := h57.lt
    have hlt4 := h47.lt
    have hat : At σ9 id (0 + Int.toNat 0 * 1) 1 [us.getD (Int.toNat 0) nilS] := at_own (α := AV) hh (k := Int.toNat 0) (by omega)
    rcases ho0.rep with ⟨e0, en⟩ | ⟨j0, ej, hj0, hjo⟩
    · have hat0 := hat
      rw [en] at hat0
      have hjo := hi49
      have hne5 : i5 ≠ i4 := fun q => d45.ne q.symm
      have hneid : id ≠ i4 := by omega
      refine wc_drawnXq (t := 4) i4 [9, 10] mixed_ rfl rfl ?_
      refine dx_pure 0 rfl rfl (by kernel_rfl) (po_fieldAddr rfl inferInstance) ?_
      refine dx_load1 1 rfl rfl (by kernel_rfl) rfl inferInstance (at_has (cs := [_]) (.inl rfl) rfl rfl) hi59.lt hjo hne5 ?_
      refine dx_pure 2 rfl rfl (by kernel_rfl) (po_fieldAddr rfl inferInstance) ?_
      refine dx_load1 3 rfl rfl (by kernel_rfl) rfl inferInstance (at_has (cs := [_]) (.inl rfl) rfl rfl) hi59.lt hjo hne5 ?_
      refine dx_pure 4 rfl rfl (by kernel_rfl) (pc_indexSlZ rfl rfl inferInstance inferInstance (by decide) hk0') ?_
      refine dx_load1 5 rfl rfl (by kernel_rfl) rfl inferInstance hat0 hh.lt hjo hneid ?_
      refine dx_pure 6 rfl rfl (by kernel_rfl) (pc_buildMv0 rfl inferInstance inferInstance rfl) ?_
      refine dx_new 7 rfl (by kernel_rfl) ?_
      intro N7 B7 w7 r7 may7 hmay7
      refine wc_oneMv rfl inferInstance inferInstance rfl (by decide) rfl ?_
      intro i13 σ13 g13 n13 h13
      refine wl_nil ⟨rfl, g13.len, ?_⟩
      clear hmay7
      refine dx_new 8 rfl (by kernel_rfl) ?_
      intro N' B' w' r' may' hmay'
      refine wc_append_nil rfl rfl Un.eq inferInstance rfl (by decide) ((rw_of_has (α := Mv) h13 rfl (by simp)).appends (fun x hx => one_mv x.1 x.2)) (by simp) (by simp) rfl ?_
      intro j1 σ15 g15 n15 h15
      refine wl_nil ⟨rfl, g15.len, ?_⟩
      clear hmay'
      have q1 := g13.len
      have q2 := g15.len
      have q3 := n15.le
      have q4 := hh.lt
      have hkp15 : ∀ (j : Nat) (o : Ob), j < σ7.length → σ9[j]? = some o → σ15[j]? = some o := fun j o _ ho => g15.keep j o (g13.keep j o ho)
      have hkpj : ∀ (j : Nat) (o : Ob), (∀ n, us.getD (Int.toNat 0) nilS ≠ .sl j 0 n) → σ9[j]? = some o → σ15[j]? = some o := fun j o _ ho => g15.keep j o (g13.keep j o ho)
      have hid15 : Has σ15 id (Row us) := inferInstance
      have l15 : σ9.length ≤ σ15.length := by omega
      refine dx_last 9 rfl (by decide) (by kernel_rfl) ?_
      refine wl_pop rfl (pc_indexSlZ rfl rfl inferInstance inferInstance (by decide) hk0') ?_
      refine wl_nil (dl_in ?_)
      refine dl_last 10 rfl (by decide) (by kernel_rfl) ?_
      refine wc_stAV (k := Int.toNat 0) rfl rfl inferInstance hid15 (by omega) (.inr (Nat.le_trans l7len hid)) ?_
      intro σ16 u16
      refine wl_nil (dl_in ?_)
      refine dl_done (by kernel_rfl) ?_
      have d9 : Dif i id := ⟨by omega⟩
      have d9' : Dif i4 id := ⟨by have := h47.lt; omega⟩
      have d9'' : Dif i5 id := ⟨by have := h57.lt; omega⟩
      have hi416 : Has σ16 i4 ⟨.own, 1, [nilS], []⟩ := inferInstance
      have hi516 : Has σ16 i5 ⟨.own, 1, [.sl id 0 us.length], []⟩ := inferInstance
      have hi16 : Has σ16 i (RdO s p3) := inferInstance
      have hid16 : Has σ16 id (Row (us.set (Int.toNat 0) _)) := instHasUpd (g := u16)
      have hle16 : LeB i σ σ16 := ⟨⟨fun j o hj ho => by
        have hjl : j < σ.length := Has.lt ⟨ho⟩
        rw [u16.eq, List.getElem?_set_ne (by omega)]
        exact hkp15 j o (by omega) (hle9.keep.keep j o hj ho)⟩, by have := Upd.len u16; have := hle9.len; omega⟩
      repeat' (first
        | refine wc_loadn rfl inferInstance (at_has (cs := [_]) (.inl rfl) rfl rfl) rfl ?_
        | refine at_ret (res_cell rfl rfl inferInstance (at_has (cs := [_]) (.inl rfl) rfl rfl)) ?_
        | refine wp_seqA ?_
        | refine wp_region_seq ?_
        | refine thru_seq_next ?_
        | refine thru_block_next ?_
        | refine wp_retA ?_
        | refine wl_nil ?_
        | (refine wc_storeA rfl rfl inferInstance inferInstance rfl inferInstance (Nat.le_of_ble_eq_true rfl) (.inr (may_new _)) ?_; intro _ _)
        | fail)
      rename_i σ17 u17
      have k17 : KN σ16 1 σ17 := kn_upd u17 hi416
      have hid17 : Has σ17 id (Row (us.set (Int.toNat 0) _)) := ⟨by rw [u17.eq, List.getElem?_set_ne (by have := d9'.ne; omega)]; exact hid16.get⟩
      refine ⟨⟨p3, by omega, by omega, inferInstance⟩, ⟨⟨fun j o hj ho => by
        have hjl : j < σ.length := Has.lt ⟨ho⟩
        rw [u17.eq, List.getElem?_set_ne (by omega)]
        exact hle16.keep.keep j o hj ho⟩, by have := Upd.len u17; have := hle16.len; omega⟩, _, _, g.set (Int.toNat 0) ([((9, 0) : Mv)]), rfl, ⟨fun σ'' kk => ⟨rw_of_has (⟨kk _ _ (by omega) hid17.get⟩ : Has σ'' id _) (List.length_set ..) hgo9.bound, rrs_setX hgr9 (by omega) (fun j o hb hj he ho => kk j o (by omega) (k17.keep j o (by omega) ?_)) (?_ : RW σ'' _ ([((9, 0) : Mv)]))⟩⟩, set_bnd hg3 (by first | (simp; done) | (simp only [List.length_append, List.length_cons, List.length_nil]; omega))⟩
      · rw [u16.eq, List.getElem?_set_ne (fun q => by subst q; rw [hh.get] at ho; cases ho; exact (show ¬ (Enc.e AV = 2) by decide) he)]
        exact hkpj j o hj ho
      · have hh16 : Has σ16 j1 (Row ([((9, 0) : Mv)])) := ⟨by rw [u16.eq, List.getElem?_set_ne (by omega)]; exact h15.get⟩
        exact rw_of_has (⟨kk _ _ (by omega) (k17.keep _ _ (show ¬ (Enc.e Mv = 1) by decide) hh16.get)⟩ : Has σ'' j1 _) rfl (by simp)
    · have hat0 := hat
      rw [ej] at hat0
      have hne5 : i5 ≠ j0 := by omega
      have hc0 : (rowCells us)[Int.toNat 0]? = some (.sl j0 0 (g.getD (Int.toNat 0) []).length) := by
        cases us with
        | nil => simp at hk0
        | cons x us => simp at ej; subst ej; rfl
      have hneid : id ≠ j0 := by
        intro q; subst q
        have := hh.get.symm.trans hjo.get
        simp at this
        exact absurd this.1 (by decide)
      refine wc_drawnXc (t := 5) j0 [9, 10] mixed_ rfl rfl hi59 (q := 0) rfl hh hc0 ?_
      refine dx_pure 0 rfl rfl (by kernel_rfl) (po_fieldAddr rfl inferInstance) ?_
      refine dx_load1 1 rfl rfl (by kernel_rfl) rfl inferInstance (at_has (cs := [_]) (.inl rfl) rfl rfl) hi59.lt hjo hne5 ?_
      refine dx_pure 2 rfl rfl (by kernel_rfl) (po_fieldAddr rfl inferInstance) ?_
      refine dx_load1 3 rfl rfl (by kernel_rfl) rfl inferInstance (at_has (cs := [_]) (.inl rfl) rfl rfl) hi59.lt hjo hne5 ?_
      refine dx_pure 4 rfl rfl (by kernel_rfl) (pc_indexSlZ rfl rfl inferInstance inferInstance (by decide) hk0') ?_
      refine dx_load1 5 rfl rfl (by kernel_rfl) rfl inferInstance hat0 hh.lt hjo hneid ?_
      refine dx_pure 6 rfl rfl (by kernel_rfl) (pc_buildMv0 rfl inferInstance inferInstance rfl) ?_
      refine dx_new 7 rfl (by kernel_rfl) ?_
      intro N7 B7 w7 r7 may7 hmay7
      refine wc_oneMv rfl inferInstance inferInstance rfl (by decide) rfl ?_
      intro i13 σ13 g13 n13 h13
      refine wl_nil ⟨rfl, g13.len, ?_⟩
      clear hmay7
      refine dx_one 8 rfl (by kernel_rfl) (inferInstance : Has σ13 j0 (Row (g.getD (Int.toNat 0) []))) (.inr (Nat.le_trans l7len hj0)) ?_
      intro N' B' w' r' may' hmay'
      refine wc_append rfl rfl Un.eq inferInstance rfl (by decide) (inferInstance : Has σ13 j0 (Row (g.getD (Int.toNat 0) []))) rfl (rowCells_length _) ((rw_of_has (α := Mv) h13 rfl (by simp)).appends (fun x hx => one_mv x.1 x.2)) (hmay' _ (.inl rfl)) (by simp only [List.length_cons, List.length_nil]; omega) rfl ?_
      intro j1 σ14 σ15 u14 g15 n15 h15
      rw [← rowCells_append] at h15
      have q0 := Upd.len u14
      refine wl_nil ⟨rfl, by have := g15.len; omega, ?_⟩
      clear hmay'
      have q1 := g13.len
      have q2 := g15.len
      have q3 := n15.le
      have q4 := hh.lt
      have hkp15 : ∀ (j : Nat) (o : Ob), j < σ7.length → σ9[j]? = some o → σ15[j]? = some o := fun j o hj ho => g15.keep j o (by rw [u14.eq, List.getElem?_set_ne (by omega)]; exact g13.keep j o ho)
      have hkpj : ∀ (j : Nat) (o : Ob), (∀ n, us.getD (Int.toNat 0) nilS ≠ .sl j 0 n) → σ9[j]? = some o → σ15[j]? = some o := fun j o hj ho => g15.keep j o (by rw [u14.eq, List.getElem?_set_ne (fun q => hj _ (q ▸ ej))]; exact g13.keep j o ho)
      have hid15 : Has σ15 id (Row us) := ⟨g15.keep _ _ (by rw [u14.eq, List.getElem?_set_ne (Ne.symm hneid)]; exact g13.keep _ _ hh.get)⟩
      have l15 : σ9.length ≤ σ15.length := by omega
      have hi415 : Has σ15 i4 ⟨.own, 1, [nilS], []⟩ := ⟨hkp15 _ _ hlt4 hi49.get⟩
      have hi515 : Has σ15 i5 ⟨.own, 1, [.sl id 0 us.length], []⟩ := ⟨hkp15 _ _ hlt5 hi59.get⟩
      have hi15 : Has σ15 i (RdO s p3) := ⟨hkp15 _ _ i7lt hi9.get⟩
      refine dx_last 9 rfl (by decide) (by kernel_rfl) ?_
      refine wl_pop rfl (pc_indexSlZ rfl rfl inferInstance inferInstance (by decide) hk0') ?_
      refine wl_nil (dl_in ?_)
      refine dl_last 10 rfl (by decide) (by kernel_rfl) ?_
      refine wc_stAV (k := Int.toNat 0) rfl rfl inferInstance hid15 (by omega) (.inr (Nat.le_trans l7len hid)) ?_
      intro σ16 u16
      refine wl_nil (dl_in ?_)
      refine dl_done (by kernel_rfl) ?_
      have d9 : Dif i id := ⟨by omega⟩
      have d9' : Dif i4 id := ⟨by have := h47.lt; omega⟩
      have d9'' : Dif i5 id := ⟨by have := h57.lt; omega⟩
      have hi416 : Has σ16 i4 ⟨.own, 1, [nilS], []⟩ := inferInstance
      have hi516 : Has σ16 i5 ⟨.own, 1, [.sl id 0 us.length], []⟩ := inferInstance
      have hi16 : Has σ16 i (RdO s p3) := inferInstance
      have hid16 : Has σ16 id (Row (us.set (Int.toNat 0) _)) := instHasUpd (g := u16)
      have hle16 : LeB i σ σ16 := ⟨⟨fun j o hj ho => by
        have hjl : j < σ.length := Has.lt ⟨ho⟩
        rw [u16.eq, List.getElem?_set_ne (by omega)]
        exact hkp15 j o (by omega) (hle9.keep.keep j o hj ho)⟩, by have := Upd.len u16; have := hle9.len; omega⟩
      repeat' (first
        | refine wc_loadn rfl inferInstance (at_has (cs := [_]) (.inl rfl) rfl rfl) rfl ?_
        | refine at_ret (res_cell rfl rfl inferInstance (at_has (cs := [_]) (.inl rfl) rfl rfl)) ?_
        | refine wp_seqA ?_
        | refine wp_region_seq ?_
        | refine thru_seq_next ?_
        | refine thru_block_next ?_
        | refine wp_retA ?_
        | refine wl_nil ?_
        | (refine wc_storeA rfl rfl inferInstance inferInstance rfl inferInstance (Nat.le_of_ble_eq_true rfl) (.inr (may_new _)) ?_; intro _ _)
        | fail)
      rename_i σ17 u17
      have k17 : KN σ16 1 σ17 := kn_upd u17 hi416
      have hid17 : Has σ17 id (Row (us.set (Int.toNat 0) _)) := ⟨by rw [u17.eq, List.getElem?_set_ne (by have := d9'.ne; omega)]; exact hid16.get⟩
      refine ⟨⟨p3, by omega, by omega, inferInstance⟩, ⟨⟨fun j o hj ho => by
        have hjl : j < σ.length := Has.lt ⟨ho⟩
        rw [u17.eq, List.getElem?_set_ne (by omega)]
        exact hle16.keep.keep j o hj ho⟩, by have := Upd.len u17; have := hle16.len; omega⟩, _, _, g.set (Int.toNat 0) (g.getD (Int.toNat 0) [] ++ [((9, 0) : Mv)]), rfl, ⟨fun σ'' kk => ⟨rw_of_has (⟨kk _ _ (by omega) hid17.get⟩ : Has σ'' id _) (List.length_set ..) hgo9.bound, rrs_setX hgr9 (by omega) (fun j o hb hj he ho => kk j o (by omega) (k17.keep j o (by omega) ?_)) (?_ : RW σ'' _ (g.getD (Int.toNat 0) [] ++ [((9, 0) : Mv)]))⟩⟩, set_bnd hg3 (by first | (simp; done) | (simp only [List.length_append, List.length_cons, List.length_nil]; omega))⟩
      · rw [u16.eq, List.getElem?_set_ne (fun q => by subst q; rw [hh.get] at ho; cases ho; exact (show ¬ (Enc.e AV = 2) by decide) he)]
        exact hkpj j o hj ho
      · have hh16 : Has σ16 j1 (Row (g.getD (Int.toNat 0) [] ++ [((9, 0) : Mv)])) := ⟨by rw [u16.eq, List.getElem?_set_ne (by omega)]; exact h15.get⟩
        exact rw_of_has (⟨kk _ _ (by omega) (k17.keep _ _ (show ¬ (Enc.e Mv = 1) by decide) hh16.get)⟩ : Has σ'' j1 _) (by simp) (by simp only [List.length_append, List.length_cons, List.length_nil]; omega)
  · rename_i hk1 v3 p3 σ8 σ9 c1 c2 c3 c4 g9 u9 hv0 hv1
    have hk0 : 0 < us.length := by have := hgr.len; omega
    have hk0' : (0 : Int) < us.length := by omega
    have hgo9 : OW σ7 σ9 gv us := inferInstance
    have hgr9 : ORs σ7 σ9 us g := inferInstance
    have hle9 : LeB i σ σ9 := inferInstance
    have l79 : σ7.length ≤ σ9.length := Nat.le_trans hlen (inferInstance : LeB i σ' σ9).len
    have hi9 : Has σ9 i (RdO s p3) := inferInstance
    have hi49 : Has σ9 i4 ⟨.own, 1, [nilS], []⟩ := inferInstance
    have hi59 : Has σ9 i5 ⟨.own, 1, [gv], []⟩ := inferInstance
    have hrl : (g.getD (Int.toNat 0) []).length ≤ 3 := by
      rcases Nat.lt_or_ge (Int.toNat 0) g.length with h | h
      · exact hg3 _ (by rw [getD_lt h]; exact List.getElem_mem _)
      · rw [List.getD_eq_getElem?_getD, List.getElem?_eq_none h]; simp
    clear hgo hgr hgv1
    rcases hgo9.rep with ⟨e, _⟩ | ⟨id, rfl, hid, hh⟩
    · rw [e] at hk0; simp at hk0
    have ho0 : OW σ7 σ9 (us.getD (Int.toNat 0) nilS) (g.getD (Int.toNat 0) []) := hgr9.row _
    have hlt5 := h57.lt
    have hlt4 := h47.lt
    have hat : At σ9 id (0 + Int.toNat 0 * 1) 1 [us.getD (Int.toNat 0) nilS] := at_own (α := AV) hh (k := Int.toNat 0) (by omega)
    rcases ho0.rep with ⟨e0, en⟩ | ⟨j0, ej, hj0, hjo⟩
    · have hat0 := hat
      rw [en] at hat0
      have hjo := hi49
      have hne5 : i5 ≠ i4 := fun q => d45.ne q.symm
      have hneid : id ≠ i4 := by omega
      refine wc_drawnXq (t := 4) i4 [10, 11] mixed_ rfl rfl ?_
      refine dx_pure 0 rfl rfl (by kernel_rfl) (po_fieldAddr rfl inferInstance) ?_
      refine dx_load1 1 rfl rfl (by kernel_rfl) rfl inferInstance (at_has (cs := [_]) (.inl rfl) rfl rfl) hi59.lt hjo hne5 ?_
      refine dx_pure 2 rfl rfl (by kernel_rfl) (po_fieldAddr rfl inferInstance) ?_
      refine dx_load1 3 rfl rfl (by kernel_rfl) rfl inferInstance (at_has (cs := [_]) (.inl rfl) rfl rfl) hi59.lt hjo hne5 ?_
      refine dx_pure 4 rfl rfl (by kernel_rfl) (pc_indexSlZ rfl rfl inferInstance inferInstance (by decide) hk0') ?_
      refine dx_load1 5 rfl rfl (by kernel_rfl) rfl inferInstance hat0 hh.lt hjo hneid ?_
      refine dx_pure 6 rfl rfl (by kernel_rfl) (po_move rfl) ?_
      refine dx_pure 7 rfl rfl (by kernel_rfl) (pc_buildMv1 rfl inferInstance inferInstance rfl) ?_
      refine dx_new 8 rfl (by kernel_rfl) ?_
      intro N7 B7 w7 r7 may7 hmay7
      refine wc_oneMv rfl inferInstance inferInstance rfl (by decide) rfl ?_
      intro i13 σ13 g13 n13 h13
      refine wl_nil ⟨rfl, g13.len, ?_⟩
      clear hmay7
      refine dx_new 9 rfl (by kernel_rfl) ?_
      intro N' B' w' r' may' hmay'
      refine wc_append_nil rfl rfl Un.eq inferInstance rfl (by decide) ((rw_of_has (α := Mv) h13 rfl (by simp)).appends (fun x hx => one_mv x.1 x.2)) (by simp) (by simp) rfl ?_
      intro j1 σ15 g15 n15 h15
      refine wl_nil ⟨rfl, g15.len, ?_⟩
      clear hmay'
      have q1 := g13.len
      have q2 := g15.len
      have q3 := n15.le
      have q4 := hh.lt
      have hkp15 : ∀ (j : Nat) (o : Ob), j < σ7.length → σ9[j]? = some o → σ15[j]? = some o := fun j o _ ho => g15.keep j o (g13.keep j o ho)
      have hkpj : ∀ (j : Nat) (o : Ob), (∀ n, us.getD (Int.toNat 0) nilS ≠ .sl j 0 n) → σ9[j]? = some o → σ15[j]? = some o := fun j o _ ho => g15.keep j o (g13.keep j o ho)
      have hid15 : Has σ15 id (Row us) := inferInstance
      have l15 : σ9.length ≤ σ15.length := by omega
      refine dx_last 10 rfl (by decide) (by kernel_rfl) ?_
      refine wl_pop rfl (pc_indexSlZ rfl rfl inferInstance inferInstance (by decide) hk0') ?_
      refine wl_nil (dl_in ?_)
      refine dl_last 11 rfl (by decide) (by kernel_rfl) ?_
      refine wc_stAV (k := Int.toNat 0) rfl rfl inferInstance hid15 (by omega) (.inr (Nat.le_trans l7len hid)) ?_
      intro σ16 u16
      refine wl_nil (dl_in ?_)
      refine dl_done (by kernel_rfl) ?_
      have d9 : Dif i id := ⟨by omega⟩
      have d9' : Dif i4 id := ⟨by have := h47.lt; omega⟩
      have d9'' : Dif i5 id := ⟨by have := h57.lt; omega⟩
      have hi416 : Has σ16 i4 ⟨.own, 1, [nilS], []⟩ := inferInstance
      have hi516 : Has σ16 i5 ⟨.own, 1, [.sl id 0 us.length], []⟩ := inferInstance
      have hi16 : Has σ16 i (RdO s p3) := inferInstance
      have hid16 : Has σ16 id (Row (us.set (Int.toNat 0) _)) := instHasUpd (g := u16)
      have hle16 : LeB i σ σ16 := ⟨⟨fun j o hj ho => by
        have hjl : j < σ.length := Has.lt ⟨ho⟩
        rw [u16.eq, List.getElem?_set_ne (by omega)]
        exact hkp15 j o (by omega) (hle9.keep.keep j o hj ho)⟩, by have := Upd.len u16; have := hle9.len; omega⟩
      repeat' (first
        | refine wc_loadn rfl inferInstance (at_has (cs := [_]) (.inl rfl) rfl rfl) rfl ?_
        | refine at_ret (res_cell rfl rfl inferInstance (at_has (cs := [_]) (.inl rfl) rfl rfl)) ?_
        | refine wp_seqA ?_
        | refine wp_region_seq ?_
        | refine thru_seq_next ?_
        | refine thru_block_next ?_
        | refine wp_retA ?_
        | refine wl_nil ?_
        | (refine wc_storeA rfl rfl inferInstance inferInstance rfl inferInstance (Nat.le_of_ble_eq_true rfl) (.inr (may_new _)) ?_; intro _ _)
        | fail)
      rename_i σ17 u17
      have k17 : KN σ16 1 σ17 := kn_upd u17 hi416
      have hid17 : Has σ17 id (Row (us.set (Int.toNat 0) _)) := ⟨by rw [u17.eq, List.getElem?_set_ne (by have := d9'.ne; omega)]; exact hid16.get⟩
      refine ⟨⟨p3, by omega, by omega, inferInstance⟩, ⟨⟨fun j o hj ho => by
        have hjl : j < σ.length := Has.lt ⟨ho⟩
        rw [u17.eq, List.getElem?_set_ne (by omega)]
        exact hle16.keep.keep j o hj ho⟩, by have := Upd.len u17; have := hle16.len; omega⟩, _, _, g.set (Int.toNat 0) ([((0, 1 + v1) : Mv)]), rfl, ⟨fun σ'' kk => ⟨rw_of_has (⟨kk _ _ (by omega) hid17.get⟩ : Has σ'' id _) (List.length_set ..) hgo9.bound, rrs_setX hgr9 (by omega) (fun j o hb hj he ho => kk j o (by omega) (k17.keep j o (by omega) ?_)) (?_ : RW σ'' _ ([((0, 1 + v1) : Mv)]))⟩⟩, set_bnd hg3 (by first | (simp; done) | (simp only [List.length_append, List.length_cons, List.length_nil]; omega))⟩
      · rw [u16.eq, List.getElem?_set_ne (fun q => by subst q; rw [hh.get] at ho; cases ho; exact (show ¬ (Enc.e AV = 2) by decide) he)]
        exact hkpj j o hj ho
      · have hh16 : Has σ16 j1 (Row ([((0, 1 + v1) : Mv)])) := ⟨by rw [u16.eq, List.getElem?_set_ne (by omega)]; exact h15.get⟩
        exact rw_of_has (⟨kk _ _ (by omega) (k17.keep _ _ (show ¬ (Enc.e Mv = 1) by decide) hh16.get)⟩ : Has σ'' j1 _) rfl (by simp)
    · have hat0 := hat
      rw [ej] at hat0
      have hne5 : i5 ≠ j0 := by omega
      have hc0 : (rowCells us)[Int.toNat 0]? = some (.sl j0 0 (g.getD (Int.toNat 0) []).length) := by
        cases us with
        | nil => simp at hk0
        | cons x us => simp at ej; subst ej; rfl
      have hneid : id ≠ j0 := by
        intro q; subst q
        have := hh.get.symm.trans hjo.get
        simp at this
        exact absurd this.1 (by decide)
      refine wc_drawnXc (t := 5) j0 [10, 11] mixed_ rfl rfl hi59 (q := 0) rfl hh hc0 ?_
      refine dx_pure 0 rfl rfl (by kernel_rfl) (po_fieldAddr rfl inferInstance) ?_
      refine dx_load1 1 rfl rfl (by kernel_rfl) rfl inferInstance (at_has (cs := [_]) (.inl rfl) rfl rfl) hi59.lt hjo hne5 ?_
      refine dx_pure 2 rfl rfl (by kernel_rfl) (po_fieldAddr rfl inferInstance) ?_
      refine dx_load1 3 rfl rfl (by kernel_rfl) rfl inferInstance (at_has (cs := [_]) (.inl rfl) rfl rfl) hi59.lt hjo hne5 ?_
      refine dx_pure 4 rfl rfl (by kernel_rfl) (pc_indexSlZ rfl rfl inferInstance inferInstance (by decide) hk0') ?_
      refine dx_load1 5 rfl rfl (by kernel_rfl) rfl inferInstance hat0 hh.lt hjo hneid ?_
      refine dx_pure 6 rfl rfl (by kernel_rfl) (po_move rfl) ?_
      refine dx_pure 7 rfl rfl (by kernel_rfl) (pc_buildMv1 rfl inferInstance inferInstance rfl) ?_
      refine dx_new 8 rfl (by kernel_rfl) ?_
      intro N7 B7 w7 r7 may7 hmay7
      refine wc_oneMv rfl inferInstance inferInstance rfl (by decide) rfl ?_
      intro i13 σ13 g13 n13 h13
      refine wl_nil ⟨rfl, g13.len, ?_⟩
      clear hmay7
      refine dx_one 9 rfl (by kernel_rfl) (inferInstance : Has σ13 j0 (Row (g.getD (Int.toNat 0) []))) (.inr (Nat.le_trans l7len hj0)) ?_
      intro N' B' w' r' may' hmay'
      refine wc_append rfl rfl Un.eq inferInstance rfl (by decide) (inferInstance : Has σ13 j0 (Row (g.getD (Int.toNat 0) []))) rfl (rowCells_length _) ((rw_of_has (α := Mv) h13 rfl (by simp)).appends (fun x hx => one_mv x.1 x.2)) (hmay' _ (.inl rfl)) (by simp only [List.length_cons, List.length_nil]; omega) rfl ?_
      intro j1 σ14 σ15 u14 g15 n15 h15
      rw [← rowCells_append] at h15
      have q0 := Upd.len u14
      refine wl_nil ⟨rfl, by have := g15.len; omega, ?_⟩
      clear hmay'
      have q1 := g13.len
      have q2 := g15.len
      have q3 := n15.le
      have q4 := hh.lt
      have hkp15 : ∀ (j : Nat) (o : Ob), j < σ7.length → σ9[j]? = some o → σ15[j]? = some o := fun j o hj ho => g15.keep j o (by rw [u14.eq, List.getElem?_set_ne (by omega)]; exact g13.keep j o ho)
      have hkpj : ∀ (j : Nat) (o : Ob), (∀ n, us.getD (Int.toNat 0) nilS ≠ .sl j 0 n) → σ9[j]? = some o → σ15[j]? = some o := fun j o hj ho => g15.keep j o (by rw [u14.eq, List.getElem?_set_ne (fun q => hj _ (q ▸ ej))]; exact g13.keep j o ho)
      have hid15 : Has σ15 id (Row us) := ⟨g15.keep _ _ (by rw [u14.eq, List.getElem?_set_ne (Ne.symm hneid)]; exact g13.keep _ _ hh.get)⟩
      have l15 : σ9.length ≤ σ15.length := by omega
      have hi415 : Has σ15 i4 ⟨.own, 1, [nilS], []⟩ := ⟨hkp15 _ _ hlt4 hi49.get⟩
      have hi515 : Has σ15 i5 ⟨.own, 1, [.sl id 0 us.length], []⟩ := ⟨hkp15 _ _ hlt5 hi59.get⟩
      have hi15 : Has σ15 i (RdO s p3) := ⟨hkp15 _ _ i7lt hi9.get⟩
      refine dx_last 10 rfl (by decide) (by kernel_rfl) ?_
      refine wl_pop rfl (pc_indexSlZ rfl rfl inferInstance inferInstance (by decide) hk0') ?_
      refine wl_nil (dl_in ?_)
      refine dl_last 11 rfl (by decide) (by kernel_rfl) ?_
      refine wc_stAV (k := Int.toNat 0) rfl rfl inferInstance hid15 (by omega) (.inr (Nat.le_trans l7len hid)) ?_
      intro σ16 u16
      refine wl_nil (dl_in ?_)
      refine dl_done (by kernel_rfl) ?_
      have d9 : Dif i id := ⟨by omega⟩
      have d9' : Dif i4 id := ⟨by have := h47.lt; omega⟩
      have d9'' : Dif i5 id := ⟨by have := h57.lt; omega⟩
      have hi416 : Has σ16 i4 ⟨.own, 1, [nilS], []⟩ := inferInstance
      have hi516 : Has σ16 i5 ⟨.own, 1, [.sl id 0 us.length], []⟩ := inferInstance
      have hi16 : Has σ16 i (RdO s p3) := inferInstance
      have hid16 : Has σ16 id (Row (us.set (Int.toNat 0) _)) := instHasUpd (g := u16)
      have hle16 : LeB i σ σ16 := ⟨⟨fun j o hj ho => by
        have hjl : j < σ.length := Has.lt ⟨ho⟩
        rw [u16.eq, List.getElem?_set_ne (by omega)]
        exact hkp15 j o (by omega) (hle9.keep.keep j o hj ho)⟩, by have := Upd.len u16; have := hle9.len; omega⟩
      repeat' (first
        | refine wc_loadn rfl inferInstance (at_has (cs := [_]) (.inl rfl) rfl rfl) rfl ?_
        | refine at_ret (res_cell rfl rfl inferInstance (at_has (cs := [_]) (.inl rfl) rfl rfl)) ?_
        | refine wp_seqA ?_
        | refine wp_region_seq ?_
        | refine thru_seq_next ?_
        | refine thru_block_next ?_
        | refine wp_retA ?_
        | refine wl_nil ?_
        | (refine wc_storeA rfl rfl inferInstance inferInstance rfl inferInstance (Nat.le_of_ble_eq_true rfl) (.inr (may_new _)) ?_; intro _ _)
        | fail)
      rename_i σ17 u17
      have k17 : KN σ16 1 σ17 := kn_upd u17 hi416
      have hid17 : Has σ17 id (Row (us.set (Int.toNat 0) _)) := ⟨by rw [u17.eq, List.getElem?_set_ne (by have := d9'.ne; omega)]; exact hid16.get⟩
      refine ⟨⟨p3, by omega, by omega, inferInstance⟩, ⟨⟨fun j o hj ho => by
        have hjl : j < σ.length := Has.lt ⟨ho⟩
        rw [u17.eq, List.getElem?_set_ne (by omega)]
        exact hle16.keep.keep j o hj ho⟩, by have := Upd.len u17; have := hle16.len; omega⟩, _, _, g.set (Int.toNat 0) (g.getD (Int.toNat 0) [] ++ [((0, 1 + v1) : Mv)]), rfl, ⟨fun σ'' kk => ⟨rw_of_has (⟨kk _ _ (by omega) hid17.get⟩ : Has σ'' id _) (List.length_set ..) hgo9.bound, rrs_setX hgr9 (by omega) (fun j o hb hj he ho => kk j o (by omega) (k17.keep j o (by omega) ?_)) (?_ : RW σ'' _ (g.getD (Int.toNat 0) [] ++ [((0, 1 + v1) : Mv)]))⟩⟩, set_bnd hg3 (by first | (simp; done) | (simp only [List.length_append, List.length_cons, List.length_nil]; omega))⟩
      · rw [u16.eq, List.getElem?_set_ne (fun q => by subst q; rw [hh.get] at ho; cases ho; exact (show ¬ (Enc.e AV = 2) by decide) he)]
        exact hkpj j o hj ho
      · have hh16 : Has σ16 j1 (Row (g.getD (Int.toNat 0) [] ++ [((0, 1 + v1) : Mv)])) := ⟨by rw [u16.eq, List.getElem?_set_ne (by omega)]; exact h15.get⟩
        exact rw_of_has (⟨kk _ _ (by omega) (k17.keep _ _ (show ¬ (Enc.e Mv = 1) by decide) hh16.get)⟩ : Has σ'' j1 _) (by simp) (by simp only [List.length_append, List.length_cons, List.length_nil]; omega)
  · rename_i hk1 v3 p3 σ8 σ9 c1 c2 c3 c4 g9 u9 hv0 hv1 hv2 σ10 u10
    exact ⟨⟨p3, by omega, by omega, inferInstance⟩, inferInstance, nilS, [], [], rfl, NG.nil _ _, by simp⟩
  · rename_i hk1 v3 p3 σ8 σ9 c1 c2 c3 c4 g9 u9 hv0 hv1 hv2 σ10 u10
    exact ⟨⟨p3, by omega, by omega, inferInstance⟩, inferInstance, gv, us, g, rfl, .of (inferInstance : OW σ7 σ10 gv us) (inferInstance : ORs σ7 σ10 us g) l7len, fun l hl => by have := hg3 l hl; omega⟩
end
end Go.Proofs.Ythbodgnoadlbcaa.Asl
