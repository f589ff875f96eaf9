/- The reader: a term. -/
import Derived.Test.YtcmkkmlgdkhmiaaD2
namespace Go.Proofs.Ytcmkkmlgdkhmiaa.Asl
open Go.RowKit
set_option linter.unusedVariables false
set_option linter.unusedSimpArgs false
attribute [local irreducible] WP WL andThen inBlock noGoto atEnd ACall DA DL PO Hold
set_option maxHeartbeats 4000000
theorem RepD.pair {σ σ' : Store} {G G' : Nat → Prop} {id' : Nat} {t t' : Tm} {u u' : AV} (hu : RepD σ G u t.ps) (hu' : RepD σ G' u' t'.ps) (hd : ∀ x, G x → G' x → False) (hkeep : ∀ (x : Nat) (o : Ob), G x ∨ G' x → σ[x]? = some o → σ'[x]? = some o) (hid : ∀ x, G x ∨ G' x → x ≠ id')
    (hnew : Has σ' id' ⟨.own, 3, [I t.op, I t.n, u, I t'.op, I t'.n, u'], []⟩) : RepD σ' (fun x => G x ∨ G' x ∨ x = id') (.sl id' 0 2) [t, t'] := by
  refine RepD.row (ps := [t, t']) [u, u'] (fun k x => if k = 0 then G x else G' x) (.inr (.inr rfl)) hnew rfl (by simp) rfl ?_ ?_ ?_ ?_
  · intro k hk x hx
    by_cases e : k = 0
    · rw [if_pos e] at hx; exact ⟨.inl hx, hid x (.inl hx)⟩
    · rw [if_neg e] at hx; exact ⟨.inr (.inl hx), hid x (.inr hx)⟩
  · intro k k' x hk hk' hx hx'
    simp at hk hk'
    by_cases e : k = 0 <;> by_cases e' : k' = 0
    · omega
    · rw [if_pos e] at hx; rw [if_neg e'] at hx'; exact (hd x hx hx').elim
    · rw [if_neg e] at hx; rw [if_pos e'] at hx'; exact (hd x hx' hx).elim
    · omega
  · intro k t1 s1 ht hs
    have := get_lt ht
    simp at this
    rcases (by omega : k = 0 ∨ k = 1) with rfl | rfl
    · simp at ht hs; subst ht hs; rfl
    · simp at ht hs; subst ht hs; rfl
  · intro k t1 s1 ht hs
    have := get_lt ht
    simp at this
    rcases (by omega : k = 0 ∨ k = 1) with rfl | rfl
    · simp at ht hs; subst ht hs
      exact hu.mono (fun x o hx ho => hkeep x o (.inl hx) ho) (fun _ h => h)
    · simp at ht hs; subst ht hs
      exact hu'.mono (fun x o hx ho => hkeep x o (.inr hx) ho) (fun _ h => h)
theorem may_newB (i : Nat) (σ : Store) {σa : Store} {j : Nat} [n : New σa j] [l : LeB i σ σa] : σ.length ≤ j := Nat.le_trans l.len n.le
/-- A term that is drawn. -/
def gdT (t : Tm) : Prop := -100 ≤ t.n ∧ t.n ≤ 100 ∧ t.ps.length ≤ 2
def QT (σ : Store) : AV → Store → Prop := fun r σ' => ∃ (t : Tm) (u : AV), r = .agg [I t.op, I t.n, u] ∧ RTsD σ σ' u t.ps ∧ gdT t
section
variable {E : Env} {ops : Array Oper} {l : List Oper} {Q : Exit → Slots → Store → Prop} {S : Slots} {σ : Store} {d : Option Tmp} {ty : TypeId} {pos : String} {af : Array Edge} {x y x0 x1 : Operand}
theorem wc_callRT {args : Array Operand} {ats : Array TypeId} {f : FuncId} {rs caps : List AV} {i : Nat} {s : AV} {p K : Int} (hf : S.ev x = some (.fn f caps)) (hc : Callable E.P f) (hargs : evs S args.toList = some rs)
    (h : ACall E.P E.base f (rs ++ caps) σ (fun j => j = i) (RetRd σ i s p K (QT σ))) (ho : Has σ i (RdO s p)) (hm : E.may i) (hd : okd E d = true) (k : ∀ (t : Tm) (u : AV) (p' : Int) σ₁ σ', One u → RTsD σ σ' u t.ps → gdT t → p ≤ p' → p' ≤ p + K → Grow σ σ₁ → Upd σ₁ i (RdO s p') σ' → WL E ops l Q (S.put d (.agg [I t.op, I t.n, u])) σ') :
    WL E ops (⟨d, .call ⟨.value x, args, ats⟩, ty, pos, af, none⟩ :: l) Q S σ :=
  wc_callRd hf hc hargs h ho hm hd fun r p' σ₁ σ' h1 h2 g u hq => by
    obtain ⟨t, v, rfl, h3, h4⟩ := hq
    exact k t v p' σ₁ σ' h3.new.rts.one h3 h4 h1 h2 g u
/-- A row of two terms. -/
theorem wc_twoTm {t e : TypeId} {bytes : Nat} {z : Value} {a b a' b' : Int} {u u' : AV} (hx : S.ev x0 = some (.agg [I a, I b, u])) (hy : S.ev x1 = some (.agg [I a', I b', u'])) [hu : One u] [hu' : One u'] (ht : Un E.P t (.slice e)) (he : Ty E.P e true 3 bytes z) (hz : z.cells.size = 3) (hz1 : ∀ v ∈ z.cells.toList, v.oneCell' = true) (hd : okd E d = true)
    (k : ∀ i σ', Grow σ σ' → New σ i → Has σ' i ⟨.own, 3, [I a, I b, u, I a', I b', u'], []⟩ → WL E ops l Q (S.put d (.sl i 0 2)) σ') : WL E ops (⟨d, .buildSlice t 2 #[(0, x0), (1, x1)], ty, pos, af, none⟩ :: l) Q S σ := by
  refine wc_buildSlice (rs := [(0, .agg [I a, I b, u]), (1, .agg [I a', I b', u'])]) (cs := [I a, I b, u, I a', I b', u']) ht.eq he hz hz1 (by decide) (by simp [evParts, hx, hy]) ?_ ?_ hd k
  · intro r hr
    simp only [List.mem_cons, List.not_mem_nil, or_false] at hr
    rcases hr with rfl | rfl
    · exact ⟨rfl, by simp, by simpa [AV.cells, AV.one] using hu.eq⟩
    · exact ⟨rfl, by simp, by simpa [AV.cells, AV.one] using hu'.eq⟩
  · simp only [fillA, AV.cells]
    rfl
end
theorem rtsD_one {σ σ₁ σ₂ σ' : Store} {j : Nat} {t : Tm} {u : AV} (h : RTsD σ₁ σ₂ u t.ps) (k : σ.length ≤ σ₁.length) (hj : σ₂.length ≤ j) (hl : σ₁.length ≤ σ₂.length) (hk : ∀ (x : Nat) (o : Ob), σ₁.length ≤ x → σ₂[x]? = some o → σ'[x]? = some o) (hh : Has σ' j ⟨.own, 3, [I t.op, I t.n, u], []⟩) : RTsD σ σ' (.sl j 0 1) [t] := by
  refine ⟨(RepD.single (σ := σ₂) h.rep.lt (fun x o hx ho => hk x o hx.1 ho) (fun x hx => by omega) hh).mono (fun _ _ _ h => h) (fun x hx => ?_)⟩
  rcases hx with hx | rfl <;> omega
theorem rtsD_nil {σ σ' : Store} {j : Nat} (hj : σ.length ≤ j) (hh : Has σ' j ⟨.own, 3, [I 0, I 0, nilS], []⟩) : RTsD σ σ' (.sl j 0 1) [.node 0 0 []] :=
  ⟨(RepD.single (σ := σ') (G := fun _ => False) (t := .node 0 0 []) (u := nilS) .nil (fun x o hx _ => hx.elim) (fun x hx => hx.elim) hh).mono (fun _ _ _ h => h) (fun x hx => by rcases hx with hx | rfl; exact hx.elim; exact hj)⟩
theorem gd_node {op n : Int} {ps : List Tm} (h0 : -100 ≤ n) (h1 : n ≤ 100) (h : ps.length ≤ 2) : gdT (.node op n ps) := ⟨h0, h1, h⟩
def KG : Nat → Int | 0 => 6 | d + 1 => 6 + 2 * KG d
theorem KG_pos : ∀ d, 6 ≤ KG d
  | 0 => by simp [KG]
  | d + 1 => by have := KG_pos d; simp only [KG]; omega
section
variable {base : Nat}
theorem c_l91Good_of (d : Nat) (m : Int) (hm0 : 0 ≤ m) (hm : m ≤ 100) (b : Bool) (ih : ∀ d', d = d' + 1 → ∀ (b : Bool) (i : Nat) (s : AV) (g : List UInt8) (p z : Int) (σ : Store) [Has σ i (RdO s p)] [Bk σ i s g], z = (d' : Int) → z ≤ 100 → 0 ≤ p → p + KG d' ≤ 999999000 → ACall Try.prog base F_spec_l91Good [.pt i 0, I z, I m, Bo b] σ (fun j => j = i) (RetRd σ i s p (KG d') (QT σ)))
    (i : Nat) (s : AV) (g : List UInt8) (p z : Int) (σ : Store) [hi : Has σ i (RdO s p)] [hb : Bk σ i s g] (hz : z = (d : Int)) (hz2 : z ≤ 100) (hp : 0 ≤ p) (hp2 : p + KG d ≤ 999999000) : ACall Try.prog base F_spec_l91Good [.pt i 0, I z, I m, Bo b] σ (fun j => j = i) (RetRd σ i s p (KG d) (QT σ)) := by
  have := hb.rw.one
  have hk6 := KG_pos d
  refine acall4 fun_spec_l91Good rfl tmps_spec_l91Good rfl fun N B w₀ ρ₀ => ?_
  repeat' (first
    | (refine wc_callP rfl inferInstance rfl (c_pick i s g _ _ _ (hb := hb.le inferInstance) (by omega) (by omega)) inferInstance (.inl rfl) rfl ?_; intro _ _ _ _ _ _ _ _ _ _)
    | (refine wc_holdIf ?_)
    | refine wp_seqA ?_
    | refine wp_region_seq ?_
    | refine thru_seq_next ?_
    | refine wl_nil ?_
    | refine wl_pop rfl (po_move rfl) ?_
    | refine wl_pop rfl (po_assign rfl) ?_
    | refine wl_pop rfl (po_binOp rfl rfl rfl) ?_
    | (refine wc_allocA (cs := [_, _, _]) inferInstance rfl inferInstance rfl ?_; intro _ _ _ _ _)
    | fail)
  rename_i i1 σ1 g1 n1 h1 v1 p1 σ2 σ3 a1 a2 a3 a4 g3 u3
  refine wc_cut (ι := Int × Int) [(0, .pt i 0), (1, I z), (2, I m), (3, Bo b), (8, .pt i1 0)] (fun x => [(9, I x.1)]) (fun x σ' => 0 ≤ x.1 ∧ x.1 ≤ 8 ∧ (z = 0 → x.1 ≤ 1) ∧ p ≤ x.2 ∧ x.2 ≤ p + 2 ∧ LeB i σ σ' ∧ LeB i σ1 σ' ∧ Has σ' i (RdO s x.2) ∧ Has σ' i1 ⟨.own, 1, [I 0, I 0, nilS], []⟩) ?_ ?_
  · repeat' (first
      | (refine wc_callP rfl inferInstance rfl (c_pick i s g _ _ _ (hb := hb.le inferInstance) (by omega) (by omega)) inferInstance (.inl rfl) rfl ?_; intro _ _ _ _ _ _ _ _ _ _)
      | refine wp_region_seq ?_
      | refine thru_seq_next ?_
      | refine wp_skipA ?_
      | refine wl_nil ?_
      | refine wl_pop rfl (po_move rfl) ?_
      | refine wl_pop rfl (po_assign rfl) ?_
      | refine wp_condP rfl (fun _ => ?_) (fun _ => ?_)
      | fail)
    · rename_i hz0 v2 p2 σ4 σ5 b1 b2 b3 b4 g5 u5
      exact ⟨(v2, p2), ⟨by dsimp only; omega, by dsimp only; omega, fun _ => (by dsimp only; omega), by dsimp only; omega, by dsimp only; omega, inferInstance, inferInstance, inferInstance, inferInstance⟩, (by repeat' (first | exact sub_nil | refine sub_cons rfl ?_ | refine sub_int rfl (by first | rfl | omega | (push_cast; omega) | simp) ?_ | refine sub_eq rfl (by assumption) ?_))⟩
    · exact ⟨(v1, p1), ⟨by dsimp only; omega, by dsimp only; omega, fun _ => (by dsimp only; omega), by dsimp only; omega, by dsimp only; omega, inferInstance, inferInstance, inferInstance, inferInstance⟩, (by repeat' (first | exact sub_nil | refine sub_cons rfl ?_ | refine sub_int rfl (by first | rfl | omega | (push_cast; omega) | simp) ?_ | refine sub_eq rfl (by assumption) ?_))⟩
  rintro ⟨v, q⟩ σ4 ⟨c1, c2, c3, c4, c5, hle, hle1, hi4, h4⟩
  dsimp only at c1 c2 c3 c4 c5 hi4 ⊢
  rcases d with _ | d'
  · simp only [KG] at hp2 ⊢
    repeat' (first
      | (refine wc_callP rfl inferInstance rfl (c_pick i s g _ _ _ (hb := hb.le inferInstance) (by omega) (by omega)) inferInstance (.inl rfl) rfl ?_; intro _ _ _ _ _ _ _ _ _ _)
      | (refine wc_callP rfl inferInstance rfl (c_l91Do i s g _ _ (hb := hb.le inferInstance) (by omega) (by omega)) inferInstance (.inl rfl) rfl ?_; intro _ _ _ _ _ _ _ _ _ _)
      | refine wl_pop rfl (pc_tm2 rfl rfl inferInstance inferInstance rfl) ?_
      | refine wl_pop rfl (pc_tm3 rfl rfl rfl inferInstance inferInstance rfl) ?_
      | refine wl_pop rfl (pc_build0 (cs := [I 0, I 0, nilS]) inferInstance inferInstance rfl) ?_
      | (refine wc_oneTm rfl inferInstance inferInstance rfl (by decide) rfl ?_; intro _ _ _ _ _)
      | refine wl_pop rfl (pc_max rfl rfl) ?_
      | refine wc_holdR 18 ?_
      | refine wp_seqA ?_
      | refine wp_region_seq ?_
      | refine thru_seq_next ?_
      | refine thru_seq_ret ?_
      | refine thru_block_ret ?_
      | refine thru_block_next ?_
      | refine wp_skipA ?_
      | refine wp_retA ?_
      | refine wp_blockA ?_
      | refine wl_nil ?_
      | refine wl_pop rfl (po_move rfl) ?_
      | refine wl_pop rfl (po_assign rfl) ?_
      | refine wl_pop rfl (pc_sub rfl rfl (by omega) (by omega)) ?_
      | refine wl_pop rfl (po_binOp rfl rfl rfl) ?_
      | (refine wc_storeA rfl rfl inferInstance inferInstance rfl inferInstance (Nat.le_of_ble_eq_true rfl) (.inr (may_new _)) ?_; intro _ _)
      | refine wl_pop rfl (po_pick rfl rfl) ?_
      | refine wc_guardT_true rfl rfl rfl ?_
      | refine wc_guardF_true rfl rfl rfl rfl ?_
      | refine wc_guardP_true rfl rfl rfl rfl (fun _ => ?_) (fun _ => ?_)
      | refine wp_condF rfl ?_
      | refine wp_condP rfl (fun _ => ?_) (fun _ => ?_)
      | refine wp_condA rfl (fun _ => ?_) (fun _ => ?_)
      | refine at_ret (res_cell rfl rfl inferInstance (at_has (cs := [_, _, _]) (.inl rfl) rfl rfl)) ?_
      | fail)
    all_goals first
      | (exfalso; omega)
      | (rename_i v' p' σa σb k1 k2 k3 k4 ga ua σc uc; exact ⟨⟨p', by omega, by omega, inferInstance⟩, inferInstance, .node 5 v' [], nilS, rfl, ⟨.nil⟩, gd_node (by omega) (by omega) (by simp)⟩)
      | (exact ⟨⟨q, by omega, by omega, inferInstance⟩, inferInstance, .node 0 0 [], nilS, rfl, ⟨.nil⟩, gd_node (by omega) (by omega) (by simp)⟩)
      | (rename_i v' p' σa σb k1 k2 k3 k4 ga ua hz0 j σc gc nc hc σd ud; exact ⟨⟨p', by omega, by omega, inferInstance⟩, inferInstance, .node 1 v' [.node 0 0 []], .sl j 0 1, rfl, rtsD_nil (by have := nc.le; have := ga.len; have := ua.len; have := hle.len; omega) inferInstance, gd_node (by omega) (by omega) (by simp)⟩)
  · have hk6' := KG_pos d'
    have hmx : max 0 (z - 1) = (d' : Int) := by rw [Int.max_def]; split <;> omega
    simp only [KG] at hp2 hk6 ⊢
    repeat' (first
      | (refine wc_callP rfl inferInstance rfl (c_pick i s g _ _ _ (hb := hb.le inferInstance) (by omega) (by omega)) inferInstance (.inl rfl) rfl ?_; intro _ _ _ _ _ _ _ _ _ _)
      | (refine wc_callP rfl inferInstance rfl (c_l91Do i s g _ _ (hb := hb.le inferInstance) (by omega) (by omega)) inferInstance (.inl rfl) rfl ?_; intro _ _ _ _ _ _ _ _ _ _)
      | (refine wc_callRT rfl inferInstance rfl (@ih d' rfl _ i s g _ _ _ inferInstance (hb.le inferInstance) (by first | exact hmx | omega) (by first | omega | (rw [hmx]; omega)) (by omega) (by omega)) inferInstance (.inl rfl) rfl ?_; intro _ _ _ _ _ _ _ _ _ _ _ _)
      | refine wl_pop rfl (pc_tm2 rfl rfl inferInstance inferInstance rfl) ?_
      | refine wl_pop rfl (pc_tm3 rfl rfl rfl inferInstance inferInstance rfl) ?_
      | refine wl_pop rfl (pc_build0 (cs := [I 0, I 0, nilS]) inferInstance inferInstance rfl) ?_
      | (refine wc_oneTm rfl inferInstance inferInstance rfl (by decide) rfl ?_; intro _ _ _ _ _)
      | refine wl_pop rfl (pc_max rfl rfl) ?_
      | refine wc_holdR 18 ?_
      | refine wp_seqA ?_
      | refine wp_region_seq ?_
      | refine thru_seq_next ?_
      | refine thru_seq_ret ?_
      | refine thru_block_ret ?_
      | refine thru_block_next ?_
      | refine wp_skipA ?_
      | refine wp_retA ?_
      | refine wp_blockA ?_
      | refine wl_nil ?_
      | refine wl_pop rfl (po_move rfl) ?_
      | refine wl_pop rfl (po_assign rfl) ?_
      | refine wl_pop rfl (pc_sub rfl rfl (by omega) (by omega)) ?_
      | refine wl_pop rfl (po_binOp rfl rfl rfl) ?_
      | (refine wc_storeA rfl rfl inferInstance inferInstance rfl inferInstance (Nat.le_of_ble_eq_true rfl) (.inr (may_new _)) ?_; intro _ _)
      | refine wl_pop rfl (po_pick rfl rfl) ?_
      | refine wc_guardT_true rfl rfl rfl ?_
      | refine wc_guardF_true rfl rfl rfl rfl ?_
      | refine wc_guardP_true rfl rfl rfl rfl (fun _ => ?_) (fun _ => ?_)
      | refine wp_condF rfl ?_
      | refine wp_condP rfl (fun _ => ?_) (fun _ => ?_)
      | refine wp_condA rfl (fun _ => ?_) (fun _ => ?_)
      | refine at_ret (res_cell rfl rfl inferInstance (at_has (cs := [_, _, _]) (.inl rfl) rfl rfl)) ?_
      | fail)
    all_goals first
      | (exfalso; omega)
      | (rename_i v' p' σa σb k1 k2 k3 k4 ga ua σc uc; exact ⟨⟨p', by omega, by omega, inferInstance⟩, inferInstance, .node 5 v' [], nilS, rfl, ⟨.nil⟩, gd_node (by omega) (by omega) (by simp)⟩)
      | (exact ⟨⟨q, by omega, by omega, inferInstance⟩, inferInstance, .node 0 0 [], nilS, rfl, ⟨.nil⟩, gd_node (by omega) (by omega) (by simp)⟩)
      | (rename_i v' p' σa σb k1 k2 k3 k4 ga ua hz0 j σc gc nc hc σd ud; exact ⟨⟨p', by omega, by omega, inferInstance⟩, inferInstance, .node 1 v' [.node 0 0 []], .sl j 0 1, rfl, rtsD_nil (by have := nc.le; have := ga.len; have := ua.len; have := hle.len; omega) inferInstance, gd_node (by omega) (by omega) (by simp)⟩)
      | (rename_i v' p' σa σb k1 k2 k3 k4 ga ua hz0 t u p'' σc σd ho hr hg k5 k6 gc uc j σe ge ne he σf uf; exact ⟨⟨p'', by omega, by omega, inferInstance⟩, inferInstance, .node 1 v' [t], .sl j 0 1, rfl, rtsD_one hr (by have := ga.len; have := ua.len; have := hle.len; omega) ne.le (by have := gc.len; have := uc.len; omega) (fun x o hx ho => by have := h4.lt; have := ga.len; have := ua.len; rw [uf.eq, List.getElem?_set_ne (by omega)]; exact ge.keep x o ho) inferInstance, gd_node (by omega) (by omega) (by simp)⟩)
      | (rename_i v' p' σa σb k1 k2 k3 k4 ga ua t u p'' σc σd ho hr hg k5 k6 gc uc j σe ge ne he σf uf; exact ⟨⟨p'', by omega, by omega, inferInstance⟩, inferInstance, .node 4 v' [t], .sl j 0 1, rfl, rtsD_one hr (by have := ga.len; have := ua.len; have := hle.len; omega) ne.le (by have := gc.len; have := uc.len; omega) (fun x o hx ho => by have := h4.lt; have := ga.len; have := ua.len; rw [uf.eq, List.getElem?_set_ne (by omega)]; exact ge.keep x o ho) inferInstance, gd_node (by omega) (by omega) (by simp)⟩)
      | skip
    refine hold_go ?_
    repeat' (first
      | refine wc_holdIf ?_
      | refine wp_region_seq ?_
      | refine thru_seq_next ?_
      | refine wl_nil ?_
      | refine wl_pop rfl (po_move rfl) ?_
      | refine wl_pop rfl (po_binOp rfl rfl rfl) ?_
      | fail)
    refine wc_cut (ι := Int) [(0, .pt i 0), (1, I z), (2, I m), (3, Bo b), (8, .pt i1 0)] (fun x => [(13, I x)]) (fun x σ' => σ' = σ4) ?_ ?_
    · repeat' (first
        | refine wp_region_seq ?_
        | refine thru_seq_next ?_
        | refine wp_skipA ?_
        | refine wl_nil ?_
        | refine wl_pop rfl (po_assign rfl) ?_
        | refine wp_condP rfl (fun _ => ?_) (fun _ => ?_)
        | fail)
      · exact ⟨3, rfl, (by repeat' (first | exact sub_nil | refine sub_cons rfl ?_ | refine sub_int rfl (by first | rfl | omega | (push_cast; omega) | simp) ?_ | refine sub_eq rfl (by assumption) ?_))⟩
      · exact ⟨2, rfl, (by repeat' (first | exact sub_nil | refine sub_cons rfl ?_ | refine sub_int rfl (by first | rfl | omega | (push_cast; omega) | simp) ?_ | refine sub_eq rfl (by assumption) ?_))⟩
    rintro w σ5 h5
    subst h5
    repeat' (first
      | (refine wc_callRT rfl inferInstance rfl (@ih d' rfl _ i s g _ _ _ inferInstance (hb.le inferInstance) (by omega) (by omega) (by omega) (by omega)) inferInstance (.inl rfl) rfl ?_; intro _ _ _ _ _ _ _ _ _ _ _ _)
      | (refine wc_storeA rfl rfl inferInstance inferInstance rfl inferInstance (Nat.le_of_ble_eq_true rfl) (.inr (may_newB i σ)) ?_; intro _ _)
      | refine wc_holdR 21 ?_
      | refine wp_seqA ?_
      | refine wp_region_seq ?_
      | refine thru_seq_next ?_
      | refine wl_nil ?_
      | refine wl_pop rfl (po_move rfl) ?_
      | refine wl_pop rfl (pc_sub rfl rfl (by omega) (by omega)) ?_
      | (refine wc_allocA (cs := [_, _, _]) inferInstance rfl inferInstance rfl ?_; intro _ _ _ _ _)
      | fail)
    rename_i t1 u1 q1 σa σb ho1 hr1 hg1 k1 k2 ga ua j1 σc gc nc hc σd ud
    refine hold_go ?_
    repeat' (first
      | (refine wc_callRT rfl inferInstance rfl (@ih d' rfl _ i s g _ _ _ inferInstance (hb.le inferInstance) (by omega) (by omega) (by omega) (by omega)) inferInstance (.inl rfl) rfl ?_; intro _ _ _ _ _ _ _ _ _ _ _ _)
      | (refine wc_twoTm rfl rfl inferInstance inferInstance rfl (by decide) rfl ?_; intro _ _ _ _ _)
      | refine wl_pop rfl (pc_tm02 rfl rfl inferInstance inferInstance rfl) ?_
      | (refine wc_storeA rfl rfl inferInstance inferInstance rfl inferInstance (Nat.le_of_ble_eq_true rfl) (.inr (may_newB i σ)) ?_; intro _ _)
      | refine wp_seqA ?_
      | refine wp_region_seq ?_
      | refine thru_seq_next ?_
      | refine wp_retA ?_
      | refine wl_nil ?_
      | refine wl_pop rfl (po_move rfl) ?_
      | refine wl_pop rfl (pc_sub rfl rfl (by omega) (by omega)) ?_
      | refine wc_loadn rfl inferInstance (at_has (cs := [_, _, _]) (.inl rfl) rfl rfl) rfl ?_
      | (refine wc_allocA (cs := [_, _, _]) inferInstance rfl inferInstance rfl ?_; intro _ _ _ _ _)
      | refine at_ret (res_cell rfl rfl inferInstance (at_has (cs := [_, _, _]) (.inl rfl) rfl rfl)) ?_
      | fail)
    rename_i t2 u2 q2 σe σf ho2 hr2 hg2 k3 k4 ge ue j2 σg gg ng hh2 σh uh j σk gk nk hk σl ul
    have y1 := hi4.lt
    have y2 := h4.lt
    have y3 := ga.len
    have y4 := ua.len
    have y5 := gc.len
    have y6 := ud.len
    have y7 := ge.len
    have y8 := ue.len
    have y9 := gg.len
    have y10 := uh.len
    have y11 := nk.le
    have y12 := hle.len
    have hl1 : LeB i σb σh := inferInstance
    have hl2 : LeB i σf σh := inferInstance
    have hkl : Has σl j ⟨.own, 3, [I t1.op, I t1.n, u1, I t2.op, I t2.n, u2], []⟩ := inferInstance
    have R1 := hr1.rep.lt.mono (σ' := σh) (F' := fun x => σ5.length ≤ x ∧ x < σb.length) (fun x o hx ho => hl1.keep.keep x o (by omega) ho) (fun _ h => h)
    have R2 := hr2.rep.lt.mono (σ' := σh) (F' := fun x => σd.length ≤ x ∧ x < σf.length) (fun x o hx ho => hl2.keep.keep x o (by omega) ho) (fun _ h => h)
    have R3 := RepD.pair (σ' := σl) R1 R2 (fun x h1 h2 => by omega) (fun x o hx ho => by rw [ul.eq, List.getElem?_set_ne (by omega)]; exact gk.keep x o ho) (fun x hx => by omega) hkl
    exact ⟨⟨q2, by omega, by omega, inferInstance⟩, inferInstance, .node w 0 [t1, t2], .sl j 0 2, rfl, ⟨R3.mono (fun _ _ _ h => h) (fun x hx => by omega)⟩, gd_node (by omega) (by omega) (by simp)⟩
theorem c_l91Good (m : Int) (hm0 : 0 ≤ m) (hm : m ≤ 100) : ∀ (d : Nat) (b : Bool) (i : Nat) (s : AV) (g : List UInt8) (p z : Int) (σ : Store) [Has σ i (RdO s p)] [Bk σ i s g], z = (d : Int) → z ≤ 100 → 0 ≤ p → p + KG d ≤ 999999000 → ACall Try.prog base F_spec_l91Good [.pt i 0, I z, I m, Bo b] σ (fun j => j = i) (RetRd σ i s p (KG d) (QT σ)) := by
  intro d
  induction d with
  | zero => exact fun b i s g p z σ _ _ h1 h2 h3 h4 => c_l91Good_of 0 m hm0 hm b (fun d' h => by omega) i s g p z σ h1 h2 h3 h4
  | succ d ih => exact fun b i s g p z σ _ _ h1 h2 h3 h4 => c_l91Good_of (d + 1) m hm0 hm b (fun d' h => by cases h; exact ih) i s g p z σ h1 h2 h3 h4
end
end Go.Proofs.Ytcmkkmlgdkhmiaa.Asl
